/- Parts of the proof: A25h, A25i, A25j, A25v. -/
import Derived.Test.YtekkldgmjdllbaaG35
import Derived.Test.YtekkldgmjdllbaaHA25ckr04
import Derived.Test.YtekkldgmjdllbaaG22
import Derived.Test.YtekkldgmjdllbaaG32
import Derived.Test.YtekkldgmjdllbaaG21
import Derived.Test.YtekkldgmjdllbaaG17
import Derived.Test.YtekkldgmjdllbaaG27
import Derived.Test.YtekkldgmjdllbaaG04
import Derived.Scope
import Derived.Test.YtekkldgmjdllbaaHA25ckr02
import Derived.Test.YtekkldgmjdllbaaG20
import Derived.Test.YtekkldgmjdllbaaG09
import Derived.Test.YtekkldgmjdllbaaG03
import Derived.RangeFuncLeaves
import Derived.RangeFuncRecord
import Derived.Test.YtekkldgmjdllbaaHA25ckr01
import Derived.Shelf.Abstract
import Derived.Test.YtekkldgmjdllbaaG02
import Derived.Test.YtekkldgmjdllbaaG08
import Derived.Test.YtekkldgmjdllbaaG01
import Derived.Test.YtekkldgmjdllbaaG19
import Derived.RangeFuncNested
import Derived.Deep.AppendLies
import Derived.OrdersIn
import Derived.TacticsIn
import Derived.RangeFuncCalls
import Derived.Test.YtekkldgmjdllbaaG16
import Derived.Maps.AppendAt
import Derived.OwnWalk
import Derived.Test.YtekkldgmjdllbaaG18
import Derived.Test.YtekkldgmjdllbaaProg
import Derived.Test.YtekkldgmjdllbaaG11
import Derived.Laws.Cover3
import Derived.StillTail
import Derived.Below
import Derived.Deep.Draws
import Derived.WalkKit
import Derived.KernelRfl
import Derived.Test.YtekkldgmjdllbaaG13
import Derived.Test.YtekkldgmjdllbaaG15
import Derived.Lib.Hide
import Derived.Deep.QuietTactic
import Derived.BigQuiet
import Derived.Deep.DrawnRows
import Derived.Laws.StructEq
import Derived.Test.YtekkldgmjdllbaaG12
import Derived.Test.YtekkldgmjdllbaaG07
import Derived.Test.YtekkldgmjdllbaaG10
import Derived.Test.YtekkldgmjdllbaaG06
import Derived.Test.YtekkldgmjdllbaaG05
import Derived.Great.BuildSlice
import Derived.Test.YtekkldgmjdllbaaG14
import Derived.Test.YtekkldgmjdllbaaG34
import Derived.Test.YtekkldgmjdllbaaG31
import Derived.Test.YtekkldgmjdllbaaG30
import Derived.Laws.Pointers
import Derived.Test.YtekkldgmjdllbaaG29
import Derived.Test.YtekkldgmjdllbaaG28
import Derived.WideKeyMaps
import Derived.MapKept
import Derived.Carry
import Derived.Test.YtekkldgmjdllbaaG39
import Derived.Test.YtekkldgmjdllbaaG37
import Derived.Test.YtekkldgmjdllbaaG25
import Derived.Test.YtekkldgmjdllbaaG38
import Derived.Test.YtekkldgmjdllbaaG23
import Derived.Test.YtekkldgmjdllbaaG36
import Derived.Test.YtekkldgmjdllbaaG24
import Derived.Test.YtekkldgmjdllbaaG33
import Derived.Lib.Builder
import Derived.Lib.UnsafeStr
import Derived.Laws.Externs
import Derived.Lib.BufferRead
set_option linter.unusedSimpArgs false
set_option linter.unusedVariables false
section
namespace Go.Proofs.Ytekkldgmjdllbaa
open Go.RowKit Go.Flow Go.AV Go.Plain
set_option maxHeartbeats 4000000 in
set_option maxRecDepth 100000 in
theorem rMake_A (a b : Bp) (x y : Bg) : ACalls Try.prog 12 [.ag (bpC a), .ag (bpC b), .ag (bgC x), .ag (bgC y)] (.tu [.c (wpL (mkV a b x y).1), .c (iC (mkV a b x y).2)]) := by
 have hsz := rsizes_A a b
 have hC := rConfused_A a b x y
 have hS := rShifts_A x y
 have hsb := fun k hk => shN_bd (x := x) (y := y) (k := k) hk
 by_cases h0 : szV a b = 0
 rotate_left
 ·rw [show mkV a b x y = ([], szV a b) from if_neg h0]
  refine acalls_at Try.func12 rfl rfl Try.ntmps12 rfl ?_
  repeat (first
   | refine uA ?_
   | refine uB ?_
   | refine AWp.ret ?_
   | refine thenA_r ?_
   | refine kT ?_
   | (refine rG 0 ?_
      (iterate 4 refine qr5 aQ ?_)
      (iterate 2 refine kC ?_)
      refine aB ?_)
   | (refine rG 1 ?_
      (iterate 2 refine kF ?_)
      refine aH rfl rfl rfl rfl Try.func38 rfl (by kernel_rfl) (hsz) ?_
      refine kC ?_
      refine aB ?_)
   | (refine rG 2 ?_
      refine kA ?_
      refine qr5t aK ?_
      refine aB ?_)
   | (refine rG 3 ?_
      refine kA ?_
      (iterate 2 refine kC ?_)
      refine aB ?_))
  refine ⟨mkSt 73 [(8, .c (wpL ([]))), (9, .c (iC (szV a b)))] [] [], [], Wk.mk [] rfl rfl rfl ?_ trivial, rfl, rfl, ARets.two (x := .c _) (y := .c _) (ARes.tmp rfl rfl) (ARes.tmp rfl rfl)⟩
  exact allT
 rw [h0] at hsz
 obtain ⟨ha, hb, hW, hH⟩ := (szV_ok a b).1 h0
 have hmk : mkV a b x y = if (cnfV a b x y).2 = true then ([], 60) else (mkL25 a b x y (shL (shN x y)), 0) := if_pos h0
 cases hcf : (cnfV a b x y).2 with
 | true =>
   rw [hmk, if_pos hcf]
   rw [hcf] at hC
   refine acalls_at Try.func12 rfl rfl Try.ntmps12 rfl ?_
   repeat (first
    | refine uA ?_
    | refine uB ?_
    | refine uG ?_
    | refine AWp.ret ?_
    | refine thenA_r ?_
    | refine kT ?_
    | refine kU ?_
    | (refine rG 0 ?_
       (iterate 4 refine qr5 aQ ?_)
       (iterate 2 refine kC ?_)
       refine aB ?_)
    | (refine rG 1 ?_
       (iterate 2 refine kF ?_)
       refine aH rfl rfl rfl rfl Try.func38 rfl (by kernel_rfl) (hsz) ?_
       refine kC ?_
       refine aB ?_)
    | (refine rG 2 ?_
       refine kA ?_
       refine qr5 aW ?_
       refine aB ?_)
    | (refine rG 4 ?_
       (iterate 4 refine kF ?_)
       refine aH rfl rfl rfl rfl Try.func39 rfl (by kernel_rfl) (hC) ?_
       refine kA ?_
       (iterate 2 refine qr4 aN ?_)
       refine qr5 (aM tyOk) ?_
       refine kI ?_
       refine kC ?_
       refine aB ?_)
    | (refine rG 5 ?_
       refine kA ?_
       refine aB ?_)
    | (refine rG 6 ?_
       (iterate 2 refine kC ?_)
       refine aB ?_))
   refine ⟨mkSt 73 [(8, .c (wpL ([]))), (9, .c (iC (60)))] [] [], [], Wk.mk [] rfl rfl rfl ?_ trivial, rfl, rfl, ARets.two (x := .c _) (y := .c _) (ARes.tmp rfl rfl) (ARes.tmp rfl rfl)⟩
   exact allT
 | false =>
 rw [hmk, if_neg (by rw [hcf]; decide)]
 rw [hcf] at hC
 have hL9 : (shL (shN x y)).length ≤ 81 := by
  obtain ⟨-, hm⟩ := shN_eq x y
  rw [shL_len hm]
  have h9 : 2 * shN x y + 1 ≤ 9 := by omega
  exact Nat.mul_le_mul h9 h9
 obtain ⟨L, hL⟩ : ∃ L, shL (shN x y) = L := ⟨_, rfl⟩
 rw [hL] at hS hsb hL9 ⊢
 refine acalls_at Try.func12 rfl rfl Try.ntmps12 rfl ?_
 repeat (first
  | refine uA ?_
  | refine uB ?_
  | refine uC ?_
  | refine uG ?_
  | refine kU ?_
  | (refine rG 0 ?_
     (iterate 4 refine qr5 aQ ?_)
     (iterate 2 refine kC ?_)
     refine aB ?_)
  | (refine rG 1 ?_
     (iterate 2 refine kF ?_)
     refine aH rfl rfl rfl rfl Try.func38 rfl (by kernel_rfl) (hsz) ?_
     refine kC ?_
     refine aB ?_)
  | (refine rG 2 ?_
     refine kA ?_
     refine qr5 aW ?_
     refine aB ?_)
  | (refine rG 4 ?_
     (iterate 4 refine kF ?_)
     refine aH rfl rfl rfl rfl Try.func39 rfl (by kernel_rfl) (hC) ?_
     refine kA ?_
     (iterate 2 refine qr4 aN ?_)
     refine qr5 (aM tyOk) ?_
     refine kI ?_
     refine kC ?_
     refine aB ?_)
  | (refine rG 5 ?_
     refine kA ?_
     refine aB ?_)
  | (refine rG 7 ?_
     (iterate 2 refine kF ?_)
     refine aH rfl rfl rfl rfl Try.func40 rfl (by kernel_rfl) (hS) ?_
     refine kC ?_
     refine aB ?_)
  | (refine rG 8 ?_
     refine kC ?_
     refine aB ?_)
  | (refine rG 9 ?_
     refine kC ?_
     refine aB ?_))
 refine AWp.round (fun k : Nat => mkSt 73 [(4, .c (.pt 4 3 0 0)), (5, .c (.pt 5 3 0 0)), (13, .c (.ls L.length 2 (rowF mvC mvZ L))), (14, .c (.ow 30)), (15, .c (iC k))] [(4, ⟨false, 1, 3, 31, lF (bpC a)⟩), (5, ⟨false, 1, 3, 31, lF (bpC b)⟩), (30, wpB (mkL25 a b x y (L.take k)))] [4, 5, 30])
  (fun k => k ≤ L.length) (fun k => L.length - k) 0 (Nat.zero_le _) ?_ (fun k hk => ?_)
 ·refine Wk.mk [(4, some 4), (5, some 5), (30, none)] rfl rfl rfl ?_ ?_
  ·exact allT
  ·exact allH
 have hkn := mkL_len a b x y L hk
 by_cases hkl : k < L.length
 ·have hkl' : (k : Int) < L.length := by omega
  have hd := hsb k hkl
  have p1 := ralone_A (sd1 a b x y (L.getD k mvZ)) ha hb hd.1 hd.2
  have p2 := ralone_A (sd2 a b x y (L.getD k mvZ)) hb ha (by show -4 ≤ -(L.getD k mvZ).1 ∧ -(L.getD k mvZ).1 ≤ 4; omega) (by show -4 ≤ -(L.getD k mvZ).2 ∧ -(L.getD k mvZ).2 ≤ 4; omega)
  have htk := mkL_take a b x y L hkl
  have hlen : (mkL25 a b x y (L.take (k + 1))).length = (mkL25 a b x y (L.take k)).length + 1 := by rw [htk, List.length_append]; rfl
  have e1 : rowF mvC mvZ L k 0 = iC (L.getD k mvZ).1 := rfl
  have e2 : rowF mvC mvZ L k 1 = iC (L.getD k mvZ).2 := rfl
  have hd1 := hd.1
  have hd2 := hd.2
  rw [show (sd1 a b x y (L.getD k mvZ)).dx = (L.getD k mvZ).1 from rfl, show (sd1 a b x y (L.getD k mvZ)).dy = (L.getD k mvZ).2 from rfl] at p1
  rw [show (sd2 a b x y (L.getD k mvZ)).dx = -(L.getD k mvZ).1 from rfl, show (sd2 a b x y (L.getD k mvZ)).dy = -(L.getD k mvZ).2 from rfl] at p2
  generalize aloL (sd1 a b x y (L.getD k mvZ)) = A1 at p1 htk
  generalize aloL (sd2 a b x y (L.getD k mvZ)) = A2 at p2 htk
  generalize (L.getD k mvZ).1 = u at *
  generalize (L.getD k mvZ).2 = v at *
  repeat (first
   | refine uA ?_
   | refine uB ?_
   | refine uC ?_
   | refine uG ?_
   | refine uD ?_
   | refine kT ?_
   | (refine rG 10 ?_
      (iterate 2 refine kA ?_)
      refine qr5 (aO tyOk) ?_
      refine qr5t aK ?_
      refine aB ?_)
   | (refine rG 11 ?_
      refine kA ?_
      refine qr4w2 aL ?_
      refine kC ?_
      refine aB ?_)
   | (refine AWp.draw (id := 12) mixed ?_; refine kA ?_; (iterate 2 refine kF ?_); (iterate 2 refine kA ?_); refine qr8eo2 (aP (k := k) tyOk) ?_; refine qr7 (AList.fieldPl tyOk) ?_; refine AList.load1lE tyOk (e1) rfl rfl rfl rfl rfl oM ?_; (iterate 2 refine kA ?_); refine qr8eo2 (aP (k := k) tyOk) ?_; refine qr7 (AList.fieldPl tyOk) ?_; refine AList.load1lE tyOk (e2) rfl rfl rfl rfl rfl oM ?_; refine aH rfl rfl rfl rfl Try.func41 rfl (by kernel_rfl) (p1) ?_; (iterate 2 refine kF ?_); (iterate 2 refine kA ?_); refine qr8eo2 (aP (k := k) tyOk) ?_; refine qr7 (AList.fieldPl tyOk) ?_; refine AList.load1lE tyOk (e1) rfl rfl rfl rfl rfl oM ?_; refine qr3w2 AList.neg ?_; (iterate 2 refine kA ?_); refine qr8eo2 (aP (k := k) tyOk) ?_; refine qr7 (AList.fieldPl tyOk) ?_; refine AList.load1lE tyOk (e2) rfl rfl rfl rfl rfl oM ?_; refine qr3w2 AList.neg ?_; refine aH rfl rfl rfl rfl Try.func41 rfl (by kernel_rfl) (p2) ?_; refine qr8 (aX tyOk) ?_; refine qr11 (AList.litSl tyOk) ?_; refine AList.appL tyOk rfl rfl rfl rfl rfl rfl rfl rfl rfl rfl oM oM ?_; refine kC ?_; refine aB ⟨by kernel_rfl, ?_⟩))
  refine ⟨k + 1, hkl, Wk.mk [(4, some 4), (5, some 5), (30, some 71)] rfl rfl rfl ?_ ?_, by omega⟩
  ·exact allT
  ·refine ⟨hSm, hSm, HeapOk.row rfl rfl hlen ?_, trivial⟩
   rw [htk]
   exact row_snoc (c := wtC) (z := wtZ) (mkL25 a b x y (L.take k)) (A1, A2) wtC_imm rfl
 have hkl' : ¬ (k : Int) < L.length := by omega
 obtain rfl : k = L.length := by omega
 rw [List.take_length]
 repeat (first
  | refine uA ?_
  | refine uB ?_
  | refine uH ?_
  | refine AWp.ret ?_
  | refine kU ?_
  | (refine rG 10 ?_
     (iterate 2 refine kA ?_)
     refine qr5 (aO tyOk) ?_
     refine qr5f aJ ?_
     refine aB ?_)
  | (refine rG 13 ?_
     refine kA ?_
     (iterate 2 refine kC ?_)
     refine aB ?_))
 refine ⟨mkSt 73 [(8, .c (wpL (mkL25 a b x y L))), (9, .c (iC (0)))] [] [], [], Wk.mk [] rfl rfl rfl ?_ trivial, rfl, rfl, ARets.two (x := .c _) (y := .c _) (ARes.tmp rfl rfl) (ARes.tmp rfl rfl)⟩
 exact ⟨⟨_, rfl, .c (LeC.fz rfl rfl rfl (fun i _ j _ => ⟨rfl, rowF_imm wtC_imm _ i j⟩))⟩, ⟨_, rfl, .c (LeC.refl _ rfl)⟩, trivial⟩
theorem erase_get {l : List Int} {k i : Nat} (hk : k < l.length) : appF (fun i j => iF (fun j => l.getD j 0) (0 + i) j) (k - 0) (fun i j => iF (fun j => l.getD j 0) (k + 1 + i) j) i 0 = iC ((l.eraseIdx k).getD i 0) := by
 unfold appF
 rw [Nat.sub_zero]
 by_cases h : i < k
 ·rw [Nat.blt_eq.mpr h, List.getD_eq_getElem?_getD, List.getElem?_eraseIdx, if_pos h]
  show iC (l.getD (0 + i) 0) = _
  rw [Nat.zero_add, List.getD_eq_getElem?_getD]
 ·rw [show Nat.blt i k = false from Bool.eq_false_iff.2 fun h' => h (Nat.blt_eq.mp h'), List.getD_eq_getElem?_getD, List.getElem?_eraseIdx, if_neg h]
  show iC (l.getD (k + 1 + (i - k)) 0) = _
  rw [show k + 1 + (i - k) = i + 1 by omega, List.getD_eq_getElem?_getD]
set_option maxHeartbeats 1000000 in
set_option maxRecDepth 100000 in
theorem without_A (l : List Int) (k : Nat) (hk : k < l.length) (hl : l.length ≤ 1000000) : ACalls Try.prog 42 [.c (liV l), .c (iC k)] (.c (liV (l.eraseIdx k))) := by
 refine acalls_at Try.func42 rfl rfl Try.ntmps42 rfl ?_
 repeat (first
  | refine uA ?_
  | refine uB ?_
  | refine AWp.ret ?_
  | (refine rG 0 ?_
     refine kC ?_
     refine aB ?_)
  | (refine AWp.draw (id := 1) mixed ?_; refine qr7 (AList.emptySl tyOk) ?_; (iterate 2 refine kA ?_); refine AList.cut (l := 0) (h := k) tyOk rfl rfl rfl rfl rfl rfl rfl rfl ⟨_, _, rfl, by first | rfl | omega⟩ (by omega) (by omega) ?_; refine AList.appL0 tyOk rfl rfl rfl rfl rfl rfl rfl rfl rfl rfl oM oM ?_; (iterate 2 refine kA ?_); refine qr4w2 aL ?_; refine AList.cut (l := k + 1) (h := l.length) tyOk rfl rfl rfl rfl rfl rfl rfl ⟨_, _, rfl, by first | rfl | omega⟩ rfl (by omega) (by omega) ?_; refine AList.appL tyOk rfl rfl rfl rfl rfl rfl rfl rfl rfl rfl oM oM ?_; refine kC ?_; refine aB ⟨by kernel_rfl, ?_⟩))
 refine ⟨mkSt 15 [(4, .c (liV (l.eraseIdx k)))] [] [], [], Wk.mk [] rfl rfl rfl ?_ trivial, rfl, rfl, aR1⟩
 have hle : (l.eraseIdx k).length = k + (l.length - (k + 1)) := by rw [List.length_eraseIdx, if_pos hk]; omega
 refine ⟨⟨_, rfl, .c (LeC.fz rfl rfl ?_ (fun i hi j hj => ?_))⟩, trivial⟩
 ·exact hle
 ·obtain rfl : j = 0 := Nat.lt_one_iff.mp hj
  have := erase_get hk (i := i)
  exact ⟨this, by rw [show appF _ _ _ i 0 = _ from this]; rfl⟩
set_option maxHeartbeats 4000000 in
set_option maxRecDepth 100000 in
theorem rCheck25_A (a b : Bp) (x y : Bg) (p : List Wt) (hp : PrOk p) : ACalls Try.prog 15 [.ag (bpC a), .ag (bpC b), .ag (bgC x), .ag (bgC y), .c (wpC p)] (.c (iC (chkV a b x y p))) := by
 have hsz := rsizes_A a b
 by_cases h0 : szV a b = 0
 rotate_left
 ·rw [show chkV a b x y p = szV a b from if_neg h0]
  refine acalls_at Try.func15 rfl rfl Try.ntmps15 rfl ?_
  repeat (first
   | refine uA ?_
   | refine uB ?_
   | refine AWp.ret ?_
   | refine thenA_r ?_
   | refine kT ?_
   | (refine rG 0 ?_
      (iterate 4 refine qr5 aQ ?_)
      refine kC ?_
      refine aB ?_)
   | (refine rG 1 ?_
      (iterate 2 refine kF ?_)
      refine aH rfl rfl rfl rfl Try.func38 rfl (by kernel_rfl) (hsz) ?_
      refine kC ?_
      refine aB ?_)
   | (refine rG 2 ?_
      refine kA ?_
      refine qr5t aK ?_
      refine aB ?_)
   | (refine rG 3 ?_
      refine kA ?_
      refine kC ?_
      refine aB ?_))
  refine ⟨mkSt 100 [(10, .c (iC (szV a b)))] [] [], [], Wk.mk [] rfl rfl rfl ?_ trivial, rfl, rfl, aR1⟩
  exact allT
 rw [h0] at hsz
 have hcm := (szV_ok a b).1 h0
 obtain ⟨ha, hb, hW, hH⟩ := id hcm
 have hsh := rShifts_A x y
 have hchk : chkV a b x y p = if (shL (shN x y)).length = p.length ∧ prfB a b x y p = true then 0 else 62 := if_pos h0
 by_cases hl : (shL (shN x y)).length = p.length
 rotate_left
 ·rw [hchk, if_neg fun h => hl h.1]
  have hl' : ¬ (p.length : Int) = (shL (shN x y)).length := by omega
  refine acalls_at Try.func15 rfl rfl Try.ntmps15 rfl ?_
  repeat (first
   | refine uA ?_
   | refine uB ?_
   | refine uG ?_
   | refine AWp.ret ?_
   | refine thenA_r ?_
   | refine kT ?_
   | refine kU ?_
   | (refine rG 0 ?_
      (iterate 4 refine qr5 aQ ?_)
      refine kC ?_
      refine aB ?_)
   | (refine rG 1 ?_
      (iterate 2 refine kF ?_)
      refine aH rfl rfl rfl rfl Try.func38 rfl (by kernel_rfl) (hsz) ?_
      refine kC ?_
      refine aB ?_)
   | (refine rG 2 ?_
      refine kA ?_
      refine qr5 aW ?_
      refine aB ?_)
   | (refine rG 4 ?_
      (iterate 2 refine kF ?_)
      refine aH rfl rfl rfl rfl Try.func40 rfl (by kernel_rfl) (hsh) ?_
      refine kC ?_
      refine aB ?_)
   | (refine rG 5 ?_
      refine kA ?_
      refine qr5 (aO tyOk) ?_
      refine kA ?_
      refine qr5 (aO tyOk) ?_
      refine qr5t aK ?_
      refine aB ?_)
   | (refine rG 6 ?_
      refine kC ?_
      refine aB ?_))
  refine ⟨mkSt 100 [(10, .c (iC (62)))] [] [], [], Wk.mk [] rfl rfl rfl ?_ trivial, rfl, rfl, aR1⟩
  exact allT
 have hl' : (p.length : Int) = (shL (shN x y)).length := by omega
 have hbad : ∀ k, k < (shL (shN x y)).length → wtOk a b x y ((shL (shN x y)).getD k mvZ) (p.getD k wtZ) = false → chkV a b x y p = 62 := fun k hk h => by
  rw [hchk, if_neg fun g => by rw [prfB_no hk h] at g; exact absurd g.2 (by decide)]
 have hgood : (∀ k, k < (shL (shN x y)).length → wtOk a b x y ((shL (shN x y)).getD k mvZ) (p.getD k wtZ) = true) → chkV a b x y p = 0 := fun h => by
  rw [hchk, if_pos ⟨hl, prfB_yes h⟩]
 have hsb := fun k hk => shN_bd (x := x) (y := y) (k := k) hk
 obtain ⟨r, hr⟩ : ∃ r, chkV a b x y p = r := ⟨_, rfl⟩
 rw [hr] at hbad hgood ⊢
 clear hchk
 obtain ⟨L, hL⟩ : ∃ L, shL (shN x y) = L := ⟨_, rfl⟩
 rw [hL] at hsh hl hl' hbad hgood hsb
 have hLp : L.length ≤ 1000000 := by have := hp.1; omega
 refine acalls_at Try.func15 rfl rfl Try.ntmps15 rfl ?_
 repeat (first
  | refine uA ?_
  | refine uB ?_
  | refine uC ?_
  | refine uG ?_
  | refine kU ?_
  | (refine rG 0 ?_
     (iterate 4 refine qr5 aQ ?_)
     refine kC ?_
     refine aB ?_)
  | (refine rG 1 ?_
     (iterate 2 refine kF ?_)
     refine aH rfl rfl rfl rfl Try.func38 rfl (by kernel_rfl) (hsz) ?_
     refine kC ?_
     refine aB ?_)
  | (refine rG 2 ?_
     refine kA ?_
     refine qr5 aW ?_
     refine aB ?_)
  | (refine rG 4 ?_
     (iterate 2 refine kF ?_)
     refine aH rfl rfl rfl rfl Try.func40 rfl (by kernel_rfl) (hsh) ?_
     refine kC ?_
     refine aB ?_)
  | (refine rG 5 ?_
     refine kA ?_
     refine qr5 (aO tyOk) ?_
     refine kA ?_
     refine qr5 (aO tyOk) ?_
     refine qr5f aJ ?_
     refine aB ?_)
  | (refine rG 7 ?_
     refine kC ?_
     refine aB ?_))
 refine AWp.round (fun k : Nat =>
  mkSt 100 [(4, .c (wpC p)), (5, .c (.pt 5 3 0 0)), (6, .c (.pt 6 3 0 0)), (7, .c (.pt 7 4 0 0)), (8, .c (.pt 8 4 0 0)), (12, .c (.ls L.length 2 (rowF mvC mvZ L))), (13, .c (iC k))] [(5, ⟨false, 1, 3, 31, lF (bpC a)⟩), (6, ⟨false, 1, 3, 31, lF (bpC b)⟩), (7, ⟨false, 1, 4, 33, lF (bgC x)⟩), (8, ⟨false, 1, 4, 33, lF (bgC y)⟩)] [5, 6, 7, 8]
  ) (fun k => k ≤ L.length ∧ ∀ j, j < k → wtOk a b x y (L.getD j mvZ) (p.getD j wtZ) = true) (fun k => L.length - k) 0 ⟨Nat.zero_le _, fun _ h => absurd h (Nat.not_lt_zero _)⟩ ?_ (fun k hk => ?_)
 ·refine Wk.mk [(5, some 5), (6, some 6), (7, some 7), (8, some 8)] rfl rfl rfl ?_ ?_
  ·exact allT
  ·exact allH
 obtain ⟨hk, hall⟩ := hk
 by_cases hkl : k < L.length
 rotate_left
 ·have hkl' : ¬ (k : Int) < L.length := by omega
  rw [hgood fun j hj => hall j (by omega)]
  repeat (first
   | refine uA ?_
   | refine uB ?_
   | refine uH ?_
   | refine AWp.ret ?_
   | refine kU ?_
   | (refine rG 8 ?_
      (iterate 2 refine kA ?_)
      refine qr5 (aO tyOk) ?_
      refine qr5f aJ ?_
      refine aB ?_)
   | (refine rG 13 ?_
      refine kC ?_
      refine aB ?_))
  refine ⟨mkSt 100 [(10, .c (iC (0)))] [] [], [], Wk.mk [] rfl rfl rfl ?_ trivial, rfl, rfl, aR1⟩
  exact allT
 have hkl' : (k : Int) < L.length := by omega
 have hd := hsb k hkl
 have hbadk := hbad k hkl
 obtain ⟨hl1, hl2⟩ := hp.2 k (by omega)
 have hwt : wtOk a b x y (L.getD k mvZ) (p.getD k wtZ) = (okL (sd1 a b x y (L.getD k mvZ)) (p.getD k wtZ).1 && (okL (sd2 a b x y (L.getD k mvZ)) (p.getD k wtZ).2 && decB (sd1 a b x y (L.getD k mvZ)) (sd2 a b x y (L.getD k mvZ)) (stN a.W x y).toNat (alM a.W x y) (p.getD k wtZ).1 (p.getD k wtZ).2)) := rfl
 have c1 := listed_A (sd1 a b x y (L.getD k mvZ)) (p.getD k wtZ).1 ha hb hd.1 hd.2 hl1
 have c2 := listed_A (sd2 a b x y (L.getD k mvZ)) (p.getD k wtZ).2 hb ha (by show -4 ≤ -(L.getD k mvZ).1 ∧ -(L.getD k mvZ).1 ≤ 4; omega) (by show -4 ≤ -(L.getD k mvZ).2 ∧ -(L.getD k mvZ).2 ≤ 4; omega) hl2
 have cd := rdecides_A a b x y (L.getD k mvZ) (p.getD k wtZ).1 (p.getD k wtZ).2 hcm hd.1 hl1 hl2
 have e1 : rowF mvC mvZ L k 0 = iC (L.getD k mvZ).1 := rfl
 have e2 : rowF mvC mvZ L k 1 = iC (L.getD k mvZ).2 := rfl
 have q1 : rowF wtC wtZ p k 0 = liV (p.getD k wtZ).1 := rfl
 have q2 : rowF wtC wtZ p k 1 = liV (p.getD k wtZ).2 := rfl
 have hd1 := hd.1
 have hd2 := hd.2
 rw [show (sd1 a b x y (L.getD k mvZ)).dx = (L.getD k mvZ).1 from rfl, show (sd1 a b x y (L.getD k mvZ)).dy = (L.getD k mvZ).2 from rfl, show (sd1 a b x y (L.getD k mvZ)).o = a from rfl, show (sd1 a b x y (L.getD k mvZ)).p = b from rfl] at c1
 rw [show (sd2 a b x y (L.getD k mvZ)).dx = -(L.getD k mvZ).1 from rfl, show (sd2 a b x y (L.getD k mvZ)).dy = -(L.getD k mvZ).2 from rfl, show (sd2 a b x y (L.getD k mvZ)).o = b from rfl, show (sd2 a b x y (L.getD k mvZ)).p = a from rfl] at c2
 cases hA : okL (sd1 a b x y (L.getD k mvZ)) (p.getD k wtZ).1 with
 | false =>
   rw [hA, Bool.false_and] at hwt
   rw [hA] at c1
   rw [hbadk hwt]
   repeat (first
    | refine uA ?_
    | refine uB ?_
    | refine uC ?_
    | refine uG ?_
    | refine AWp.ret ?_
    | refine thenA_r ?_
    | refine uE ?_
    | refine kT ?_
    | (refine rG 8 ?_
       (iterate 2 refine kA ?_)
       refine qr5 (aO tyOk) ?_
       refine qr5t aK ?_
       refine aB ?_)
    | (refine AWp.draw (id := 10) mixed ?_; (iterate 2 refine kA ?_); refine qr8eo2 (aP (k := k) tyOk) ?_; refine qr7 (AList.fieldPl tyOk) ?_; refine AList.load1lE tyOk (q1) rfl rfl rfl rfl rfl oM ?_; (iterate 2 refine kF ?_); (iterate 2 refine kA ?_); refine qr8eo2 (aP (k := k) tyOk) ?_; refine qr7 (AList.fieldPl tyOk) ?_; refine AList.load1lE tyOk (e1) rfl rfl rfl rfl rfl oM ?_; (iterate 2 refine kA ?_); refine qr8eo2 (aP (k := k) tyOk) ?_; refine qr7 (AList.fieldPl tyOk) ?_; refine AList.load1lE tyOk (e2) rfl rfl rfl rfl rfl oM ?_; refine aH rfl rfl rfl rfl Try.func49 rfl (by kernel_rfl) (c1) ?_; refine kA ?_; (iterate 20 refine qr2 aG ?_); refine qr4 aR ?_; refine kC ?_; refine aB ⟨by kernel_rfl, ?_⟩)
    | (refine AWp.draw (id := 11) mixed ?_; refine kA ?_; refine qr3 AList.notB ?_; refine kA ?_; (iterate 21 refine qr2 aG ?_); refine qr4 aS ?_; refine aB ⟨by kernel_rfl, ?_⟩)
    | (refine rG 12 ?_
       refine kC ?_
       refine aB ?_))
   refine ⟨mkSt 100 [(10, .c (iC (62)))] [] [], [], Wk.mk [] rfl rfl rfl ?_ trivial, rfl, rfl, aR1⟩
   exact allT
 | true =>
   rw [hA, Bool.true_and] at hwt
   rw [hA] at c1
   cases hB : okL (sd2 a b x y (L.getD k mvZ)) (p.getD k wtZ).2 with
   | false =>
     rw [hB, Bool.false_and] at hwt
     rw [hB] at c2
     rw [hbadk hwt]
     repeat (first
      | refine uA ?_
      | refine uB ?_
      | refine uC ?_
      | refine uG ?_
      | refine AWp.ret ?_
      | refine thenA_r ?_
      | refine uE ?_
      | refine kT ?_
      | (refine rG 8 ?_
         (iterate 2 refine kA ?_)
         refine qr5 (aO tyOk) ?_
         refine qr5t aK ?_
         refine aB ?_)
      | (refine AWp.draw (id := 10) mixed ?_; (iterate 2 refine kA ?_); refine qr8eo2 (aP (k := k) tyOk) ?_; refine qr7 (AList.fieldPl tyOk) ?_; refine AList.load1lE tyOk (q1) rfl rfl rfl rfl rfl oM ?_; (iterate 2 refine kF ?_); (iterate 2 refine kA ?_); refine qr8eo2 (aP (k := k) tyOk) ?_; refine qr7 (AList.fieldPl tyOk) ?_; refine AList.load1lE tyOk (e1) rfl rfl rfl rfl rfl oM ?_; (iterate 2 refine kA ?_); refine qr8eo2 (aP (k := k) tyOk) ?_; refine qr7 (AList.fieldPl tyOk) ?_; refine AList.load1lE tyOk (e2) rfl rfl rfl rfl rfl oM ?_; refine aH rfl rfl rfl rfl Try.func49 rfl (by kernel_rfl) (c1) ?_; (iterate 3 refine kA ?_); refine qr8eo2 (aP (k := k) tyOk) ?_; refine qr7 (AList.fieldPl tyOk) ?_; refine AList.load1lE tyOk (q2) rfl rfl rfl rfl rfl oM ?_; (iterate 2 refine kF ?_); (iterate 2 refine kA ?_); refine qr8eo2 (aP (k := k) tyOk) ?_; refine qr7 (AList.fieldPl tyOk) ?_; refine AList.load1lE tyOk (e1) rfl rfl rfl rfl rfl oM ?_; refine qr3w2 AList.neg ?_; (iterate 2 refine kA ?_); refine qr8eo2 (aP (k := k) tyOk) ?_; refine qr7 (AList.fieldPl tyOk) ?_; refine AList.load1lE tyOk (e2) rfl rfl rfl rfl rfl oM ?_; refine qr3w2 AList.neg ?_; refine aH rfl rfl rfl rfl Try.func49 rfl (by kernel_rfl) (c2) ?_; refine qr4 aS ?_; refine kC ?_; refine aB ⟨by kernel_rfl, ?_⟩)
      | (refine AWp.draw (id := 11) mixed ?_; refine kA ?_; refine qr3 AList.notB ?_; refine kA ?_; (iterate 21 refine qr2 aG ?_); refine qr4 aS ?_; refine aB ⟨by kernel_rfl, ?_⟩)
      | (refine rG 12 ?_
         refine kC ?_
         refine aB ?_))
     refine ⟨mkSt 100 [(10, .c (iC (62)))] [] [], [], Wk.mk [] rfl rfl rfl ?_ trivial, rfl, rfl, aR1⟩
     exact allT
   | true =>
     rw [hB, Bool.true_and] at hwt
     rw [hB] at c2
     have cd := cd (fun k hk => okL_alo hA hk) (fun k hk => okL_alo hB hk)
     rw [← hwt] at cd
     cases hw : wtOk a b x y (L.getD k mvZ) (p.getD k wtZ) with
     | false =>
       rw [hw] at cd
       rw [hbadk hw]
       repeat (first
        | refine uA ?_
        | refine uB ?_
        | refine uC ?_
        | refine uG ?_
        | refine AWp.ret ?_
        | refine thenA_r ?_
        | refine uE ?_
        | refine kT ?_
        | (refine rG 8 ?_
           (iterate 2 refine kA ?_)
           refine qr5 (aO tyOk) ?_
           refine qr5t aK ?_
           refine aB ?_)
        | (refine AWp.draw (id := 10) mixed ?_; (iterate 2 refine kA ?_); refine qr8eo2 (aP (k := k) tyOk) ?_; refine qr7 (AList.fieldPl tyOk) ?_; refine AList.load1lE tyOk (q1) rfl rfl rfl rfl rfl oM ?_; (iterate 2 refine kF ?_); (iterate 2 refine kA ?_); refine qr8eo2 (aP (k := k) tyOk) ?_; refine qr7 (AList.fieldPl tyOk) ?_; refine AList.load1lE tyOk (e1) rfl rfl rfl rfl rfl oM ?_; (iterate 2 refine kA ?_); refine qr8eo2 (aP (k := k) tyOk) ?_; refine qr7 (AList.fieldPl tyOk) ?_; refine AList.load1lE tyOk (e2) rfl rfl rfl rfl rfl oM ?_; refine aH rfl rfl rfl rfl Try.func49 rfl (by kernel_rfl) (c1) ?_; (iterate 3 refine kA ?_); refine qr8eo2 (aP (k := k) tyOk) ?_; refine qr7 (AList.fieldPl tyOk) ?_; refine AList.load1lE tyOk (q2) rfl rfl rfl rfl rfl oM ?_; (iterate 2 refine kF ?_); (iterate 2 refine kA ?_); refine qr8eo2 (aP (k := k) tyOk) ?_; refine qr7 (AList.fieldPl tyOk) ?_; refine AList.load1lE tyOk (e1) rfl rfl rfl rfl rfl oM ?_; refine qr3w2 AList.neg ?_; (iterate 2 refine kA ?_); refine qr8eo2 (aP (k := k) tyOk) ?_; refine qr7 (AList.fieldPl tyOk) ?_; refine AList.load1lE tyOk (e2) rfl rfl rfl rfl rfl oM ?_; refine qr3w2 AList.neg ?_; refine aH rfl rfl rfl rfl Try.func49 rfl (by kernel_rfl) (c2) ?_; refine qr4 aS ?_; refine kC ?_; refine aB ⟨by kernel_rfl, ?_⟩)
        | (refine AWp.draw (id := 11) mixed ?_; refine kA ?_; refine qr3 AList.notB ?_; (iterate 3 refine kA ?_); refine qr8eo2 (aP (k := k) tyOk) ?_; refine qr7 (AList.fieldPl tyOk) ?_; refine AList.load1lE tyOk (q1) rfl rfl rfl rfl rfl oM ?_; (iterate 2 refine kA ?_); refine qr8eo2 (aP (k := k) tyOk) ?_; refine qr7 (AList.fieldPl tyOk) ?_; refine AList.load1lE tyOk (q2) rfl rfl rfl rfl rfl oM ?_; refine kD ?_; refine kE ?_; (iterate 2 refine kA ?_); refine qr8eo2 (aP (k := k) tyOk) ?_; refine qr7 (AList.fieldPl tyOk) ?_; refine AList.load1lE tyOk (e1) rfl rfl rfl rfl rfl oM ?_; (iterate 2 refine kF ?_); refine aH rfl rfl rfl rfl Try.func50 rfl (by kernel_rfl) (cd) ?_; refine qr3 AList.notB ?_; refine qr4 aR ?_; refine aB ⟨by kernel_rfl, ?_⟩)
        | (refine rG 12 ?_
           refine kC ?_
           refine aB ?_))
       refine ⟨mkSt 100 [(10, .c (iC (62)))] [] [], [], Wk.mk [] rfl rfl rfl ?_ trivial, rfl, rfl, aR1⟩
       exact allT
     | true =>
       rw [hw] at cd
       repeat (first
        | refine uA ?_
        | refine uB ?_
        | refine uC ?_
        | refine uG ?_
        | refine uD ?_
        | refine kT ?_
        | refine kU ?_
        | (refine rG 8 ?_
           (iterate 2 refine kA ?_)
           refine qr5 (aO tyOk) ?_
           refine qr5t aK ?_
           refine aB ?_)
        | (refine rG 9 ?_
           refine kA ?_
           refine qr4w2 aL ?_
           refine kC ?_
           refine aB ?_)
        | (refine AWp.draw (id := 10) mixed ?_; (iterate 2 refine kA ?_); refine qr8eo2 (aP (k := k) tyOk) ?_; refine qr7 (AList.fieldPl tyOk) ?_; refine AList.load1lE tyOk (q1) rfl rfl rfl rfl rfl oM ?_; (iterate 2 refine kF ?_); (iterate 2 refine kA ?_); refine qr8eo2 (aP (k := k) tyOk) ?_; refine qr7 (AList.fieldPl tyOk) ?_; refine AList.load1lE tyOk (e1) rfl rfl rfl rfl rfl oM ?_; (iterate 2 refine kA ?_); refine qr8eo2 (aP (k := k) tyOk) ?_; refine qr7 (AList.fieldPl tyOk) ?_; refine AList.load1lE tyOk (e2) rfl rfl rfl rfl rfl oM ?_; refine aH rfl rfl rfl rfl Try.func49 rfl (by kernel_rfl) (c1) ?_; (iterate 3 refine kA ?_); refine qr8eo2 (aP (k := k) tyOk) ?_; refine qr7 (AList.fieldPl tyOk) ?_; refine AList.load1lE tyOk (q2) rfl rfl rfl rfl rfl oM ?_; (iterate 2 refine kF ?_); (iterate 2 refine kA ?_); refine qr8eo2 (aP (k := k) tyOk) ?_; refine qr7 (AList.fieldPl tyOk) ?_; refine AList.load1lE tyOk (e1) rfl rfl rfl rfl rfl oM ?_; refine qr3w2 AList.neg ?_; (iterate 2 refine kA ?_); refine qr8eo2 (aP (k := k) tyOk) ?_; refine qr7 (AList.fieldPl tyOk) ?_; refine AList.load1lE tyOk (e2) rfl rfl rfl rfl rfl oM ?_; refine qr3w2 AList.neg ?_; refine aH rfl rfl rfl rfl Try.func49 rfl (by kernel_rfl) (c2) ?_; refine qr4 aS ?_; refine kC ?_; refine aB ⟨by kernel_rfl, ?_⟩)
        | (refine AWp.draw (id := 11) mixed ?_; refine kA ?_; refine qr3 AList.notB ?_; (iterate 3 refine kA ?_); refine qr8eo2 (aP (k := k) tyOk) ?_; refine qr7 (AList.fieldPl tyOk) ?_; refine AList.load1lE tyOk (q1) rfl rfl rfl rfl rfl oM ?_; (iterate 2 refine kA ?_); refine qr8eo2 (aP (k := k) tyOk) ?_; refine qr7 (AList.fieldPl tyOk) ?_; refine AList.load1lE tyOk (q2) rfl rfl rfl rfl rfl oM ?_; refine kD ?_; refine kE ?_; (iterate 2 refine kA ?_); refine qr8eo2 (aP (k := k) tyOk) ?_; refine qr7 (AList.fieldPl tyOk) ?_; refine AList.load1lE tyOk (e1) rfl rfl rfl rfl rfl oM ?_; (iterate 2 refine kF ?_); refine aH rfl rfl rfl rfl Try.func50 rfl (by kernel_rfl) (cd) ?_; refine qr3 AList.notB ?_; refine qr4 aR ?_; refine aB ⟨by kernel_rfl, ?_⟩))
       refine ⟨k + 1, ⟨hkl, fun j hj => ?_⟩, Wk.mk [(5, some 5), (6, some 6), (7, some 7), (8, some 8)] rfl rfl rfl ?_ ?_, by omega⟩
       ·by_cases e : j = k
        ·rw [e]; exact hw
        ·exact hall j (by omega)
       ·exact allT
       ·exact allH
theorem rows_ow {p : List Wt} {S : St} {ren : List (Nat × Option Nat)} {A1 A2 : List Int} {i1 i2 : Nat} {F1 F2 : Nat → Nat → CV} (h1 : S.h i1 = some ⟨true, A1.length, 1, 3, F1⟩) (h2 : S.h i2 = some ⟨true, A2.length, 1, 3, F2⟩) (hF1 : ∀ i, i < A1.length → ∀ j, j < 1 → F1 i j = iF (fun k => A1.getD k 0) i j ∧ immC (F1 i j) = true) (hF2 : ∀ i, i < A2.length → ∀ j, j < 1 → F2 i j = iF (fun k => A2.getD k 0) i j ∧ immC (F2 i j) = true)
 (r1 : renNo ren i1 = true) (r2 : renNo ren i2 = true) : ∀ k, k < p.length + 1 → ∀ j, j < 2 → LeC S.h ren (appF (rowF wtC wtZ p) p.length (sF [.ow i1, .ow i2] 2) k j) (rowF wtC wtZ (p ++ [(A1, A2)]) k j) := fun k hk j hj => by
 have hs := row_snoc (c := wtC) (z := wtZ) p (A1, A2) wtC_imm rfl k hk j hj
 by_cases h : k < p.length
 ·have e : appF (rowF wtC wtZ p) p.length (sF [.ow i1, .ow i2] 2) k j = appF (rowF wtC wtZ p) p.length (sF (wtC (A1, A2)) 2) k j := by
   unfold appF
   rw [Nat.blt_eq.mpr h]
   rfl
  rw [e, ← hs.1]
  exact LeC.refl _ hs.2
 ·obtain rfl : k = p.length := by omega
  rw [← hs.1]
  unfold appF
  rw [show Nat.blt p.length p.length = false from Bool.eq_false_iff.2 fun h' => h (Nat.blt_eq.mp h'), Nat.sub_self]
  match j, hj with
  | 0, _ => exact LeC.fz h1 r1 rfl hF1
  | 1, _ => exact LeC.fz h2 r2 rfl hF2
theorem shr_len (dec : List Int → Bool) (l : List Int) : ∀ (i : Nat) (kept : List Int), (shrI dec l i kept).length ≤ i + kept.length
 | 0, kept => by show kept.length ≤ _; omega
 | i + 1, kept => by
   unfold shrI
   split
   ·have := shr_len dec l i kept; omega
   ·have := shr_len dec l i (l.getD i 0 :: kept); rw [List.length_cons] at this; omega
theorem shr_mem {dec : List Int → Bool} {l : List Int} {P : Int → Prop} (hl : ∀ k, k < l.length → P (l.getD k 0)) : ∀ (i : Nat) (kept : List Int), i ≤ l.length → (∀ v, v ∈ kept → P v) → ∀ v, v ∈ shrI dec l i kept → P v
 | 0, kept, _, h => h
 | i + 1, kept, hi, h => by
   unfold shrI
   split
   ·exact shr_mem hl i kept (by omega) h
   ·refine shr_mem hl i (l.getD i 0 :: kept) (by omega) fun v hv => ?_
    rcases List.mem_cons.1 hv with rfl | hv
    ·exact hl i (by omega)
    ·exact h v hv
theorem take_mem {l kept : List Int} {i : Nat} {P : Int → Prop} (hl : ∀ k, k < l.length → P (l.getD k 0)) (hk : ∀ v, v ∈ kept → P v) : ∀ k, k < (l.take i ++ kept).length → P ((l.take i ++ kept).getD k 0) := fun k hk' => by
 have hm : (l.take i ++ kept).getD k 0 ∈ l.take i ++ kept := by
  rw [List.getD_eq_getElem?_getD, List.getElem?_eq_getElem hk']
  exact List.getElem_mem hk'
 rcases List.mem_append.1 hm with h | h
 ·obtain ⟨j, hj, e⟩ := List.getElem_of_mem (List.mem_of_mem_take h)
  have := hl j hj
  rw [List.getD_eq_getElem?_getD, List.getElem?_eq_getElem hj] at this
  rw [← e]
  exact this
 ·exact hk _ h
theorem take_erase {l kept : List Int} {i : Nat} (hi : i < l.length) : (l.take (i + 1) ++ kept).eraseIdx i = l.take i ++ kept := by
 rw [List.eraseIdx_append_of_lt_length (by rw [List.length_take]; omega)]
 congr 1
 rw [List.eraseIdx_eq_take_drop_succ, List.take_take, List.drop_take, Nat.min_eq_left (by omega), Nat.sub_self]
 simp
theorem take_cons {l kept : List Int} {i : Nat} (hi : i < l.length) : l.take (i + 1) ++ kept = l.take i ++ (l.getD i 0 :: kept) := by
 rw [take_snoc hi, List.append_assoc]
 rfl
set_option maxHeartbeats 8000000 in
set_option maxRecDepth 100000 in
theorem rShrink_A (a b : Bp) (x y : Bg) (p : List Wt) (hp : PrOk p) : ACalls Try.prog 17 [.ag (bpC a), .ag (bpC b), .ag (bgC x), .ag (bgC y), .c (wpC p)] (.tu [.c (wpL (shkV a b x y p).1), .c (iC (shkV a b x y p).2)]) := by
 have hck := rCheck25_A a b x y p hp
 by_cases h0 : chkV a b x y p = 0
 rotate_left
 ·rw [show shkV a b x y p = ([], chkV a b x y p) from if_neg h0]
  refine acalls_at Try.func17 rfl rfl Try.ntmps17 rfl ?_
  repeat (first
   | refine uA ?_
   | refine uB ?_
   | refine AWp.ret ?_
   | refine thenA_r ?_
   | refine kT ?_
   | (refine rG 0 ?_
      (iterate 4 refine qr5 aQ ?_)
      (iterate 2 refine kC ?_)
      refine aB ?_)
   | (refine rG 1 ?_
      (iterate 4 refine kF ?_)
      refine kA ?_
      refine aH rfl rfl rfl rfl Try.func15 rfl (by kernel_rfl) (hck) ?_
      refine kC ?_
      refine aB ?_)
   | (refine rG 2 ?_
      refine kA ?_
      refine qr5t aK ?_
      refine aB ?_)
   | (refine rG 3 ?_
      refine kA ?_
      (iterate 2 refine kC ?_)
      refine aB ?_))
  refine ⟨mkSt 110 [(10, .c (wpL ([]))), (11, .c (iC (chkV a b x y p)))] [] [], [], Wk.mk [] rfl rfl rfl ?_ trivial, rfl, rfl, ARets.two (x := .c _) (y := .c _) (ARes.tmp rfl rfl) (ARes.tmp rfl rfl)⟩
  exact allT
 rw [show shkV a b x y p = (shrP a b x y (shL (shN x y)) p, 0) from if_pos h0]
 rw [h0] at hck
 have hsz0 : szV a b = 0 := by
  refine Decidable.byContradiction fun h => ?_
  rw [show chkV a b x y p = szV a b from if_neg h] at h0
  exact h h0
 have hcm := (szV_ok a b).1 hsz0
 obtain ⟨hl, hpr⟩ : (shL (shN x y)).length = p.length ∧ prfB a b x y p = true := by
  refine Decidable.byContradiction fun h => ?_
  rw [show chkV a b x y p = 62 from (if_pos hsz0).trans (if_neg h)] at h0
  exact absurd h0 (by decide)
 have hsh := rShifts_A x y
 have hsb := fun k hk => shN_bd (x := x) (y := y) (k := k) hk
 have hok : ∀ k, k < (shL (shN x y)).length → wtOk a b x y ((shL (shN x y)).getD k mvZ) (p.getD k wtZ) = true := fun k hk => List.all_eq_true.1 hpr k (List.mem_range.2 hk)
 have hp1 := hp.1
 obtain ⟨shrK, hs0, hsN, hsl, hsS⟩ := shrK_ex a b x y p
 rw [hsN]
 obtain ⟨L, hL⟩ : ∃ L, shL (shN x y) = L := ⟨_, rfl⟩
 rw [hL] at hsh hl hsb hok hsl hsS ⊢
 have hLp : L.length ≤ 1000000 := by omega
 refine acalls_at Try.func17 rfl rfl Try.ntmps17 rfl ?_
 repeat (first
  | refine uA ?_
  | refine uB ?_
  | refine uC ?_
  | refine uG ?_
  | refine kU ?_
  | (refine rG 0 ?_
     (iterate 4 refine qr5 aQ ?_)
     (iterate 2 refine kC ?_)
     refine aB ?_)
  | (refine rG 1 ?_
     (iterate 4 refine kF ?_)
     refine kA ?_
     refine aH rfl rfl rfl rfl Try.func15 rfl (by kernel_rfl) (hck) ?_
     refine kC ?_
     refine aB ?_)
  | (refine rG 2 ?_
     refine kA ?_
     refine qr5 aW ?_
     refine aB ?_)
  | (refine rG 4 ?_
     (iterate 2 refine kF ?_)
     refine aH rfl rfl rfl rfl Try.func40 rfl (by kernel_rfl) (hsh) ?_
     refine kC ?_
     refine aB ?_)
  | (refine rG 5 ?_
     refine kC ?_
     refine aB ?_)
  | (refine rG 6 ?_
     refine kC ?_
     refine aB ?_))
 refine AWp.round (fun k : Nat => mkSt 110 [(4, .c (wpC p)), (5, .c (.pt 5 3 0 0)), (7, .c (.pt 7 4 0 0)), (8, .c (.pt 8 4 0 0)), (13, .c (.ls L.length 2 (rowF mvC mvZ L))), (14, .c (.ow 30)), (15, .c (iC (k : Nat)))] [(5, ⟨false, 1, 3, 31, lF (bpC a)⟩), (7, ⟨false, 1, 4, 33, lF (bgC x)⟩), (8, ⟨false, 1, 4, 33, lF (bgC y)⟩), (30, wpB (shrK k))] [5, 7, 8, 30])
  (fun k => k ≤ L.length) (fun k => L.length - k) 0 (Nat.zero_le _) ?_ (fun k hk => ?_)
 ·rw [hs0]
  refine Wk.mk [(5, some 5), (7, some 7), (8, some 8), (30, none)] rfl rfl rfl ?_ ?_
  ·exact allT
  ·exact allH
 by_cases hkl : k < L.length
 rotate_left
 ·obtain rfl : k = L.length := by omega
  have hkl' : ¬ (L.length : Int) < p.length := by omega
  repeat (first
   | refine uA ?_
   | refine uB ?_
   | refine uH ?_
   | refine AWp.ret ?_
   | refine kU ?_
   | (refine rG 7 ?_
      (iterate 2 refine kA ?_)
      refine qr5 (aO tyOk) ?_
      refine qr5f aJ ?_
      refine aB ?_)
   | (refine rG 23 ?_
      refine kA ?_
      (iterate 2 refine kC ?_)
      refine aB ?_))
  refine ⟨mkSt 110 [(10, .c (wpL (shrK L.length))), (11, .c (iC (0)))] [] [], [], Wk.mk [] rfl rfl rfl ?_ trivial, rfl, rfl, ARets.two (x := .c _) (y := .c _) (ARes.tmp rfl rfl) (ARes.tmp rfl rfl)⟩
  exact ⟨⟨_, rfl, .c (LeC.fz rfl rfl rfl (fun i _ j _ => ⟨rfl, rowF_imm wtC_imm _ i j⟩))⟩, ⟨_, rfl, .c (LeC.refl _ rfl)⟩, trivial⟩
 have hkl' : (k : Int) < p.length := by omega
 have hd := hsb k hkl
 obtain ⟨hl1, hl2⟩ := hp.2 k (by omega)
 have hw := hok k hkl
 unfold wtOk at hw
 rw [Bool.and_eq_true, Bool.and_eq_true] at hw
 obtain ⟨hw1, hw2, -⟩ := hw
 have al1 := fun k hk => okL_alo hw1 (k := k) hk
 have al2 := fun k hk => okL_alo hw2 (k := k) hk
 have hSk := hsS k hkl
 have hlk := hsl k hk
 have e1 : rowF mvC mvZ L k 0 = iC (L.getD k mvZ).1 := rfl
 have cd := fun lA lB h1 h2 h3 h4 => rdecides_A a b x y (L.getD k mvZ) lA lB hcm hd.1 h1 h2 h3 h4
 have ew : cellsFrom (rowF wtC wtZ p k) 0 2 = wtC (p.getD k wtZ) := rfl
 obtain ⟨w, hwe⟩ : ∃ w, p.getD k wtZ = w := ⟨_, rfl⟩
 rw [hwe] at hl1 hl2 al1 al2 hSk ew
 have hsW : shrW (sd1 a b x y (L.getD k mvZ)) (sd2 a b x y (L.getD k mvZ)) (stN a.W x y).toNat (alM a.W x y) w = (shrI (fun l => decB (sd1 a b x y (L.getD k mvZ)) (sd2 a b x y (L.getD k mvZ)) (stN a.W x y).toNat (alM a.W x y) l w.2) w.1 w.1.length [], shrI (fun l => decB (sd1 a b x y (L.getD k mvZ)) (sd2 a b x y (L.getD k mvZ)) (stN a.W x y).toNat (alM a.W x y) (shrI (fun l => decB (sd1 a b x y (L.getD k mvZ)) (sd2 a b x y (L.getD k mvZ)) (stN a.W x y).toNat (alM a.W x y) l w.2) w.1 w.1.length []) l) w.2 w.2.length []) := rfl
 rw [hsW] at hSk
 clear hsW
 generalize (stN a.W x y).toNat = tn at *
 generalize alM a.W x y = M at *
 generalize sd1 a b x y (L.getD k mvZ) = s at *
 generalize sd2 a b x y (L.getD k mvZ) = t at *
 generalize (L.getD k mvZ).1 = u at *
 obtain ⟨A', hA'⟩ : ∃ A', shrI (fun l => decB s t tn M l w.2) w.1 w.1.length [] = A' := ⟨_, rfl⟩
 have hAl := shr_len (fun l => decB s t tn M l w.2) w.1 w.1.length []
 have hAm := shr_mem (dec := fun l => decB s t tn M l w.2) (P := fun v => aloB s v = true) al1 w.1.length [] (Nat.le_refl _) (fun v hv => by cases hv)
 rw [hA'] at hSk hAl hAm
 obtain ⟨B', hB'⟩ : ∃ B', shrI (fun l => decB s t tn M A' l) w.2 w.2.length [] = B' := ⟨_, rfl⟩
 rw [hB'] at hSk
 rw [List.length_nil, Nat.add_zero] at hAl
 repeat (first
  | refine uA ?_
  | refine uB ?_
  | refine uC ?_
  | refine uG ?_
  | refine kT ?_
  | (refine rG 7 ?_
     (iterate 2 refine kA ?_)
     refine qr5 (aO tyOk) ?_
     refine qr5t aK ?_
     refine aB ?_)
  | (refine rG 9 ?_
     (iterate 2 refine kA ?_)
     refine qr8eo2 (aP (k := k) tyOk) ?_
     refine AList.loadAlE tyOk (ew) rfl rfl rfl rfl rfl oM ?_
     refine qr5 (aM tyOk) ?_
     refine kI ?_
     refine aB ?_)
  | (refine rG 10 ?_
     refine kD ?_
     refine kE ?_
     refine qr5 (aO tyOk) ?_
     refine qr4w2 AList.sub ?_
     refine kC ?_
     refine aB ?_))
 refine AWp.round (fun q : Nat × List Int =>
  mkSt 110 [(4, .c (wpC p)), (5, .c (.pt 5 3 0 0)), (7, .c (.pt 7 4 0 0)), (8, .c (.pt 8 4 0 0)), (13, .c (.ls L.length 2 (rowF mvC mvZ L))), (14, .c (.ow 30)), (15, .c (iC (k : Nat))), (16, .c (.pt 16 2 0 0)) , (17, .c (iC ((q.1 : Int) - 1)))] [(5, ⟨false, 1, 3, 31, lF (bpC a)⟩), (7, ⟨false, 1, 4, 33, lF (bgC x)⟩), (8, ⟨false, 1, 4, 33, lF (bgC y)⟩), (16, ⟨false, 1, 2, 62, lF [liV (w.1.take q.1 ++ q.2), liV (w.2)]⟩), (30, wpB (shrK k))] [5, 7, 8, 16, 30]
  ) (fun q => q.1 ≤ w.1.length ∧ q.1 + q.2.length ≤ w.1.length ∧ (∀ v, v ∈ q.2 → aloB s v = true) ∧ shrI (fun l => decB s t tn M l w.2) w.1 q.1 q.2 = A') (fun q => q.1) (w.1.length, []) ⟨Nat.le_refl _, by simp, (fun v hv => by cases hv), hA'⟩ ?_ (fun q hq => ?_)
 ·dsimp only
  rw [List.take_length, List.append_nil]
  refine Wk.mk [(5, some 5), (7, some 7), (8, some 8), (16, some 16), (30, some 30)] rfl rfl rfl ?_ ?_
  ·exact allT
  ·exact allH
 obtain ⟨i, kept⟩ := q
 obtain ⟨hi, hik, hkm, hsr⟩ := hq
 dsimp only at hi hik hkm hsr ⊢
 match i, hi, hik, hsr with
 | i + 1, hi, hik, hsr =>
   have hi0 : (0 : Int) ≤ ((i + 1 : Nat) : Int) - 1 := by omega
   have hcl : (w.1.take (i + 1) ++ kept).length = i + 1 + kept.length := by rw [List.length_append, List.length_take]; omega
   have hwo := without_A (w.1.take (i + 1) ++ kept) i (by omega) (by omega)
   rw [take_erase (by omega)] at hwo
   have hcd := cd (w.1.take i ++ kept) w.2 (by rw [List.length_append, List.length_take]; omega) hl2 (take_mem al1 hkm) al2
   rw [show ((i : Nat) : Int) = ((i + 1 : Nat) : Int) - 1 by omega] at hwo
   unfold shrI at hsr
   cases hdb : decB s t tn M (w.1.take i ++ kept) w.2 with
   | true =>
     rw [hdb] at hcd
     rw [if_pos hdb] at hsr
     repeat (first
      | refine uA ?_
      | refine uB ?_
      | refine uC ?_
      | refine uG ?_
      | refine uD ?_
      | refine kT ?_
      | (refine rG 11 ?_
         refine kA ?_
         refine qr5t aK ?_
         refine aB ?_)
      | (refine rG 12 ?_
         refine kA ?_
         refine qr4w2 AList.sub ?_
         refine kC ?_
         refine aB ?_)
      | (refine rG 13 ?_
         refine kD ?_
         refine kE ?_
         refine kA ?_
         refine aH rfl rfl rfl rfl Try.func42 rfl (by kernel_rfl) (hwo) ?_
         refine kC ?_
         refine aB ?_)
      | (refine AWp.draw (id := 14) mixed ?_; refine kA ?_; refine kD ?_; refine kE ?_; refine kD ?_; refine kE ?_; (iterate 2 refine kA ?_); refine qr8eo2 (aP (k := k) tyOk) ?_; refine qr7 (AList.fieldPl tyOk) ?_; refine AList.load1lE tyOk (e1) rfl rfl rfl rfl rfl oM ?_; (iterate 2 refine kF ?_); refine aH rfl rfl rfl rfl Try.func50 rfl (by kernel_rfl) (hcd) ?_; refine aB ⟨by kernel_rfl, ?_⟩)
      | (refine rG 15 ?_
         refine kA ?_
         refine kD ?_
         refine kI ?_
         refine aB ?_))
     refine ⟨(i, kept), ⟨by dsimp only; omega, by dsimp only; omega, hkm, hsr⟩, ?_, by dsimp only; omega⟩
     dsimp only
     refine Wk.mk [(5, some 5), (7, some 7), (8, some 8), (16, some 16), (30, some 30)] rfl rfl rfl ?_ ?_
     ·exact allT
     ·exact allH
   | false =>
     rw [hdb] at hcd
     rw [if_neg (by rw [hdb]; decide)] at hsr
     rw [take_cons (show i < w.1.length by omega)] at hwo ⊢
     repeat (first
      | refine uA ?_
      | refine uB ?_
      | refine uC ?_
      | refine uG ?_
      | refine uD ?_
      | refine kT ?_
      | refine kU ?_
      | (refine rG 11 ?_
         refine kA ?_
         refine qr5t aK ?_
         refine aB ?_)
      | (refine rG 12 ?_
         refine kA ?_
         refine qr4w2 AList.sub ?_
         refine kC ?_
         refine aB ?_)
      | (refine rG 13 ?_
         refine kD ?_
         refine kE ?_
         refine kA ?_
         refine aH rfl rfl rfl rfl Try.func42 rfl (by kernel_rfl) (hwo) ?_
         refine kC ?_
         refine aB ?_)
      | (refine AWp.draw (id := 14) mixed ?_; refine kA ?_; refine kD ?_; refine kE ?_; refine kD ?_; refine kE ?_; (iterate 2 refine kA ?_); refine qr8eo2 (aP (k := k) tyOk) ?_; refine qr7 (AList.fieldPl tyOk) ?_; refine AList.load1lE tyOk (e1) rfl rfl rfl rfl rfl oM ?_; (iterate 2 refine kF ?_); refine aH rfl rfl rfl rfl Try.func50 rfl (by kernel_rfl) (hcd) ?_; refine aB ⟨by kernel_rfl, ?_⟩))
     refine ⟨(i, w.1.getD i 0 :: kept), ⟨by dsimp only; omega, by dsimp only; rw [List.length_cons]; omega, fun v hv => ?_, hsr⟩, ?_, by dsimp only; omega⟩
     ·rcases List.mem_cons.1 hv with rfl | hv
      ·exact al1 i (by omega)
      ·exact hkm v hv
     ·dsimp only
      refine Wk.mk [(5, some 5), (7, some 7), (8, some 8), (16, some 16), (30, some 30)] rfl rfl rfl ?_ ?_
      ·exact allT
      ·exact allH
 | 0, hi, hik, hsr =>
 have hi0 : ¬ (0 : Int) ≤ ((0 : Nat) : Int) - 1 := by omega
 have hke : kept = A' := hsr
 subst hke
 rw [List.take_zero, List.nil_append]
 repeat (first
  | refine uA ?_
  | refine uB ?_
  | refine uC ?_
  | refine uH ?_
  | refine kU ?_
  | (refine rG 11 ?_
     refine kA ?_
     refine qr5f aJ ?_
     refine aB ?_)
  | (refine rG 16 ?_
     refine kD ?_
     refine kE ?_
     refine qr5 (aO tyOk) ?_
     refine qr4w2 AList.sub ?_
     refine kC ?_
     refine aB ?_))
 refine AWp.round (fun q : Nat × List Int =>
  mkSt 110 [(4, .c (wpC p)), (5, .c (.pt 5 3 0 0)), (7, .c (.pt 7 4 0 0)), (8, .c (.pt 8 4 0 0)), (13, .c (.ls L.length 2 (rowF mvC mvZ L))), (14, .c (.ow 30)), (15, .c (iC (k : Nat))), (16, .c (.pt 16 2 0 0)) , (19, .c (iC ((q.1 : Int) - 1)))] [(5, ⟨false, 1, 3, 31, lF (bpC a)⟩), (7, ⟨false, 1, 4, 33, lF (bgC x)⟩), (8, ⟨false, 1, 4, 33, lF (bgC y)⟩), (16, ⟨false, 1, 2, 62, lF [liV (kept), liV (w.2.take q.1 ++ q.2)]⟩), (30, wpB (shrK k))] [5, 7, 8, 16, 30]
  ) (fun q => q.1 ≤ w.2.length ∧ q.1 + q.2.length ≤ w.2.length ∧ (∀ v, v ∈ q.2 → aloB t v = true) ∧ shrI (fun l => decB s t tn M kept l) w.2 q.1 q.2 = B') (fun q => q.1) (w.2.length, []) ⟨Nat.le_refl _, by simp, (fun v hv => by cases hv), hB'⟩ ?_ (fun q hq => ?_)
 ·dsimp only
  rw [List.take_length, List.append_nil]
  refine Wk.mk [(5, some 5), (7, some 7), (8, some 8), (16, some 16), (30, some 30)] rfl rfl rfl ?_ ?_
  ·exact allT
  ·exact allH
 have hkA : ∀ j, j < kept.length → aloB s (kept.getD j 0) = true := fun j hj => hAm _ (by rw [List.getD_eq_getElem?_getD, List.getElem?_eq_getElem hj]; exact List.getElem_mem hj)
 obtain ⟨i, rest⟩ := q
 obtain ⟨hi, hik2, hkm2, hsr2⟩ := hq
 dsimp only at hi hik2 hkm2 hsr2 ⊢
 match i, hi, hik2, hsr2 with
 | i + 1, hi, hik2, hsr2 =>
   have hi0 : (0 : Int) ≤ ((i + 1 : Nat) : Int) - 1 := by omega
   have hcl : (w.2.take (i + 1) ++ rest).length = i + 1 + rest.length := by rw [List.length_append, List.length_take]; omega
   have hwo := without_A (w.2.take (i + 1) ++ rest) i (by omega) (by omega)
   rw [take_erase (by omega)] at hwo
   have hcd := cd kept (w.2.take i ++ rest) (by omega) (by rw [List.length_append, List.length_take]; omega) hkA (take_mem al2 hkm2)
   rw [show ((i : Nat) : Int) = ((i + 1 : Nat) : Int) - 1 by omega] at hwo
   unfold shrI at hsr2
   cases hdb : decB s t tn M kept (w.2.take i ++ rest) with
   | true =>
     rw [hdb] at hcd
     rw [if_pos hdb] at hsr2
     repeat (first
      | refine uA ?_
      | refine uB ?_
      | refine uC ?_
      | refine uG ?_
      | refine uD ?_
      | refine kT ?_
      | (refine rG 17 ?_
         refine kA ?_
         refine qr5t aK ?_
         refine aB ?_)
      | (refine rG 18 ?_
         refine kA ?_
         refine qr4w2 AList.sub ?_
         refine kC ?_
         refine aB ?_)
      | (refine rG 19 ?_
         refine kD ?_
         refine kE ?_
         refine kA ?_
         refine aH rfl rfl rfl rfl Try.func42 rfl (by kernel_rfl) (hwo) ?_
         refine kC ?_
         refine aB ?_)
      | (refine AWp.draw (id := 20) mixed ?_; refine kD ?_; refine kE ?_; refine kA ?_; refine kD ?_; refine kE ?_; (iterate 2 refine kA ?_); refine qr8eo2 (aP (k := k) tyOk) ?_; refine qr7 (AList.fieldPl tyOk) ?_; refine AList.load1lE tyOk (e1) rfl rfl rfl rfl rfl oM ?_; (iterate 2 refine kF ?_); refine aH rfl rfl rfl rfl Try.func50 rfl (by kernel_rfl) (hcd) ?_; refine aB ⟨by kernel_rfl, ?_⟩)
      | (refine rG 21 ?_
         refine kA ?_
         refine kD ?_
         refine kI ?_
         refine aB ?_))
     refine ⟨(i, rest), ⟨by dsimp only; omega, by dsimp only; omega, hkm2, hsr2⟩, ?_, by dsimp only; omega⟩
     dsimp only
     refine Wk.mk [(5, some 5), (7, some 7), (8, some 8), (16, some 16), (30, some 30)] rfl rfl rfl ?_ ?_
     ·exact allT
     ·exact allH
   | false =>
     rw [hdb] at hcd
     rw [if_neg (by rw [hdb]; decide)] at hsr2
     rw [take_cons (show i < w.2.length by omega)] at hwo ⊢
     repeat (first
      | refine uA ?_
      | refine uB ?_
      | refine uC ?_
      | refine uG ?_
      | refine uD ?_
      | refine kT ?_
      | refine kU ?_
      | (refine rG 17 ?_
         refine kA ?_
         refine qr5t aK ?_
         refine aB ?_)
      | (refine rG 18 ?_
         refine kA ?_
         refine qr4w2 AList.sub ?_
         refine kC ?_
         refine aB ?_)
      | (refine rG 19 ?_
         refine kD ?_
         refine kE ?_
         refine kA ?_
         refine aH rfl rfl rfl rfl Try.func42 rfl (by kernel_rfl) (hwo) ?_
         refine kC ?_
         refine aB ?_)
      | (refine AWp.draw (id := 20) mixed ?_; refine kD ?_; refine kE ?_; refine kA ?_; refine kD ?_; refine kE ?_; (iterate 2 refine kA ?_); refine qr8eo2 (aP (k := k) tyOk) ?_; refine qr7 (AList.fieldPl tyOk) ?_; refine AList.load1lE tyOk (e1) rfl rfl rfl rfl rfl oM ?_; (iterate 2 refine kF ?_); refine aH rfl rfl rfl rfl Try.func50 rfl (by kernel_rfl) (hcd) ?_; refine aB ⟨by kernel_rfl, ?_⟩))
     refine ⟨(i, w.2.getD i 0 :: rest), ⟨by dsimp only; omega, by dsimp only; rw [List.length_cons]; omega, fun v hv => ?_, hsr2⟩, ?_, by dsimp only; omega⟩
     ·rcases List.mem_cons.1 hv with rfl | hv
      ·exact al2 i (by omega)
      ·exact hkm2 v hv
     ·dsimp only
      refine Wk.mk [(5, some 5), (7, some 7), (8, some 8), (16, some 16), (30, some 30)] rfl rfl rfl ?_ ?_
      ·exact allT
      ·exact allH
 | 0, hi, hik2, hsr2 =>
 have hi0 : ¬ (0 : Int) ≤ ((0 : Nat) : Int) - 1 := by omega
 have hre : rest = B' := hsr2
 subst hre
 rw [List.take_zero, List.nil_append]
 have hBl := shr_len (fun l => decB s t tn M kept l) w.2 w.2.length []
 rw [hB', List.length_nil, Nat.add_zero] at hBl
 repeat (first
  | refine uA ?_
  | refine uB ?_
  | refine uH ?_
  | refine thenA_e ?_
  | refine uD ?_
  | refine uF ?_
  | refine kU ?_
  | (refine rG 8 ?_
     refine kA ?_
     refine qr4w2 aL ?_
     refine kC ?_
     refine aB ?_)
  | (refine rG 17 ?_
     refine kA ?_
     refine qr5f aJ ?_
     refine aB ?_)
  | (refine AWp.draw (id := 22) mixed ?_; refine kA ?_; refine qr7 (AList.emptySl tyOk) ?_; refine kD ?_; refine kE ?_; refine AList.appL0 tyOk rfl rfl rfl rfl rfl rfl rfl rfl rfl rfl oM oM ?_; refine qr7 (AList.emptySl tyOk) ?_; refine kD ?_; refine kE ?_; refine AList.appL0 tyOk rfl rfl rfl rfl rfl rfl rfl rfl rfl rfl oM oM ?_; refine qr8 (aX tyOk) ?_; refine qr11 (AList.litOw tyOk) ?_; refine AList.appO tyOk rfl rfl rfl rfl rfl rfl rfl rfl rfl rfl rfl oM oM ?_; refine kC ?_; refine aB ⟨by kernel_rfl, ?_⟩))
 have hlen : (shrK (k + 1)).length = (shrK k).length + 1 := by rw [hSk, List.length_append]; rfl
 refine ⟨k + 1, hkl, Wk.mk [(5, some 5), (7, some 7), (8, some 8), (30, some 108)] rfl rfl rfl ?_ ?_, by omega⟩
 ·exact allT
 ·refine ⟨hSm, hSm, hSm, .inr ⟨108, (shrK k).length + 1, _, .inl rfl, hlen, rfl, ?_⟩, trivial⟩
  show ∀ k', _ → ∀ j, _ → LeC _ _ _ (rowF wtC wtZ (shrK (k + 1)) k' j)
  rw [hSk]
  exact rows_ow (A1 := kept) (A2 := rest) rfl rfl (fun _ _ _ _ => ⟨rfl, rfl⟩) (fun _ _ _ _ => ⟨rfl, rfl⟩) rfl rfl
def few1 (w : Wt) : Wt := (w.1.take 60, w.2.take 60)
def fewV (p : List Wt) : List Wt := (p.take 90).map few1
abbrev cut60 (l : List Int) : CV := .ls (min l.length 60 - 0) 1 (fun k j => iF (fun i => l.getD i 0) (0 + k) j)
abbrev fwC (w : Wt) : List CV := [cut60 w.1, cut60 w.2]
theorem fwC_imm (w : Wt) : (fwC w).all immC = true := rfl
theorem cut60_cv (l : List Int) : Cv (cut60 l) (liV (l.take 60)) := fun σ O w u hu => by
 refine ⟨hu.1, ?_⟩
 have hn : (l.take 60).length = min l.length 60 - 0 := by rw [List.length_take]; omega
 show RepI O w (.ls (l.take 60).length 1 _) u
 rw [hn]
 refine RepI.ls_congr (fun k hk j hj => ?_) hu.2
 show CV.p (.int .i64 (l.getD (0 + k) 0)) = CV.p (.int .i64 ((l.take 60).getD k 0))
 rw [Nat.zero_add, List.getD_eq_getElem?_getD, List.getD_eq_getElem?_getD, List.getElem?_take_of_lt (by omega)]
theorem fewV_get (p : List Wt) {k : Nat} (hk : k < (p.take 90).length) : (fewV p).getD k wtZ = few1 ((p.take 90).getD k wtZ) := by
 unfold fewV
 rw [List.getD_eq_getElem?_getD, List.getD_eq_getElem?_getD, List.getElem?_map, List.getElem?_eq_getElem hk]
 rfl
theorem fewV_len (p : List Wt) : (fewV p).length = (p.take 90).length := List.length_map ..
set_option maxHeartbeats 2000000 in
set_option maxRecDepth 100000 in
theorem few_A (p : List Wt) (hp : p.length ≤ 4611686018427387904) (hl : ∀ k, k < p.length → (p.getD k wtZ).1.length ≤ 4611686018427387904 ∧ (p.getD k wtZ).2.length ≤ 4611686018427387904) : ACalls Try.prog 11 [.c (wpC p)] (.c (wpL (fewV p))) := by
 refine acalls_at Try.func11 rfl rfl Try.ntmps11 rfl ?_
 repeat (first
  | refine uA ?_
  | refine uB ?_
  | refine uC ?_
  | (refine rG 0 ?_
     refine kC ?_
     refine aB ?_)
  | (refine rG 1 ?_
     refine kC ?_
     refine aB ?_)
  | (refine rG 2 ?_
     refine kC ?_
     refine aB ?_))
 refine AWp.round (fun i : Nat => mkSt 46 [(0, .c (wpC p)), (3, .c (.ow 50)), (4, .c (iC i))] [(50, ⟨true, i, 2, 62, rowF fwC wtZ (p.take i)⟩)] [50])
  (fun i => i ≤ p.length ∧ i ≤ 90) (fun i => p.length - i) 0 ⟨Nat.zero_le _, Nat.zero_le _⟩ ?_ (fun i hi => ?_)
 ·refine Wk.mk [(50, none)] rfl rfl rfl ?_ ?_
  ·exact allT
  ·exact allH
 by_cases h1 : i < p.length ∧ i < 90
 ·obtain ⟨h1, h2⟩ := h1
  obtain ⟨l1, l2⟩ := hl i h1
  have h1' : (i : Int) < p.length := by omega
  have q1 : rowF wtC wtZ p i 0 = liV (p.getD i wtZ).1 := rfl
  have q2 : rowF wtC wtZ p i 1 = liV (p.getD i wtZ).2 := rfl
  have ht : p.take (i + 1) = p.take i ++ [p.getD i wtZ] := take_snocG h1 wtZ
  have hli : (p.take i).length = i := by rw [List.length_take]; omega
  generalize p.getD i wtZ = w at *
  have m1 : min (w.1.length : Int) 60 = ((min w.1.length 60 : Nat) : Int) := by omega
  have m2 : min (w.2.length : Int) 60 = ((min w.2.length 60 : Nat) : Int) := by omega
  have m3 : min w.1.length 60 ≤ w.1.length := by omega
  have m4 : min w.2.length 60 ≤ w.2.length := by omega
  repeat (first
   | refine uA ?_
   | refine uB ?_
   | refine uC ?_
   | refine uG ?_
   | refine uD ?_
   | refine kT ?_
   | (refine rG 3 ?_
      (iterate 2 refine kA ?_)
      refine qr5 (aO tyOk) ?_
      refine qr5t aK ?_
      (iterate 2 refine kA ?_)
      refine qr5t aK ?_
      refine qr4 aS ?_
      refine aB ?_)
   | (refine rG 4 ?_
      refine kA ?_
      refine qr4w2 aL ?_
      refine kC ?_
      refine aB ?_)
   | (refine AWp.draw (id := 5) mixed ?_; (iterate 3 refine kA ?_); refine qr8eo2 (aP (k := i) tyOk) ?_; refine qr7 (AList.fieldPl tyOk) ?_; refine AList.load1lE tyOk (q1) rfl rfl rfl rfl rfl oM ?_; (iterate 2 refine kA ?_); refine qr8eo2 (aP (k := i) tyOk) ?_; refine qr7 (AList.fieldPl tyOk) ?_; refine AList.load1lE tyOk (q1) rfl rfl rfl rfl rfl oM ?_; refine qr5 (aO tyOk) ?_; refine qr4 AList.minI ?_; refine AList.cut (l := 0) (h := min w.1.length 60) tyOk rfl rfl rfl rfl rfl rfl rfl rfl ⟨_, _, rfl, by first | rfl | omega⟩ (by omega) (by omega) ?_; (iterate 2 refine kA ?_); refine qr8eo2 (aP (k := i) tyOk) ?_; refine qr7 (AList.fieldPl tyOk) ?_; refine AList.load1lE tyOk (q2) rfl rfl rfl rfl rfl oM ?_; (iterate 2 refine kA ?_); refine qr8eo2 (aP (k := i) tyOk) ?_; refine qr7 (AList.fieldPl tyOk) ?_; refine AList.load1lE tyOk (q2) rfl rfl rfl rfl rfl oM ?_; refine qr5 (aO tyOk) ?_; refine qr4 AList.minI ?_; refine AList.cut (l := 0) (h := min w.2.length 60) tyOk rfl rfl rfl rfl rfl rfl rfl rfl ⟨_, _, rfl, by first | rfl | omega⟩ (by omega) (by omega) ?_; refine qr8 (aX tyOk) ?_; refine qr11 (AList.litSl tyOk) ?_; refine AList.appL tyOk rfl rfl rfl rfl rfl rfl rfl rfl rfl rfl oM oM ?_; refine kC ?_; refine aB ⟨by kernel_rfl, ?_⟩))
  refine ⟨i + 1, ⟨h1, h2⟩, Wk.mk [(50, some 44)] rfl rfl rfl ?_ ?_, by omega⟩
  ·exact allT
  ·refine ⟨HeapOk.row rfl rfl rfl ?_, trivial⟩
   have := row_snoc (c := fwC) (z := wtZ) (sz := 2) (p.take i) w fwC_imm rfl
   rw [hli] at this
   rw [ht]
   exact this
 ·have hcv : ∀ k, k < i → ∀ j, j < 2 → Cv (rowF fwC wtZ (p.take i) k j) (rowF wtC wtZ (fewV p) k j) := fun k hk j hj => by
   have hti : p.take i = p.take 90 := by
    rcases Nat.lt_or_ge i 90 with h | h
    ·have : p.length ≤ i := by omega
     rw [List.take_of_length_le this, List.take_of_length_le (by omega)]
    ·rw [show i = 90 by omega]
   have hli : (p.take i).length = i := by rw [List.length_take]; omega
   have hg := fewV_get p (k := k) (by rw [← hti, hli]; exact hk)
   rw [hti]
   unfold rowF
   rw [hg]
   match j, hj with
   | 0, _ => exact cut60_cv _
   | 1, _ => exact cut60_cv _
  have hlen : i = (fewV p).length := by rw [fewV_len, List.length_take]; omega
  by_cases h2 : (i : Int) < p.length
  ·have h3 : ¬ (i : Int) < 90 := by omega
   repeat (first
    | refine uA ?_
    | refine uB ?_
    | refine uH ?_
    | refine kU ?_
    | (refine rG 3 ?_
       (iterate 2 refine kA ?_)
       refine qr5 (aO tyOk) ?_
       refine qr5t aK ?_
       (iterate 2 refine kA ?_)
       refine qr5f aJ ?_
       refine qr4 aS ?_
       refine aB ?_))
   refine AWp.cvBox (id := 50) (rowF wtC wtZ (fewV p)) rfl rfl hcv ?_
   repeat (first
    | refine uB ?_
    | refine AWp.ret ?_
    | (refine rG 6 ?_
       refine kA ?_
       refine kC ?_
       refine aB ?_))
   refine ⟨mkSt 46 [(2, .c (wpL (fewV p)))] [] [], [], Wk.mk [] rfl rfl rfl ?_ trivial, rfl, rfl, aR1⟩
   exact ⟨⟨_, rfl, .c (LeC.fz rfl rfl hlen.symm (fun i _ j _ => ⟨rfl, rowF_imm wtC_imm _ i j⟩))⟩, trivial⟩
  ·repeat (first
    | refine uA ?_
    | refine uB ?_
    | refine uH ?_
    | refine kU ?_
    | (refine rG 3 ?_
       (iterate 2 refine kA ?_)
       refine qr5 (aO tyOk) ?_
       refine qr5f aJ ?_
       refine kA ?_
       (iterate 2 refine qr2 aG ?_)
       refine qr4 aR ?_
       refine aB ?_))
   refine AWp.cvBox (id := 50) (rowF wtC wtZ (fewV p)) rfl rfl hcv ?_
   repeat (first
    | refine uB ?_
    | refine AWp.ret ?_
    | (refine rG 6 ?_
       refine kA ?_
       refine kC ?_
       refine aB ?_))
   refine ⟨mkSt 46 [(2, .c (wpL (fewV p)))] [] [], [], Wk.mk [] rfl rfl rfl ?_ trivial, rfl, rfl, aR1⟩
   exact ⟨⟨_, rfl, .c (LeC.fz rfl rfl hlen.symm (fun i _ j _ => ⟨rfl, rowF_imm wtC_imm _ i j⟩))⟩, trivial⟩
theorem few_ok (p : List Wt) (hr : ∀ k, k < p.length → (∀ i, i < (p.getD k wtZ).1.length → iOk ((p.getD k wtZ).1.getD i 0)) ∧ ∀ i, i < (p.getD k wtZ).2.length → iOk ((p.getD k wtZ).2.getD i 0)) : PrR (fewV p) ∧ (fewV p).length ≤ 90 := by
 have hl := fewV_len p
 rw [List.length_take] at hl
 have tk : ∀ l : List Int, (∀ i, i < l.length → iOk (l.getD i 0)) → lOk (l.take 60) := fun l hl => by
  refine ⟨by rw [List.length_take]; omega, fun k hk => ?_⟩
  rw [List.length_take] at hk
  rw [List.getD_eq_getElem?_getD, List.getElem?_take_of_lt (by omega), ← List.getD_eq_getElem?_getD]
  exact hl k (by omega)
 refine ⟨⟨by omega, fun k hk => ?_⟩, by omega⟩
 have hk9 : k < (p.take 90).length := by rw [← fewV_len]; exact hk
 rw [fewV_get p hk9]
 rw [List.length_take] at hk9
 obtain ⟨h1, h2⟩ := hr k (by omega)
 rw [List.getD_eq_getElem?_getD, List.getElem?_take_of_lt (by omega), ← List.getD_eq_getElem?_getD]
 exact ⟨tk _ h1, tk _ h2⟩
end Go.Proofs.Ytekkldgmjdllbaa
end
