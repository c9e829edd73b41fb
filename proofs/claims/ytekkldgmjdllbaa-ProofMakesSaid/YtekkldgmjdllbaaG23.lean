/- Parts of the proof: A25h, A25i, A25j. -/
import Derived.Test.YtekkldgmjdllbaaG22
import Derived.Test.YtekkldgmjdllbaaG18
set_option linter.unusedSimpArgs false
set_option linter.unusedVariables false
section
namespace Go.Proofs.Ytekkldgmjdllbaa
open Go.RowKit Go.Flow Go.AV Go.Plain
abbrev wpL (p : List Wt) : CV := .ls p.length 2 (rowF wtC wtZ p)
abbrev wpB (p : List Wt) : AB := ⟨true, p.length, 2, 62, rowF wtC wtZ p⟩
theorem mkL_take (a b : Bp) (x y : Bg) (L : List (Int × Int)) {k : Nat} (hk : k < L.length) : mkL25 a b x y (L.take (k + 1)) = mkL25 a b x y (L.take k) ++ [(aloL (sd1 a b x y (L.getD k mvZ)), aloL (sd2 a b x y (L.getD k mvZ)))] := by
 unfold mkL25
 rw [List.take_add_one, List.getElem?_eq_getElem hk, List.map_append, List.getD_eq_getElem?_getD, List.getElem?_eq_getElem hk]
 rfl
theorem mkL_len (a b : Bp) (x y : Bg) (L : List (Int × Int)) {k : Nat} (hk : k ≤ L.length) : (mkL25 a b x y (L.take k)).length = k := by
 unfold mkL25
 rw [List.length_map, List.length_take]
 omega
set_option maxHeartbeats 4000000 in
set_option maxRecDepth 100000 in
theorem rMake_A (a b : Bp) (x y : Bg) : ACalls Try.prog 12 [.ag (bpC a), .ag (bpC b), .ag (bgC x), .ag (bgC y)] (.tu [.c (wpL (mkV a b x y).1), .c (iC (mkV a b x y).2)]) := by
 have hsz := rsizes_A a b
 have hC := rConfused_A a b x y
 have hS := rShifts_A x y
 have hsb := fun k hk => shN_bd (x := x) (y := y) (k := k) hk
 by_cases h0 : szV a b = 0
 rotate_left
 ·rw [show mkV a b x y = ([], szV a b) from if_neg h0]
  refine acalls_at Try.func12 rfl rfl Try.ntmps12 rfl ?_
  repeat (first
   | refine uA ?_
   | refine uB ?_
   | refine AWp.ret ?_
   | refine thenA_r ?_
   | refine kT ?_
   | (refine rG 0 ?_
      (iterate 4 refine qr5 aQ ?_)
      (iterate 2 refine kC ?_)
      refine aB ?_)
   | (refine rG 1 ?_
      (iterate 2 refine kF ?_)
      refine aH rfl rfl rfl rfl Try.func38 rfl (by kernel_rfl) (hsz) ?_
      refine kC ?_
      refine aB ?_)
   | (refine rG 2 ?_
      refine kA ?_
      refine qr5t aK ?_
      refine aB ?_)
   | (refine rG 3 ?_
      refine kA ?_
      (iterate 2 refine kC ?_)
      refine aB ?_))
  refine ⟨mkSt 73 [(8, .c (wpL ([]))), (9, .c (iC (szV a b)))] [] [], [], Wk.mk [] rfl rfl rfl ?_ trivial, rfl, rfl, ARets.two (x := .c _) (y := .c _) (ARes.tmp rfl rfl) (ARes.tmp rfl rfl)⟩
  exact allT
 rw [h0] at hsz
 obtain ⟨ha, hb, hW, hH⟩ := (szV_ok a b).1 h0
 have hmk : mkV a b x y = if (cnfV a b x y).2 = true then ([], 60) else (mkL25 a b x y (shL (shN x y)), 0) := if_pos h0
 cases hcf : (cnfV a b x y).2 with
 | true =>
   rw [hmk, if_pos hcf]
   rw [hcf] at hC
   refine acalls_at Try.func12 rfl rfl Try.ntmps12 rfl ?_
   repeat (first
    | refine uA ?_
    | refine uB ?_
    | refine uG ?_
    | refine AWp.ret ?_
    | refine thenA_r ?_
    | refine kT ?_
    | refine kU ?_
    | (refine rG 0 ?_
       (iterate 4 refine qr5 aQ ?_)
       (iterate 2 refine kC ?_)
       refine aB ?_)
    | (refine rG 1 ?_
       (iterate 2 refine kF ?_)
       refine aH rfl rfl rfl rfl Try.func38 rfl (by kernel_rfl) (hsz) ?_
       refine kC ?_
       refine aB ?_)
    | (refine rG 2 ?_
       refine kA ?_
       refine qr5 aW ?_
       refine aB ?_)
    | (refine rG 4 ?_
       (iterate 4 refine kF ?_)
       refine aH rfl rfl rfl rfl Try.func39 rfl (by kernel_rfl) (hC) ?_
       refine kA ?_
       (iterate 2 refine qr4 aN ?_)
       refine qr5 (aM tyOk) ?_
       refine kI ?_
       refine kC ?_
       refine aB ?_)
    | (refine rG 5 ?_
       refine kA ?_
       refine aB ?_)
    | (refine rG 6 ?_
       (iterate 2 refine kC ?_)
       refine aB ?_))
   refine ⟨mkSt 73 [(8, .c (wpL ([]))), (9, .c (iC (60)))] [] [], [], Wk.mk [] rfl rfl rfl ?_ trivial, rfl, rfl, ARets.two (x := .c _) (y := .c _) (ARes.tmp rfl rfl) (ARes.tmp rfl rfl)⟩
   exact allT
 | false =>
 rw [hmk, if_neg (by rw [hcf]; decide)]
 rw [hcf] at hC
 have hL9 : (shL (shN x y)).length ≤ 81 := by
  obtain ⟨-, hm⟩ := shN_eq x y
  rw [shL_len hm]
  have h9 : 2 * shN x y + 1 ≤ 9 := by omega
  exact Nat.mul_le_mul h9 h9
 obtain ⟨L, hL⟩ : ∃ L, shL (shN x y) = L := ⟨_, rfl⟩
 rw [hL] at hS hsb hL9 ⊢
 refine acalls_at Try.func12 rfl rfl Try.ntmps12 rfl ?_
 repeat (first
  | refine uA ?_
  | refine uB ?_
  | refine uC ?_
  | refine uG ?_
  | refine kU ?_
  | (refine rG 0 ?_
     (iterate 4 refine qr5 aQ ?_)
     (iterate 2 refine kC ?_)
     refine aB ?_)
  | (refine rG 1 ?_
     (iterate 2 refine kF ?_)
     refine aH rfl rfl rfl rfl Try.func38 rfl (by kernel_rfl) (hsz) ?_
     refine kC ?_
     refine aB ?_)
  | (refine rG 2 ?_
     refine kA ?_
     refine qr5 aW ?_
     refine aB ?_)
  | (refine rG 4 ?_
     (iterate 4 refine kF ?_)
     refine aH rfl rfl rfl rfl Try.func39 rfl (by kernel_rfl) (hC) ?_
     refine kA ?_
     (iterate 2 refine qr4 aN ?_)
     refine qr5 (aM tyOk) ?_
     refine kI ?_
     refine kC ?_
     refine aB ?_)
  | (refine rG 5 ?_
     refine kA ?_
     refine aB ?_)
  | (refine rG 7 ?_
     (iterate 2 refine kF ?_)
     refine aH rfl rfl rfl rfl Try.func40 rfl (by kernel_rfl) (hS) ?_
     refine kC ?_
     refine aB ?_)
  | (refine rG 8 ?_
     refine kC ?_
     refine aB ?_)
  | (refine rG 9 ?_
     refine kC ?_
     refine aB ?_))
 refine AWp.round (fun k : Nat => mkSt 73 [(4, .c (.pt 4 3 0 0)), (5, .c (.pt 5 3 0 0)), (13, .c (.ls L.length 2 (rowF mvC mvZ L))), (14, .c (.ow 30)), (15, .c (iC k))] [(4, ⟨false, 1, 3, 31, lF (bpC a)⟩), (5, ⟨false, 1, 3, 31, lF (bpC b)⟩), (30, wpB (mkL25 a b x y (L.take k)))] [4, 5, 30])
  (fun k => k ≤ L.length) (fun k => L.length - k) 0 (Nat.zero_le _) ?_ (fun k hk => ?_)
 ·refine Wk.mk [(4, some 4), (5, some 5), (30, none)] rfl rfl rfl ?_ ?_
  ·exact allT
  ·exact allH
 have hkn := mkL_len a b x y L hk
 by_cases hkl : k < L.length
 ·have hkl' : (k : Int) < L.length := by omega
  have hd := hsb k hkl
  have p1 := ralone_A (sd1 a b x y (L.getD k mvZ)) ha hb hd.1 hd.2
  have p2 := ralone_A (sd2 a b x y (L.getD k mvZ)) hb ha (by show -4 ≤ -(L.getD k mvZ).1 ∧ -(L.getD k mvZ).1 ≤ 4; omega) (by show -4 ≤ -(L.getD k mvZ).2 ∧ -(L.getD k mvZ).2 ≤ 4; omega)
  have htk := mkL_take a b x y L hkl
  have hlen : (mkL25 a b x y (L.take (k + 1))).length = (mkL25 a b x y (L.take k)).length + 1 := by rw [htk, List.length_append]; rfl
  have e1 : rowF mvC mvZ L k 0 = iC (L.getD k mvZ).1 := rfl
  have e2 : rowF mvC mvZ L k 1 = iC (L.getD k mvZ).2 := rfl
  have hd1 := hd.1
  have hd2 := hd.2
  rw [show (sd1 a b x y (L.getD k mvZ)).dx = (L.getD k mvZ).1 from rfl, show (sd1 a b x y (L.getD k mvZ)).dy = (L.getD k mvZ).2 from rfl] at p1
  rw [show (sd2 a b x y (L.getD k mvZ)).dx = -(L.getD k mvZ).1 from rfl, show (sd2 a b x y (L.getD k mvZ)).dy = -(L.getD k mvZ).2 from rfl] at p2
  generalize aloL (sd1 a b x y (L.getD k mvZ)) = A1 at p1 htk
  generalize aloL (sd2 a b x y (L.getD k mvZ)) = A2 at p2 htk
  generalize (L.getD k mvZ).1 = u at *
  generalize (L.getD k mvZ).2 = v at *
  repeat (first
   | refine uA ?_
   | refine uB ?_
   | refine uC ?_
   | refine uG ?_
   | refine uD ?_
   | refine kT ?_
   | (refine rG 10 ?_
      (iterate 2 refine kA ?_)
      refine qr5 (aO tyOk) ?_
      refine qr5t aK ?_
      refine aB ?_)
   | (refine rG 11 ?_
      refine kA ?_
      refine qr4w2 aL ?_
      refine kC ?_
      refine aB ?_)
   | (refine AWp.draw (id := 12) mixed ?_; refine kA ?_; (iterate 2 refine kF ?_); (iterate 2 refine kA ?_); refine qr8eo2 (aP (k := k) tyOk) ?_; refine qr7 (AList.fieldPl tyOk) ?_; refine AList.load1lE tyOk (e1) rfl rfl rfl rfl rfl oM ?_; (iterate 2 refine kA ?_); refine qr8eo2 (aP (k := k) tyOk) ?_; refine qr7 (AList.fieldPl tyOk) ?_; refine AList.load1lE tyOk (e2) rfl rfl rfl rfl rfl oM ?_; refine aH rfl rfl rfl rfl Try.func41 rfl (by kernel_rfl) (p1) ?_; (iterate 2 refine kF ?_); (iterate 2 refine kA ?_); refine qr8eo2 (aP (k := k) tyOk) ?_; refine qr7 (AList.fieldPl tyOk) ?_; refine AList.load1lE tyOk (e1) rfl rfl rfl rfl rfl oM ?_; refine qr3w2 AList.neg ?_; (iterate 2 refine kA ?_); refine qr8eo2 (aP (k := k) tyOk) ?_; refine qr7 (AList.fieldPl tyOk) ?_; refine AList.load1lE tyOk (e2) rfl rfl rfl rfl rfl oM ?_; refine qr3w2 AList.neg ?_; refine aH rfl rfl rfl rfl Try.func41 rfl (by kernel_rfl) (p2) ?_; refine qr8 (aX tyOk) ?_; refine qr11 (AList.litSl tyOk) ?_; refine AList.appL tyOk rfl rfl rfl rfl rfl rfl rfl rfl rfl rfl oM oM ?_; refine kC ?_; refine aB ⟨by kernel_rfl, ?_⟩))
  refine ⟨k + 1, hkl, Wk.mk [(4, some 4), (5, some 5), (30, some 71)] rfl rfl rfl ?_ ?_, by omega⟩
  ·exact allT
  ·refine ⟨hSm, hSm, HeapOk.row rfl rfl hlen ?_, trivial⟩
   rw [htk]
   exact row_snoc (c := wtC) (z := wtZ) (mkL25 a b x y (L.take k)) (A1, A2) wtC_imm rfl
 have hkl' : ¬ (k : Int) < L.length := by omega
 obtain rfl : k = L.length := by omega
 rw [List.take_length]
 repeat (first
  | refine uA ?_
  | refine uB ?_
  | refine uH ?_
  | refine AWp.ret ?_
  | refine kU ?_
  | (refine rG 10 ?_
     (iterate 2 refine kA ?_)
     refine qr5 (aO tyOk) ?_
     refine qr5f aJ ?_
     refine aB ?_)
  | (refine rG 13 ?_
     refine kA ?_
     (iterate 2 refine kC ?_)
     refine aB ?_))
 refine ⟨mkSt 73 [(8, .c (wpL (mkL25 a b x y L))), (9, .c (iC (0)))] [] [], [], Wk.mk [] rfl rfl rfl ?_ trivial, rfl, rfl, ARets.two (x := .c _) (y := .c _) (ARes.tmp rfl rfl) (ARes.tmp rfl rfl)⟩
 exact ⟨⟨_, rfl, .c (LeC.fz rfl rfl rfl (fun i _ j _ => ⟨rfl, rowF_imm wtC_imm _ i j⟩))⟩, ⟨_, rfl, .c (LeC.refl _ rfl)⟩, trivial⟩
theorem erase_get {l : List Int} {k i : Nat} (hk : k < l.length) : appF (fun i j => iF (fun j => l.getD j 0) (0 + i) j) (k - 0) (fun i j => iF (fun j => l.getD j 0) (k + 1 + i) j) i 0 = iC ((l.eraseIdx k).getD i 0) := by
 unfold appF
 rw [Nat.sub_zero]
 by_cases h : i < k
 ·rw [Nat.blt_eq.mpr h, List.getD_eq_getElem?_getD, List.getElem?_eraseIdx, if_pos h]
  show iC (l.getD (0 + i) 0) = _
  rw [Nat.zero_add, List.getD_eq_getElem?_getD]
 ·rw [show Nat.blt i k = false from Bool.eq_false_iff.2 fun h' => h (Nat.blt_eq.mp h'), List.getD_eq_getElem?_getD, List.getElem?_eraseIdx, if_neg h]
  show iC (l.getD (k + 1 + (i - k)) 0) = _
  rw [show k + 1 + (i - k) = i + 1 by omega, List.getD_eq_getElem?_getD]
set_option maxHeartbeats 1000000 in
set_option maxRecDepth 100000 in
theorem without_A (l : List Int) (k : Nat) (hk : k < l.length) (hl : l.length ≤ 1000000) : ACalls Try.prog 42 [.c (liV l), .c (iC k)] (.c (liV (l.eraseIdx k))) := by
 refine acalls_at Try.func42 rfl rfl Try.ntmps42 rfl ?_
 repeat (first
  | refine uA ?_
  | refine uB ?_
  | refine AWp.ret ?_
  | (refine rG 0 ?_
     refine kC ?_
     refine aB ?_)
  | (refine AWp.draw (id := 1) mixed ?_; refine qr7 (AList.emptySl tyOk) ?_; (iterate 2 refine kA ?_); refine AList.cut (l := 0) (h := k) tyOk rfl rfl rfl rfl rfl rfl rfl rfl ⟨_, _, rfl, by first | rfl | omega⟩ (by omega) (by omega) ?_; refine AList.appL0 tyOk rfl rfl rfl rfl rfl rfl rfl rfl rfl rfl oM oM ?_; (iterate 2 refine kA ?_); refine qr4w2 aL ?_; refine AList.cut (l := k + 1) (h := l.length) tyOk rfl rfl rfl rfl rfl rfl rfl ⟨_, _, rfl, by first | rfl | omega⟩ rfl (by omega) (by omega) ?_; refine AList.appL tyOk rfl rfl rfl rfl rfl rfl rfl rfl rfl rfl oM oM ?_; refine kC ?_; refine aB ⟨by kernel_rfl, ?_⟩))
 refine ⟨mkSt 15 [(4, .c (liV (l.eraseIdx k)))] [] [], [], Wk.mk [] rfl rfl rfl ?_ trivial, rfl, rfl, aR1⟩
 have hle : (l.eraseIdx k).length = k + (l.length - (k + 1)) := by rw [List.length_eraseIdx, if_pos hk]; omega
 refine ⟨⟨_, rfl, .c (LeC.fz rfl rfl ?_ (fun i hi j hj => ?_))⟩, trivial⟩
 ·exact hle
 ·obtain rfl : j = 0 := Nat.lt_one_iff.mp hj
  have := erase_get hk (i := i)
  exact ⟨this, by rw [show appF _ _ _ i 0 = _ from this]; rfl⟩
set_option maxHeartbeats 4000000 in
set_option maxRecDepth 100000 in
theorem rCheck25_A (a b : Bp) (x y : Bg) (p : List Wt) (hp : PrOk p) : ACalls Try.prog 15 [.ag (bpC a), .ag (bpC b), .ag (bgC x), .ag (bgC y), .c (wpC p)] (.c (iC (chkV a b x y p))) := by
 have hsz := rsizes_A a b
 by_cases h0 : szV a b = 0
 rotate_left
 ·rw [show chkV a b x y p = szV a b from if_neg h0]
  refine acalls_at Try.func15 rfl rfl Try.ntmps15 rfl ?_
  repeat (first
   | refine uA ?_
   | refine uB ?_
   | refine AWp.ret ?_
   | refine thenA_r ?_
   | refine kT ?_
   | (refine rG 0 ?_
      (iterate 4 refine qr5 aQ ?_)
      refine kC ?_
      refine aB ?_)
   | (refine rG 1 ?_
      (iterate 2 refine kF ?_)
      refine aH rfl rfl rfl rfl Try.func38 rfl (by kernel_rfl) (hsz) ?_
      refine kC ?_
      refine aB ?_)
   | (refine rG 2 ?_
      refine kA ?_
      refine qr5t aK ?_
      refine aB ?_)
   | (refine rG 3 ?_
      refine kA ?_
      refine kC ?_
      refine aB ?_))
  refine ⟨mkSt 100 [(10, .c (iC (szV a b)))] [] [], [], Wk.mk [] rfl rfl rfl ?_ trivial, rfl, rfl, aR1⟩
  exact allT
 rw [h0] at hsz
 have hcm := (szV_ok a b).1 h0
 obtain ⟨ha, hb, hW, hH⟩ := id hcm
 have hsh := rShifts_A x y
 have hchk : chkV a b x y p = if (shL (shN x y)).length = p.length ∧ prfB a b x y p = true then 0 else 62 := if_pos h0
 by_cases hl : (shL (shN x y)).length = p.length
 rotate_left
 ·rw [hchk, if_neg fun h => hl h.1]
  have hl' : ¬ (p.length : Int) = (shL (shN x y)).length := by omega
  refine acalls_at Try.func15 rfl rfl Try.ntmps15 rfl ?_
  repeat (first
   | refine uA ?_
   | refine uB ?_
   | refine uG ?_
   | refine AWp.ret ?_
   | refine thenA_r ?_
   | refine kT ?_
   | refine kU ?_
   | (refine rG 0 ?_
      (iterate 4 refine qr5 aQ ?_)
      refine kC ?_
      refine aB ?_)
   | (refine rG 1 ?_
      (iterate 2 refine kF ?_)
      refine aH rfl rfl rfl rfl Try.func38 rfl (by kernel_rfl) (hsz) ?_
      refine kC ?_
      refine aB ?_)
   | (refine rG 2 ?_
      refine kA ?_
      refine qr5 aW ?_
      refine aB ?_)
   | (refine rG 4 ?_
      (iterate 2 refine kF ?_)
      refine aH rfl rfl rfl rfl Try.func40 rfl (by kernel_rfl) (hsh) ?_
      refine kC ?_
      refine aB ?_)
   | (refine rG 5 ?_
      refine kA ?_
      refine qr5 (aO tyOk) ?_
      refine kA ?_
      refine qr5 (aO tyOk) ?_
      refine qr5t aK ?_
      refine aB ?_)
   | (refine rG 6 ?_
      refine kC ?_
      refine aB ?_))
  refine ⟨mkSt 100 [(10, .c (iC (62)))] [] [], [], Wk.mk [] rfl rfl rfl ?_ trivial, rfl, rfl, aR1⟩
  exact allT
 have hl' : (p.length : Int) = (shL (shN x y)).length := by omega
 have hbad : ∀ k, k < (shL (shN x y)).length → wtOk a b x y ((shL (shN x y)).getD k mvZ) (p.getD k wtZ) = false → chkV a b x y p = 62 := fun k hk h => by
  rw [hchk, if_neg fun g => by rw [prfB_no hk h] at g; exact absurd g.2 (by decide)]
 have hgood : (∀ k, k < (shL (shN x y)).length → wtOk a b x y ((shL (shN x y)).getD k mvZ) (p.getD k wtZ) = true) → chkV a b x y p = 0 := fun h => by
  rw [hchk, if_pos ⟨hl, prfB_yes h⟩]
 have hsb := fun k hk => shN_bd (x := x) (y := y) (k := k) hk
 obtain ⟨r, hr⟩ : ∃ r, chkV a b x y p = r := ⟨_, rfl⟩
 rw [hr] at hbad hgood ⊢
 clear hchk
 obtain ⟨L, hL⟩ : ∃ L, shL (shN x y) = L := ⟨_, rfl⟩
 rw [hL] at hsh hl hl' hbad hgood hsb
 have hLp : L.length ≤ 1000000 := by have := hp.1; omega
 refine acalls_at Try.func15 rfl rfl Try.ntmps15 rfl ?_
 repeat (first
  | refine uA ?_
  | refine uB ?_
  | refine uC ?_
  | refine uG ?_
  | refine kU ?_
  | (refine rG 0 ?_
     (iterate 4 refine qr5 aQ ?_)
     refine kC ?_
     refine aB ?_)
  | (refine rG 1 ?_
     (iterate 2 refine kF ?_)
     refine aH rfl rfl rfl rfl Try.func38 rfl (by kernel_rfl) (hsz) ?_
     refine kC ?_
     refine aB ?_)
  | (refine rG 2 ?_
     refine kA ?_
     refine qr5 aW ?_
     refine aB ?_)
  | (refine rG 4 ?_
     (iterate 2 refine kF ?_)
     refine aH rfl rfl rfl rfl Try.func40 rfl (by kernel_rfl) (hsh) ?_
     refine kC ?_
     refine aB ?_)
  | (refine rG 5 ?_
     refine kA ?_
     refine qr5 (aO tyOk) ?_
     refine kA ?_
     refine qr5 (aO tyOk) ?_
     refine qr5f aJ ?_
     refine aB ?_)
  | (refine rG 7 ?_
     refine kC ?_
     refine aB ?_))
 refine AWp.round (fun k : Nat =>
  mkSt 100 [(4, .c (wpC p)), (5, .c (.pt 5 3 0 0)), (6, .c (.pt 6 3 0 0)), (7, .c (.pt 7 4 0 0)), (8, .c (.pt 8 4 0 0)), (12, .c (.ls L.length 2 (rowF mvC mvZ L))), (13, .c (iC k))] [(5, ⟨false, 1, 3, 31, lF (bpC a)⟩), (6, ⟨false, 1, 3, 31, lF (bpC b)⟩), (7, ⟨false, 1, 4, 33, lF (bgC x)⟩), (8, ⟨false, 1, 4, 33, lF (bgC y)⟩)] [5, 6, 7, 8]
  ) (fun k => k ≤ L.length ∧ ∀ j, j < k → wtOk a b x y (L.getD j mvZ) (p.getD j wtZ) = true) (fun k => L.length - k) 0 ⟨Nat.zero_le _, fun _ h => absurd h (Nat.not_lt_zero _)⟩ ?_ (fun k hk => ?_)
 ·refine Wk.mk [(5, some 5), (6, some 6), (7, some 7), (8, some 8)] rfl rfl rfl ?_ ?_
  ·exact allT
  ·exact allH
 obtain ⟨hk, hall⟩ := hk
 by_cases hkl : k < L.length
 rotate_left
 ·have hkl' : ¬ (k : Int) < L.length := by omega
  rw [hgood fun j hj => hall j (by omega)]
  repeat (first
   | refine uA ?_
   | refine uB ?_
   | refine uH ?_
   | refine AWp.ret ?_
   | refine kU ?_
   | (refine rG 8 ?_
      (iterate 2 refine kA ?_)
      refine qr5 (aO tyOk) ?_
      refine qr5f aJ ?_
      refine aB ?_)
   | (refine rG 13 ?_
      refine kC ?_
      refine aB ?_))
  refine ⟨mkSt 100 [(10, .c (iC (0)))] [] [], [], Wk.mk [] rfl rfl rfl ?_ trivial, rfl, rfl, aR1⟩
  exact allT
 have hkl' : (k : Int) < L.length := by omega
 have hd := hsb k hkl
 have hbadk := hbad k hkl
 obtain ⟨hl1, hl2⟩ := hp.2 k (by omega)
 have hwt : wtOk a b x y (L.getD k mvZ) (p.getD k wtZ) = (okL (sd1 a b x y (L.getD k mvZ)) (p.getD k wtZ).1 && (okL (sd2 a b x y (L.getD k mvZ)) (p.getD k wtZ).2 && decB (sd1 a b x y (L.getD k mvZ)) (sd2 a b x y (L.getD k mvZ)) (stN a.W x y).toNat (alM a.W x y) (p.getD k wtZ).1 (p.getD k wtZ).2)) := rfl
 have c1 := listed_A (sd1 a b x y (L.getD k mvZ)) (p.getD k wtZ).1 ha hb hd.1 hd.2 hl1
 have c2 := listed_A (sd2 a b x y (L.getD k mvZ)) (p.getD k wtZ).2 hb ha (by show -4 ≤ -(L.getD k mvZ).1 ∧ -(L.getD k mvZ).1 ≤ 4; omega) (by show -4 ≤ -(L.getD k mvZ).2 ∧ -(L.getD k mvZ).2 ≤ 4; omega) hl2
 have cd := rdecides_A a b x y (L.getD k mvZ) (p.getD k wtZ).1 (p.getD k wtZ).2 hcm hd.1 hl1 hl2
 have e1 : rowF mvC mvZ L k 0 = iC (L.getD k mvZ).1 := rfl
 have e2 : rowF mvC mvZ L k 1 = iC (L.getD k mvZ).2 := rfl
 have q1 : rowF wtC wtZ p k 0 = liV (p.getD k wtZ).1 := rfl
 have q2 : rowF wtC wtZ p k 1 = liV (p.getD k wtZ).2 := rfl
 have hd1 := hd.1
 have hd2 := hd.2
 rw [show (sd1 a b x y (L.getD k mvZ)).dx = (L.getD k mvZ).1 from rfl, show (sd1 a b x y (L.getD k mvZ)).dy = (L.getD k mvZ).2 from rfl, show (sd1 a b x y (L.getD k mvZ)).o = a from rfl, show (sd1 a b x y (L.getD k mvZ)).p = b from rfl] at c1
 rw [show (sd2 a b x y (L.getD k mvZ)).dx = -(L.getD k mvZ).1 from rfl, show (sd2 a b x y (L.getD k mvZ)).dy = -(L.getD k mvZ).2 from rfl, show (sd2 a b x y (L.getD k mvZ)).o = b from rfl, show (sd2 a b x y (L.getD k mvZ)).p = a from rfl] at c2
 cases hA : okL (sd1 a b x y (L.getD k mvZ)) (p.getD k wtZ).1 with
 | false =>
   rw [hA, Bool.false_and] at hwt
   rw [hA] at c1
   rw [hbadk hwt]
   repeat (first
    | refine uA ?_
    | refine uB ?_
    | refine uC ?_
    | refine uG ?_
    | refine AWp.ret ?_
    | refine thenA_r ?_
    | refine uE ?_
    | refine kT ?_
    | (refine rG 8 ?_
       (iterate 2 refine kA ?_)
       refine qr5 (aO tyOk) ?_
       refine qr5t aK ?_
       refine aB ?_)
    | (refine AWp.draw (id := 10) mixed ?_; (iterate 2 refine kA ?_); refine qr8eo2 (aP (k := k) tyOk) ?_; refine qr7 (AList.fieldPl tyOk) ?_; refine AList.load1lE tyOk (q1) rfl rfl rfl rfl rfl oM ?_; (iterate 2 refine kF ?_); (iterate 2 refine kA ?_); refine qr8eo2 (aP (k := k) tyOk) ?_; refine qr7 (AList.fieldPl tyOk) ?_; refine AList.load1lE tyOk (e1) rfl rfl rfl rfl rfl oM ?_; (iterate 2 refine kA ?_); refine qr8eo2 (aP (k := k) tyOk) ?_; refine qr7 (AList.fieldPl tyOk) ?_; refine AList.load1lE tyOk (e2) rfl rfl rfl rfl rfl oM ?_; refine aH rfl rfl rfl rfl Try.func49 rfl (by kernel_rfl) (c1) ?_; refine kA ?_; (iterate 20 refine qr2 aG ?_); refine qr4 aR ?_; refine kC ?_; refine aB ⟨by kernel_rfl, ?_⟩)
    | (refine AWp.draw (id := 11) mixed ?_; refine kA ?_; refine qr3 AList.notB ?_; refine kA ?_; (iterate 21 refine qr2 aG ?_); refine qr4 aS ?_; refine aB ⟨by kernel_rfl, ?_⟩)
    | (refine rG 12 ?_
       refine kC ?_
       refine aB ?_))
   refine ⟨mkSt 100 [(10, .c (iC (62)))] [] [], [], Wk.mk [] rfl rfl rfl ?_ trivial, rfl, rfl, aR1⟩
   exact allT
 | true =>
   rw [hA, Bool.true_and] at hwt
   rw [hA] at c1
   cases hB : okL (sd2 a b x y (L.getD k mvZ)) (p.getD k wtZ).2 with
   | false =>
     rw [hB, Bool.false_and] at hwt
     rw [hB] at c2
     rw [hbadk hwt]
     repeat (first
      | refine uA ?_
      | refine uB ?_
      | refine uC ?_
      | refine uG ?_
      | refine AWp.ret ?_
      | refine thenA_r ?_
      | refine uE ?_
      | refine kT ?_
      | (refine rG 8 ?_
         (iterate 2 refine kA ?_)
         refine qr5 (aO tyOk) ?_
         refine qr5t aK ?_
         refine aB ?_)
      | (refine AWp.draw (id := 10) mixed ?_; (iterate 2 refine kA ?_); refine qr8eo2 (aP (k := k) tyOk) ?_; refine qr7 (AList.fieldPl tyOk) ?_; refine AList.load1lE tyOk (q1) rfl rfl rfl rfl rfl oM ?_; (iterate 2 refine kF ?_); (iterate 2 refine kA ?_); refine qr8eo2 (aP (k := k) tyOk) ?_; refine qr7 (AList.fieldPl tyOk) ?_; refine AList.load1lE tyOk (e1) rfl rfl rfl rfl rfl oM ?_; (iterate 2 refine kA ?_); refine qr8eo2 (aP (k := k) tyOk) ?_; refine qr7 (AList.fieldPl tyOk) ?_; refine AList.load1lE tyOk (e2) rfl rfl rfl rfl rfl oM ?_; refine aH rfl rfl rfl rfl Try.func49 rfl (by kernel_rfl) (c1) ?_; (iterate 3 refine kA ?_); refine qr8eo2 (aP (k := k) tyOk) ?_; refine qr7 (AList.fieldPl tyOk) ?_; refine AList.load1lE tyOk (q2) rfl rfl rfl rfl rfl oM ?_; (iterate 2 refine kF ?_); (iterate 2 refine kA ?_); refine qr8eo2 (aP (k := k) tyOk) ?_; refine qr7 (AList.fieldPl tyOk) ?_; refine AList.load1lE tyOk (e1) rfl rfl rfl rfl rfl oM ?_; refine qr3w2 AList.neg ?_; (iterate 2 refine kA ?_); refine qr8eo2 (aP (k := k) tyOk) ?_; refine qr7 (AList.fieldPl tyOk) ?_; refine AList.load1lE tyOk (e2) rfl rfl rfl rfl rfl oM ?_; refine qr3w2 AList.neg ?_; refine aH rfl rfl rfl rfl Try.func49 rfl (by kernel_rfl) (c2) ?_; refine qr4 aS ?_; refine kC ?_; refine aB ⟨by kernel_rfl, ?_⟩)
      | (refine AWp.draw (id := 11) mixed ?_; refine kA ?_; refine qr3 AList.notB ?_; refine kA ?_; (iterate 21 refine qr2 aG ?_); refine qr4 aS ?_; refine aB ⟨by kernel_rfl, ?_⟩)
      | (refine rG 12 ?_
         refine kC ?_
         refine aB ?_))
     refine ⟨mkSt 100 [(10, .c (iC (62)))] [] [], [], Wk.mk [] rfl rfl rfl ?_ trivial, rfl, rfl, aR1⟩
     exact allT
   | true =>
     rw [hB, Bool.true_and] at hwt
     rw [hB] at c2
     have cd := cd (fun k hk => okL_alo hA hk) (fun k hk => okL_alo hB hk)
     rw [← hwt] at cd
     cases hw : wtOk a b x y (L.getD k mvZ) (p.getD k wtZ) with
     | false =>
       rw [hw] at cd
       rw [hbadk hw]
       repeat (first
        | refine uA ?_
        | refine uB ?_
        | refine uC ?_
        | refine uG ?_
        | refine AWp.ret ?_
        | refine thenA_r ?_
        | refine uE ?_
        | refine kT ?_
        | (refine rG 8 ?_
           (iterate 2 refine kA ?_)
           refine qr5 (aO tyOk) ?_
           refine qr5t aK ?_
           refine aB ?_)
        | (refine AWp.draw (id := 10) mixed ?_; (iterate 2 refine kA ?_); refine qr8eo2 (aP (k := k) tyOk) ?_; refine qr7 (AList.fieldPl tyOk) ?_; refine AList.load1lE tyOk (q1) rfl rfl rfl rfl rfl oM ?_; (iterate 2 refine kF ?_); (iterate 2 refine kA ?_); refine qr8eo2 (aP (k := k) tyOk) ?_; refine qr7 (AList.fieldPl tyOk) ?_; refine AList.load1lE tyOk (e1) rfl rfl rfl rfl rfl oM ?_; (iterate 2 refine kA ?_); refine qr8eo2 (aP (k := k) tyOk) ?_; refine qr7 (AList.fieldPl tyOk) ?_; refine AList.load1lE tyOk (e2) rfl rfl rfl rfl rfl oM ?_; refine aH rfl rfl rfl rfl Try.func49 rfl (by kernel_rfl) (c1) ?_; (iterate 3 refine kA ?_); refine qr8eo2 (aP (k := k) tyOk) ?_; refine qr7 (AList.fieldPl tyOk) ?_; refine AList.load1lE tyOk (q2) rfl rfl rfl rfl rfl oM ?_; (iterate 2 refine kF ?_); (iterate 2 refine kA ?_); refine qr8eo2 (aP (k := k) tyOk) ?_; refine qr7 (AList.fieldPl tyOk) ?_; refine AList.load1lE tyOk (e1) rfl rfl rfl rfl rfl oM ?_; refine qr3w2 AList.neg ?_; (iterate 2 refine kA ?_); refine qr8eo2 (aP (k := k) tyOk) ?_; refine qr7 (AList.fieldPl tyOk) ?_; refine AList.load1lE tyOk (e2) rfl rfl rfl rfl rfl oM ?_; refine qr3w2 AList.neg ?_; refine aH rfl rfl rfl rfl Try.func49 rfl (by kernel_rfl) (c2) ?_; refine qr4 aS ?_; refine kC ?_; refine aB ⟨by kernel_rfl, ?_⟩)
        | (refine AWp.draw (id := 11) mixed ?_; refine kA ?_; refine qr3 AList.notB ?_; (iterate 3 refine kA ?_); refine qr8eo2 (aP (k := k) tyOk) ?_; refine qr7 (AList.fieldPl tyOk) ?_; refine AList.load1lE tyOk (q1) rfl rfl rfl rfl rfl oM ?_; (iterate 2 refine kA ?_); refine qr8eo2 (aP (k := k) tyOk) ?_; refine qr7 (AList.fieldPl tyOk) ?_; refine AList.load1lE tyOk (q2) rfl rfl rfl rfl rfl oM ?_; refine kD ?_; refine kE ?_; (iterate 2 refine kA ?_); refine qr8eo2 (aP (k := k) tyOk) ?_; refine qr7 (AList.fieldPl tyOk) ?_; refine AList.load1lE tyOk (e1) rfl rfl rfl rfl rfl oM ?_; (iterate 2 refine kF ?_); refine aH rfl rfl rfl rfl Try.func50 rfl (by kernel_rfl) (cd) ?_; refine qr3 AList.notB ?_; refine qr4 aR ?_; refine aB ⟨by kernel_rfl, ?_⟩)
        | (refine rG 12 ?_
           refine kC ?_
           refine aB ?_))
       refine ⟨mkSt 100 [(10, .c (iC (62)))] [] [], [], Wk.mk [] rfl rfl rfl ?_ trivial, rfl, rfl, aR1⟩
       exact allT
     | true =>
       rw [hw] at cd
       repeat (first
        | refine uA ?_
        | refine uB ?_
        | refine uC ?_
        | refine uG ?_
        | refine uD ?_
        | refine kT ?_
        | refine kU ?_
        | (refine rG 8 ?_
           (iterate 2 refine kA ?_)
           refine qr5 (aO tyOk) ?_
           refine qr5t aK ?_
           refine aB ?_)
        | (refine rG 9 ?_
           refine kA ?_
           refine qr4w2 aL ?_
           refine kC ?_
           refine aB ?_)
        | (refine AWp.draw (id := 10) mixed ?_; (iterate 2 refine kA ?_); refine qr8eo2 (aP (k := k) tyOk) ?_; refine qr7 (AList.fieldPl tyOk) ?_; refine AList.load1lE tyOk (q1) rfl rfl rfl rfl rfl oM ?_; (iterate 2 refine kF ?_); (iterate 2 refine kA ?_); refine qr8eo2 (aP (k := k) tyOk) ?_; refine qr7 (AList.fieldPl tyOk) ?_; refine AList.load1lE tyOk (e1) rfl rfl rfl rfl rfl oM ?_; (iterate 2 refine kA ?_); refine qr8eo2 (aP (k := k) tyOk) ?_; refine qr7 (AList.fieldPl tyOk) ?_; refine AList.load1lE tyOk (e2) rfl rfl rfl rfl rfl oM ?_; refine aH rfl rfl rfl rfl Try.func49 rfl (by kernel_rfl) (c1) ?_; (iterate 3 refine kA ?_); refine qr8eo2 (aP (k := k) tyOk) ?_; refine qr7 (AList.fieldPl tyOk) ?_; refine AList.load1lE tyOk (q2) rfl rfl rfl rfl rfl oM ?_; (iterate 2 refine kF ?_); (iterate 2 refine kA ?_); refine qr8eo2 (aP (k := k) tyOk) ?_; refine qr7 (AList.fieldPl tyOk) ?_; refine AList.load1lE tyOk (e1) rfl rfl rfl rfl rfl oM ?_; refine qr3w2 AList.neg ?_; (iterate 2 refine kA ?_); refine qr8eo2 (aP (k := k) tyOk) ?_; refine qr7 (AList.fieldPl tyOk) ?_; refine AList.load1lE tyOk (e2) rfl rfl rfl rfl rfl oM ?_; refine qr3w2 AList.neg ?_; refine aH rfl rfl rfl rfl Try.func49 rfl (by kernel_rfl) (c2) ?_; refine qr4 aS ?_; refine kC ?_; refine aB ⟨by kernel_rfl, ?_⟩)
        | (refine AWp.draw (id := 11) mixed ?_; refine kA ?_; refine qr3 AList.notB ?_; (iterate 3 refine kA ?_); refine qr8eo2 (aP (k := k) tyOk) ?_; refine qr7 (AList.fieldPl tyOk) ?_; refine AList.load1lE tyOk (q1) rfl rfl rfl rfl rfl oM ?_; (iterate 2 refine kA ?_); refine qr8eo2 (aP (k := k) tyOk) ?_; refine qr7 (AList.fieldPl tyOk) ?_; refine AList.load1lE tyOk (q2) rfl rfl rfl rfl rfl oM ?_; refine kD ?_; refine kE ?_; (iterate 2 refine kA ?_); refine qr8eo2 (aP (k := k) tyOk) ?_; refine qr7 (AList.fieldPl tyOk) ?_; refine AList.load1lE tyOk (e1) rfl rfl rfl rfl rfl oM ?_; (iterate 2 refine kF ?_); refine aH rfl rfl rfl rfl Try.func50 rfl (by kernel_rfl) (cd) ?_; refine qr3 AList.notB ?_; refine qr4 aR ?_; refine aB ⟨by kernel_rfl, ?_⟩))
       refine ⟨k + 1, ⟨hkl, fun j hj => ?_⟩, Wk.mk [(5, some 5), (6, some 6), (7, some 7), (8, some 8)] rfl rfl rfl ?_ ?_, by omega⟩
       ·by_cases e : j = k
        ·rw [e]; exact hw
        ·exact hall j (by omega)
       ·exact allT
       ·exact allH
theorem rows_ow {p : List Wt} {S : St} {ren : List (Nat × Option Nat)} {A1 A2 : List Int} {i1 i2 : Nat} {F1 F2 : Nat → Nat → CV} (h1 : S.h i1 = some ⟨true, A1.length, 1, 3, F1⟩) (h2 : S.h i2 = some ⟨true, A2.length, 1, 3, F2⟩) (hF1 : ∀ i, i < A1.length → ∀ j, j < 1 → F1 i j = iF (fun k => A1.getD k 0) i j ∧ immC (F1 i j) = true) (hF2 : ∀ i, i < A2.length → ∀ j, j < 1 → F2 i j = iF (fun k => A2.getD k 0) i j ∧ immC (F2 i j) = true)
 (r1 : renNo ren i1 = true) (r2 : renNo ren i2 = true) : ∀ k, k < p.length + 1 → ∀ j, j < 2 → LeC S.h ren (appF (rowF wtC wtZ p) p.length (sF [.ow i1, .ow i2] 2) k j) (rowF wtC wtZ (p ++ [(A1, A2)]) k j) := fun k hk j hj => by
 have hs := row_snoc (c := wtC) (z := wtZ) p (A1, A2) wtC_imm rfl k hk j hj
 by_cases h : k < p.length
 ·have e : appF (rowF wtC wtZ p) p.length (sF [.ow i1, .ow i2] 2) k j = appF (rowF wtC wtZ p) p.length (sF (wtC (A1, A2)) 2) k j := by
   unfold appF
   rw [Nat.blt_eq.mpr h]
   rfl
  rw [e, ← hs.1]
  exact LeC.refl _ hs.2
 ·obtain rfl : k = p.length := by omega
  rw [← hs.1]
  unfold appF
  rw [show Nat.blt p.length p.length = false from Bool.eq_false_iff.2 fun h' => h (Nat.blt_eq.mp h'), Nat.sub_self]
  match j, hj with
  | 0, _ => exact LeC.fz h1 r1 rfl hF1
  | 1, _ => exact LeC.fz h2 r2 rfl hF2
theorem shr_len (dec : List Int → Bool) (l : List Int) : ∀ (i : Nat) (kept : List Int), (shrI dec l i kept).length ≤ i + kept.length
 | 0, kept => by show kept.length ≤ _; omega
 | i + 1, kept => by
   unfold shrI
   split
   ·have := shr_len dec l i kept; omega
   ·have := shr_len dec l i (l.getD i 0 :: kept); rw [List.length_cons] at this; omega
theorem shr_mem {dec : List Int → Bool} {l : List Int} {P : Int → Prop} (hl : ∀ k, k < l.length → P (l.getD k 0)) : ∀ (i : Nat) (kept : List Int), i ≤ l.length → (∀ v, v ∈ kept → P v) → ∀ v, v ∈ shrI dec l i kept → P v
 | 0, kept, _, h => h
 | i + 1, kept, hi, h => by
   unfold shrI
   split
   ·exact shr_mem hl i kept (by omega) h
   ·refine shr_mem hl i (l.getD i 0 :: kept) (by omega) fun v hv => ?_
    rcases List.mem_cons.1 hv with rfl | hv
    ·exact hl i (by omega)
    ·exact h v hv
theorem take_mem {l kept : List Int} {i : Nat} {P : Int → Prop} (hl : ∀ k, k < l.length → P (l.getD k 0)) (hk : ∀ v, v ∈ kept → P v) : ∀ k, k < (l.take i ++ kept).length → P ((l.take i ++ kept).getD k 0) := fun k hk' => by
 have hm : (l.take i ++ kept).getD k 0 ∈ l.take i ++ kept := by
  rw [List.getD_eq_getElem?_getD, List.getElem?_eq_getElem hk']
  exact List.getElem_mem hk'
 rcases List.mem_append.1 hm with h | h
 ·obtain ⟨j, hj, e⟩ := List.getElem_of_mem (List.mem_of_mem_take h)
  have := hl j hj
  rw [List.getD_eq_getElem?_getD, List.getElem?_eq_getElem hj] at this
  rw [← e]
  exact this
 ·exact hk _ h
theorem take_erase {l kept : List Int} {i : Nat} (hi : i < l.length) : (l.take (i + 1) ++ kept).eraseIdx i = l.take i ++ kept := by
 rw [List.eraseIdx_append_of_lt_length (by rw [List.length_take]; omega)]
 congr 1
 rw [List.eraseIdx_eq_take_drop_succ, List.take_take, List.drop_take, Nat.min_eq_left (by omega), Nat.sub_self]
 simp
theorem take_cons {l kept : List Int} {i : Nat} (hi : i < l.length) : l.take (i + 1) ++ kept = l.take i ++ (l.getD i 0 :: kept) := by
 rw [take_snoc hi, List.append_assoc]
 rfl
theorem shrK_ex (a b : Bp) (x y : Bg) (p : List Wt) : ∃ shrK : Nat → List Wt, shrK 0 = [] ∧ shrP a b x y (shL (shN x y)) p = shrK (shL (shN x y)).length ∧ (∀ m, m ≤ (shL (shN x y)).length → (shrK m).length = m) ∧ ∀ m, m < (shL (shN x y)).length → shrK (m + 1) = shrK m ++ [shrW (sd1 a b x y ((shL (shN x y)).getD m mvZ)) (sd2 a b x y ((shL (shN x y)).getD m mvZ)) (stN a.W x y).toNat (alM a.W x y) (p.getD m wtZ)] := by
 refine ⟨fun m => shrP a b x y ((shL (shN x y)).take m) p, rfl, ?_, fun m hm => ?_, fun m hm => ?_⟩
 ·show _ = shrP a b x y ((shL (shN x y)).take _) p
  rw [List.take_length]
 ·show (shrP a b x y ((shL (shN x y)).take m) p).length = m
  unfold shrP
  rw [List.length_map, List.length_range, List.length_take]
  omega
 ·have hg : ∀ i, i ≤ m → ((shL (shN x y)).take (m + 1)).getD i mvZ = (shL (shN x y)).getD i mvZ := fun i hi => by rw [List.getD_eq_getElem?_getD, List.getElem?_take_of_lt (by omega), ← List.getD_eq_getElem?_getD]
  have hg2 : ∀ i, i < m → ((shL (shN x y)).take m).getD i mvZ = (shL (shN x y)).getD i mvZ := fun i hi => by rw [List.getD_eq_getElem?_getD, List.getElem?_take_of_lt (by omega), ← List.getD_eq_getElem?_getD]
  show shrP a b x y ((shL (shN x y)).take (m + 1)) p = shrP a b x y ((shL (shN x y)).take m) p ++ _
  unfold shrP
  rw [List.length_take, List.length_take, Nat.min_eq_left (by omega), Nat.min_eq_left (by omega), List.range_succ, List.map_append]
  refine congr (congrArg HAppend.hAppend ?_) ?_
  ·exact List.map_congr_left fun i hi => by have := List.mem_range.1 hi; rw [hg i (by omega), hg2 i (by omega)]
  ·show [_] = [_]
   dsimp only
   rw [hg m (by omega)]
set_option maxHeartbeats 8000000 in
set_option maxRecDepth 100000 in
theorem rShrink_A (a b : Bp) (x y : Bg) (p : List Wt) (hp : PrOk p) : ACalls Try.prog 17 [.ag (bpC a), .ag (bpC b), .ag (bgC x), .ag (bgC y), .c (wpC p)] (.tu [.c (wpL (shkV a b x y p).1), .c (iC (shkV a b x y p).2)]) := by
 have hck := rCheck25_A a b x y p hp
 by_cases h0 : chkV a b x y p = 0
 rotate_left
 ·rw [show shkV a b x y p = ([], chkV a b x y p) from if_neg h0]
  refine acalls_at Try.func17 rfl rfl Try.ntmps17 rfl ?_
  repeat (first
   | refine uA ?_
   | refine uB ?_
   | refine AWp.ret ?_
   | refine thenA_r ?_
   | refine kT ?_
   | (refine rG 0 ?_
      (iterate 4 refine qr5 aQ ?_)
      (iterate 2 refine kC ?_)
      refine aB ?_)
   | (refine rG 1 ?_
      (iterate 4 refine kF ?_)
      refine kA ?_
      refine aH rfl rfl rfl rfl Try.func15 rfl (by kernel_rfl) (hck) ?_
      refine kC ?_
      refine aB ?_)
   | (refine rG 2 ?_
      refine kA ?_
      refine qr5t aK ?_
      refine aB ?_)
   | (refine rG 3 ?_
      refine kA ?_
      (iterate 2 refine kC ?_)
      refine aB ?_))
  refine ⟨mkSt 110 [(10, .c (wpL ([]))), (11, .c (iC (chkV a b x y p)))] [] [], [], Wk.mk [] rfl rfl rfl ?_ trivial, rfl, rfl, ARets.two (x := .c _) (y := .c _) (ARes.tmp rfl rfl) (ARes.tmp rfl rfl)⟩
  exact allT
 rw [show shkV a b x y p = (shrP a b x y (shL (shN x y)) p, 0) from if_pos h0]
 rw [h0] at hck
 have hsz0 : szV a b = 0 := by
  refine Decidable.byContradiction fun h => ?_
  rw [show chkV a b x y p = szV a b from if_neg h] at h0
  exact h h0
 have hcm := (szV_ok a b).1 hsz0
 obtain ⟨hl, hpr⟩ : (shL (shN x y)).length = p.length ∧ prfB a b x y p = true := by
  refine Decidable.byContradiction fun h => ?_
  rw [show chkV a b x y p = 62 from (if_pos hsz0).trans (if_neg h)] at h0
  exact absurd h0 (by decide)
 have hsh := rShifts_A x y
 have hsb := fun k hk => shN_bd (x := x) (y := y) (k := k) hk
 have hok : ∀ k, k < (shL (shN x y)).length → wtOk a b x y ((shL (shN x y)).getD k mvZ) (p.getD k wtZ) = true := fun k hk => List.all_eq_true.1 hpr k (List.mem_range.2 hk)
 have hp1 := hp.1
 obtain ⟨shrK, hs0, hsN, hsl, hsS⟩ := shrK_ex a b x y p
 rw [hsN]
 obtain ⟨L, hL⟩ : ∃ L, shL (shN x y) = L := ⟨_, rfl⟩
 rw [hL] at hsh hl hsb hok hsl hsS ⊢
 have hLp : L.length ≤ 1000000 := by omega
 refine acalls_at Try.func17 rfl rfl Try.ntmps17 rfl ?_
 repeat (first
  | refine uA ?_
  | refine uB ?_
  | refine uC ?_
  | refine uG ?_
  | refine kU ?_
  | (refine rG 0 ?_
     (iterate 4 refine qr5 aQ ?_)
     (iterate 2 refine kC ?_)
     refine aB ?_)
  | (refine rG 1 ?_
     (iterate 4 refine kF ?_)
     refine kA ?_
     refine aH rfl rfl rfl rfl Try.func15 rfl (by kernel_rfl) (hck) ?_
     refine kC ?_
     refine aB ?_)
  | (refine rG 2 ?_
     refine kA ?_
     refine qr5 aW ?_
     refine aB ?_)
  | (refine rG 4 ?_
     (iterate 2 refine kF ?_)
     refine aH rfl rfl rfl rfl Try.func40 rfl (by kernel_rfl) (hsh) ?_
     refine kC ?_
     refine aB ?_)
  | (refine rG 5 ?_
     refine kC ?_
     refine aB ?_)
  | (refine rG 6 ?_
     refine kC ?_
     refine aB ?_))
 refine AWp.round (fun k : Nat => mkSt 110 [(4, .c (wpC p)), (5, .c (.pt 5 3 0 0)), (7, .c (.pt 7 4 0 0)), (8, .c (.pt 8 4 0 0)), (13, .c (.ls L.length 2 (rowF mvC mvZ L))), (14, .c (.ow 30)), (15, .c (iC (k : Nat)))] [(5, ⟨false, 1, 3, 31, lF (bpC a)⟩), (7, ⟨false, 1, 4, 33, lF (bgC x)⟩), (8, ⟨false, 1, 4, 33, lF (bgC y)⟩), (30, wpB (shrK k))] [5, 7, 8, 30])
  (fun k => k ≤ L.length) (fun k => L.length - k) 0 (Nat.zero_le _) ?_ (fun k hk => ?_)
 ·rw [hs0]
  refine Wk.mk [(5, some 5), (7, some 7), (8, some 8), (30, none)] rfl rfl rfl ?_ ?_
  ·exact allT
  ·exact allH
 by_cases hkl : k < L.length
 rotate_left
 ·obtain rfl : k = L.length := by omega
  have hkl' : ¬ (L.length : Int) < p.length := by omega
  repeat (first
   | refine uA ?_
   | refine uB ?_
   | refine uH ?_
   | refine AWp.ret ?_
   | refine kU ?_
   | (refine rG 7 ?_
      (iterate 2 refine kA ?_)
      refine qr5 (aO tyOk) ?_
      refine qr5f aJ ?_
      refine aB ?_)
   | (refine rG 23 ?_
      refine kA ?_
      (iterate 2 refine kC ?_)
      refine aB ?_))
  refine ⟨mkSt 110 [(10, .c (wpL (shrK L.length))), (11, .c (iC (0)))] [] [], [], Wk.mk [] rfl rfl rfl ?_ trivial, rfl, rfl, ARets.two (x := .c _) (y := .c _) (ARes.tmp rfl rfl) (ARes.tmp rfl rfl)⟩
  exact ⟨⟨_, rfl, .c (LeC.fz rfl rfl rfl (fun i _ j _ => ⟨rfl, rowF_imm wtC_imm _ i j⟩))⟩, ⟨_, rfl, .c (LeC.refl _ rfl)⟩, trivial⟩
 have hkl' : (k : Int) < p.length := by omega
 have hd := hsb k hkl
 obtain ⟨hl1, hl2⟩ := hp.2 k (by omega)
 have hw := hok k hkl
 unfold wtOk at hw
 rw [Bool.and_eq_true, Bool.and_eq_true] at hw
 obtain ⟨hw1, hw2, -⟩ := hw
 have al1 := fun k hk => okL_alo hw1 (k := k) hk
 have al2 := fun k hk => okL_alo hw2 (k := k) hk
 have hSk := hsS k hkl
 have hlk := hsl k hk
 have e1 : rowF mvC mvZ L k 0 = iC (L.getD k mvZ).1 := rfl
 have cd := fun lA lB h1 h2 h3 h4 => rdecides_A a b x y (L.getD k mvZ) lA lB hcm hd.1 h1 h2 h3 h4
 have ew : cellsFrom (rowF wtC wtZ p k) 0 2 = wtC (p.getD k wtZ) := rfl
 obtain ⟨w, hwe⟩ : ∃ w, p.getD k wtZ = w := ⟨_, rfl⟩
 rw [hwe] at hl1 hl2 al1 al2 hSk ew
 have hsW : shrW (sd1 a b x y (L.getD k mvZ)) (sd2 a b x y (L.getD k mvZ)) (stN a.W x y).toNat (alM a.W x y) w = (shrI (fun l => decB (sd1 a b x y (L.getD k mvZ)) (sd2 a b x y (L.getD k mvZ)) (stN a.W x y).toNat (alM a.W x y) l w.2) w.1 w.1.length [], shrI (fun l => decB (sd1 a b x y (L.getD k mvZ)) (sd2 a b x y (L.getD k mvZ)) (stN a.W x y).toNat (alM a.W x y) (shrI (fun l => decB (sd1 a b x y (L.getD k mvZ)) (sd2 a b x y (L.getD k mvZ)) (stN a.W x y).toNat (alM a.W x y) l w.2) w.1 w.1.length []) l) w.2 w.2.length []) := rfl
 rw [hsW] at hSk
 clear hsW
 generalize (stN a.W x y).toNat = tn at *
 generalize alM a.W x y = M at *
 generalize sd1 a b x y (L.getD k mvZ) = s at *
 generalize sd2 a b x y (L.getD k mvZ) = t at *
 generalize (L.getD k mvZ).1 = u at *
 obtain ⟨A', hA'⟩ : ∃ A', shrI (fun l => decB s t tn M l w.2) w.1 w.1.length [] = A' := ⟨_, rfl⟩
 have hAl := shr_len (fun l => decB s t tn M l w.2) w.1 w.1.length []
 have hAm := shr_mem (dec := fun l => decB s t tn M l w.2) (P := fun v => aloB s v = true) al1 w.1.length [] (Nat.le_refl _) (fun v hv => by cases hv)
 rw [hA'] at hSk hAl hAm
 obtain ⟨B', hB'⟩ : ∃ B', shrI (fun l => decB s t tn M A' l) w.2 w.2.length [] = B' := ⟨_, rfl⟩
 rw [hB'] at hSk
 rw [List.length_nil, Nat.add_zero] at hAl
 repeat (first
  | refine uA ?_
  | refine uB ?_
  | refine uC ?_
  | refine uG ?_
  | refine kT ?_
  | (refine rG 7 ?_
     (iterate 2 refine kA ?_)
     refine qr5 (aO tyOk) ?_
     refine qr5t aK ?_
     refine aB ?_)
  | (refine rG 9 ?_
     (iterate 2 refine kA ?_)
     refine qr8eo2 (aP (k := k) tyOk) ?_
     refine AList.loadAlE tyOk (ew) rfl rfl rfl rfl rfl oM ?_
     refine qr5 (aM tyOk) ?_
     refine kI ?_
     refine aB ?_)
  | (refine rG 10 ?_
     refine kD ?_
     refine kE ?_
     refine qr5 (aO tyOk) ?_
     refine qr4w2 AList.sub ?_
     refine kC ?_
     refine aB ?_))
 refine AWp.round (fun q : Nat × List Int =>
  mkSt 110 [(4, .c (wpC p)), (5, .c (.pt 5 3 0 0)), (7, .c (.pt 7 4 0 0)), (8, .c (.pt 8 4 0 0)), (13, .c (.ls L.length 2 (rowF mvC mvZ L))), (14, .c (.ow 30)), (15, .c (iC (k : Nat))), (16, .c (.pt 16 2 0 0)) , (17, .c (iC ((q.1 : Int) - 1)))] [(5, ⟨false, 1, 3, 31, lF (bpC a)⟩), (7, ⟨false, 1, 4, 33, lF (bgC x)⟩), (8, ⟨false, 1, 4, 33, lF (bgC y)⟩), (16, ⟨false, 1, 2, 62, lF [liV (w.1.take q.1 ++ q.2), liV (w.2)]⟩), (30, wpB (shrK k))] [5, 7, 8, 16, 30]
  ) (fun q => q.1 ≤ w.1.length ∧ q.1 + q.2.length ≤ w.1.length ∧ (∀ v, v ∈ q.2 → aloB s v = true) ∧ shrI (fun l => decB s t tn M l w.2) w.1 q.1 q.2 = A') (fun q => q.1) (w.1.length, []) ⟨Nat.le_refl _, by simp, (fun v hv => by cases hv), hA'⟩ ?_ (fun q hq => ?_)
 ·dsimp only
  rw [List.take_length, List.append_nil]
  refine Wk.mk [(5, some 5), (7, some 7), (8, some 8), (16, some 16), (30, some 30)] rfl rfl rfl ?_ ?_
  ·exact allT
  ·exact allH
 obtain ⟨i, kept⟩ := q
 obtain ⟨hi, hik, hkm, hsr⟩ := hq
 dsimp only at hi hik hkm hsr ⊢
 match i, hi, hik, hsr with
 | i + 1, hi, hik, hsr =>
   have hi0 : (0 : Int) ≤ ((i + 1 : Nat) : Int) - 1 := by omega
   have hcl : (w.1.take (i + 1) ++ kept).length = i + 1 + kept.length := by rw [List.length_append, List.length_take]; omega
   have hwo := without_A (w.1.take (i + 1) ++ kept) i (by omega) (by omega)
   rw [take_erase (by omega)] at hwo
   have hcd := cd (w.1.take i ++ kept) w.2 (by rw [List.length_append, List.length_take]; omega) hl2 (take_mem al1 hkm) al2
   rw [show ((i : Nat) : Int) = ((i + 1 : Nat) : Int) - 1 by omega] at hwo
   unfold shrI at hsr
   cases hdb : decB s t tn M (w.1.take i ++ kept) w.2 with
   | true =>
     rw [hdb] at hcd
     rw [if_pos hdb] at hsr
     repeat (first
      | refine uA ?_
      | refine uB ?_
      | refine uC ?_
      | refine uG ?_
      | refine uD ?_
      | refine kT ?_
      | (refine rG 11 ?_
         refine kA ?_
         refine qr5t aK ?_
         refine aB ?_)
      | (refine rG 12 ?_
         refine kA ?_
         refine qr4w2 AList.sub ?_
         refine kC ?_
         refine aB ?_)
      | (refine rG 13 ?_
         refine kD ?_
         refine kE ?_
         refine kA ?_
         refine aH rfl rfl rfl rfl Try.func42 rfl (by kernel_rfl) (hwo) ?_
         refine kC ?_
         refine aB ?_)
      | (refine AWp.draw (id := 14) mixed ?_; refine kA ?_; refine kD ?_; refine kE ?_; refine kD ?_; refine kE ?_; (iterate 2 refine kA ?_); refine qr8eo2 (aP (k := k) tyOk) ?_; refine qr7 (AList.fieldPl tyOk) ?_; refine AList.load1lE tyOk (e1) rfl rfl rfl rfl rfl oM ?_; (iterate 2 refine kF ?_); refine aH rfl rfl rfl rfl Try.func50 rfl (by kernel_rfl) (hcd) ?_; refine aB ⟨by kernel_rfl, ?_⟩)
      | (refine rG 15 ?_
         refine kA ?_
         refine kD ?_
         refine kI ?_
         refine aB ?_))
     refine ⟨(i, kept), ⟨by dsimp only; omega, by dsimp only; omega, hkm, hsr⟩, ?_, by dsimp only; omega⟩
     dsimp only
     refine Wk.mk [(5, some 5), (7, some 7), (8, some 8), (16, some 16), (30, some 30)] rfl rfl rfl ?_ ?_
     ·exact allT
     ·exact allH
   | false =>
     rw [hdb] at hcd
     rw [if_neg (by rw [hdb]; decide)] at hsr
     rw [take_cons (show i < w.1.length by omega)] at hwo ⊢
     repeat (first
      | refine uA ?_
      | refine uB ?_
      | refine uC ?_
      | refine uG ?_
      | refine uD ?_
      | refine kT ?_
      | refine kU ?_
      | (refine rG 11 ?_
         refine kA ?_
         refine qr5t aK ?_
         refine aB ?_)
      | (refine rG 12 ?_
         refine kA ?_
         refine qr4w2 AList.sub ?_
         refine kC ?_
         refine aB ?_)
      | (refine rG 13 ?_
         refine kD ?_
         refine kE ?_
         refine kA ?_
         refine aH rfl rfl rfl rfl Try.func42 rfl (by kernel_rfl) (hwo) ?_
         refine kC ?_
         refine aB ?_)
      | (refine AWp.draw (id := 14) mixed ?_; refine kA ?_; refine kD ?_; refine kE ?_; refine kD ?_; refine kE ?_; (iterate 2 refine kA ?_); refine qr8eo2 (aP (k := k) tyOk) ?_; refine qr7 (AList.fieldPl tyOk) ?_; refine AList.load1lE tyOk (e1) rfl rfl rfl rfl rfl oM ?_; (iterate 2 refine kF ?_); refine aH rfl rfl rfl rfl Try.func50 rfl (by kernel_rfl) (hcd) ?_; refine aB ⟨by kernel_rfl, ?_⟩))
     refine ⟨(i, w.1.getD i 0 :: kept), ⟨by dsimp only; omega, by dsimp only; rw [List.length_cons]; omega, fun v hv => ?_, hsr⟩, ?_, by dsimp only; omega⟩
     ·rcases List.mem_cons.1 hv with rfl | hv
      ·exact al1 i (by omega)
      ·exact hkm v hv
     ·dsimp only
      refine Wk.mk [(5, some 5), (7, some 7), (8, some 8), (16, some 16), (30, some 30)] rfl rfl rfl ?_ ?_
      ·exact allT
      ·exact allH
 | 0, hi, hik, hsr =>
 have hi0 : ¬ (0 : Int) ≤ ((0 : Nat) : Int) - 1 := by omega
 have hke : kept = A' := hsr
 subst hke
 rw [List.take_zero, List.nil_append]
 repeat (first
  | refine uA ?_
  | refine uB ?_
  | refine uC ?_
  | refine uH ?_
  | refine kU ?_
  | (refine rG 11 ?_
     refine kA ?_
     refine qr5f aJ ?_
     refine aB ?_)
  | (refine rG 16 ?_
     refine kD ?_
     refine kE ?_
     refine qr5 (aO tyOk) ?_
     refine qr4w2 AList.sub ?_
     refine kC ?_
     refine aB ?_))
 refine AWp.round (fun q : Nat × List Int =>
  mkSt 110 [(4, .c (wpC p)), (5, .c (.pt 5 3 0 0)), (7, .c (.pt 7 4 0 0)), (8, .c (.pt 8 4 0 0)), (13, .c (.ls L.length 2 (rowF mvC mvZ L))), (14, .c (.ow 30)), (15, .c (iC (k : Nat))), (16, .c (.pt 16 2 0 0)) , (19, .c (iC ((q.1 : Int) - 1)))] [(5, ⟨false, 1, 3, 31, lF (bpC a)⟩), (7, ⟨false, 1, 4, 33, lF (bgC x)⟩), (8, ⟨false, 1, 4, 33, lF (bgC y)⟩), (16, ⟨false, 1, 2, 62, lF [liV (kept), liV (w.2.take q.1 ++ q.2)]⟩), (30, wpB (shrK k))] [5, 7, 8, 16, 30]
  ) (fun q => q.1 ≤ w.2.length ∧ q.1 + q.2.length ≤ w.2.length ∧ (∀ v, v ∈ q.2 → aloB t v = true) ∧ shrI (fun l => decB s t tn M kept l) w.2 q.1 q.2 = B') (fun q => q.1) (w.2.length, []) ⟨Nat.le_refl _, by simp, (fun v hv => by cases hv), hB'⟩ ?_ (fun q hq => ?_)
 ·dsimp only
  rw [List.take_length, List.append_nil]
  refine Wk.mk [(5, some 5), (7, some 7), (8, some 8), (16, some 16), (30, some 30)] rfl rfl rfl ?_ ?_
  ·exact allT
  ·exact allH
 have hkA : ∀ j, j < kept.length → aloB s (kept.getD j 0) = true := fun j hj => hAm _ (by rw [List.getD_eq_getElem?_getD, List.getElem?_eq_getElem hj]; exact List.getElem_mem hj)
 obtain ⟨i, rest⟩ := q
 obtain ⟨hi, hik2, hkm2, hsr2⟩ := hq
 dsimp only at hi hik2 hkm2 hsr2 ⊢
 match i, hi, hik2, hsr2 with
 | i + 1, hi, hik2, hsr2 =>
   have hi0 : (0 : Int) ≤ ((i + 1 : Nat) : Int) - 1 := by omega
   have hcl : (w.2.take (i + 1) ++ rest).length = i + 1 + rest.length := by rw [List.length_append, List.length_take]; omega
   have hwo := without_A (w.2.take (i + 1) ++ rest) i (by omega) (by omega)
   rw [take_erase (by omega)] at hwo
   have hcd := cd kept (w.2.take i ++ rest) (by omega) (by rw [List.length_append, List.length_take]; omega) hkA (take_mem al2 hkm2)
   rw [show ((i : Nat) : Int) = ((i + 1 : Nat) : Int) - 1 by omega] at hwo
   unfold shrI at hsr2
   cases hdb : decB s t tn M kept (w.2.take i ++ rest) with
   | true =>
     rw [hdb] at hcd
     rw [if_pos hdb] at hsr2
     repeat (first
      | refine uA ?_
      | refine uB ?_
      | refine uC ?_
      | refine uG ?_
      | refine uD ?_
      | refine kT ?_
      | (refine rG 17 ?_
         refine kA ?_
         refine qr5t aK ?_
         refine aB ?_)
      | (refine rG 18 ?_
         refine kA ?_
         refine qr4w2 AList.sub ?_
         refine kC ?_
         refine aB ?_)
      | (refine rG 19 ?_
         refine kD ?_
         refine kE ?_
         refine kA ?_
         refine aH rfl rfl rfl rfl Try.func42 rfl (by kernel_rfl) (hwo) ?_
         refine kC ?_
         refine aB ?_)
      | (refine AWp.draw (id := 20) mixed ?_; refine kD ?_; refine kE ?_; refine kA ?_; refine kD ?_; refine kE ?_; (iterate 2 refine kA ?_); refine qr8eo2 (aP (k := k) tyOk) ?_; refine qr7 (AList.fieldPl tyOk) ?_; refine AList.load1lE tyOk (e1) rfl rfl rfl rfl rfl oM ?_; (iterate 2 refine kF ?_); refine aH rfl rfl rfl rfl Try.func50 rfl (by kernel_rfl) (hcd) ?_; refine aB ⟨by kernel_rfl, ?_⟩)
      | (refine rG 21 ?_
         refine kA ?_
         refine kD ?_
         refine kI ?_
         refine aB ?_))
     refine ⟨(i, rest), ⟨by dsimp only; omega, by dsimp only; omega, hkm2, hsr2⟩, ?_, by dsimp only; omega⟩
     dsimp only
     refine Wk.mk [(5, some 5), (7, some 7), (8, some 8), (16, some 16), (30, some 30)] rfl rfl rfl ?_ ?_
     ·exact allT
     ·exact allH
   | false =>
     rw [hdb] at hcd
     rw [if_neg (by rw [hdb]; decide)] at hsr2
     rw [take_cons (show i < w.2.length by omega)] at hwo ⊢
     repeat (first
      | refine uA ?_
      | refine uB ?_
      | refine uC ?_
      | refine uG ?_
      | refine uD ?_
      | refine kT ?_
      | refine kU ?_
      | (refine rG 17 ?_
         refine kA ?_
         refine qr5t aK ?_
         refine aB ?_)
      | (refine rG 18 ?_
         refine kA ?_
         refine qr4w2 AList.sub ?_
         refine kC ?_
         refine aB ?_)
      | (refine rG 19 ?_
         refine kD ?_
         refine kE ?_
         refine kA ?_
         refine aH rfl rfl rfl rfl Try.func42 rfl (by kernel_rfl) (hwo) ?_
         refine kC ?_
         refine aB ?_)
      | (refine AWp.draw (id := 20) mixed ?_; refine kD ?_; refine kE ?_; refine kA ?_; refine kD ?_; refine kE ?_; (iterate 2 refine kA ?_); refine qr8eo2 (aP (k := k) tyOk) ?_; refine qr7 (AList.fieldPl tyOk) ?_; refine AList.load1lE tyOk (e1) rfl rfl rfl rfl rfl oM ?_; (iterate 2 refine kF ?_); refine aH rfl rfl rfl rfl Try.func50 rfl (by kernel_rfl) (hcd) ?_; refine aB ⟨by kernel_rfl, ?_⟩))
     refine ⟨(i, w.2.getD i 0 :: rest), ⟨by dsimp only; omega, by dsimp only; rw [List.length_cons]; omega, fun v hv => ?_, hsr2⟩, ?_, by dsimp only; omega⟩
     ·rcases List.mem_cons.1 hv with rfl | hv
      ·exact al2 i (by omega)
      ·exact hkm2 v hv
     ·dsimp only
      refine Wk.mk [(5, some 5), (7, some 7), (8, some 8), (16, some 16), (30, some 30)] rfl rfl rfl ?_ ?_
      ·exact allT
      ·exact allH
 | 0, hi, hik2, hsr2 =>
 have hi0 : ¬ (0 : Int) ≤ ((0 : Nat) : Int) - 1 := by omega
 have hre : rest = B' := hsr2
 subst hre
 rw [List.take_zero, List.nil_append]
 have hBl := shr_len (fun l => decB s t tn M kept l) w.2 w.2.length []
 rw [hB', List.length_nil, Nat.add_zero] at hBl
 repeat (first
  | refine uA ?_
  | refine uB ?_
  | refine uH ?_
  | refine thenA_e ?_
  | refine uD ?_
  | refine uF ?_
  | refine kU ?_
  | (refine rG 8 ?_
     refine kA ?_
     refine qr4w2 aL ?_
     refine kC ?_
     refine aB ?_)
  | (refine rG 17 ?_
     refine kA ?_
     refine qr5f aJ ?_
     refine aB ?_)
  | (refine AWp.draw (id := 22) mixed ?_; refine kA ?_; refine qr7 (AList.emptySl tyOk) ?_; refine kD ?_; refine kE ?_; refine AList.appL0 tyOk rfl rfl rfl rfl rfl rfl rfl rfl rfl rfl oM oM ?_; refine qr7 (AList.emptySl tyOk) ?_; refine kD ?_; refine kE ?_; refine AList.appL0 tyOk rfl rfl rfl rfl rfl rfl rfl rfl rfl rfl oM oM ?_; refine qr8 (aX tyOk) ?_; refine qr11 (AList.litOw tyOk) ?_; refine AList.appO tyOk rfl rfl rfl rfl rfl rfl rfl rfl rfl rfl rfl oM oM ?_; refine kC ?_; refine aB ⟨by kernel_rfl, ?_⟩))
 have hlen : (shrK (k + 1)).length = (shrK k).length + 1 := by rw [hSk, List.length_append]; rfl
 refine ⟨k + 1, hkl, Wk.mk [(5, some 5), (7, some 7), (8, some 8), (30, some 108)] rfl rfl rfl ?_ ?_, by omega⟩
 ·exact allT
 ·refine ⟨hSm, hSm, hSm, .inr ⟨108, (shrK k).length + 1, _, .inl rfl, hlen, rfl, ?_⟩, trivial⟩
  show ∀ k', _ → ∀ j, _ → LeC _ _ _ (rowF wtC wtZ (shrK (k + 1)) k' j)
  rw [hSk]
  exact rows_ow (A1 := kept) (A2 := rest) rfl rfl (fun _ _ _ _ => ⟨rfl, rfl⟩) (fun _ _ _ _ => ⟨rfl, rfl⟩) rfl rfl
end Go.Proofs.Ytekkldgmjdllbaa
end
