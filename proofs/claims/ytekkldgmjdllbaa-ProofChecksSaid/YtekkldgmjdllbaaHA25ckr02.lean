/- Parts of the proof: A24s. -/
import Derived.Test.YtekkldgmjdllbaaG22
import Derived.Test.YtekkldgmjdllbaaG21
import Derived.Test.YtekkldgmjdllbaaG17
import Derived.Test.YtekkldgmjdllbaaG04
import Derived.Scope
import Derived.Test.YtekkldgmjdllbaaG20
import Derived.Test.YtekkldgmjdllbaaG09
import Derived.Test.YtekkldgmjdllbaaG03
import Derived.RangeFuncLeaves
import Derived.RangeFuncRecord
import Derived.Test.YtekkldgmjdllbaaHA25ckr01
import Derived.Shelf.Abstract
import Derived.Test.YtekkldgmjdllbaaG02
import Derived.Test.YtekkldgmjdllbaaG08
import Derived.Test.YtekkldgmjdllbaaG01
import Derived.Test.YtekkldgmjdllbaaG19
import Derived.RangeFuncNested
import Derived.Deep.AppendLies
import Derived.OrdersIn
import Derived.TacticsIn
import Derived.RangeFuncCalls
import Derived.Test.YtekkldgmjdllbaaG16
import Derived.Maps.AppendAt
import Derived.OwnWalk
import Derived.Test.YtekkldgmjdllbaaG18
import Derived.Test.YtekkldgmjdllbaaProg
import Derived.Test.YtekkldgmjdllbaaG11
import Derived.Laws.Cover3
import Derived.StillTail
import Derived.Below
import Derived.Deep.Draws
import Derived.WalkKit
import Derived.KernelRfl
import Derived.Test.YtekkldgmjdllbaaG13
import Derived.Test.YtekkldgmjdllbaaG15
import Derived.Lib.Hide
import Derived.Deep.QuietTactic
import Derived.BigQuiet
import Derived.Deep.DrawnRows
import Derived.Laws.StructEq
import Derived.Test.YtekkldgmjdllbaaG12
import Derived.Test.YtekkldgmjdllbaaG07
import Derived.Test.YtekkldgmjdllbaaG10
import Derived.Test.YtekkldgmjdllbaaG06
import Derived.Test.YtekkldgmjdllbaaG05
import Derived.Great.BuildSlice
import Derived.Test.YtekkldgmjdllbaaG14
set_option linter.unusedSimpArgs false
set_option linter.unusedVariables false
section
namespace Go.Proofs.Ytekkldgmjdllbaa
open Go.RowKit Go.Flow Go.AV Go.Plain
theorem al_mem {w : Int} {x y : Bg} {k : Nat} (hk : k < (alL w x y).length) : ∃ j i, j < (shL (shN x y)).length ∧ i < alM w x y ∧ (alL w x y).getD k clZ = clK (shL (shN x y)) j i := by
 have hm : (alL w x y).getD k clZ ∈ alL w x y := by
  rw [List.getD_eq_getElem?_getD, List.getElem?_eq_getElem hk]
  exact List.getElem_mem hk
 generalize (alL w x y).getD k clZ = c at hm
 unfold alL alK alI at hm
 simp only [List.mem_flatMap, List.mem_map, List.mem_range] at hm
 obtain ⟨d, hd, i, hi, hc⟩ := hm
 obtain ⟨j, hj, rfl⟩ := List.getElem_of_mem hd
 refine ⟨j, i, hj, hi, ?_⟩
 rw [← hc]
 unfold clK
 rw [List.getD_eq_getElem?_getD, List.getElem?_eq_getElem hj]
 rfl
theorem al_bd {w : Int} {x y : Bg} {k : Nat} (hw : 0 ≤ w ∧ w ≤ 96) (hk : k < (alL w x y).length) : ((-4 ≤ ((alL w x y).getD k clZ).dx ∧ ((alL w x y).getD k clZ).dx ≤ 4) ∧ -4 ≤ ((alL w x y).getD k clZ).dy ∧ ((alL w x y).getD k clZ).dy ≤ 4) ∧ -4 ≤ ((alL w x y).getD k clZ).col ∧ ((alL w x y).getD k clZ).col ≤ 105 := by
 obtain ⟨j, i, hj, hi, e⟩ := al_mem hk
 rw [e]
 have h1 := shN_bd hj
 have h2 := stN_bd x y hw.1
 unfold alM at hi
 unfold clK
 refine ⟨h1, ?_⟩
 dsimp only
 omega
theorem al_len {w : Int} {x y : Bg} (hw : 0 ≤ w ∧ w ≤ 96) : 0 < (alL w x y).length ∧ (alL w x y).length ≤ 81 * 105 := by
 have hM : 1 ≤ alM w x y ∧ alM w x y ≤ 105 := by
  have h2 := stN_bd x y hw.1
  unfold alM
  omega
 obtain ⟨-, hm4⟩ := shN_eq x y
 have hl : (alL w x y).length = (shL (shN x y)).length * alM w x y := by
  unfold alL alK
  generalize shL (shN x y) = S
  induction S with
  | nil => simp
  | cons d S ih => rw [List.flatMap_cons, List.length_append, ih, alI_len, List.length_cons, Nat.succ_mul, Nat.add_comm]
 have hs1 : 1 ≤ (2 * shN x y + 1) * (2 * shN x y + 1) := Nat.mul_le_mul (show 1 ≤ 2 * shN x y + 1 by omega) (show 1 ≤ 2 * shN x y + 1 by omega)
 have hs2 : (2 * shN x y + 1) * (2 * shN x y + 1) ≤ 9 * 9 := Nat.mul_le_mul (show 2 * shN x y + 1 ≤ 9 by omega) (show 2 * shN x y + 1 ≤ 9 by omega)
 rw [hl, shL_len hm4]
 exact ⟨Nat.mul_pos hs1 hM.1, Nat.mul_le_mul hs2 hM.2⟩
set_option maxHeartbeats 2000000 in
set_option maxRecDepth 100000 in
theorem rConfused_A (a b : Bp) (x y : Bg) : ACalls Try.prog 39 [.ag (bpC a), .ag (bpC b), .ag (bgC x), .ag (bgC y)] (.tu [.ag (clC (cnfV a b x y).1), .c (bC (cnfV a b x y).2)]) := by
 have hCo := Comparable_A a b
 unfold cnfV
 by_cases hok : cmpOk a b
 ·rw [if_pos hok]
  rw [decide_eq_true hok] at hCo
  obtain ⟨q0, q1, -, -, -⟩ := okB hok.1
  have hAll := All_A a.W x y ⟨q0, q1⟩
  have hlen := al_len (x := x) (y := y) ⟨q0, q1⟩
  have hbd := fun k hk => al_bd (x := x) (y := y) (k := k) ⟨q0, q1⟩ hk
  have hE : ∀ k, k < (alL a.W x y).length → ACalls Try.prog 97 [.ag (bpC a), .ag (bpC b), .ag (bgC x), .ag (bgC y), .ag (clC ((alL a.W x y).getD k clZ))] (.c (iC (xsV a b x y ((alL a.W x y).getD k clZ)))) := fun k hk => by
   have h1 := hbd k hk
   exact rExcess_A a b x y _ hok.1 hok.2.1 (by omega) (by omega) (by omega)
  clear hbd
  generalize alL a.W x y = L at *
  obtain ⟨n, hnl⟩ : ∃ n, L.length = n := ⟨_, rfl⟩
  rw [hnl] at hAll hlen hE
  refine acalls_at Try.func39 rfl rfl Try.ntmps39 rfl ?_
  repeat (first
   | refine uA ?_
   | refine uB ?_
   | refine uC ?_
   | refine uG ?_
   | refine kU ?_
   | (refine rG 0 ?_
      (iterate 4 refine qr5 aQ ?_)
      refine qr5 (aM tyOk) ?_
      refine kC ?_
      refine aB ?_)
   | (refine rG 1 ?_
      (iterate 2 refine kF ?_)
      refine aH rfl rfl rfl rfl Try.func95 rfl (by kernel_rfl) (hCo) ?_
      refine qr3 AList.notB ?_
      refine aB ?_)
   | (refine rG 3 ?_
      refine kD ?_
      refine kE ?_
      (iterate 2 refine kF ?_)
      refine aH rfl rfl rfl rfl Try.func96 rfl (by kernel_rfl) (hAll) ?_
      refine kC ?_
      refine aB ?_)
   | (refine rG 4 ?_
      refine kC ?_
      refine aB ?_))
  refine AWp.round (fun k : Nat => mkSt 43 [(4, .c (.pt 4 3 0 0)), (5, .c (.pt 5 3 0 0)), (6, .c (.pt 6 4 0 0)), (7, .c (.pt 7 4 0 0)), (8, .c (.pt 8 3 0 0)), (10, .c (.ls n 3 (rowF clC clZ L))), (11, .c (iC k))] [(4, ⟨false, 1, 3, 31, lF (bpC a)⟩), (5, ⟨false, 1, 3, 31, lF (bpC b)⟩), (6, ⟨false, 1, 4, 33, lF (bgC x)⟩), (7, ⟨false, 1, 4, 33, lF (bgC y)⟩), (8, ⟨false, 1, 3, 53, lF (clC clZ)⟩)] [4, 5, 6, 7, 8])
   (fun k => k ≤ n ∧ ∀ i, i < k → hitC a b x y (L.getD i clZ) = false) (fun k => n - k) 0 ⟨Nat.zero_le _, fun _ h => absurd h (Nat.not_lt_zero _)⟩ ?_ (fun k hk => ?_)
  ·refine Wk.mk [(4, some 4), (5, some 5), (6, some 6), (7, some 7), (8, some 8)] rfl rfl rfl ?_ ?_
   ·exact allT
   ·exact allH
  ·obtain ⟨hk, hno⟩ := hk
   by_cases hkn : k < n
   ·have hEk := hE k hkn
    by_cases hx : xsV a b x y (L.getD k clZ) ≤ 0
    ·rw [cnfR_hit (find_at (by rw [hnl]; exact hkn) (decide_eq_true hx) hno)]
     repeat (first
      | refine uA ?_
      | refine uB ?_
      | refine uC ?_
      | refine uG ?_
      | refine AWp.ret ?_
      | refine thenA_r ?_
      | refine uE ?_
      | refine kT ?_
      | (refine rG 5 ?_
         (iterate 2 refine kA ?_)
         refine qr5 (aO tyOk) ?_
         refine qr5t aK ?_
         refine aB ?_)
      | (refine AWp.draw (id := 7) mixed ?_; (iterate 4 refine kF ?_); (iterate 2 refine kA ?_); refine qr8eo2 (aP (k := k) tyOk) ?_; refine qr5o (aT tyOk) ?_; refine aH rfl rfl rfl rfl Try.func97 rfl (by kernel_rfl) (hEk) ?_; refine qr5t aK ?_; refine aB ⟨by kernel_rfl, ?_⟩)
      | (refine rG 8 ?_
         (iterate 2 refine kA ?_)
         refine qr8eo2 (aP (k := k) tyOk) ?_
         refine qr5o (aT tyOk) ?_
         refine kI ?_
         refine kC ?_
         refine aB ?_))
     refine ⟨mkSt 43 [(8, .c (.pt 8 3 0 0)), (9, .c (bC true))] [(8, ⟨false, 1, 3, 53, lF (clC (L.getD k clZ))⟩)] [8], [(8, ⟨false, 1, 3, 53, lF (clC (L.getD k clZ))⟩)], Wk.mk [(8, some 8)] rfl rfl rfl ?_ ?_, rfl, rfl, ARets.two (x := .ag _) (y := .c _) (ARes.box tyOk rfl rfl rfl rfl rfl rfl rfl) (ARes.tmp rfl rfl)⟩
     ·exact allT
     ·exact allH
    ·repeat (first
      | refine uA ?_
      | refine uB ?_
      | refine uC ?_
      | refine uG ?_
      | refine uD ?_
      | refine kT ?_
      | refine kU ?_
      | (refine rG 5 ?_
         (iterate 2 refine kA ?_)
         refine qr5 (aO tyOk) ?_
         refine qr5t aK ?_
         refine aB ?_)
      | (refine rG 6 ?_
         refine kA ?_
         refine qr4w2 aL ?_
         refine kC ?_
         refine aB ?_)
      | (refine AWp.draw (id := 7) mixed ?_; (iterate 4 refine kF ?_); (iterate 2 refine kA ?_); refine qr8eo2 (aP (k := k) tyOk) ?_; refine qr5o (aT tyOk) ?_; refine aH rfl rfl rfl rfl Try.func97 rfl (by kernel_rfl) (hEk) ?_; refine qr5f aJ ?_; refine aB ⟨by kernel_rfl, ?_⟩))
     refine ⟨k + 1, ⟨hkn, fun i hi => ?_⟩, Wk.mk [(4, some 4), (5, some 5), (6, some 6), (7, some 7), (8, some 8)] rfl rfl rfl ?_ ?_, by omega⟩
     ·by_cases e : i = k
      ·rw [e]; exact decide_eq_false hx
      ·exact hno i (by omega)
     ·exact allT
     ·exact allH
   ·obtain rfl : k = n := by omega
    rw [cnfR_no (find_no (fun i hi => hno i (by rw [← hnl]; exact hi)))]
    repeat (first
     | refine uA ?_
     | refine uB ?_
     | refine uH ?_
     | refine AWp.ret ?_
     | refine kU ?_
     | (refine rG 5 ?_
        (iterate 2 refine kA ?_)
        refine qr5 (aO tyOk) ?_
        refine qr5f aJ ?_
        refine aB ?_)
     | (refine rG 9 ?_
        refine qr8 (aX tyOk) ?_
        refine kI ?_
        refine kC ?_
        refine aB ?_))
    refine ⟨mkSt 43 [(8, .c (.pt 8 3 0 0)), (9, .c (bC false))] [(8, ⟨false, 1, 3, 53, lF (clC (clZ))⟩)] [8], [(8, ⟨false, 1, 3, 53, lF (clC (clZ))⟩)], Wk.mk [(8, some 8)] rfl rfl rfl ?_ ?_, rfl, rfl, ARets.two (x := .ag _) (y := .c _) (ARes.box tyOk rfl rfl rfl rfl rfl rfl rfl) (ARes.tmp rfl rfl)⟩
    ·exact allT
    ·exact allH
 ·rw [if_neg hok]
  rw [decide_eq_false hok] at hCo
  refine acalls_at Try.func39 rfl rfl Try.ntmps39 rfl ?_
  repeat (first
   | refine uA ?_
   | refine uB ?_
   | refine AWp.ret ?_
   | refine thenA_r ?_
   | refine kT ?_
   | (refine rG 0 ?_
      (iterate 4 refine qr5 aQ ?_)
      refine qr5 (aM tyOk) ?_
      refine kC ?_
      refine aB ?_)
   | (refine rG 1 ?_
      (iterate 2 refine kF ?_)
      refine aH rfl rfl rfl rfl Try.func95 rfl (by kernel_rfl) (hCo) ?_
      refine qr3 AList.notB ?_
      refine aB ?_)
   | (refine rG 2 ?_
      refine qr8 (aX tyOk) ?_
      refine kI ?_
      refine kC ?_
      refine aB ?_))
  refine ⟨mkSt 43 [(8, .c (.pt 8 3 0 0)), (9, .c (bC false))] [(8, ⟨false, 1, 3, 53, lF (clC (clZ))⟩)] [8], [(8, ⟨false, 1, 3, 53, lF (clC (clZ))⟩)], Wk.mk [(8, some 8)] rfl rfl rfl ?_ ?_, rfl, rfl, ARets.two (x := .ag _) (y := .c _) (ARes.box tyOk rfl rfl rfl rfl rfl rfl rfl) (ARes.tmp rfl rfl)⟩
  ·exact allT
  ·exact allH
end Go.Proofs.Ytekkldgmjdllbaa
end
