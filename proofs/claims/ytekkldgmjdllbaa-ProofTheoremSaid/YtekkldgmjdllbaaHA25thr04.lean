/- Parts of the proof: A25i, A25v. -/
import Derived.Test.YtekkldgmjdllbaaG34
import Derived.Test.YtekkldgmjdllbaaG35
import Derived.Test.YtekkldgmjdllbaaG32
import Derived.Test.YtekkldgmjdllbaaG22
import Derived.Test.YtekkldgmjdllbaaG31
import Derived.Test.YtekkldgmjdllbaaG21
import Derived.Test.YtekkldgmjdllbaaG17
import Derived.Test.YtekkldgmjdllbaaG27
import Derived.Test.YtekkldgmjdllbaaG04
import Derived.Scope
import Derived.Test.YtekkldgmjdllbaaG20
import Derived.Test.YtekkldgmjdllbaaG09
import Derived.Test.YtekkldgmjdllbaaG03
import Derived.RangeFuncLeaves
import Derived.RangeFuncRecord
import Derived.Test.YtekkldgmjdllbaaG30
import Derived.Shelf.Abstract
import Derived.Test.YtekkldgmjdllbaaG02
import Derived.Laws.Pointers
import Derived.Test.YtekkldgmjdllbaaG08
import Derived.Test.YtekkldgmjdllbaaG01
import Derived.Test.YtekkldgmjdllbaaG29
import Derived.Test.YtekkldgmjdllbaaG28
import Derived.WideKeyMaps
import Derived.MapKept
import Derived.Carry
import Derived.Test.YtekkldgmjdllbaaG19
import Derived.RangeFuncNested
import Derived.Deep.AppendLies
import Derived.OrdersIn
import Derived.TacticsIn
import Derived.RangeFuncCalls
import Derived.Test.YtekkldgmjdllbaaG16
import Derived.Maps.AppendAt
import Derived.OwnWalk
import Derived.Test.YtekkldgmjdllbaaG18
import Derived.Test.YtekkldgmjdllbaaProg
import Derived.Test.YtekkldgmjdllbaaG11
import Derived.Test.YtekkldgmjdllbaaHA25thr01
import Derived.Laws.Cover3
import Derived.StillTail
import Derived.Below
import Derived.Deep.Draws
import Derived.WalkKit
import Derived.KernelRfl
import Derived.Test.YtekkldgmjdllbaaG13
import Derived.Test.YtekkldgmjdllbaaHA25thr02
import Derived.Test.YtekkldgmjdllbaaG15
import Derived.Lib.Hide
import Derived.Deep.QuietTactic
import Derived.BigQuiet
import Derived.Deep.DrawnRows
import Derived.Laws.StructEq
import Derived.Test.YtekkldgmjdllbaaG12
import Derived.Test.YtekkldgmjdllbaaG07
import Derived.Test.YtekkldgmjdllbaaG10
import Derived.Test.YtekkldgmjdllbaaG06
import Derived.Test.YtekkldgmjdllbaaG05
import Derived.Great.BuildSlice
import Derived.Test.YtekkldgmjdllbaaG14
import Derived.Test.YtekkldgmjdllbaaG39
import Derived.Test.YtekkldgmjdllbaaG37
import Derived.Test.YtekkldgmjdllbaaG25
import Derived.Test.YtekkldgmjdllbaaG38
import Derived.Test.YtekkldgmjdllbaaG23
import Derived.Test.YtekkldgmjdllbaaG36
import Derived.Test.YtekkldgmjdllbaaG24
import Derived.Test.YtekkldgmjdllbaaG33
import Derived.Lib.Builder
import Derived.Lib.UnsafeStr
import Derived.Laws.Externs
import Derived.Lib.BufferRead
set_option linter.unusedSimpArgs false
set_option linter.unusedVariables false
section
namespace Go.Proofs.Ytekkldgmjdllbaa
open Go.RowKit Go.Flow Go.AV Go.Plain
theorem erase_get {l : List Int} {k i : Nat} (hk : k < l.length) : appF (fun i j => iF (fun j => l.getD j 0) (0 + i) j) (k - 0) (fun i j => iF (fun j => l.getD j 0) (k + 1 + i) j) i 0 = iC ((l.eraseIdx k).getD i 0) := by
 unfold appF
 rw [Nat.sub_zero]
 by_cases h : i < k
 ·rw [Nat.blt_eq.mpr h, List.getD_eq_getElem?_getD, List.getElem?_eraseIdx, if_pos h]
  show iC (l.getD (0 + i) 0) = _
  rw [Nat.zero_add, List.getD_eq_getElem?_getD]
 ·rw [show Nat.blt i k = false from Bool.eq_false_iff.2 fun h' => h (Nat.blt_eq.mp h'), List.getD_eq_getElem?_getD, List.getElem?_eraseIdx, if_neg h]
  show iC (l.getD (k + 1 + (i - k)) 0) = _
  rw [show k + 1 + (i - k) = i + 1 by omega, List.getD_eq_getElem?_getD]
set_option maxHeartbeats 1000000 in
set_option maxRecDepth 100000 in
theorem without_A (l : List Int) (k : Nat) (hk : k < l.length) (hl : l.length ≤ 1000000) : ACalls Try.prog 42 [.c (liV l), .c (iC k)] (.c (liV (l.eraseIdx k))) := by
 refine acalls_at Try.func42 rfl rfl Try.ntmps42 rfl ?_
 repeat (first
  | refine uA ?_
  | refine uB ?_
  | refine AWp.ret ?_
  | (refine rG 0 ?_
     refine kC ?_
     refine aB ?_)
  | (refine AWp.draw (id := 1) mixed ?_; refine qr7 (AList.emptySl tyOk) ?_; (iterate 2 refine kA ?_); refine AList.cut (l := 0) (h := k) tyOk rfl rfl rfl rfl rfl rfl rfl rfl ⟨_, _, rfl, by first | rfl | omega⟩ (by omega) (by omega) ?_; refine AList.appL0 tyOk rfl rfl rfl rfl rfl rfl rfl rfl rfl rfl oM oM ?_; (iterate 2 refine kA ?_); refine qr4w2 aL ?_; refine AList.cut (l := k + 1) (h := l.length) tyOk rfl rfl rfl rfl rfl rfl rfl ⟨_, _, rfl, by first | rfl | omega⟩ rfl (by omega) (by omega) ?_; refine AList.appL tyOk rfl rfl rfl rfl rfl rfl rfl rfl rfl rfl oM oM ?_; refine kC ?_; refine aB ⟨by kernel_rfl, ?_⟩))
 refine ⟨mkSt 15 [(4, .c (liV (l.eraseIdx k)))] [] [], [], Wk.mk [] rfl rfl rfl ?_ trivial, rfl, rfl, aR1⟩
 have hle : (l.eraseIdx k).length = k + (l.length - (k + 1)) := by rw [List.length_eraseIdx, if_pos hk]; omega
 refine ⟨⟨_, rfl, .c (LeC.fz rfl rfl ?_ (fun i hi j hj => ?_))⟩, trivial⟩
 ·exact hle
 ·obtain rfl : j = 0 := Nat.lt_one_iff.mp hj
  have := erase_get hk (i := i)
  exact ⟨this, by rw [show appF _ _ _ i 0 = _ from this]; rfl⟩
def few1 (w : Wt) : Wt := (w.1.take 60, w.2.take 60)
def fewV (p : List Wt) : List Wt := (p.take 90).map few1
abbrev cut60 (l : List Int) : CV := .ls (min l.length 60 - 0) 1 (fun k j => iF (fun i => l.getD i 0) (0 + k) j)
abbrev fwC (w : Wt) : List CV := [cut60 w.1, cut60 w.2]
theorem fwC_imm (w : Wt) : (fwC w).all immC = true := rfl
theorem cut60_cv (l : List Int) : Cv (cut60 l) (liV (l.take 60)) := fun σ O w u hu => by
 refine ⟨hu.1, ?_⟩
 have hn : (l.take 60).length = min l.length 60 - 0 := by rw [List.length_take]; omega
 show RepI O w (.ls (l.take 60).length 1 _) u
 rw [hn]
 refine RepI.ls_congr (fun k hk j hj => ?_) hu.2
 show CV.p (.int .i64 (l.getD (0 + k) 0)) = CV.p (.int .i64 ((l.take 60).getD k 0))
 rw [Nat.zero_add, List.getD_eq_getElem?_getD, List.getD_eq_getElem?_getD, List.getElem?_take_of_lt (by omega)]
theorem fewV_get (p : List Wt) {k : Nat} (hk : k < (p.take 90).length) : (fewV p).getD k wtZ = few1 ((p.take 90).getD k wtZ) := by
 unfold fewV
 rw [List.getD_eq_getElem?_getD, List.getD_eq_getElem?_getD, List.getElem?_map, List.getElem?_eq_getElem hk]
 rfl
theorem fewV_len (p : List Wt) : (fewV p).length = (p.take 90).length := List.length_map ..
set_option maxHeartbeats 2000000 in
set_option maxRecDepth 100000 in
theorem few_A (p : List Wt) (hp : p.length ≤ 4611686018427387904) (hl : ∀ k, k < p.length → (p.getD k wtZ).1.length ≤ 4611686018427387904 ∧ (p.getD k wtZ).2.length ≤ 4611686018427387904) : ACalls Try.prog 11 [.c (wpC p)] (.c (wpL (fewV p))) := by
 refine acalls_at Try.func11 rfl rfl Try.ntmps11 rfl ?_
 repeat (first
  | refine uA ?_
  | refine uB ?_
  | refine uC ?_
  | (refine rG 0 ?_
     refine kC ?_
     refine aB ?_)
  | (refine rG 1 ?_
     refine kC ?_
     refine aB ?_)
  | (refine rG 2 ?_
     refine kC ?_
     refine aB ?_))
 refine AWp.round (fun i : Nat => mkSt 46 [(0, .c (wpC p)), (3, .c (.ow 50)), (4, .c (iC i))] [(50, ⟨true, i, 2, 62, rowF fwC wtZ (p.take i)⟩)] [50])
  (fun i => i ≤ p.length ∧ i ≤ 90) (fun i => p.length - i) 0 ⟨Nat.zero_le _, Nat.zero_le _⟩ ?_ (fun i hi => ?_)
 ·refine Wk.mk [(50, none)] rfl rfl rfl ?_ ?_
  ·exact allT
  ·exact allH
 by_cases h1 : i < p.length ∧ i < 90
 ·obtain ⟨h1, h2⟩ := h1
  obtain ⟨l1, l2⟩ := hl i h1
  have h1' : (i : Int) < p.length := by omega
  have q1 : rowF wtC wtZ p i 0 = liV (p.getD i wtZ).1 := rfl
  have q2 : rowF wtC wtZ p i 1 = liV (p.getD i wtZ).2 := rfl
  have ht : p.take (i + 1) = p.take i ++ [p.getD i wtZ] := take_snocG h1 wtZ
  have hli : (p.take i).length = i := by rw [List.length_take]; omega
  generalize p.getD i wtZ = w at *
  have m1 : min (w.1.length : Int) 60 = ((min w.1.length 60 : Nat) : Int) := by omega
  have m2 : min (w.2.length : Int) 60 = ((min w.2.length 60 : Nat) : Int) := by omega
  have m3 : min w.1.length 60 ≤ w.1.length := by omega
  have m4 : min w.2.length 60 ≤ w.2.length := by omega
  repeat (first
   | refine uA ?_
   | refine uB ?_
   | refine uC ?_
   | refine uG ?_
   | refine uD ?_
   | refine kT ?_
   | (refine rG 3 ?_
      (iterate 2 refine kA ?_)
      refine qr5 (aO tyOk) ?_
      refine qr5t aK ?_
      (iterate 2 refine kA ?_)
      refine qr5t aK ?_
      refine qr4 aS ?_
      refine aB ?_)
   | (refine rG 4 ?_
      refine kA ?_
      refine qr4w2 aL ?_
      refine kC ?_
      refine aB ?_)
   | (refine AWp.draw (id := 5) mixed ?_; (iterate 3 refine kA ?_); refine qr8eo2 (aP (k := i) tyOk) ?_; refine qr7 (AList.fieldPl tyOk) ?_; refine AList.load1lE tyOk (q1) rfl rfl rfl rfl rfl oM ?_; (iterate 2 refine kA ?_); refine qr8eo2 (aP (k := i) tyOk) ?_; refine qr7 (AList.fieldPl tyOk) ?_; refine AList.load1lE tyOk (q1) rfl rfl rfl rfl rfl oM ?_; refine qr5 (aO tyOk) ?_; refine qr4 AList.minI ?_; refine AList.cut (l := 0) (h := min w.1.length 60) tyOk rfl rfl rfl rfl rfl rfl rfl rfl ⟨_, _, rfl, by first | rfl | omega⟩ (by omega) (by omega) ?_; (iterate 2 refine kA ?_); refine qr8eo2 (aP (k := i) tyOk) ?_; refine qr7 (AList.fieldPl tyOk) ?_; refine AList.load1lE tyOk (q2) rfl rfl rfl rfl rfl oM ?_; (iterate 2 refine kA ?_); refine qr8eo2 (aP (k := i) tyOk) ?_; refine qr7 (AList.fieldPl tyOk) ?_; refine AList.load1lE tyOk (q2) rfl rfl rfl rfl rfl oM ?_; refine qr5 (aO tyOk) ?_; refine qr4 AList.minI ?_; refine AList.cut (l := 0) (h := min w.2.length 60) tyOk rfl rfl rfl rfl rfl rfl rfl rfl ⟨_, _, rfl, by first | rfl | omega⟩ (by omega) (by omega) ?_; refine qr8 (aX tyOk) ?_; refine qr11 (AList.litSl tyOk) ?_; refine AList.appL tyOk rfl rfl rfl rfl rfl rfl rfl rfl rfl rfl oM oM ?_; refine kC ?_; refine aB ⟨by kernel_rfl, ?_⟩))
  refine ⟨i + 1, ⟨h1, h2⟩, Wk.mk [(50, some 44)] rfl rfl rfl ?_ ?_, by omega⟩
  ·exact allT
  ·refine ⟨HeapOk.row rfl rfl rfl ?_, trivial⟩
   have := row_snoc (c := fwC) (z := wtZ) (sz := 2) (p.take i) w fwC_imm rfl
   rw [hli] at this
   rw [ht]
   exact this
 ·have hcv : ∀ k, k < i → ∀ j, j < 2 → Cv (rowF fwC wtZ (p.take i) k j) (rowF wtC wtZ (fewV p) k j) := fun k hk j hj => by
   have hti : p.take i = p.take 90 := by
    rcases Nat.lt_or_ge i 90 with h | h
    ·have : p.length ≤ i := by omega
     rw [List.take_of_length_le this, List.take_of_length_le (by omega)]
    ·rw [show i = 90 by omega]
   have hli : (p.take i).length = i := by rw [List.length_take]; omega
   have hg := fewV_get p (k := k) (by rw [← hti, hli]; exact hk)
   rw [hti]
   unfold rowF
   rw [hg]
   match j, hj with
   | 0, _ => exact cut60_cv _
   | 1, _ => exact cut60_cv _
  have hlen : i = (fewV p).length := by rw [fewV_len, List.length_take]; omega
  by_cases h2 : (i : Int) < p.length
  ·have h3 : ¬ (i : Int) < 90 := by omega
   repeat (first
    | refine uA ?_
    | refine uB ?_
    | refine uH ?_
    | refine kU ?_
    | (refine rG 3 ?_
       (iterate 2 refine kA ?_)
       refine qr5 (aO tyOk) ?_
       refine qr5t aK ?_
       (iterate 2 refine kA ?_)
       refine qr5f aJ ?_
       refine qr4 aS ?_
       refine aB ?_))
   refine AWp.cvBox (id := 50) (rowF wtC wtZ (fewV p)) rfl rfl hcv ?_
   repeat (first
    | refine uB ?_
    | refine AWp.ret ?_
    | (refine rG 6 ?_
       refine kA ?_
       refine kC ?_
       refine aB ?_))
   refine ⟨mkSt 46 [(2, .c (wpL (fewV p)))] [] [], [], Wk.mk [] rfl rfl rfl ?_ trivial, rfl, rfl, aR1⟩
   exact ⟨⟨_, rfl, .c (LeC.fz rfl rfl hlen.symm (fun i _ j _ => ⟨rfl, rowF_imm wtC_imm _ i j⟩))⟩, trivial⟩
  ·repeat (first
    | refine uA ?_
    | refine uB ?_
    | refine uH ?_
    | refine kU ?_
    | (refine rG 3 ?_
       (iterate 2 refine kA ?_)
       refine qr5 (aO tyOk) ?_
       refine qr5f aJ ?_
       refine kA ?_
       (iterate 2 refine qr2 aG ?_)
       refine qr4 aR ?_
       refine aB ?_))
   refine AWp.cvBox (id := 50) (rowF wtC wtZ (fewV p)) rfl rfl hcv ?_
   repeat (first
    | refine uB ?_
    | refine AWp.ret ?_
    | (refine rG 6 ?_
       refine kA ?_
       refine kC ?_
       refine aB ?_))
   refine ⟨mkSt 46 [(2, .c (wpL (fewV p)))] [] [], [], Wk.mk [] rfl rfl rfl ?_ trivial, rfl, rfl, aR1⟩
   exact ⟨⟨_, rfl, .c (LeC.fz rfl rfl hlen.symm (fun i _ j _ => ⟨rfl, rowF_imm wtC_imm _ i j⟩))⟩, trivial⟩
theorem few_ok (p : List Wt) (hr : ∀ k, k < p.length → (∀ i, i < (p.getD k wtZ).1.length → iOk ((p.getD k wtZ).1.getD i 0)) ∧ ∀ i, i < (p.getD k wtZ).2.length → iOk ((p.getD k wtZ).2.getD i 0)) : PrR (fewV p) ∧ (fewV p).length ≤ 90 := by
 have hl := fewV_len p
 rw [List.length_take] at hl
 have tk : ∀ l : List Int, (∀ i, i < l.length → iOk (l.getD i 0)) → lOk (l.take 60) := fun l hl => by
  refine ⟨by rw [List.length_take]; omega, fun k hk => ?_⟩
  rw [List.length_take] at hk
  rw [List.getD_eq_getElem?_getD, List.getElem?_take_of_lt (by omega), ← List.getD_eq_getElem?_getD]
  exact hl k (by omega)
 refine ⟨⟨by omega, fun k hk => ?_⟩, by omega⟩
 have hk9 : k < (p.take 90).length := by rw [← fewV_len]; exact hk
 rw [fewV_get p hk9]
 rw [List.length_take] at hk9
 obtain ⟨h1, h2⟩ := hr k (by omega)
 rw [List.getD_eq_getElem?_getD, List.getElem?_take_of_lt (by omega), ← List.getD_eq_getElem?_getD]
 exact ⟨tk _ h1, tk _ h2⟩
theorem pc_cmp (c : Ca5) : cmpOk (pcA c) (pcB c) := by
 have := md_bd c.nA c.fA
 exact ⟨chk_nat _ _ (by omega) (by omega), chk_nat _ _ (by omega) (by omega), rfl, rfl⟩
end Go.Proofs.Ytekkldgmjdllbaa
end
