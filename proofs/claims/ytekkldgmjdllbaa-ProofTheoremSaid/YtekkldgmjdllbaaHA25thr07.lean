/- ProofTheorem: the statement. No condition. -/
import Derived.Test.YtekkldgmjdllbaaG37
import Derived.Test.YtekkldgmjdllbaaHA25thr06
import Derived.Test.YtekkldgmjdllbaaG08
import Derived.Test.YtekkldgmjdllbaaHA25thr01
import Derived.Test.YtekkldgmjdllbaaHA25thr05
import Derived.Test.YtekkldgmjdllbaaHA25thr04
import Derived.Laws.StructEq
import Derived.Test.YtekkldgmjdllbaaG39
import Derived.Test.YtekkldgmjdllbaaG34
import Derived.Test.YtekkldgmjdllbaaG35
import Derived.Test.YtekkldgmjdllbaaG07
import Derived.Test.YtekkldgmjdllbaaG27
import Derived.Test.YtekkldgmjdllbaaG32
import Derived.Test.YtekkldgmjdllbaaG22
import Derived.Test.YtekkldgmjdllbaaG21
import Derived.Test.YtekkldgmjdllbaaG31
import Derived.Test.YtekkldgmjdllbaaG17
import Derived.Test.YtekkldgmjdllbaaG25
import Derived.Test.YtekkldgmjdllbaaG38
import Derived.Test.YtekkldgmjdllbaaG23
import Derived.Test.YtekkldgmjdllbaaG04
import Derived.Scope
import Derived.Test.YtekkldgmjdllbaaG06
import Derived.Test.YtekkldgmjdllbaaG18
import Derived.Test.YtekkldgmjdllbaaG28
import Derived.Test.YtekkldgmjdllbaaG20
import Derived.Test.YtekkldgmjdllbaaG09
import Derived.Test.YtekkldgmjdllbaaG03
import Derived.RangeFuncLeaves
import Derived.RangeFuncRecord
import Derived.Test.YtekkldgmjdllbaaG36
import Derived.Test.YtekkldgmjdllbaaG24
import Derived.Test.YtekkldgmjdllbaaProg
import Derived.Test.YtekkldgmjdllbaaG15
import Derived.Test.YtekkldgmjdllbaaG11
import Derived.WideKeyMaps
import Derived.MapKept
import Derived.Carry
import Derived.Test.YtekkldgmjdllbaaG30
import Derived.Shelf.Abstract
import Derived.Test.YtekkldgmjdllbaaG02
import Derived.Test.YtekkldgmjdllbaaG05
import Derived.Great.BuildSlice
import Derived.Test.YtekkldgmjdllbaaG10
import Derived.Laws.Pointers
import Derived.Test.YtekkldgmjdllbaaG01
import Derived.Test.YtekkldgmjdllbaaG33
import Derived.Test.YtekkldgmjdllbaaG16
import Derived.Test.YtekkldgmjdllbaaHA25thr02
import Derived.Test.YtekkldgmjdllbaaG19
import Derived.Test.YtekkldgmjdllbaaG29
import Derived.RangeFuncNested
import Derived.Deep.AppendLies
import Derived.OrdersIn
import Derived.TacticsIn
import Derived.RangeFuncCalls
import Derived.Lib.Builder
import Derived.Lib.UnsafeStr
import Derived.Laws.Externs
import Derived.Lib.BufferRead
import Derived.WalkKit
import Derived.Lib.Hide
import Derived.Deep.QuietTactic
import Derived.BigQuiet
import Derived.Deep.DrawnRows
import Derived.Laws.Cover3
import Derived.Maps.AppendAt
import Derived.OwnWalk
import Derived.StillTail
import Derived.Below
import Derived.Deep.Draws
import Derived.KernelRfl
import Derived.Test.YtekkldgmjdllbaaG13
import Derived.Test.YtekkldgmjdllbaaG12
import Derived.Test.YtekkldgmjdllbaaG14
import Derived.Test.YtekkldgmjdllbaaRows
import Derived.Test.YtekkldgmjdllbaaG26
import Derived.Test.YtekkldgmjdllbaaHA25thr03
import Derived.ProofKit
import Derived.OpenShut
import Derived.Deep.DeepHandedRow
import Derived.SizedLaws
import Derived.ChangeSlices
import Derived.ChangeSame
set_option linter.unusedSimpArgs false
set_option linter.unusedVariables false
section
namespace Go.Proofs.Ytekkldgmjdllbaa
open Go.RowKit Go.Flow Go.AV Go.Plain
def thF (P : List Wt) (k ra rb i j : Nat) : CV := if i < k then rowF wtC wtZ P i j else if i = k then (if j = 0 then .ow ra else .ow rb) else .p (.slice none 0 0)
def thG (P : List Wt) (k i j : Nat) : CV := if i < k then rowF wtC wtZ P i j else .p (.slice none 0 0)
abbrev thB (F : Nat → Nat → CV) (n : Nat) : AB := ⟨true, n, 2, 62, F⟩
theorem thF_0 (P : List Wt) (k ra rb : Nat) : thF P k ra rb k 0 = .ow ra := by unfold thF; rw [if_neg (Nat.lt_irrefl _), if_pos rfl, if_pos rfl]
theorem thF_1 (P : List Wt) (k ra rb : Nat) : thF P k ra rb k 1 = .ow rb := by unfold thF; rw [if_neg (Nat.lt_irrefl _), if_pos rfl, if_neg (by decide)]
theorem th_open {P : List Wt} {k n ra rb : Nat} {h : Nat → Option AB} {ren : List (Nat × Option Nat)} (h1 : assoc ren ra = some none := by rfl) (h2 : assoc ren rb = some none := by rfl) : ∀ i, i < n → ∀ j, j < 2 → LeC h ren (thG P k i j) (thF P k ra rb i j) := fun i _ j _ => by
 unfold thF thG
 by_cases hik : i < k
 ·rw [if_pos hik, if_pos hik]
  exact LeC.refl _ (rowF_imm wtC_imm _ i j)
 ·rw [if_neg hik, if_neg hik]
  by_cases hi : i = k
  ·rw [if_pos hi]
   by_cases hj : j = 0
   ·rw [if_pos hj]; exact LeC.nil _ h1
   ·rw [if_neg hj]; exact LeC.nil _ h2
  ·rw [if_neg hi]
   exact LeC.refl _ rfl
theorem th_keep {F : Nat → Nat → CV} {P : List Wt} {k n ra rb ra' rb' qa qb : Nat} {h : Nat → Option AB} {ren : List (Nat × Option Nat)} (hF : ∀ i, i ≠ k → ∀ j, F i j = thF P k qa qb i j) (h0 : F k 0 = .ow ra) (h1 : F k 1 = .ow rb) (r1 : assoc ren ra' = some (some ra)) (r2 : assoc ren rb' = some (some rb)) : ∀ i, i < n → ∀ j, j < 2 → LeC h ren (F i j) (thF P k ra' rb' i j) := fun i _ j hj => by
 by_cases hi : i = k
 ·subst hi
  match j, hj with
  | 0, _ => rw [h0, thF_0]; exact LeC.ow _ _ r1
  | 1, _ => rw [h1, thF_1]; exact LeC.ow _ _ r2
 ·rw [hF i hi j]
  unfold thF
  by_cases hik : i < k
  ·rw [if_pos hik, if_pos hik]
   exact LeC.refl _ (rowF_imm wtC_imm _ i j)
  ·rw [if_neg hik, if_neg hik, if_neg hi, if_neg hi]
   exact LeC.refl _ rfl
theorem th_done {P : List Wt} {k n ra rb : Nat} {lA lB : List Int} {h : Nat → Option AB} {ren : List (Nat × Option Nat)} (hP : P.length = k) (a1 : h ra = some (rwI lA)) (a2 : h rb = some (rwI lB)) (r1 : renNo ren ra = true) (r2 : renNo ren rb = true) : ∀ i, i < n → ∀ j, j < 2 → LeC h ren (thF P k ra rb i j) (thG (P ++ [(lA, lB)]) (k + 1) i j) := fun i _ j hj => by
 unfold thG
 by_cases hi : i = k
 ·subst hi
  have e : (P ++ [(lA, lB)]).getD i wtZ = (lA, lB) := by rw [List.getD_eq_getElem?_getD, List.getElem?_append_right (by omega), hP, Nat.sub_self]; rfl
  rw [if_pos (Nat.lt_succ_self _)]
  unfold rowF
  rw [e]
  match j, hj with
  | 0, _ => rw [thF_0]; exact LeC.fz a1 r1 rfl (rw_imm _)
  | 1, _ => rw [thF_1]; exact LeC.fz a2 r2 rfl (rw_imm _)
 ·unfold thF
  by_cases hik : i < k
  ·rw [if_pos hik, if_pos (by omega)]
   unfold rowF
   rw [List.getD_eq_getElem?_getD (l := P ++ [(lA, lB)]), List.getElem?_append_left (by omega), ← List.getD_eq_getElem?_getD]
   exact LeC.refl _ (rowF_imm wtC_imm P i j)
  ·rw [if_neg hik, if_neg hi, if_neg (by omega)]
   exact LeC.refl _ rfl
set_option maxHeartbeats 8000000 in
set_option maxRecDepth 100000 in
theorem ProofTheorem_A (c : Ca5) (hc : c.ok) (raw : List Wt) (h1 : raw.length ≤ 4611686018427387904) (h2 : ∀ k, k < raw.length → (raw.getD k wtZ).1.length ≤ 4611686018427387904 ∧ (raw.getD k wtZ).2.length ≤ 4611686018427387904)
 (h3 : ∀ k, k < raw.length → (∀ i, i < (raw.getD k wtZ).1.length → iOk ((raw.getD k wtZ).1.getD i 0)) ∧ ∀ i, i < (raw.getD k wtZ).2.length → iOk ((raw.getD k wtZ).2.getD i 0)) (q : Int × Int × Int) :
 ACalls Try.prog 5 [.ag (ca5C c), .c (wpC raw), .ag [iC q.1, iC q.2.1, iC q.2.2]] (.c (bC true)) := by
 have hsan := sanity25_A
 have hmade := made25_A c hc
 have hfew := few_A raw h1 h2
 have hrk := (few_ok raw h3).1.ok
 have hcm := pc_cmp c
 have hM := pMake_A (pcA c) (pcB c) (pcX c) (pcY c)
 have hC := Confused_A (pcA c) (pcB c) (pcX c) (pcY c)
 generalize fewV raw = rw at *
 refine acalls_at Try.func5 rfl rfl Try.ntmps5 rfl ?_
 generalize pcA c = a at *
 generalize pcB c = b at *
 generalize pcX c = x at *
 generalize pcY c = y at *
 cases hcf : (cnfV a b x y).2 with
 | false =>
   obtain ⟨e1, e2⟩ := chk_mk hcm hcf
   obtain ⟨e3, e4, e5⟩ := shk_spec e2
   have hS := pShrink_A a b x y _ (mkL25_R x y hcm).ok
   have c1 := pCheck_A a b x y _ (mkL25_R x y hcm).ok
   have c2 := pCheck_A a b x y _ e5.ok
   rw [e2] at c1
   rw [e4] at c2
   rw [e3] at hS
   rw [e1] at hM
   rw [hcf] at hC
   generalize (cnfV a b x y).1 = cl at *
   generalize mkL25 a b x y (shL (shN x y)) = p at *
   generalize shrP a b x y (shL (shN x y)) p = s at *
   repeat (first
    | refine uA ?_
    | refine uB ?_
    | refine uG ?_
    | refine AWp.ret ?_
    | refine kU ?_
    | (refine rG 0 ?_
       (iterate 2 refine qr5 aQ ?_)
       refine kC ?_
       refine aB ?_)
    | (refine rG 1 ?_
       refine aH rfl rfl rfl rfl Try.func9 rfl (by kernel_rfl) (hsan) ?_
       refine kC ?_
       refine aB ?_)
    | (refine rG 2 ?_
       refine kF ?_
       refine aH rfl rfl rfl rfl Try.func10 rfl (by kernel_rfl) (hmade) ?_
       refine kA ?_
       (iterate 4 refine qr4 aN ?_)
       (iterate 4 refine qr5 (aM tyOk) ?_)
       (iterate 4 refine kI ?_)
       refine aB ?_)
    | (refine rG 3 ?_
       refine kA ?_
       refine aH rfl rfl rfl rfl Try.func11 rfl (by kernel_rfl) (hfew) ?_
       refine kC ?_
       refine aB ?_)
    | (refine rG 4 ?_
       (iterate 4 refine kF ?_)
       refine aH rfl rfl rfl rfl Try.func21 rfl (by kernel_rfl) (hC) ?_
       refine kA ?_
       (iterate 2 refine qr4 aN ?_)
       refine qr5 (aM tyOk) ?_
       refine kI ?_
       refine kC ?_
       refine aB ?_)
    | (refine rG 5 ?_
       (iterate 4 refine kF ?_)
       refine aH rfl rfl rfl rfl Try.func20 rfl (by kernel_rfl) (hM) ?_
       refine kA ?_
       (iterate 2 refine qr4 aN ?_)
       (iterate 2 refine kC ?_)
       refine aB ?_)
    | (refine rG 6 ?_
       refine kA ?_
       refine aB ?_)
    | (refine rG 22 ?_
       (iterate 4 refine kF ?_)
       refine kA ?_
       refine aH rfl rfl rfl rfl Try.func16 rfl (by kernel_rfl) (hS) ?_
       refine kA ?_
       (iterate 2 refine qr4 aN ?_)
       (iterate 2 refine kC ?_)
       refine aB ?_)
    | (refine rG 23 ?_
       (iterate 3 refine kA ?_)
       refine aK rfl rfl rfl rfl rfl (by simp only [cmpP, eq_self, decide_true]) ?_
       refine qr4 aS ?_
       (iterate 2 refine kA ?_)
       refine aK rfl rfl rfl rfl rfl (by simp only [cmpP, eq_self, decide_true]) ?_
       refine qr4 aS ?_
       refine kA ?_
       (iterate 4 refine kF ?_)
       refine kA ?_
       refine aH rfl rfl rfl rfl Try.func14 rfl (by kernel_rfl) (c1) ?_
       refine aK rfl rfl rfl rfl rfl (by simp only [cmpP, eq_self, decide_true]) ?_
       refine qr4 aS ?_
       refine kA ?_
       (iterate 4 refine kF ?_)
       refine kA ?_
       refine aH rfl rfl rfl rfl Try.func14 rfl (by kernel_rfl) (c2) ?_
       refine aK rfl rfl rfl rfl rfl (by simp only [cmpP, eq_self, decide_true]) ?_
       refine qr4 aS ?_
       refine kC ?_
       refine aB ?_))
   refine ⟨mkSt 228 [(6, .c (bC true))] [] [], [], Wk.mk [] rfl rfl rfl ?_ trivial, rfl, rfl, aR1⟩
   exact allT
 | true =>
   have hno : ∀ p, chkV a b x y p = 62 := fun p => chk_62 hcm fun h => by have := chk_cnf h; rw [hcf] at this; cases this
   rw [mk_cnf hcm hcf] at hM
   rw [hcf] at hC
   generalize (cnfV a b x y).1 = cl at *
   have hS := aShifts_A x y
   have hsb := fun k hk => shN_bd (x := x) (y := y) (k := k) hk
   have h81 := shL_81 x y
   obtain ⟨L, hL⟩ : ∃ L, shL (shN x y) = L := ⟨_, rfl⟩
   rw [hL] at hS hsb h81
   obtain ⟨ha, hb, hW, hH⟩ := hcm
   have hn1 := n_bd ha
   repeat (first
    | refine uA ?_
    | refine uB ?_
    | refine uC ?_
    | refine kT ?_
    | (refine rG 0 ?_
       (iterate 2 refine qr5 aQ ?_)
       refine kC ?_
       refine aB ?_)
    | (refine rG 1 ?_
       refine aH rfl rfl rfl rfl Try.func9 rfl (by kernel_rfl) (hsan) ?_
       refine kC ?_
       refine aB ?_)
    | (refine rG 2 ?_
       refine kF ?_
       refine aH rfl rfl rfl rfl Try.func10 rfl (by kernel_rfl) (hmade) ?_
       refine kA ?_
       (iterate 4 refine qr4 aN ?_)
       (iterate 4 refine qr5 (aM tyOk) ?_)
       (iterate 4 refine kI ?_)
       refine aB ?_)
    | (refine rG 3 ?_
       refine kA ?_
       refine aH rfl rfl rfl rfl Try.func11 rfl (by kernel_rfl) (hfew) ?_
       refine kC ?_
       refine aB ?_)
    | (refine rG 4 ?_
       (iterate 4 refine kF ?_)
       refine aH rfl rfl rfl rfl Try.func21 rfl (by kernel_rfl) (hC) ?_
       refine kA ?_
       (iterate 2 refine qr4 aN ?_)
       refine qr5 (aM tyOk) ?_
       refine kI ?_
       refine kC ?_
       refine aB ?_)
    | (refine rG 5 ?_
       (iterate 4 refine kF ?_)
       refine aH rfl rfl rfl rfl Try.func20 rfl (by kernel_rfl) (hM) ?_
       refine kA ?_
       (iterate 2 refine qr4 aN ?_)
       (iterate 2 refine kC ?_)
       refine aB ?_)
    | (refine rG 6 ?_
       refine kA ?_
       refine aB ?_)
    | (refine rG 7 ?_
       (iterate 2 refine kF ?_)
       refine aH rfl rfl rfl rfl Try.func22 rfl (by kernel_rfl) (hS) ?_
       refine kC ?_
       refine aB ?_)
    | (refine rG 8 ?_
       refine kA ?_
       refine qr5 (aO tyOk) ?_
       refine qr9e2o2 (AList.makeSl (n := L.length) tyOk) ?_
       refine kC ?_
       refine aB ?_)
    | (refine rG 9 ?_
       refine kA ?_
       refine qr5 (aO tyOk) ?_
       refine kA ?_
       refine aB ?_))
   refine AWp.round (fun i : Nat × List Wt =>
    mkSt 228 [
     (1, .c (wpC rw)), (5, .c (.pt 5 3 0 0)), (7, .c (bC true)), (8, .c (.pt 8 3 0 0)), (9, .c (.pt 9 3 0 0)), (10, .c (.pt 10 4 0 0)), (11, .c (.pt 11 4 0 0)), (14, .c (wpL [])), (15, .c (iC 60)), (17, .c (.ow 301))
     , (56, .c (.ls L.length 2 (rowF mvC mvZ L))), (57, .c (iC L.length)), (58, .c (iC (i.1 : Nat)))] [
     (8, ⟨false, 1, 3, 31, lF (bpC a)⟩), (9, ⟨false, 1, 3, 31, lF (bpC b)⟩), (10, ⟨false, 1, 4, 33, lF (bgC x)⟩), (11, ⟨false, 1, 4, 33, lF (bgC y)⟩), (5, ⟨false, 1, 3, 25, lF [iC q.1, iC q.2.1, iC q.2.2]⟩)
     , (301, thB (thG (i.2) (i.1)) L.length)] [8, 9, 10, 11, 5, 301]
    ) (fun i => i.1 ≤ L.length ∧ i.2.length = i.1 ∧ ∀ w ∈ i.2, w.1.length ≤ 10000 ∧ w.2.length ≤ 10000) (fun i => L.length - i.1) (0, []) ⟨Nat.zero_le _, rfl, fun w hw => by cases hw⟩ ?_ (fun ⟨k, P⟩ hk => ?_)
   ·refine Wk.mk [(8, some 8), (9, some 9), (10, some 10), (11, some 11), (5, some 5), (301, some 55)] rfl rfl rfl ?_ ?_
    ·exact allT
    ·exact ⟨
     hSm, hSm, hSm, hSm, hSm
     , HeapOk.row rfl rfl rfl (fun i _ j hj => by
       match j, hj with
       | 0, _ => exact ⟨rfl, rfl⟩
       | 1, _ => exact ⟨rfl, rfl⟩), trivial⟩
   obtain ⟨hk1, hk2, hk3⟩ := hk
   dsimp only at hk1 hk2 hk3 ⊢
   by_cases hkl : k < L.length
   rotate_left
   ·obtain rfl : k = L.length := by omega
    have hPB : PrB 10000 P := ⟨by omega, hk3⟩
    obtain ⟨o, ho1, ho2⟩ := Odd25_A 10000 P hPB (by decide) q.1 q.2.1 q.2.2
    have c1 := pCheck_A a b x y P (hPB.ok (by decide))
    have c2 := pCheck_A a b x y rw hrk
    have c3 := pCheck_A a b x y o (ho1.ok (by decide))
    rw [hno] at c1 c2 c3
    have hl0 : (([] : List Wt).length : Int) = 0 := rfl
    repeat (first
     | refine uA ?_
     | refine uH ?_
     | refine kU ?_
     | (refine rG 10 ?_
        refine qr5f aJ ?_
        refine aB ?_))
    refine AWp.weak (S' := mkSt 228 [(1, .c (wpC rw)), (5, .c (.pt 5 3 0 0)), (7, .c (bC true)), (8, .c (.pt 8 3 0 0)), (9, .c (.pt 9 3 0 0)), (10, .c (.pt 10 4 0 0)), (11, .c (.pt 11 4 0 0)), (14, .c (wpL [])), (15, .c (iC 60)), (17, .c (wpC P))] [
     (8, ⟨false, 1, 3, 31, lF (bpC a)⟩), (9, ⟨false, 1, 3, 31, lF (bpC b)⟩), (10, ⟨false, 1, 4, 33, lF (bgC x)⟩), (11, ⟨false, 1, 4, 33, lF (bgC y)⟩), (5, ⟨false, 1, 3, 25, lF [iC q.1, iC q.2.1, iC q.2.2]⟩)
     ] [8, 9, 10, 11, 5]) (Wk.mk [(8, some 8), (9, some 9), (10, some 10), (11, some 11), (5, some 5)] rfl rfl rfl ?_ ?_) ?_
    ·have hfz : ∀ i, i < L.length → ∀ j, j < 2 → thG P L.length i j = rowF wtC wtZ P i j ∧ immC (thG P L.length i j) = true := fun i hi j _ => by
      unfold thG
      rw [if_pos hi]
      exact ⟨rfl, rowF_imm wtC_imm P i j⟩
     repeat (first | exact trivial | refine ⟨⟨_, rfl, by first | exact LeA.c (LeC.fz rfl rfl hk2 hfz) | exact leT⟩, ?_⟩)
    ·exact ⟨
     hSm, hSm, hSm, hSm, hSm
     , trivial⟩
    repeat (first
     | refine uB ?_
     | refine AWp.ret ?_
     | refine thenA_r ?_
     | (refine AWp.draw (id := 21) mixed ?_; (iterate 3 refine kA ?_); refine aK rfl rfl rfl rfl rfl (by simp only [cmpP, eq_self, decide_true]) ?_; refine qr4 aS ?_; (iterate 2 refine kA ?_); refine qr5 (aO tyOk) ?_; refine qr5t aK ?_; refine qr4 aS ?_; refine kA ?_; (iterate 4 refine kF ?_); refine kA ?_; refine aH rfl rfl rfl rfl Try.func14 rfl (by kernel_rfl) (c1) ?_; refine aK rfl rfl rfl rfl rfl (by simp only [cmpP, eq_self, decide_true]) ?_; refine qr4 aS ?_; refine kA ?_; (iterate 4 refine kF ?_); refine kA ?_; refine aH rfl rfl rfl rfl Try.func14 rfl (by kernel_rfl) (c2) ?_; refine aK rfl rfl rfl rfl rfl (by simp only [cmpP, eq_self, decide_true]) ?_; refine qr4 aS ?_; refine kA ?_; (iterate 4 refine kF ?_); refine kA ?_; refine kF ?_; refine aH rfl rfl rfl rfl Try.func13 rfl (by kernel_rfl) (ho2) ?_; refine aH rfl rfl rfl rfl Try.func14 rfl (by kernel_rfl) (c3) ?_; refine aK rfl rfl rfl rfl rfl (by simp only [cmpP, eq_self, decide_true]) ?_; refine qr4 aS ?_; refine kC ?_; refine aB ⟨by kernel_rfl, ?_⟩))
    refine ⟨mkSt 228 [(6, .c (bC true))] [] [], [], Wk.mk [] rfl rfl rfl ?_ trivial, rfl, rfl, aR1⟩
    exact allT
   have hkl' : (k : Int) < L.length := by omega
   have hd := hsb k hkl
   have ed : cellsFrom (rowF mvC mvZ L k) 0 2 = mvC (L.getD k mvZ) := rfl
   obtain ⟨d, hdd⟩ : ∃ d, L.getD k mvZ = d := ⟨_, rfl⟩
   rw [hdd] at hd ed
   repeat (first
    | refine uA ?_
    | refine uB ?_
    | refine uC ?_
    | refine uG ?_
    | refine kT ?_
    | (refine rG 10 ?_
       refine qr5t aK ?_
       refine aB ?_)
    | (refine rG 11 ?_
       refine kA ?_
       refine qr8eo2 (aP (k := k) tyOk) ?_
       refine AList.loadAlE tyOk (ed) rfl rfl rfl rfl rfl oM ?_
       refine qr5 (aM tyOk) ?_
       refine kC ?_
       refine kI ?_
       refine aB ?_)
    | (refine rG 12 ?_
       refine kD ?_
       refine kE ?_
       refine qr5 (aO tyOk) ?_
       refine kA ?_
       refine aB ?_))
   refine AWp.round (fun i : Nat × List Int × List Int =>
    mkSt 228 [
     (1, .c (wpC rw)), (5, .c (.pt 5 3 0 0)), (7, .c (bC true)), (8, .c (.pt 8 3 0 0)), (9, .c (.pt 9 3 0 0)), (10, .c (.pt 10 4 0 0)), (11, .c (.pt 11 4 0 0)), (14, .c (wpL [])), (15, .c (iC 60)), (17, .c (.ow 301))
     , (19, .c (.pt 19 2 0 0)), (18, .c (iC (k : Nat))), (56, .c (.ls L.length 2 (rowF mvC mvZ L))), (57, .c (iC L.length)), (58, .c (iC (k : Nat))), (65, .c (iC a.n)), (66, .c (iC (i.1 : Nat)))] [
     (8, ⟨false, 1, 3, 31, lF (bpC a)⟩), (9, ⟨false, 1, 3, 31, lF (bpC b)⟩), (10, ⟨false, 1, 4, 33, lF (bgC x)⟩), (11, ⟨false, 1, 4, 33, lF (bgC y)⟩), (5, ⟨false, 1, 3, 25, lF [iC q.1, iC q.2.1, iC q.2.2]⟩)
     , (19, ⟨false, 1, 2, 59, lF (mvC d)⟩), (301, thB (thF P k 302 303) L.length), (302, rwI (i.2.1)), (303, rwI (i.2.2))] [8, 9, 10, 11, 5, 19, 301, 302, 303]
    ) (fun i => i.1 ≤ a.n ∧ i.2.1.length ≤ i.1 ∧ i.2.2.length ≤ i.1) (fun i => a.n - i.1) (0, [], []) ⟨Nat.zero_le _, Nat.zero_le _, Nat.zero_le _⟩ ?_ (fun ⟨i, lA, lB⟩ hi => ?_)
   ·refine Wk.mk [(8, some 8), (9, some 9), (10, some 10), (11, some 11), (5, some 5), (19, some 19), (301, some 301), (302, none), (303, none)] rfl rfl rfl ?_ ?_
    ·exact allT
    ·exact ⟨
     hSm, hSm, hSm, hSm, hSm
     , hSm, .inr ⟨301, L.length, _, .inl rfl, rfl, rfl, th_open⟩, HeapOk.nil rfl rfl, HeapOk.nil rfl rfl, trivial⟩
   obtain ⟨hi1, hi2, hi3⟩ := hi
   dsimp only at hi1 hi2 hi3 ⊢
   by_cases hil : i < a.n
   rotate_left
   ·obtain rfl : i = a.n := by omega
    repeat (first
     | refine uA ?_
     | refine uB ?_
     | refine uH ?_
     | refine thenA_e ?_
     | refine uD ?_
     | refine uF ?_
     | refine kU ?_
     | (refine rG 13 ?_
        refine qr5f aJ ?_
        refine aB ?_)
     | (refine rG 20 ?_
        refine qr4w2 aL ?_
        refine kA ?_
        refine aB ?_))
    refine ⟨(k + 1, P ++ [(lA, lB)]), ⟨hkl, by rw [List.length_append, hk2]; rfl, fun w hw => ?_⟩, Wk.mk [(8, some 8), (9, some 9), (10, some 10), (11, some 11), (5, some 5), (301, some 301)] rfl rfl rfl ?_ ?_, by dsimp only; omega⟩
    ·rcases List.mem_append.1 hw with hw | hw
     ·exact hk3 w hw
     ·rw [List.mem_singleton.1 hw]
      dsimp only
      omega
    ·exact allT
    ·exact ⟨
     hSm, hSm, hSm, hSm, hSm
     , .inr ⟨301, L.length, _, .inl rfl, rfl, rfl, th_done hk2 rfl rfl rfl rfl⟩, trivial⟩
   have hil' : (i : Int) < a.n := by omega
   obtain ⟨w1, w2, w3⟩ := side_div ha hil
   have hH96 : a.H ≤ 96 := (okB ha).2.2.2.1
   have g1 := bGet_A a.W a.H a.n a.d ((i : Int) % a.W) ((i : Int) / a.W) ha
   have g2 := bGet_A b.W b.H b.n b.d ((i : Int) % a.W - d.1) ((i : Int) / a.W - d.2) hb
   have g3 := bGet_A b.W b.H b.n b.d ((i : Int) % a.W) ((i : Int) / a.W) hb
   have g4 := bGet_A a.W a.H a.n a.d ((i : Int) % a.W + d.1) ((i : Int) / a.W + d.2) ha
   generalize hasB a.W a.H a.d ((i : Int) % a.W) ((i : Int) / a.W) = u1 at g1
   generalize hasB b.W b.H b.d ((i : Int) % a.W - d.1) ((i : Int) / a.W - d.2) = u2 at g2
   generalize hasB b.W b.H b.d ((i : Int) % a.W) ((i : Int) / a.W) = u3 at g3
   generalize hasB a.W a.H a.d ((i : Int) % a.W + d.1) ((i : Int) / a.W + d.2) = u4 at g4
   have o0 := thF_0 P k 302 303
   have o1 := thF_1 P k 302 303
   repeat (first
    | refine uA ?_
    | refine uC ?_
    | refine uG ?_
    | refine kT ?_
    | (refine rG 13 ?_
       refine qr5t aK ?_
       refine aB ?_)
    | (refine rG 14 ?_
       refine kA ?_
       refine kC ?_
       refine aB ?_))
   refine AWp.cut (
    mkSt 228 [
     (1, .c (wpC rw)), (5, .c (.pt 5 3 0 0)), (7, .c (bC true)), (8, .c (.pt 8 3 0 0)), (9, .c (.pt 9 3 0 0)), (10, .c (.pt 10 4 0 0)), (11, .c (.pt 11 4 0 0)), (14, .c (wpL [])), (15, .c (iC 60)), (17, .c (.ow 301))
     , (19, .c (.pt 19 2 0 0)), (18, .c (iC (k : Nat))), (56, .c (.ls L.length 2 (rowF mvC mvZ L))), (57, .c (iC L.length)), (58, .c (iC (k : Nat))), (65, .c (iC a.n)), (66, .c (iC (i : Nat))), (20, .c (iC (i : Nat))), (97, .c (bC (u1 && !u2)))] [
     (8, ⟨false, 1, 3, 31, lF (bpC a)⟩), (9, ⟨false, 1, 3, 31, lF (bpC b)⟩), (10, ⟨false, 1, 4, 33, lF (bgC x)⟩), (11, ⟨false, 1, 4, 33, lF (bgC y)⟩), (5, ⟨false, 1, 3, 25, lF [iC q.1, iC q.2.1, iC q.2.2]⟩)
     , (19, ⟨false, 1, 2, 59, lF (mvC d)⟩), (301, thB (thF P k 302 303) L.length), (302, rwI (lA)), (303, rwI (lB))] [8, 9, 10, 11, 5, 19, 301, 302, 303]
    ) ?_ (fun S2 hw2 => AWp.weak hw2 ?_)
   ·cases u1 with
    | false =>
      repeat (first
       | (refine AWp.draw (id := 15) mixed ?_; refine kF ?_; refine kA ?_; refine kD ?_; refine kE ?_; refine qr4w2 AList.rem ?_; refine kA ?_; refine kD ?_; refine kE ?_; refine qr4w3 AList.quo ?_; refine aH rfl rfl rfl rfl Try.func23 rfl (by kernel_rfl) (g1) ?_; refine kA ?_; (iterate 17 refine qr2 aG ?_); refine qr4 aR ?_; refine aB ⟨by kernel_rfl, ?_⟩))
      refine ⟨rfl, Wk.mk [(8, some 8), (9, some 9), (10, some 10), (11, some 11), (5, some 5), (19, some 19), (301, some 301), (302, some 302), (303, some 303)] rfl rfl rfl ?_ ?_⟩
      ·exact allT
      ·exact ⟨
       hSm, hSm, hSm, hSm, hSm
       , hSm, .inr ⟨301, L.length, _, .inl rfl, rfl, rfl, th_keep (fun _ _ _ => rfl) o0 o1 rfl rfl⟩, HeapOk.row rfl rfl rfl (rw_imm _), HeapOk.row rfl rfl rfl (rw_imm _), trivial⟩
    | true =>
      cases u2 with
      | false =>
        repeat (first
         | (refine AWp.draw (id := 15) mixed ?_; refine kF ?_; refine kA ?_; refine kD ?_; refine kE ?_; refine qr4w2 AList.rem ?_; refine kA ?_; refine kD ?_; refine kE ?_; refine qr4w3 AList.quo ?_; refine aH rfl rfl rfl rfl Try.func23 rfl (by kernel_rfl) (g1) ?_; refine kA ?_; refine kF ?_; refine kA ?_; refine kD ?_; refine kE ?_; refine qr4w2 AList.rem ?_; refine kD ?_; refine kE ?_; refine qr4w2 AList.sub ?_; refine kA ?_; refine kD ?_; refine kE ?_; refine qr4w3 AList.quo ?_; refine kD ?_; refine kE ?_; refine qr4w2 AList.sub ?_; refine aH rfl rfl rfl rfl Try.func23 rfl (by kernel_rfl) (g2) ?_; refine qr3 AList.notB ?_; refine qr4 aS ?_; refine aB ⟨by kernel_rfl, ?_⟩))
        refine ⟨rfl, Wk.mk [(8, some 8), (9, some 9), (10, some 10), (11, some 11), (5, some 5), (19, some 19), (301, some 301), (302, some 302), (303, some 303)] rfl rfl rfl ?_ ?_⟩
        ·exact allT
        ·exact ⟨
         hSm, hSm, hSm, hSm, hSm
         , hSm, .inr ⟨301, L.length, _, .inl rfl, rfl, rfl, th_keep (fun _ _ _ => rfl) o0 o1 rfl rfl⟩, HeapOk.row rfl rfl rfl (rw_imm _), HeapOk.row rfl rfl rfl (rw_imm _), trivial⟩
      | true =>
        repeat (first
         | (refine AWp.draw (id := 15) mixed ?_; refine kF ?_; refine kA ?_; refine kD ?_; refine kE ?_; refine qr4w2 AList.rem ?_; refine kA ?_; refine kD ?_; refine kE ?_; refine qr4w3 AList.quo ?_; refine aH rfl rfl rfl rfl Try.func23 rfl (by kernel_rfl) (g1) ?_; refine kA ?_; refine kF ?_; refine kA ?_; refine kD ?_; refine kE ?_; refine qr4w2 AList.rem ?_; refine kD ?_; refine kE ?_; refine qr4w2 AList.sub ?_; refine kA ?_; refine kD ?_; refine kE ?_; refine qr4w3 AList.quo ?_; refine kD ?_; refine kE ?_; refine qr4w2 AList.sub ?_; refine aH rfl rfl rfl rfl Try.func23 rfl (by kernel_rfl) (g2) ?_; refine qr3 AList.notB ?_; refine qr4 aS ?_; refine aB ⟨by kernel_rfl, ?_⟩))
        refine ⟨rfl, Wk.mk [(8, some 8), (9, some 9), (10, some 10), (11, some 11), (5, some 5), (19, some 19), (301, some 301), (302, some 302), (303, some 303)] rfl rfl rfl ?_ ?_⟩
        ·exact allT
        ·exact ⟨
         hSm, hSm, hSm, hSm, hSm
         , hSm, .inr ⟨301, L.length, _, .inl rfl, rfl, rfl, th_keep (fun _ _ _ => rfl) o0 o1 rfl rfl⟩, HeapOk.row rfl rfl rfl (rw_imm _), HeapOk.row rfl rfl rfl (rw_imm _), trivial⟩
   clear hw2 S2 g1 g2
   generalize (u1 && !u2) = e
   obtain ⟨lA', hA'⟩ : ∃ l, l = (if e = true then lA ++ [(i : Int)] else lA) := ⟨_, rfl⟩
   have hAl : lA'.length ≤ i + 1 := by
    rw [hA']
    split
    ·rw [List.length_append, List.length_singleton]; omega
    ·omega
   first | refine uA ?_ | skip
   refine AWp.cut (
    mkSt 228 [
     (1, .c (wpC rw)), (5, .c (.pt 5 3 0 0)), (7, .c (bC true)), (8, .c (.pt 8 3 0 0)), (9, .c (.pt 9 3 0 0)), (10, .c (.pt 10 4 0 0)), (11, .c (.pt 11 4 0 0)), (14, .c (wpL [])), (15, .c (iC 60)), (17, .c (.ow 301))
     , (19, .c (.pt 19 2 0 0)), (18, .c (iC (k : Nat))), (56, .c (.ls L.length 2 (rowF mvC mvZ L))), (57, .c (iC L.length)), (58, .c (iC (k : Nat))), (65, .c (iC a.n)), (66, .c (iC (i : Nat))), (20, .c (iC (i : Nat)))] [
     (8, ⟨false, 1, 3, 31, lF (bpC a)⟩), (9, ⟨false, 1, 3, 31, lF (bpC b)⟩), (10, ⟨false, 1, 4, 33, lF (bgC x)⟩), (11, ⟨false, 1, 4, 33, lF (bgC y)⟩), (5, ⟨false, 1, 3, 25, lF [iC q.1, iC q.2.1, iC q.2.2]⟩)
     , (19, ⟨false, 1, 2, 59, lF (mvC d)⟩), (301, thB (thF P k 302 303) L.length), (302, rwI (lA')), (303, rwI (lB))] [8, 9, 10, 11, 5, 19, 301, 302, 303]
    ) ?_ (fun S2 hw2 => AWp.weak hw2 ?_)
   ·cases e with
    | true =>
      obtain rfl : lA' = lA ++ [(i : Int)] := hA'
      repeat (first
       | refine kT ?_
       | (refine rG 16 ?_
          (iterate 4 refine kA ?_)
          refine qr10eo (AList.idxOw (k := k) tyOk) ?_
          refine kD ?_
          refine AList.load1F tyOk rfl rfl rfl rfl rfl rfl rfl oM oM (o0) ?_
          refine kA ?_
          refine qr11 (AList.litSl tyOk) ?_
          refine AList.appL tyOk rfl rfl rfl rfl rfl rfl rfl rfl rfl rfl oM oM ?_
          refine qr10eo (AList.idxOw (k := k) tyOk) ?_
          refine kD ?_
          refine kI ?_
          refine aB ?_))
      refine ⟨rfl, Wk.mk [(8, some 8), (9, some 9), (10, some 10), (11, some 11), (5, some 5), (19, some 19), (301, some 301), (302, some 107), (303, some 303)] rfl rfl rfl ?_ ?_⟩
      ·exact allT
      ·exact ⟨
       hSm, hSm, hSm, hSm, hSm
       , hSm, .inr ⟨301, L.length, _, .inl rfl, rfl, rfl, th_keep (qa := 302) (qb := 303) (fun i hi j => by rw [setF1, if_neg fun h => hi h.1]) (by rw [setF1, if_pos ⟨rfl, rfl⟩]) (by rw [setF1, if_neg fun h => absurd h.2 (by decide)]; exact o1) rfl rfl⟩, HeapOk.row rfl rfl (by rw [List.length_append]; rfl) (rwI_snoc lA i), HeapOk.row rfl rfl rfl (rw_imm _), trivial⟩
    | false =>
      obtain rfl : lA' = lA := hA'
      repeat (first
       | refine uG ?_
       | refine kU ?_)
      refine ⟨rfl, Wk.mk [(8, some 8), (9, some 9), (10, some 10), (11, some 11), (5, some 5), (19, some 19), (301, some 301), (302, some 302), (303, some 303)] rfl rfl rfl ?_ ?_⟩
      ·exact allT
      ·exact ⟨
       hSm, hSm, hSm, hSm, hSm
       , hSm, .inr ⟨301, L.length, _, .inl rfl, rfl, rfl, th_keep (fun _ _ _ => rfl) o0 o1 rfl rfl⟩, HeapOk.row rfl rfl rfl (rw_imm _), HeapOk.row rfl rfl rfl (rw_imm _), trivial⟩
   clear hw2 S2 hA' e
   first | refine uA ?_ | skip
   refine AWp.cut (
    mkSt 228 [
     (1, .c (wpC rw)), (5, .c (.pt 5 3 0 0)), (7, .c (bC true)), (8, .c (.pt 8 3 0 0)), (9, .c (.pt 9 3 0 0)), (10, .c (.pt 10 4 0 0)), (11, .c (.pt 11 4 0 0)), (14, .c (wpL [])), (15, .c (iC 60)), (17, .c (.ow 301))
     , (19, .c (.pt 19 2 0 0)), (18, .c (iC (k : Nat))), (56, .c (.ls L.length 2 (rowF mvC mvZ L))), (57, .c (iC L.length)), (58, .c (iC (k : Nat))), (65, .c (iC a.n)), (66, .c (iC (i : Nat))), (20, .c (iC (i : Nat))), (138, .c (bC (u3 && !u4)))] [
     (8, ⟨false, 1, 3, 31, lF (bpC a)⟩), (9, ⟨false, 1, 3, 31, lF (bpC b)⟩), (10, ⟨false, 1, 4, 33, lF (bgC x)⟩), (11, ⟨false, 1, 4, 33, lF (bgC y)⟩), (5, ⟨false, 1, 3, 25, lF [iC q.1, iC q.2.1, iC q.2.2]⟩)
     , (19, ⟨false, 1, 2, 59, lF (mvC d)⟩), (301, thB (thF P k 302 303) L.length), (302, rwI (lA')), (303, rwI (lB))] [8, 9, 10, 11, 5, 19, 301, 302, 303]
    ) ?_ (fun S2 hw2 => AWp.weak hw2 ?_)
   ·cases u3 with
    | false =>
      repeat (first
       | (refine AWp.draw (id := 17) mixed ?_; refine kF ?_; refine kA ?_; refine kD ?_; refine kE ?_; refine qr4w2 AList.rem ?_; refine kA ?_; refine kD ?_; refine kE ?_; refine qr4w3 AList.quo ?_; refine aH rfl rfl rfl rfl Try.func23 rfl (by kernel_rfl) (g3) ?_; refine kA ?_; (iterate 17 refine qr2 aG ?_); refine qr4 aR ?_; refine aB ⟨by kernel_rfl, ?_⟩))
      refine ⟨rfl, Wk.mk [(8, some 8), (9, some 9), (10, some 10), (11, some 11), (5, some 5), (19, some 19), (301, some 301), (302, some 302), (303, some 303)] rfl rfl rfl ?_ ?_⟩
      ·exact allT
      ·exact ⟨
       hSm, hSm, hSm, hSm, hSm
       , hSm, .inr ⟨301, L.length, _, .inl rfl, rfl, rfl, th_keep (fun _ _ _ => rfl) o0 o1 rfl rfl⟩, HeapOk.row rfl rfl rfl (rw_imm _), HeapOk.row rfl rfl rfl (rw_imm _), trivial⟩
    | true =>
      cases u4 with
      | false =>
        repeat (first
         | (refine AWp.draw (id := 17) mixed ?_; refine kF ?_; refine kA ?_; refine kD ?_; refine kE ?_; refine qr4w2 AList.rem ?_; refine kA ?_; refine kD ?_; refine kE ?_; refine qr4w3 AList.quo ?_; refine aH rfl rfl rfl rfl Try.func23 rfl (by kernel_rfl) (g3) ?_; refine kA ?_; refine kF ?_; refine kA ?_; refine kD ?_; refine kE ?_; refine qr4w2 AList.rem ?_; refine kD ?_; refine kE ?_; refine qr4w2 aL ?_; refine kA ?_; refine kD ?_; refine kE ?_; refine qr4w3 AList.quo ?_; refine kD ?_; refine kE ?_; refine qr4w2 aL ?_; refine aH rfl rfl rfl rfl Try.func23 rfl (by kernel_rfl) (g4) ?_; refine qr3 AList.notB ?_; refine qr4 aS ?_; refine aB ⟨by kernel_rfl, ?_⟩))
        refine ⟨rfl, Wk.mk [(8, some 8), (9, some 9), (10, some 10), (11, some 11), (5, some 5), (19, some 19), (301, some 301), (302, some 302), (303, some 303)] rfl rfl rfl ?_ ?_⟩
        ·exact allT
        ·exact ⟨
         hSm, hSm, hSm, hSm, hSm
         , hSm, .inr ⟨301, L.length, _, .inl rfl, rfl, rfl, th_keep (fun _ _ _ => rfl) o0 o1 rfl rfl⟩, HeapOk.row rfl rfl rfl (rw_imm _), HeapOk.row rfl rfl rfl (rw_imm _), trivial⟩
      | true =>
        repeat (first
         | (refine AWp.draw (id := 17) mixed ?_; refine kF ?_; refine kA ?_; refine kD ?_; refine kE ?_; refine qr4w2 AList.rem ?_; refine kA ?_; refine kD ?_; refine kE ?_; refine qr4w3 AList.quo ?_; refine aH rfl rfl rfl rfl Try.func23 rfl (by kernel_rfl) (g3) ?_; refine kA ?_; refine kF ?_; refine kA ?_; refine kD ?_; refine kE ?_; refine qr4w2 AList.rem ?_; refine kD ?_; refine kE ?_; refine qr4w2 aL ?_; refine kA ?_; refine kD ?_; refine kE ?_; refine qr4w3 AList.quo ?_; refine kD ?_; refine kE ?_; refine qr4w2 aL ?_; refine aH rfl rfl rfl rfl Try.func23 rfl (by kernel_rfl) (g4) ?_; refine qr3 AList.notB ?_; refine qr4 aS ?_; refine aB ⟨by kernel_rfl, ?_⟩))
        refine ⟨rfl, Wk.mk [(8, some 8), (9, some 9), (10, some 10), (11, some 11), (5, some 5), (19, some 19), (301, some 301), (302, some 302), (303, some 303)] rfl rfl rfl ?_ ?_⟩
        ·exact allT
        ·exact ⟨
         hSm, hSm, hSm, hSm, hSm
         , hSm, .inr ⟨301, L.length, _, .inl rfl, rfl, rfl, th_keep (fun _ _ _ => rfl) o0 o1 rfl rfl⟩, HeapOk.row rfl rfl rfl (rw_imm _), HeapOk.row rfl rfl rfl (rw_imm _), trivial⟩
   clear hw2 S2 g3 g4
   generalize (u3 && !u4) = e
   cases e with
   | true =>
     repeat (first
      | refine uB ?_
      | refine uD ?_
      | refine kT ?_
      | (refine rG 18 ?_
         (iterate 4 refine kA ?_)
         refine qr10eo (AList.idxOw (k := k) tyOk) ?_
         refine kD ?_
         refine AList.load1F tyOk rfl rfl rfl rfl rfl rfl rfl oM oM (o1) ?_
         refine kA ?_
         refine qr11 (AList.litSl tyOk) ?_
         refine AList.appL tyOk rfl rfl rfl rfl rfl rfl rfl rfl rfl rfl oM oM ?_
         refine qr10eo (AList.idxOw (k := k) tyOk) ?_
         refine kD ?_
         refine kI ?_
         refine aB ?_)
      | (refine rG 19 ?_
         refine qr4w2 aL ?_
         refine kA ?_
         refine aB ?_))
     refine ⟨(i + 1, lA', lB ++ [(i : Int)]), ⟨hil, hAl, by first | (rw [List.length_append, List.length_singleton]; omega) | omega | (dsimp only; omega)⟩, Wk.mk [(8, some 8), (9, some 9), (10, some 10), (11, some 11), (5, some 5), (19, some 19), (301, some 301), (302, some 302), (303, some 148)] rfl rfl rfl ?_ ?_, by dsimp only; omega⟩
     ·exact allT
     ·exact ⟨
      hSm, hSm, hSm, hSm, hSm
      , hSm, .inr ⟨301, L.length, _, .inl rfl, rfl, rfl, th_keep (qa := 302) (qb := 303) (fun i hi j => by rw [setF1, if_neg fun h => hi h.1]) (by rw [setF1, if_neg fun h => absurd h.2 (by decide)]; exact o0) (by rw [setF1, if_pos ⟨rfl, rfl⟩]) rfl rfl⟩, HeapOk.row rfl rfl rfl (rw_imm _), HeapOk.row rfl rfl (by rw [List.length_append]; rfl) (rwI_snoc lB i), trivial⟩
   | false =>
     repeat (first
      | refine uB ?_
      | refine uG ?_
      | refine uD ?_
      | refine kU ?_
      | (refine rG 19 ?_
         refine qr4w2 aL ?_
         refine kA ?_
         refine aB ?_))
     refine ⟨(i + 1, lA', lB), ⟨hil, hAl, by first | (rw [List.length_append, List.length_singleton]; omega) | omega | (dsimp only; omega)⟩, Wk.mk [(8, some 8), (9, some 9), (10, some 10), (11, some 11), (5, some 5), (19, some 19), (301, some 301), (302, some 302), (303, some 303)] rfl rfl rfl ?_ ?_, by dsimp only; omega⟩
     ·exact allT
     ·exact ⟨
      hSm, hSm, hSm, hSm, hSm
      , hSm, .inr ⟨301, L.length, _, .inl rfl, rfl, rfl, th_keep (fun _ _ _ => rfl) o0 o1 rfl rfl⟩, HeapOk.row rfl rfl rfl (rw_imm _), HeapOk.row rfl rfl rfl (rw_imm _), trivial⟩
end Go.Proofs.Ytekkldgmjdllbaa
end
section
namespace Go.Proofs.Ytekkldgmjdllbaa.proofTheorem
open Go.ChangeShapes Go.WideShapes Go.ChangeAt Go.RowKit Go.Flow Go.AV
set_option maxRecDepth 100000 in
theorem contract (H : Type) (enc : TypeId × Value → H) (W : World) (base : Nat) (args : Array Value) (ds gs : List (DataW H)) (before : List MemPlace)
 (hval : ∀ (j : Nat) t v, Try.f5.params[j]? = some t → args[j]? = some v → Value.okWide Try.prog W .any base t v)
 (hW : DataW.Whole enc Try.prog Try.f5.params.toList Rows.proofTheoremSpec.vars false W args.toList ds gs before)
 (hsz : (DataW.weightsEach Try.prog (Try.f5.params.toList ++ (OpenSpec.ofChange Rows.proofTheoremSpec).bare.plain.varTypes Try.prog) (ds ++ gs)).all (· ≤ reachBytes) = true) :
 Calls Try.prog 5 args W fun e W' => ∃ v, e = .returned v ∧ Rows.proofTheoremSpec.post enc Try.prog Try.f5 false true false false W args v W' := by
 have hW' := hW
 obtain ⟨p, q, hA0, hV, rfl, hfz, hnd⟩ := hW
 have hA : DataW.TrodAll enc Try.prog W 0 (fun _ => true) true Try.f5.params.toList args.toList ds p := hA0
 have hAk := hA0
 rw [Try.params5] at hA hval hsz
 obtain ⟨rfl, rfl⟩ := trodVars_none hV
 obtain ⟨v0, vs0, d0, ds0, p0, q0, hargs, rfl, rfl, h0, t0⟩ := trodAll_cons hA
 obtain ⟨v1, vs1, d1, ds1, p1, q1, rfl, rfl, rfl, h1, t1⟩ := trodAll_cons t0
 obtain ⟨v2, vs2, d2, ds2, p2, q2, rfl, rfl, rfl, h2, t2⟩ := trodAll_cons t1
 obtain ⟨rfl, rfl, rfl⟩ := trodAll_nil t2
 obtain rfl : args = #[v0, v1, v2] := by rw [← Array.toList_inj]; exact hargs
 have hlt := fun x hx => hW'.lt x hx
 simp only [List.append_nil] at hW'
 rw [List.append_nil] at hsz
 obtain ⟨a0, ok0, r0⟩ := opn_ca5.argS Try.underlying24 (hval 0 24 v0 rfl rfl) h0 (weigh hsz 0 (t := 24) (d := d0) rfl rfl)
 obtain ⟨a1, ok1, r1⟩ := opn_wts.argC (cells_slice Try.underlying27 (hval 1 27 v1 rfl rfl)) h1 (weigh hsz 1 (t := 27) (d := d1) rfl rfl)
 obtain ⟨a2, ok2, r2⟩ := opn_q3r.argA Try.underlying25 (hval 2 25 v2 rfl rfl) h2 (weigh hsz 2 (t := 25) (d := d2) rfl rfl)
 refine ((ECalls.of (ProofTheorem_A a0 ok0 a1 ok1.1 ok1.2.1 ok1.2.2 a2)) O0 W [_, _, _] (fun b h => h.elim) ⟨r0, r1, r2, trivial⟩).mono fun e W' ⟨v, r, he, hr, hv, hE⟩ => ?_
 subst hr
 obtain rfl : v = .bool true := hv.2
 subst he
 exact ⟨_, rfl, post_below (pv := []) hW' (fun _ _ _ => trodAll_cons_mk (shut_bool Try.underlying4 _) trodAll_mk0)
  (fun sp hsp => trodAll_below laidOut hE (by rw [Try.params5]; intro t ht; simp only [List.mem_cons, List.not_mem_nil, or_false] at ht; rcases ht with rfl | rfl | rfl <;> exact ⟨by kernel_rfl, of_decide_eq_true (by kernel_rfl)⟩) hAk (fun x hx => hlt x (by rw [List.append_nil]; exact hx)) sp (fun x hx => hsp x (by simpa only [List.append_nil] using hx)))
  (fun _ _ => rfl) (by simp) hE (ok_one (by kernel_rfl) rfl (okWide_bool_mk Try.underlying4 _))⟩
theorem own : ownKnob Try.prog.godebug = none := by kernel_rfl
set_option maxRecDepth 100000 in
theorem lifted (os : Os) (started : os.Started) (H : Type) (enc : TypeId × Value → H) :
 ReturnsInHanded {} Try.checked os 5 .any (Rows.proofTheoremSpec.pre6 enc Try.prog Try.f5 Rows.proofTheoremRow.domain false) (Rows.proofTheoremSpec.post enc Try.prog Try.f5 false true false false) := by
 refine returnsInHanded_of_change_sized (C := Try.checked) own started (by kernel_rfl) Try.func5
  (ChangeSpec.witness6 (enc := enc) (C := Try.checked) false ⟨#[], #[.agg #[.slice none 0 0, .slice none 0 0, .slice none 0 0, .slice none 0 0], .slice none 0 0, .agg #[.int .i64 0, .int .i64 0, .int .i64 0]], []⟩ 8 (by kernel_rfl) (by kernel_rfl) (by kernel_rfl) (by kernel_rfl)) ?_
 intro W base args ds gs before hval hW _ hsz _
 exact contract H enc W base args ds gs before hval hW hsz
theorem said : Rows.ProofTheoremSaid :=
 OpenClaim.holds_of_wide 5 Try.f5 rfl rfl rfl rfl rfl rfl rfl ⟨rfl, rfl, rfl, rfl, rfl⟩ rfl rfl rfl rfl rfl (by kernel_rfl) Try.func5 (by kernel_rfl)
  (of_decide_eq_true (by kernel_rfl)) (by unfold Func.isWrapper; first | (rw [if_pos (by decide +kernel)]; kernel_rfl) | (rw [if_neg (by decide +kernel)]; exact ⟨rfl, rfl⟩))
  (fun os started H enc _ => lifted os started H enc)
end Go.Proofs.Ytekkldgmjdllbaa.proofTheorem
end
