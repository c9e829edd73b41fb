/- Parts of the proof: A24tp, A25q, A25y, A25z. -/
import Derived.Test.YtekkldgmjdllbaaHA25ckr02
import Derived.Test.YtekkldgmjdllbaaG22
import Derived.Test.YtekkldgmjdllbaaG21
import Derived.Test.YtekkldgmjdllbaaG17
import Derived.Test.YtekkldgmjdllbaaG04
import Derived.Scope
import Derived.Test.YtekkldgmjdllbaaG20
import Derived.Test.YtekkldgmjdllbaaG09
import Derived.Test.YtekkldgmjdllbaaG03
import Derived.RangeFuncLeaves
import Derived.RangeFuncRecord
import Derived.Test.YtekkldgmjdllbaaHA25ckr01
import Derived.Shelf.Abstract
import Derived.Test.YtekkldgmjdllbaaG02
import Derived.Test.YtekkldgmjdllbaaG08
import Derived.Test.YtekkldgmjdllbaaG01
import Derived.Test.YtekkldgmjdllbaaG19
import Derived.RangeFuncNested
import Derived.Deep.AppendLies
import Derived.OrdersIn
import Derived.TacticsIn
import Derived.RangeFuncCalls
import Derived.Test.YtekkldgmjdllbaaG16
import Derived.Maps.AppendAt
import Derived.OwnWalk
import Derived.Test.YtekkldgmjdllbaaG18
import Derived.Test.YtekkldgmjdllbaaProg
import Derived.Test.YtekkldgmjdllbaaG11
import Derived.Laws.Cover3
import Derived.StillTail
import Derived.Below
import Derived.Deep.Draws
import Derived.WalkKit
import Derived.KernelRfl
import Derived.Test.YtekkldgmjdllbaaG13
import Derived.Test.YtekkldgmjdllbaaG15
import Derived.Lib.Hide
import Derived.Deep.QuietTactic
import Derived.BigQuiet
import Derived.Deep.DrawnRows
import Derived.Laws.StructEq
import Derived.Test.YtekkldgmjdllbaaG12
import Derived.Test.YtekkldgmjdllbaaG07
import Derived.Test.YtekkldgmjdllbaaG10
import Derived.Test.YtekkldgmjdllbaaG06
import Derived.Test.YtekkldgmjdllbaaG05
import Derived.Great.BuildSlice
import Derived.Test.YtekkldgmjdllbaaG14
import Derived.Test.YtekkldgmjdllbaaG27
import Derived.Test.YtekkldgmjdllbaaG39
import Derived.Test.YtekkldgmjdllbaaHA25ckr05
import Derived.Test.YtekkldgmjdllbaaG37
import Derived.Test.YtekkldgmjdllbaaG25
import Derived.Test.YtekkldgmjdllbaaG38
import Derived.Test.YtekkldgmjdllbaaG23
import Derived.Test.YtekkldgmjdllbaaG28
import Derived.Test.YtekkldgmjdllbaaG36
import Derived.Test.YtekkldgmjdllbaaG24
import Derived.WideKeyMaps
import Derived.MapKept
import Derived.Carry
import Derived.Test.YtekkldgmjdllbaaG35
import Derived.Test.YtekkldgmjdllbaaG33
import Derived.Test.YtekkldgmjdllbaaG31
import Derived.Lib.Builder
import Derived.Lib.UnsafeStr
import Derived.Laws.Externs
import Derived.Lib.BufferRead
import Derived.Test.YtekkldgmjdllbaaG32
import Derived.Test.YtekkldgmjdllbaaG34
import Derived.Test.YtekkldgmjdllbaaG30
import Derived.Test.YtekkldgmjdllbaaHA25ckr04
import Derived.Laws.Pointers
import Derived.Test.YtekkldgmjdllbaaG29
set_option linter.unusedSimpArgs false
set_option linter.unusedVariables false
section
namespace Go.Proofs.Ytekkldgmjdllbaa
open Go.RowKit Go.Flow Go.AV Go.Plain
def Bg.le (x y : Bg) : Prop := x.lo ≤ y.lo ∧ x.bl ≤ y.bl ∧ x.sh ≤ y.sh ∧ x.st ≤ y.st
theorem outC_sub {s : Sd} {t f : Nat} {l m : List Int} (h : l.Sublist m) : outC s t f l ≤ outC s t f m := by
 unfold outC
 exact Int.ofNat_le.2 (h.filter _).length_le
theorem decB_mono {s t : Sd} {n M : Nat} {lA lB mA mB : List Int} (hA : ∀ f, outC s n f lA ≤ outC s n f mA) (hB : ∀ f, outC t n f lB ≤ outC t n f mB) (h : decB s t n M lA lB = true) : decB s t n M mA mB = true := by
 unfold decB at h ⊢
 rw [List.all_eq_true] at h ⊢
 intro f hf
 have := h f hf
 unfold openB at this ⊢
 have hA := hA f
 have hB := hB f
 simp only [Bool.not_eq_true', Bool.and_eq_false_iff, decide_eq_false_iff_not] at this ⊢
 omega
theorem decB_sub {s t : Sd} {n M : Nat} {lA lB mA mB : List Int} (hA : lA.Sublist mA) (hB : lB.Sublist mB) (h : decB s t n M lA lB = true) : decB s t n M mA mB = true :=
 decB_mono (fun _ => outC_sub hA) (fun _ => outC_sub hB) h
theorem okL_pair {s : Sd} {l : List Int} (h : okL s l = true) : l.Pairwise (· < ·) := by
 have hs : ∀ k, k + 1 < l.length → l.getD k 0 < l.getD (k + 1) 0 := fun k hk => by
  have := List.all_eq_true.1 h (k + 1) (List.mem_range.2 hk)
  unfold okAt at this
  rw [Bool.and_eq_true, Bool.or_eq_true, decide_eq_true_eq, decide_eq_true_eq, Nat.add_sub_cancel] at this
  exact this.2.resolve_left (by omega)
 have hm : ∀ d k, k + d + 1 < l.length → l.getD k 0 < l.getD (k + d + 1) 0 := fun d => by
  induction d with
  | zero => exact fun k hk => hs k hk
  | succ d ih => exact fun k hk => Int.lt_trans (ih k (by omega)) (hs (k + d + 1) hk)
 rw [List.pairwise_iff_getElem]
 intro i j hi hj hij
 have := hm (j - i - 1) i (by omega)
 rw [show i + (j - i - 1) + 1 = j by omega, List.getD_eq_getElem?_getD, List.getD_eq_getElem?_getD, List.getElem?_eq_getElem hi, List.getElem?_eq_getElem hj] at this
 exact this
theorem okL_mem {s : Sd} {l : List Int} (h : okL s l = true) {k : Int} (hk : k ∈ l) : aloB s k = true := by
 obtain ⟨i, hi, rfl⟩ := List.getElem_of_mem hk
 have := List.all_eq_true.1 h i (List.mem_range.2 hi)
 unfold okAt at this
 rw [Bool.and_eq_true, List.getD_eq_getElem?_getD, List.getElem?_eq_getElem hi] at this
 exact this.1
theorem okL_of {s : Sd} {l : List Int} (hp : l.Pairwise (· < ·)) (hm : ∀ k, k ∈ l → aloB s k = true) : okL s l = true := by
 refine List.all_eq_true.2 fun i hi => ?_
 have hi := List.mem_range.1 hi
 unfold okAt
 rw [List.getD_eq_getElem?_getD, List.getElem?_eq_getElem hi, Option.getD_some, hm _ (List.getElem_mem hi), Bool.true_and, Bool.or_eq_true, decide_eq_true_eq, decide_eq_true_eq]
 rcases Nat.eq_zero_or_pos i with h0 | h0
 ·exact .inl h0
 ·refine .inr ?_
  rw [List.getD_eq_getElem?_getD, List.getElem?_eq_getElem (show i - 1 < l.length by omega)]
  exact List.pairwise_iff_getElem.1 hp (i - 1) i (by omega) hi (by omega)
theorem okL_sub {s : Sd} {l m : List Int} (h : l.Sublist m) (hm : okL s m = true) : okL s l = true :=
 okL_of ((okL_pair hm).sublist h) fun _ hk => okL_mem hm (h.subset hk)
theorem alo_bd2 {s : Sd} {v : Int} (h : aloB s v = true) : 0 ≤ v ∧ v < s.o.n := by
 unfold aloB at h
 simp only [Bool.and_eq_true, decide_eq_true_eq] at h
 exact ⟨h.1, h.2.1⟩
theorem aloL_ok (s : Sd) : okL s (aloL s) = true := by
 refine okL_of ?_ fun k hk => ?_
 ·unfold aloL aloN
  rw [List.pairwise_map]
  exact List.Pairwise.imp (fun h => by omega) (List.Pairwise.filter _ List.pairwise_lt_range)
 ·unfold aloL aloN at hk
  obtain ⟨i, hi, rfl⟩ := List.mem_map.1 hk
  exact (List.mem_filter.1 hi).2
theorem shrI_spec (dec : List Int → Bool) (hmono : ∀ l m : List Int, l.Sublist m → dec l = true → dec m = true) (l : List Int) : ∀ (i : Nat) (kept : List Int), i ≤ l.length → dec (l.take i ++ kept) = true →
 ∃ r : List Int, shrI dec l i kept = r ++ kept ∧ r.Sublist (l.take i) ∧ dec (r ++ kept) = true ∧ ∀ j, j < r.length → dec ((r ++ kept).eraseIdx j) = false
 | 0, kept, _, h => ⟨[], rfl, by simp, by simpa using h, fun j hj => by cases hj⟩
 | i + 1, kept, hi, h => by
   have ht : l.take (i + 1) = l.take i ++ [l.getD i 0] := by
    rw [List.take_add_one, List.getElem?_eq_getElem (by omega), List.getD_eq_getElem?_getD, List.getElem?_eq_getElem (by omega)]
    rfl
   unfold shrI
   by_cases hd : dec (l.take i ++ kept) = true
   ·rw [if_pos hd]
    obtain ⟨r, h1, h2, h3, h4⟩ := shrI_spec dec hmono l i kept (by omega) hd
    exact ⟨r, h1, h2.trans (by rw [ht]; exact List.sublist_append_left _ _), h3, h4⟩
   ·rw [if_neg hd]
    have h0 : dec (l.take i ++ (l.getD i 0 :: kept)) = true := by rw [ht, List.append_assoc] at h; exact h
    obtain ⟨r, h1, h2, h3, h4⟩ := shrI_spec dec hmono l i (l.getD i 0 :: kept) (by omega) h0
    refine ⟨r ++ [l.getD i 0], by rw [h1, List.append_assoc]; rfl, by rw [ht]; exact List.Sublist.append h2 (List.Sublist.refl _), by rw [List.append_assoc]; exact h3, fun j hj => ?_⟩
    rw [List.append_assoc]
    rw [List.length_append, List.length_singleton] at hj
    by_cases hj' : j < r.length
    ·exact h4 j hj'
    ·obtain rfl : j = r.length := by omega
     have e : (r ++ ([l.getD i 0] ++ kept)).eraseIdx r.length = r ++ kept := by
      rw [List.eraseIdx_append_of_length_le (Nat.le_refl _), Nat.sub_self]
      rfl
     rw [e]
     exact Bool.eq_false_iff.2 fun g => hd (hmono _ _ (List.Sublist.append h2 (List.Sublist.refl _)) g)
theorem shrW_spec (s t : Sd) (n M : Nat) (w : Wt) (h : decB s t n M w.1 w.2 = true) :
 ((shrW s t n M w).1.Sublist w.1 ∧ (shrW s t n M w).2.Sublist w.2) ∧ decB s t n M (shrW s t n M w).1 (shrW s t n M w).2 = true ∧ (∀ j, j < (shrW s t n M w).1.length → decB s t n M ((shrW s t n M w).1.eraseIdx j) (shrW s t n M w).2 = false) ∧ ∀ j, j < (shrW s t n M w).2.length → decB s t n M (shrW s t n M w).1 ((shrW s t n M w).2.eraseIdx j) = false := by
 obtain ⟨r, h1, h2, h3, h4⟩ := shrI_spec (fun l => decB s t n M l w.2) (fun l m hs hd => decB_sub hs (List.Sublist.refl _) hd) w.1 w.1.length [] (Nat.le_refl _) (by rw [List.take_length, List.append_nil]; exact h)
 rw [List.append_nil] at h1 h3 h4
 have e1 : shrA s t n M w = r := h1
 obtain ⟨q, g1, g2, g3, g4⟩ := shrI_spec (fun l => decB s t n M r l) (fun l m hs hd => decB_sub (List.Sublist.refl _) hs hd) w.2 w.2.length [] (Nat.le_refl _) (by rw [List.take_length, List.append_nil]; exact h3)
 rw [List.append_nil] at g1 g3 g4
 rw [List.take_length] at h2 g2
 have e2 : shrW s t n M w = (r, q) := by
  unfold shrW
  rw [e1, g1]
 rw [e2]
 refine ⟨⟨h2, g2⟩, g3, fun j hj => Bool.eq_false_iff.2 fun g => ?_, g4⟩
 have := h4 j hj
 rw [show decB s t n M (r.eraseIdx j) w.2 = true from decB_sub (List.Sublist.refl _) g2 g] at this
 cases this
theorem okL_R {s : Sd} {l : List Int} (h : okL s l = true) (hn : s.o.n ≤ 9216) : lOk l := by
 have h1 := okL_len h
 refine ⟨by omega, fun k hk => ?_⟩
 obtain ⟨h2, h3⟩ := alo_bd2 (okL_alo h hk)
 unfold iOk
 omega
theorem prR_nil : PrR [] := ⟨by decide, fun k hk => absurd hk (Nat.not_lt_zero _)⟩
theorem shL_81 (x y : Bg) : (shL (shN x y)).length ≤ 81 := by
 obtain ⟨-, hm⟩ := shN_eq x y
 rw [shL_len hm]
 have h9 : 2 * shN x y + 1 ≤ 9 := by omega
 exact Nat.mul_le_mul h9 h9
theorem chk_wt {a b : Bp} {x y : Bg} {p : List Wt} (h : chkV a b x y p = 0) : cmpOk a b ∧ (shL (shN x y)).length = p.length ∧ ∀ k, k < (shL (shN x y)).length → wtOk a b x y ((shL (shN x y)).getD k mvZ) (p.getD k wtZ) = true := by
 have hsz0 : szV a b = 0 := by
  refine Decidable.byContradiction fun hh => ?_
  rw [show chkV a b x y p = szV a b from if_neg hh] at h
  exact hh h
 obtain ⟨hl, hpr⟩ : (shL (shN x y)).length = p.length ∧ prfB a b x y p = true := by
  refine Decidable.byContradiction fun hh => ?_
  rw [show chkV a b x y p = 62 from (if_pos hsz0).trans (if_neg hh)] at h
  exact absurd h (by decide)
 exact ⟨(szV_ok a b).1 hsz0, hl, fun k hk => List.all_eq_true.1 hpr k (List.mem_range.2 hk)⟩
theorem chk_of {a b : Bp} {x y : Bg} {p : List Wt} (h : cmpOk a b) (hl : (shL (shN x y)).length = p.length) (hw : ∀ k, k < (shL (shN x y)).length → wtOk a b x y ((shL (shN x y)).getD k mvZ) (p.getD k wtZ) = true) : chkV a b x y p = 0 := by
 unfold chkV
 rw [if_pos ((szV_ok a b).2 h), if_pos]
 exact ⟨hl, List.all_eq_true.2 fun k hk => hw k (List.mem_range.1 hk)⟩
theorem shrP_get {a b : Bp} {x y : Bg} {p : List Wt} {k : Nat} (hk : k < (shL (shN x y)).length) : (shrP a b x y (shL (shN x y)) p).getD k wtZ = shrW (sd1 a b x y ((shL (shN x y)).getD k mvZ)) (sd2 a b x y ((shL (shN x y)).getD k mvZ)) (stN a.W x y).toNat (alM a.W x y) (p.getD k wtZ) := by
 unfold shrP
 rw [List.getD_eq_getElem?_getD, List.getElem?_map, List.getElem?_range hk]
 rfl
theorem shrP_len (a b : Bp) (x y : Bg) (L : List (Int × Int)) (p : List Wt) : (shrP a b x y L p).length = L.length := by unfold shrP; rw [List.length_map, List.length_range]
theorem shk_spec {a b : Bp} {x y : Bg} {p : List Wt} (h : chkV a b x y p = 0) : shkV a b x y p = (shrP a b x y (shL (shN x y)) p, 0) ∧ chkV a b x y (shrP a b x y (shL (shN x y)) p) = 0 ∧ PrR (shrP a b x y (shL (shN x y)) p) := by
 obtain ⟨hc, hl, hw⟩ := chk_wt h
 have h1 := n_bd hc.1
 have h2 := n_bd hc.2.1
 have h81 := shL_81 x y
 have hs : ∀ k, k < (shL (shN x y)).length → wtOk a b x y ((shL (shN x y)).getD k mvZ) ((shrP a b x y (shL (shN x y)) p).getD k wtZ) = true := fun k hk => by
  rw [shrP_get hk]
  have hwk := hw k hk
  unfold wtOk at hwk ⊢
  rw [Bool.and_eq_true, Bool.and_eq_true] at hwk
  obtain ⟨w1, w2, w3⟩ := hwk
  obtain ⟨⟨s1, s2⟩, s3, -⟩ := shrW_spec _ _ _ _ _ w3
  rw [okL_sub s1 w1, okL_sub s2 w2, s3]
  rfl
 refine ⟨if_pos h, chk_of hc (shrP_len ..).symm hs, by rw [shrP_len]; omega, fun k hk => ?_⟩
 rw [shrP_len] at hk
 have := hs k hk
 unfold wtOk at this
 rw [Bool.and_eq_true, Bool.and_eq_true] at this
 exact ⟨okL_R this.1 h1, okL_R this.2.1 h2⟩
theorem shkV_R (a b : Bp) (x y : Bg) (p : List Wt) : PrR (shkV a b x y p).1 := by
 by_cases h : chkV a b x y p = 0
 ·rw [(shk_spec h).1]
  exact (shk_spec h).2.2
 ·rw [show shkV a b x y p = ([], chkV a b x y p) from if_neg h]
  exact prR_nil
def PrB (M : Nat) (p : List Wt) : Prop := p.length ≤ M ∧ ∀ w ∈ p, w.1.length ≤ M ∧ w.2.length ≤ M
theorem PrB.ok {M : Nat} {p : List Wt} (h : PrB M p) (hM : M ≤ 1000000) : PrOk p := ⟨by have := h.1; omega, fun k hk => by
 have hm : p.getD k wtZ ∈ p := by rw [List.getD_eq_getElem?_getD, List.getElem?_eq_getElem hk]; exact List.getElem_mem _
 have := h.2 _ hm
 omega⟩
theorem wt_mem {p : List Wt} {k : Nat} (hk : k < p.length) : p.getD k wtZ ∈ p := by rw [List.getD_eq_getElem?_getD, List.getElem?_eq_getElem hk]; exact List.getElem_mem _
theorem setF1 (F : Nat → Nat → CV) (m j0 : Nat) (x : CV) (i j : Nat) : setF F m j0 1 [x] i j = if i = m ∧ j = j0 then x else F i j := by
 unfold setF
 by_cases h1 : i = m
 ·subst h1
  rw [Nat.beq_refl, Bool.true_and]
  by_cases h2 : j = j0
  ·subst h2
   rw [if_pos ⟨rfl, rfl⟩, Nat.ble_eq.mpr (Nat.le_refl _), Nat.blt_eq.mpr (Nat.lt_succ_self _), Nat.sub_self]
   rfl
  ·rw [if_neg fun h => h2 h.2]
   have : (Nat.ble j0 j && Nat.blt j (j0 + 1)) = false := by
    refine Bool.eq_false_iff.2 fun h => h2 ?_
    rw [Bool.and_eq_true] at h
    have a := Nat.ble_eq.mp h.1
    have b := Nat.blt_eq.mp h.2
    omega
   rw [this]
   rfl
 ·rw [if_neg fun h => h1 h.1, show Nat.beq i m = false from Bool.eq_false_iff.2 fun e => h1 (Nat.eq_of_beq_eq_true e)]
  rfl
theorem setF2 (F : Nat → Nat → CV) (m : Nat) (x y : CV) (i j : Nat) (hj : j < 2) : setF F m 0 2 [x, y] i j = if i = m then (if j = 0 then x else y) else F i j := by
 unfold setF
 by_cases h1 : i = m
 ·subst h1
  rw [Nat.beq_refl, if_pos rfl]
  match j, hj with
  | 0, _ => rfl
  | 1, _ => rfl
 ·rw [if_neg h1, show Nat.beq i m = false from Bool.eq_false_iff.2 fun e => h1 (Nat.eq_of_beq_eq_true e)]
  rfl
def opF (p : List Wt) (m ra rb k j : Nat) : CV := if k = m then (if j = 0 then .ow ra else .ow rb) else rowF wtC wtZ p k j
abbrev opB (p : List Wt) (m ra rb n : Nat) : AB := ⟨true, n, 2, 62, opF p m ra rb⟩
def opA (p : List Wt) (m i : Nat) : Wt := if m < i then p.getD m wtZ else wtZ
theorem row_set {p : List Wt} {m : Nat} (w : Wt) (i j : Nat) (hm : m < p.length) : rowF wtC wtZ (p.set m w) i j = if i = m then (wtC w).getD j .any else rowF wtC wtZ p i j := by
 unfold rowF
 by_cases h : i = m
 ·subst h
  rw [if_pos rfl, List.getD_eq_getElem?_getD (l := p.set i w), List.getElem?_set_self hm]
  rfl
 ·rw [if_neg h, List.getD_eq_getElem?_getD (l := p.set m w), List.getElem?_set_ne (Ne.symm h), ← List.getD_eq_getElem?_getD]
def odV (p : List Wt) (m : Nat) (q2 : Int) : Nat → List Wt
 | 0 => p.take m
 | 1 => p ++ [p.getD m wtZ]
 | 2 => p.set m ((p.getD m wtZ).1 ++ [q2], (p.getD m wtZ).2)
 | 3 => p.set m ((p.getD m wtZ).1, (p.getD m wtZ).2 ++ [q2])
 | 4 => if 0 < (p.getD m wtZ).1.length then p.set m ((p.getD m wtZ).1.eraseIdx (q2 % (p.getD m wtZ).1.length).toNat, (p.getD m wtZ).2) else p
 | 5 => if 0 < (p.getD m wtZ).2.length then p.set m ((p.getD m wtZ).1, (p.getD m wtZ).2.eraseIdx (q2 % (p.getD m wtZ).2.length).toNat) else p
 | 6 => if 0 < (p.getD m wtZ).1.length then p.set m ((p.getD m wtZ).1.set (q2 % (p.getD m wtZ).1.length).toNat (IntKind.i64.wrap ((p.getD m wtZ).1.getD (q2 % (p.getD m wtZ).1.length).toNat 0 + 1)), (p.getD m wtZ).2) else p
 | 7 => p.set m ((p.getD m wtZ).2, (p.getD m wtZ).1)
 | _ => (p.set 0 (p.getD m wtZ)).set m (p.getD 0 wtZ)
theorem prB_set {M : Nat} {p : List Wt} {m : Nat} {w : Wt} (h : PrB M p) (h1 : w.1.length ≤ M) (h2 : w.2.length ≤ M) : PrB M (p.set m w) :=
 ⟨by rw [List.length_set]; exact h.1, fun v hv => by
   rcases List.mem_or_eq_of_mem_set hv with hv | rfl
   ·exact h.2 v hv
   ·exact ⟨h1, h2⟩⟩
theorem PrB.mono {M N : Nat} {p : List Wt} (h : PrB M p) (hN : M ≤ N) : PrB N p := ⟨by have := h.1; omega, fun w hw => by have := h.2 w hw; omega⟩
theorem odV_bd {M : Nat} {p : List Wt} {m : Nat} (q2 : Int) (v : Nat) (h : PrB M p) (hm : m < p.length) : PrB (M + 1) (odV p m q2 v) := by
 have h1 := h.mono (Nat.le_succ M)
 have hw := h.2 _ (wt_mem hm)
 have h0 := h.2 _ (wt_mem (show 0 < p.length by omega))
 have hl := h.1
 match v with
 | 0 => exact ⟨by show (p.take m).length ≤ _; rw [List.length_take]; omega, fun w hw => h1.2 w (List.mem_of_mem_take hw)⟩
 | 1 => exact ⟨by show (p ++ [_]).length ≤ _; rw [List.length_append, List.length_singleton]; omega, fun w hw => by
     rcases List.mem_append.1 hw with hw | hw
     ·exact h1.2 w hw
     ·rw [List.mem_singleton.1 hw]
      omega⟩
 | 2 => exact prB_set h1 (by rw [List.length_append, List.length_singleton]; omega) (by first | omega | (dsimp only; omega))
 | 3 => exact prB_set h1 (by first | omega | (dsimp only; omega)) (by rw [List.length_append, List.length_singleton]; omega)
 | 4 =>
   show PrB (M + 1) (if 0 < (p.getD m wtZ).1.length then _ else p)
   split
   ·exact prB_set h1 (by have := List.length_eraseIdx_le (p.getD m wtZ).1 (q2 % (p.getD m wtZ).1.length).toNat; first | omega | (dsimp only; omega)) (by first | omega | (dsimp only; omega))
   ·exact h1
 | 5 =>
   show PrB (M + 1) (if 0 < (p.getD m wtZ).2.length then _ else p)
   split
   ·exact prB_set h1 (by first | omega | (dsimp only; omega)) (by have := List.length_eraseIdx_le (p.getD m wtZ).2 (q2 % (p.getD m wtZ).2.length).toNat; first | omega | (dsimp only; omega))
   ·exact h1
 | 6 =>
   show PrB (M + 1) (if 0 < (p.getD m wtZ).1.length then _ else p)
   split
   ·exact prB_set h1 (by first | (rw [List.length_set]; omega) | (dsimp only; rw [List.length_set]; omega)) (by first | omega | (dsimp only; omega))
   ·exact h1
 | 7 => exact prB_set h1 (by first | omega | (dsimp only; omega)) (by first | omega | (dsimp only; omega))
 | _ + 8 => exact prB_set (prB_set h1 (by omega) (by omega)) (by omega) (by omega)
theorem odKeep {p : List Wt} {m n ra rb ra' rb' : Nat} {h : Nat → Option AB} {ren : List (Nat × Option Nat)} (h1 : assoc ren ra' = some (some ra) := by rfl) (h2 : assoc ren rb' = some (some rb) := by rfl) : ∀ i, i < n → ∀ j, j < 2 → LeC h ren (opF p m ra rb i j) (opF p m ra' rb' i j) := fun i _ j _ => by
 unfold opF
 by_cases him : i = m
 ·rw [if_pos him, if_pos him]
  by_cases hj : j = 0
  ·rw [if_pos hj, if_pos hj]; exact LeC.ow _ _ h1
  ·rw [if_neg hj, if_neg hj]; exact LeC.ow _ _ h2
 ·rw [if_neg him, if_neg him]
  exact LeC.refl _ (rowF_imm wtC_imm _ i j)
theorem rw_imm (l : List Int) : ∀ i, i < l.length → ∀ j, j < 1 → iF (fun k => l.getD k 0) i j = iF (fun k => l.getD k 0) i j ∧ immC (iF (fun k => l.getD k 0) i j) = true := fun _ _ _ _ => ⟨rfl, rfl⟩
set_option maxHeartbeats 4000000 in
set_option maxRecDepth 100000 in
theorem Odd25_A (M : Nat) (p : List Wt) (hp : PrB M p) (hM : M ≤ 999990) (q0 q1 q2 : Int) : ∃ r, PrB (M + 2) r ∧ ACalls Try.prog 13 [.c (wpC p), .ag [iC q0, iC q1, iC q2]] (.c (wpL r)) := by
 have hpl := hp.1
 by_cases hn : p.length = 0
 ·obtain rfl : p = [] := List.eq_nil_of_length_eq_zero hn
  refine ⟨[([q2], [])], ⟨by show 1 ≤ _; omega, fun w hw => by rw [List.mem_singleton.1 hw]; exact ⟨by show 1 ≤ _; omega, Nat.zero_le _⟩⟩, ?_⟩
  have hz : ([] : List Wt).length = 0 := rfl
  refine acalls_at Try.func13 rfl rfl Try.ntmps13 rfl ?_
  repeat (first
   | refine uA ?_
   | refine uB ?_
   | refine uC ?_
   | (refine rG 0 ?_
      refine qr5 aQ ?_
      refine kC ?_
      refine aB ?_)
   | (refine rG 1 ?_
      refine kC ?_
      refine aB ?_)
   | (refine rG 2 ?_
      refine kC ?_
      refine aB ?_))
  refine AWp.round (fun i : Nat => mkSt 195 [(0, .c (wpC [])), (3, .c (.pt 3 3 0 0)), (5, .c (.p (.slice none 0 0))), (6, .c (iC 0))] [(3, ⟨false, 1, 3, 25, lF [iC q0, iC q1, iC q2]⟩)] [3]) (fun _ => True) (fun i => i) 0 trivial ?_ (fun i hi => ?_)
  ·refine Wk.mk [(3, some 3)] rfl rfl rfl ?_ ?_
   ·exact allT
   ·exact allH
  repeat (first
   | refine uA ?_
   | refine uB ?_
   | refine uH ?_
   | refine kT ?_
   | refine kU ?_
   | (refine rG 3 ?_
      (iterate 2 refine kA ?_)
      refine qr5 (aO tyOk) ?_
      refine qr5f aJ ?_
      refine aB ?_)
   | (refine rG 6 ?_
      refine kA ?_
      refine qr5 (AList.lenNil tyOk) ?_
      refine qr5 aW ?_
      refine aB ?_))
  refine aY ?_
  refine qr7eo (aU (i := 2) tyOk) ?_
  refine kE ?_
  refine qr11 (AList.litSl tyOk) ?_
  refine qr8 (aX tyOk) ?_
  refine qr11 (AList.litOw tyOk) ?_
  refine kC ?_
  refine aB ?_
  refine AWp.cvBox (id := 40) (rowF wtC wtZ [([q2], [])]) rfl rfl (fun k hk j hj => ?_) ?_
  ·obtain rfl : k = 0 := by omega
   match j, hj with
   | 0, _ => exact cv1 q2
   | 1, _ => exact cvN
  repeat (first
   | refine AWp.ret ?_
   | refine thenA_r ?_)
  exact ⟨mkSt 195 [(4, .c (wpL [([q2], [])]))] [] [], [], Wk.mk [] rfl rfl rfl ⟨⟨_, rfl, .c (LeC.fz rfl rfl rfl (fun i _ j _ => ⟨rfl, rowF_imm wtC_imm _ i j⟩))⟩, trivial⟩ trivial, rfl, rfl, aR1⟩
 have hn0 : 0 < p.length := by omega
 have hk0 := Int.emod_nonneg q1 (show (p.length : Int) ≠ 0 by omega)
 have hk1 := Int.emod_lt_of_pos q1 (show (0 : Int) < p.length by omega)
 have hMk := Mod_A q1 p.length (by omega) (by omega)
 obtain ⟨m, hm⟩ := Int.eq_ofNat_of_zero_le hk0
 rw [hm] at hk1 hMk
 have hml : m < p.length := by omega
 clear hk0 hm
 have h90 := Int.emod_nonneg q0 (show (9 : Int) ≠ 0 by omega)
 have h91 := Int.emod_lt_of_pos q0 (show (0 : Int) < 9 by omega)
 have hM9 := Mod_A q0 9 (by omega) (by omega)
 obtain ⟨v, hv⟩ := Int.eq_ofNat_of_zero_le h90
 rw [hv] at h91 hM9
 clear h90 hv
 refine ⟨odV p m q2 v, (odV_bd q2 v hp hml).mono (Nat.le_succ _), ?_⟩
 have hwb := hp.2 _ (wt_mem hml)
 refine acalls_at Try.func13 rfl rfl Try.ntmps13 rfl ?_
 repeat (first
  | refine uA ?_
  | refine uB ?_
  | refine uC ?_
  | (refine rG 0 ?_
     refine qr5 aQ ?_
     refine kC ?_
     refine aB ?_)
  | (refine rG 1 ?_
     refine kC ?_
     refine aB ?_)
  | (refine rG 2 ?_
     refine kC ?_
     refine aB ?_))
 refine AWp.round (fun i : Nat =>
  mkSt 195 [(0, .c (wpC p)), (3, .c (.pt 3 3 0 0)), (5, .c (.ow 301)), (6, .c (iC (i : Nat)))] [(3, ⟨false, 1, 3, 25, lF [iC q0, iC q1, iC q2]⟩), (301, opB p m 302 303 (i)), (302, rwI (opA p m (i)).1), (303, rwI (opA p m (i)).2)] [3, 301, 302, 303]
  ) (fun i => i ≤ p.length) (fun i => p.length - i) 0 (Nat.zero_le _) ?_ (fun i hi => ?_)
 ·refine Wk.mk [(3, some 3), (301, none), (302, none), (303, none)] rfl rfl rfl ?_ ?_
  ·exact allT
  ·exact ⟨hSm, HeapOk.nil rfl rfl, HeapOk.nil rfl (by unfold opA; rw [if_neg (Nat.not_lt_zero _)]; rfl), HeapOk.nil rfl (by unfold opA; rw [if_neg (Nat.not_lt_zero _)]; rfl), trivial⟩
 by_cases hil : i < p.length
 ·have hil' : (i : Int) < p.length := by omega
  have hwi := hp.2 _ (wt_mem hil)
  have q1' : rowF wtC wtZ p i 0 = liV (p.getD i wtZ).1 := rfl
  have q2' : rowF wtC wtZ p i 1 = liV (p.getD i wtZ).2 := rfl
  obtain ⟨w, hw⟩ : ∃ w, p.getD i wtZ = w := ⟨_, rfl⟩
  rw [hw] at q1' q2' hwi
  have hrow : ∀ (h : Nat → Option AB) (ren : List (Nat × Option Nat)), h 22 = some (rwI w.1) → h 29 = some (rwI w.2) → (∀ k, k < i → k = m → assoc ren 302 = some (some 302) ∧ assoc ren 303 = some (some 303)) → (if i = m then assoc ren 302 = some (some 22) ∧ assoc ren 303 = some (some 29) else renNo ren 22 = true ∧ renNo ren 29 = true) →
   ∀ k, k < i + 1 → ∀ j, j < 2 → LeC h ren (appF (opF p m 302 303) i (sF [.ow 22, .ow 29] 2) k j) (opF p m 302 303 k j) := fun h ren a1 a2 a3 a4 k hk j hj => by
   by_cases hki : k < i
   ·rw [show appF (opF p m 302 303) i (sF [.ow 22, .ow 29] 2) k j = opF p m 302 303 k j by unfold appF; rw [Nat.blt_eq.mpr hki]; rfl]
    unfold opF
    by_cases him : k = m
    ·obtain ⟨b1, b2⟩ := a3 k hki him
     rw [if_pos him]
     by_cases hj0 : j = 0
     ·rw [if_pos hj0]; exact LeC.ow _ _ b1
     ·rw [if_neg hj0]; exact LeC.ow _ _ b2
    ·rw [if_neg him]
     exact LeC.refl _ (rowF_imm wtC_imm _ k j)
   ·obtain rfl : k = i := by omega
    rw [show appF (opF p m 302 303) k (sF [.ow 22, .ow 29] 2) k j = sF [.ow 22, .ow 29] 2 0 j by unfold appF; rw [show Nat.blt k k = false from Bool.eq_false_iff.2 fun e => Nat.lt_irrefl _ (Nat.blt_eq.mp e), Nat.sub_self]; rfl]
    unfold opF
    by_cases him : k = m
    ·rw [if_pos him] at a4 ⊢
     match j, hj with
     | 0, _ => exact LeC.ow _ _ a4.1
     | 1, _ => exact LeC.ow _ _ a4.2
    ·rw [if_neg him] at a4 ⊢
     match j, hj with
     | 0, _ => rw [q1']; exact LeC.fz a1 a4.1 rfl (rw_imm _)
     | 1, _ => rw [q2']; exact LeC.fz a2 a4.2 rfl (rw_imm _)
  repeat (first
   | refine uA ?_
   | refine uB ?_
   | refine uC ?_
   | refine uG ?_
   | refine kT ?_
   | (refine rG 3 ?_
      (iterate 2 refine kA ?_)
      refine qr5 (aO tyOk) ?_
      refine qr5t aK ?_
      refine aB ?_))
  refine AWp.draw mixed ?_
  refine kA ?_
  refine qr7 (AList.emptySl tyOk) ?_
  (iterate 2 refine kA ?_)
  refine qr8eo2 (aP (k := i) tyOk) ?_
  refine qr7 (AList.fieldPl tyOk) ?_
  refine AList.load1lE tyOk (q1') rfl rfl rfl rfl rfl oM ?_
  refine AList.appL0 tyOk rfl rfl rfl rfl rfl rfl rfl rfl rfl rfl oM oM ?_
  refine qr7 (AList.emptySl tyOk) ?_
  (iterate 2 refine kA ?_)
  refine qr9o2 (aP tyOk) ?_
  refine qr7 (AList.fieldPl tyOk) ?_
  refine AList.load1lE tyOk (q2') rfl rfl rfl rfl rfl oM ?_
  refine AList.appL0 tyOk rfl rfl rfl rfl rfl rfl rfl rfl rfl rfl oM oM ?_
  refine qr8 (aX tyOk) ?_
  refine qr11 (AList.litOw tyOk) ?_
  refine AList.appO tyOk rfl rfl rfl rfl rfl rfl rfl rfl rfl rfl rfl oM oM ?_
  refine kC ?_
  refine aB ⟨by kernel_rfl, ?_⟩
  repeat (first
   | refine uB ?_
   | refine uD ?_
   | (refine rG 4 ?_
      refine kA ?_
      refine qr4w2 aL ?_
      refine kC ?_
      refine aB ?_))
  by_cases him : i = m
  ·have ha : opA p m (i + 1) = w := by unfold opA; rw [if_pos (by omega), ← him, hw]
   refine ⟨i + 1, hil, ?_, by omega⟩
   rw [ha]
   refine Wk.mk [(3, some 3), (301, some 32), (302, some 22), (303, some 29)] rfl rfl rfl ?_ ?_
   ·exact allT
   ·exact ⟨hSm, .inr ⟨32, i + 1, _, .inl rfl, rfl, rfl, hrow _ _ rfl rfl (fun k h1 h2 => by omega) (by rw [if_pos him]; exact ⟨rfl, rfl⟩)⟩, HeapOk.row rfl rfl rfl (rw_imm _), HeapOk.row rfl rfl rfl (rw_imm _), trivial⟩
  ·have ha : opA p m (i + 1) = opA p m i := by
    unfold opA
    by_cases h : m < i
    ·rw [if_pos h, if_pos (by omega)]
    ·rw [if_neg h, if_neg (by omega)]
   refine ⟨i + 1, hil, ?_, by omega⟩
   rw [ha]
   refine Wk.mk [(3, some 3), (301, some 32), (302, some 302), (303, some 303)] rfl rfl rfl ?_ ?_
   ·exact allT
   ·exact ⟨hSm, .inr ⟨32, i + 1, _, .inl rfl, rfl, rfl, hrow _ _ rfl rfl (fun k h1 h2 => ⟨rfl, rfl⟩) (by rw [if_neg him]; exact ⟨rfl, rfl⟩)⟩, HeapOk.row rfl rfl rfl (rw_imm _), HeapOk.row rfl rfl rfl (rw_imm _), trivial⟩
 have hil' : ¬ (i : Int) < p.length := by omega
 obtain rfl : i = p.length := by omega
 have ha : opA p m p.length = p.getD m wtZ := by unfold opA; rw [if_pos hml]
 rw [ha]
 have hnz : ¬ (p.length : Int) = 0 := by omega
 repeat (first
  | refine uA ?_
  | refine uB ?_
  | refine uC ?_
  | refine uG ?_
  | refine uH ?_
  | refine kU ?_
  | (refine rG 3 ?_
     (iterate 2 refine kA ?_)
     refine qr5 (aO tyOk) ?_
     refine qr5f aJ ?_
     refine aB ?_)
  | (refine rG 6 ?_
     refine kA ?_
     refine qr7 (AList.lenOw tyOk) ?_
     refine qr5f aJ ?_
     refine aB ?_)
  | (refine rG 8 ?_
     refine qr7eo (aU (i := 1) tyOk) ?_
     refine kE ?_
     refine kA ?_
     refine qr7 (AList.lenOw tyOk) ?_
     refine aH rfl rfl rfl rfl Try.func25 rfl (by kernel_rfl) (hMk) ?_
     refine kC ?_
     refine aB ?_)
  | (refine rG 9 ?_
     (iterate 2 refine kA ?_)
     refine qr10eo (AList.idxOw (k := m) tyOk) ?_
     refine kC ?_
     refine aB ?_)
  | (refine rG 10 ?_
     refine qr7eo (aU (i := 0) tyOk) ?_
     refine kE ?_
     refine aH rfl rfl rfl rfl Try.func25 rfl (by kernel_rfl) (hM9) ?_
     refine aB ?_))
 obtain ⟨w, hw⟩ : ∃ w, p.getD m wtZ = w := ⟨_, rfl⟩
 rw [hw] at hwb ⊢
 have o0 : opF p m 302 303 m 0 = .ow 302 := by unfold opF; rw [if_pos rfl, if_pos rfl]
 have o1 : opF p m 302 303 m 1 = .ow 303 := by unfold opF; rw [if_pos rfl]; rfl
 have e0 : rowF wtC wtZ p m 0 = liV w.1 := by unfold rowF; rw [hw]; rfl
 have e1 : rowF wtC wtZ p m 1 = liV w.2 := by unfold rowF; rw [hw]; rfl
 have ew : cellsFrom (rowF wtC wtZ p m) 0 2 = wtC w := by show [rowF wtC wtZ p m 0, rowF wtC wtZ p m 1] = _; rw [e0, e1]
 refine AWp.weak (S' :=
  mkSt 195 [(3, .c (.pt 3 3 0 0)), (5, .c (.ow 301)), (7, .c (iC m)), (8, .c (.pt 301 2 m 0)), (51, .c (iC v))] [(3, ⟨false, 1, 3, 25, lF [iC q0, iC q1, iC q2]⟩), (301, opB p m 302 303 p.length), (302, rwI w.1), (303, rwI w.2)] [3, 301 , 302, 303]
  ) (Wk.mk [(3, some 3), (301, some 301), (302, some 302), (303, some 303)] rfl rfl rfl ?_ ?_) ?_
 ·exact allT
 ·exact ⟨hSm, .inr ⟨301, p.length, _, .inl rfl, rfl, rfl, odKeep⟩, HeapOk.row rfl rfl rfl (rw_imm _), HeapOk.row rfl rfl rfl (rw_imm _), trivial⟩
 have hfz : ∀ (h : Nat → Option AB) (ren : List (Nat × Option Nat)), h 302 = some (rwI w.1) → h 303 = some (rwI w.2) → renNo ren 302 = true → renNo ren 303 = true → ∀ i, i < p.length → ∀ j, j < 2 → LeC h ren (opF p m 302 303 i j) (rowF wtC wtZ p i j) := fun h ren a1 a2 a3 a4 i hi j hj => by
  unfold opF
  by_cases him : i = m
  ·subst him
   rw [if_pos rfl]
   match j, hj with
   | 0, _ => rw [if_pos rfl, e0]; exact LeC.fz a1 a3 rfl (rw_imm _)
   | 1, _ => rw [if_neg (by decide), e1]; exact LeC.fz a2 a4 rfl (rw_imm _)
  ·rw [if_neg him]
   exact LeC.refl _ (rowF_imm wtC_imm _ i j)
 by_cases v2 : v = 2
 ·subst v2
  rw [show odV p m q2 2 = p.set m (w.1 ++ [q2], w.2) by rw [← hw]; rfl]
  repeat (first
   | refine uA ?_
   | refine uB ?_
   | refine kT ?_
   | refine kU ?_
   | (refine rG 11 ?_
      refine qr5f aJ ?_
      refine kC ?_
      refine aB ?_)
   | (refine rG 13 ?_
      refine qr5f aJ ?_
      refine kC ?_
      refine aB ?_)
   | (refine rG 15 ?_
      refine qr5t aK ?_
      refine kC ?_
      refine aB ?_)
   | (refine AWp.draw (id := 16) mixed ?_; (iterate 2 refine kA ?_); refine AList.nilPt rfl rfl rfl rfl ?_; refine kD ?_; refine AList.load1F tyOk rfl rfl rfl rfl rfl rfl rfl oM oM (o0) ?_; refine qr7eo (aU (i := 2) tyOk) ?_; refine kE ?_; refine qr11 (AList.litSl tyOk) ?_; refine AList.appL tyOk rfl rfl rfl rfl rfl rfl rfl rfl rfl rfl oM oM ?_; refine AList.nilPt rfl rfl rfl rfl ?_; refine kD ?_; refine kI ?_; refine aB ⟨by kernel_rfl, ?_⟩))
  refine AWp.weak (S' := mkSt 195 [(5, .c (.ow 301))] [(301, wpB (p.set m (w.1 ++ [q2], w.2)))] [301]) (Wk.mk [(301, some 301)] rfl rfl rfl ?_ ⟨.inr ⟨301, p.length, _, .inl rfl, List.length_set, rfl, ?_⟩, trivial⟩) ?_
  ·exact allT
  ·intro i hi j hj
   show LeC _ _ (setF (opF p m 302 303) m 0 1 [.ow 76] i j) (rowF wtC wtZ (p.set m (w.1 ++ [q2], w.2)) i j)
   rw [row_set _ i j hml, setF1]
   by_cases him : i = m
   ·subst him
    rw [if_pos rfl]
    match j, hj with
    | 0, _ => rw [if_pos ⟨rfl, rfl⟩]; exact LeC.fz rfl rfl (by rw [List.length_append]; rfl) (rwI_snoc w.1 q2)
    | 1, _ => rw [if_neg fun h => absurd h.2 (by decide)]; show LeC _ _ (opF p i 302 303 i 1) (liV w.2); rw [o1]; exact LeC.fz rfl rfl rfl (rw_imm _)
   ·rw [if_neg him, if_neg fun h => him h.1, show opF p m 302 303 i j = rowF wtC wtZ p i j from if_neg him]
    exact LeC.refl _ (rowF_imm wtC_imm _ i j)
  repeat (first
   | refine uB ?_
   | refine AWp.ret ?_
   | (refine rG 32 ?_
      refine kA ?_
      refine kC ?_
      refine aB ?_))
  exact ⟨mkSt 195 [(4, .c (wpL _))] [] [], [], Wk.mk [] rfl rfl rfl ⟨⟨_, rfl, .c (LeC.fz rfl rfl rfl (fun i _ j _ => ⟨rfl, rowF_imm wtC_imm _ i j⟩))⟩, trivial⟩ trivial, rfl, rfl, aR1⟩
 by_cases v3 : v = 3
 ·subst v3
  rw [show odV p m q2 3 = p.set m (w.1, w.2 ++ [q2]) by rw [← hw]; rfl]
  repeat (first
   | refine uA ?_
   | refine uB ?_
   | refine kT ?_
   | refine kU ?_
   | (refine rG 11 ?_
      refine qr5f aJ ?_
      refine kC ?_
      refine aB ?_)
   | (refine rG 13 ?_
      refine qr5f aJ ?_
      refine kC ?_
      refine aB ?_)
   | (refine rG 15 ?_
      refine qr5f aJ ?_
      refine kC ?_
      refine aB ?_)
   | (refine rG 17 ?_
      refine qr5t aK ?_
      refine kC ?_
      refine aB ?_)
   | (refine AWp.draw (id := 18) mixed ?_; (iterate 2 refine kA ?_); refine AList.nilPt rfl rfl rfl rfl ?_; refine kD ?_; refine AList.load1F tyOk rfl rfl rfl rfl rfl rfl rfl oM oM (o1) ?_; refine qr7eo (aU (i := 2) tyOk) ?_; refine kE ?_; refine qr11 (AList.litSl tyOk) ?_; refine AList.appL tyOk rfl rfl rfl rfl rfl rfl rfl rfl rfl rfl oM oM ?_; refine AList.nilPt rfl rfl rfl rfl ?_; refine kD ?_; refine kI ?_; refine aB ⟨by kernel_rfl, ?_⟩))
  refine AWp.weak (S' := mkSt 195 [(5, .c (.ow 301))] [(301, wpB (p.set m (w.1, w.2 ++ [q2])))] [301]) (Wk.mk [(301, some 301)] rfl rfl rfl ?_ ⟨.inr ⟨301, p.length, _, .inl rfl, List.length_set, rfl, ?_⟩, trivial⟩) ?_
  ·exact allT
  ·intro i hi j hj
   show LeC _ _ (setF (opF p m 302 303) m 1 1 [.ow 89] i j) (rowF wtC wtZ (p.set m (w.1, w.2 ++ [q2])) i j)
   rw [row_set _ i j hml, setF1]
   by_cases him : i = m
   ·subst him
    rw [if_pos rfl]
    match j, hj with
    | 0, _ => rw [if_neg fun h => absurd h.2 (by decide)]; show LeC _ _ (opF p i 302 303 i 0) (liV w.1); rw [o0]; exact LeC.fz rfl rfl rfl (rw_imm _)
    | 1, _ => rw [if_pos ⟨rfl, rfl⟩]; exact LeC.fz rfl rfl (by rw [List.length_append]; rfl) (rwI_snoc w.2 q2)
   ·rw [if_neg him, if_neg fun h => him h.1, show opF p m 302 303 i j = rowF wtC wtZ p i j from if_neg him]
    exact LeC.refl _ (rowF_imm wtC_imm _ i j)
  repeat (first
   | refine uB ?_
   | refine AWp.ret ?_
   | (refine rG 32 ?_
      refine kA ?_
      refine kC ?_
      refine aB ?_))
  exact ⟨mkSt 195 [(4, .c (wpL _))] [] [], [], Wk.mk [] rfl rfl rfl ⟨⟨_, rfl, .c (LeC.fz rfl rfl rfl (fun i _ j _ => ⟨rfl, rowF_imm wtC_imm _ i j⟩))⟩, trivial⟩ trivial, rfl, rfl, aR1⟩
 by_cases v6 : v = 6
 ·subst v6
  by_cases hz : 0 < w.1.length
  ·have hz' : (w.1.length : Int) > 0 := by omega
   have hz2 := Int.emod_nonneg q2 (show (w.1.length : Int) ≠ 0 by omega)
   have hz3 := Int.emod_lt_of_pos q2 (show (0 : Int) < w.1.length by omega)
   have hM2 := Mod_A q2 w.1.length (by omega) (by omega)
   rw [show odV p m q2 6 = p.set m (w.1.set (q2 % w.1.length).toNat (IntKind.i64.wrap (w.1.getD (q2 % w.1.length).toNat 0 + 1)), w.2) by rw [← hw]; exact if_pos (by rw [hw]; exact hz)]
   obtain ⟨u, hu⟩ := Int.eq_ofNat_of_zero_le hz2
   rw [hu] at hM2 hz3 ⊢
   rw [show ((u : Nat) : Int).toNat = u from rfl]
   have hul : u < w.1.length := by omega
   have had : ∀ W, (Go.binOp .add 3 (.int .i64 (w.1.getD u 0)) (.int .i64 1)).run Try.prog W = .ok (.int .i64 (IntKind.i64.wrap (w.1.getD u 0 + 1))) W := fun W => rfl
   repeat (first
    | refine uA ?_
    | refine uB ?_
    | refine kT ?_
    | refine kU ?_
    | (refine rG 11 ?_
       refine qr5f aJ ?_
       refine kC ?_
       refine aB ?_)
    | (refine rG 13 ?_
       refine qr5f aJ ?_
       refine kC ?_
       refine aB ?_)
    | (refine rG 15 ?_
       refine qr5f aJ ?_
       refine kC ?_
       refine aB ?_)
    | (refine rG 17 ?_
       refine qr5f aJ ?_
       refine kC ?_
       refine aB ?_)
    | (refine rG 19 ?_
       refine qr5f aJ ?_
       refine kC ?_
       refine aB ?_)
    | (refine rG 22 ?_
       refine qr5f aJ ?_
       refine kC ?_
       refine aB ?_)
    | (refine rG 25 ?_
       refine qr5t aK ?_
       refine kC ?_
       refine aB ?_)
    | (refine rG 26 ?_
       refine kA ?_
       refine AList.nilPt rfl rfl rfl rfl ?_
       refine kD ?_
       refine AList.load1F tyOk rfl rfl rfl rfl rfl rfl rfl oM oM (o0) ?_
       refine qr7 (AList.lenOw tyOk) ?_
       refine qr5t aK ?_
       refine aB ?_)
    | (refine AWp.draw (id := 27) mixed ?_; refine kA ?_; refine AList.nilPt rfl rfl rfl rfl ?_; refine kD ?_; refine AList.load1F tyOk rfl rfl rfl rfl rfl rfl rfl oM oM (o0) ?_; refine qr7eo (aU (i := 2) tyOk) ?_; refine kE ?_; refine kA ?_; refine AList.nilPt rfl rfl rfl rfl ?_; refine kD ?_; refine AList.load1F tyOk rfl rfl rfl rfl rfl rfl rfl oM oM (o0) ?_; refine qr7 (AList.lenOw tyOk) ?_; refine aH rfl rfl rfl rfl Try.func25 rfl (by kernel_rfl) (hM2) ?_; refine qr10eo (AList.idxOw (k := u) tyOk) ?_; refine kE ?_; refine AList.bin rfl rfl rfl rfl rfl (had) rfl ?_; refine qr10eo (AList.idxOw (k := u) tyOk) ?_; refine kI ?_; refine aB ⟨by kernel_rfl, ?_⟩))
   refine AWp.weak (S' := mkSt 195 [(5, .c (.ow 301))] [(301, wpB (p.set m (w.1.set u (IntKind.i64.wrap (w.1.getD u 0 + 1)), w.2)))] [301]) (Wk.mk [(301, some 301)] rfl rfl rfl ?_ ⟨.inr ⟨301, p.length, _, .inl rfl, List.length_set, rfl, ?_⟩, trivial⟩) ?_
   ·exact allT
   ·intro i hi j hj
    show LeC _ _ (opF p m 302 303 i j) (rowF wtC wtZ (p.set m (w.1.set u (IntKind.i64.wrap (w.1.getD u 0 + 1)), w.2)) i j)
    rw [row_set _ i j hml]
    by_cases him : i = m
    ·subst him
     rw [if_pos rfl]
     match j, hj with
     | 0, _ => show LeC _ _ (opF p i 302 303 i 0) (liV (w.1.set u _)); rw [o0]; exact LeC.fz rfl rfl List.length_set (iF_set (by rw [List.getD_eq_getElem?_getD, List.getElem?_set_self hul]; rfl) (fun k hk => by rw [List.getD_eq_getElem?_getD, List.getElem?_set_ne (Ne.symm hk), ← List.getD_eq_getElem?_getD]))
     | 1, _ => show LeC _ _ (opF p i 302 303 i 1) (liV w.2); rw [o1]; exact LeC.fz rfl rfl rfl (rw_imm _)
    ·rw [if_neg him, show opF p m 302 303 i j = rowF wtC wtZ p i j from if_neg him]
     exact LeC.refl _ (rowF_imm wtC_imm _ i j)
   repeat (first
    | refine uB ?_
    | refine AWp.ret ?_
    | (refine rG 32 ?_
       refine kA ?_
       refine kC ?_
       refine aB ?_))
   exact ⟨mkSt 195 [(4, .c (wpL _))] [] [], [], Wk.mk [] rfl rfl rfl ⟨⟨_, rfl, .c (LeC.fz rfl rfl rfl (fun i _ j _ => ⟨rfl, rowF_imm wtC_imm _ i j⟩))⟩, trivial⟩ trivial, rfl, rfl, aR1⟩
  ·have hz' : ¬ (w.1.length : Int) > 0 := by omega
   rw [show odV p m q2 6 = p from if_neg (by rw [hw]; exact hz)]
   repeat (first
    | refine uA ?_
    | refine uB ?_
    | refine uG ?_
    | refine kT ?_
    | refine kU ?_
    | (refine rG 11 ?_
       refine qr5f aJ ?_
       refine kC ?_
       refine aB ?_)
    | (refine rG 13 ?_
       refine qr5f aJ ?_
       refine kC ?_
       refine aB ?_)
    | (refine rG 15 ?_
       refine qr5f aJ ?_
       refine kC ?_
       refine aB ?_)
    | (refine rG 17 ?_
       refine qr5f aJ ?_
       refine kC ?_
       refine aB ?_)
    | (refine rG 19 ?_
       refine qr5f aJ ?_
       refine kC ?_
       refine aB ?_)
    | (refine rG 22 ?_
       refine qr5f aJ ?_
       refine kC ?_
       refine aB ?_)
    | (refine rG 25 ?_
       refine qr5t aK ?_
       refine kC ?_
       refine aB ?_)
    | (refine rG 26 ?_
       refine kA ?_
       refine AList.nilPt rfl rfl rfl rfl ?_
       refine kD ?_
       refine AList.load1F tyOk rfl rfl rfl rfl rfl rfl rfl oM oM (o0) ?_
       refine qr7 (AList.lenOw tyOk) ?_
       refine qr5f aJ ?_
       refine aB ?_))
   refine AWp.weak (S' := mkSt 195 [(5, .c (.ow 301))] [(301, wpB (p))] [301]) (Wk.mk [(301, some 301)] rfl rfl rfl ?_ ⟨.inr ⟨301, p.length, _, .inl rfl, rfl, rfl, ?_⟩, trivial⟩) ?_
   ·exact allT
   ·exact hfz _ _ rfl rfl rfl rfl
   repeat (first
    | refine uB ?_
    | refine AWp.ret ?_
    | (refine rG 32 ?_
       refine kA ?_
       refine kC ?_
       refine aB ?_))
   exact ⟨mkSt 195 [(4, .c (wpL _))] [] [], [], Wk.mk [] rfl rfl rfl ⟨⟨_, rfl, .c (LeC.fz rfl rfl rfl (fun i _ j _ => ⟨rfl, rowF_imm wtC_imm _ i j⟩))⟩, trivial⟩ trivial, rfl, rfl, aR1⟩
 refine AWp.weak (S' :=
  mkSt 195 [(3, .c (.pt 3 3 0 0)), (5, .c (.ow 301)), (7, .c (iC m)), (8, .c (.pt 301 2 m 0)), (51, .c (iC v))] [(3, ⟨false, 1, 3, 25, lF [iC q0, iC q1, iC q2]⟩), (301, wpB p)] [3, 301 ]
  ) (Wk.mk [(3, some 3), (301, some 301)] rfl rfl rfl ?_ ?_) ?_
 ·exact allT
 ·exact ⟨hSm, .inr ⟨301, p.length, _, .inl rfl, rfl, rfl, hfz _ _ rfl rfl rfl rfl⟩, trivial⟩
 have hset : ∀ (F : Nat → Nat → CV) (x : Wt), (∀ j, j < 2 → F m j = (wtC x).getD j .any) → (∀ i, i ≠ m → ∀ j, j < 2 → F i j = rowF wtC wtZ p i j) → ∀ (h : Nat → Option AB) (ren : List (Nat × Option Nat)), ∀ i, i < p.length → ∀ j, j < 2 → LeC h ren (F i j) (rowF wtC wtZ (p.set m x) i j) := fun F x h1 h2 h ren i hi j hj => by
  have : F i j = rowF wtC wtZ (p.set m x) i j := by
   rw [row_set _ i j hml]
   by_cases him : i = m
   ·subst him
    rw [if_pos rfl]
    exact h1 j hj
   ·rw [if_neg him]
    exact h2 i him j hj
  rw [this]
  exact LeC.refl _ (rowF_imm wtC_imm _ i j)
 by_cases v0 : v = 0
 ·subst v0
  rw [show odV p m q2 0 = p.take m from rfl]
  refine AWp.weak (S' := mkSt 195 [(5, .c (wpC p)), (7, .c (iC m)), (51, .c (iC (0 : Nat)))] [] []) (Wk.mk [] rfl rfl rfl ?_ trivial) ?_
  ·exact ⟨⟨_, rfl, .c (LeC.fz rfl rfl rfl (fun i _ j _ => ⟨rfl, rowF_imm wtC_imm _ i j⟩))⟩, ⟨_, rfl, .c (LeC.refl _ rfl)⟩, ⟨_, rfl, .c (LeC.refl _ rfl)⟩, trivial⟩
  repeat (first
   | refine uA ?_
   | refine uB ?_
   | refine AWp.ret ?_
   | refine kT ?_
   | (refine rG 11 ?_
      refine qr5t aK ?_
      refine kC ?_
      refine aB ?_)
   | (refine rG 12 ?_
      (iterate 2 refine kA ?_)
      refine AList.cut (l := 0) (h := m) tyOk rfl rfl rfl rfl rfl rfl rfl rfl ⟨_, _, rfl, by first | rfl | omega⟩ (by omega) (by omega) ?_
      refine kC ?_
      refine aB ?_)
   | (refine rG 32 ?_
      refine kA ?_
      refine kC ?_
      refine aB ?_))
  refine ⟨mkSt 195 [(4, .c (wpL (p.take m)))] [] [], [], Wk.mk [] rfl rfl rfl ⟨⟨_, rfl, .c (LeC.lz (by rw [List.length_take]; omega) (fun i hi j hj => ?_))⟩, trivial⟩ trivial, rfl, rfl, aR1⟩
  unfold rowF
  rw [Nat.zero_add, List.getD_eq_getElem?_getD (l := p.take m), List.getElem?_take_of_lt (by omega), ← List.getD_eq_getElem?_getD]
 by_cases v1 : v = 1
 ·subst v1
  rw [show odV p m q2 1 = p ++ [w] by rw [← hw]; rfl]
  repeat (first
   | refine uA ?_
   | refine uB ?_
   | refine kT ?_
   | refine kU ?_
   | (refine rG 11 ?_
      refine qr5f aJ ?_
      refine kC ?_
      refine aB ?_)
   | (refine rG 13 ?_
      refine qr5t aK ?_
      refine kC ?_
      refine aB ?_)
   | (refine rG 14 ?_
      (iterate 3 refine kA ?_)
      refine qr10eo (AList.idxOw (k := m) tyOk) ?_
      refine AList.loadAF tyOk rfl rfl rfl rfl rfl rfl rfl oM (by first | omega | (dsimp only; omega) | exact of_decide_eq_true rfl | (simp; done) | (simp; omega) | (show _ + _ * 3 + 3 ≤ 12; omega)) (ew) ?_
      refine qr11 (AList.litSl tyOk) ?_
      refine AList.appL tyOk rfl rfl rfl rfl rfl rfl rfl rfl rfl rfl oM oM ?_
      refine kC ?_
      refine aB ?_))
  refine AWp.weak (S' := mkSt 195 [(5, .c (.ow 301))] [(301, wpB (p ++ [w]))] [301]) (Wk.mk [(301, some 65)] rfl rfl rfl ?_ ?_) ?_
  ·exact allT
  ·exact ⟨HeapOk.row rfl rfl (by rw [List.length_append]; rfl) (row_snoc (c := wtC) (z := wtZ) p w wtC_imm rfl), trivial⟩
  repeat (first
   | refine uB ?_
   | refine AWp.ret ?_
   | (refine rG 32 ?_
      refine kA ?_
      refine kC ?_
      refine aB ?_))
  refine ⟨mkSt 195 [(4, .c (wpL (p ++ [w])))] [] [], [], Wk.mk [] rfl rfl rfl ⟨⟨_, rfl, .c (LeC.fz rfl rfl rfl (fun i _ j _ => ⟨rfl, rowF_imm wtC_imm _ i j⟩))⟩, trivial⟩ trivial, rfl, rfl, aR1⟩
 by_cases v4 : v = 4
 ·subst v4
  by_cases hz : 0 < w.1.length
  ·have hz' : (w.1.length : Int) > 0 := by omega
   have hz2 := Int.emod_nonneg q2 (show (w.1.length : Int) ≠ 0 by omega)
   have hz3 := Int.emod_lt_of_pos q2 (show (0 : Int) < w.1.length by omega)
   have hM2 := Mod_A q2 w.1.length (by omega) (by omega)
   rw [show odV p m q2 4 = p.set m (w.1.eraseIdx (q2 % w.1.length).toNat, w.2) by rw [← hw]; exact if_pos (by rw [hw]; exact hz)]
   obtain ⟨u, hu⟩ := Int.eq_ofNat_of_zero_le hz2
   rw [hu] at hM2 hz3 ⊢
   rw [show ((u : Nat) : Int).toNat = u from rfl]
   have hwo := without_A w.1 u (by omega) (by omega)
   repeat (first
    | refine uA ?_
    | refine uB ?_
    | refine kT ?_
    | refine kU ?_
    | (refine rG 11 ?_
       refine qr5f aJ ?_
       refine kC ?_
       refine aB ?_)
    | (refine rG 13 ?_
       refine qr5f aJ ?_
       refine kC ?_
       refine aB ?_)
    | (refine rG 15 ?_
       refine qr5f aJ ?_
       refine kC ?_
       refine aB ?_)
    | (refine rG 17 ?_
       refine qr5f aJ ?_
       refine kC ?_
       refine aB ?_)
    | (refine rG 19 ?_
       refine qr5t aK ?_
       refine kC ?_
       refine aB ?_)
    | (refine rG 20 ?_
       refine kA ?_
       refine AList.nilPt rfl rfl rfl rfl ?_
       refine kD ?_
       refine AList.load1F tyOk rfl rfl rfl rfl rfl rfl rfl oM oM (e0) ?_
       refine qr5 (aO tyOk) ?_
       refine qr5t aK ?_
       refine aB ?_)
    | (refine AWp.draw (id := 21) mixed ?_; (iterate 2 refine kA ?_); refine AList.nilPt rfl rfl rfl rfl ?_; refine kD ?_; refine AList.load1F tyOk rfl rfl rfl rfl rfl rfl rfl oM oM (e0) ?_; refine qr7eo (aU (i := 2) tyOk) ?_; refine kE ?_; refine kA ?_; refine AList.nilPt rfl rfl rfl rfl ?_; refine kD ?_; refine AList.load1F tyOk rfl rfl rfl rfl rfl rfl rfl oM oM (e0) ?_; refine qr5 (aO tyOk) ?_; refine aH rfl rfl rfl rfl Try.func25 rfl (by kernel_rfl) (hM2) ?_; refine aH rfl rfl rfl rfl Try.func42 rfl (by kernel_rfl) (hwo) ?_; refine AList.nilPt rfl rfl rfl rfl ?_; refine kD ?_; refine kI ?_; refine aB ⟨by kernel_rfl, ?_⟩))
   refine AWp.weak (S' := mkSt 195 [(5, .c (.ow 301))] [(301, wpB (p.set m (w.1.eraseIdx u, w.2)))] [301]) (Wk.mk [(301, some 301)] rfl rfl rfl ?_ ⟨.inr ⟨301, p.length, _, .inl rfl, List.length_set, rfl, ?_⟩, trivial⟩) ?_
   ·exact allT
   ·exact hset (setF (rowF wtC wtZ p) m 0 1 [liV (w.1.eraseIdx u)]) (w.1.eraseIdx u, w.2) (fun j hj => by
     rw [setF1]
     match j, hj with
     | 0, _ => exact if_pos ⟨rfl, rfl⟩
     | 1, _ => exact (if_neg fun h => absurd h.2 (by decide)).trans e1) (fun i him j hj => by rw [setF1, if_neg fun h => him h.1]) _ _
   repeat (first
    | refine uB ?_
    | refine AWp.ret ?_
    | (refine rG 32 ?_
       refine kA ?_
       refine kC ?_
       refine aB ?_))
   exact ⟨mkSt 195 [(4, .c (wpL _))] [] [], [], Wk.mk [] rfl rfl rfl ⟨⟨_, rfl, .c (LeC.fz rfl rfl rfl (fun i _ j _ => ⟨rfl, rowF_imm wtC_imm _ i j⟩))⟩, trivial⟩ trivial, rfl, rfl, aR1⟩
  ·have hz' : ¬ (w.1.length : Int) > 0 := by omega
   rw [show odV p m q2 4 = p from if_neg (by rw [hw]; exact hz)]
   repeat (first
    | refine uA ?_
    | refine uB ?_
    | refine uG ?_
    | refine kT ?_
    | refine kU ?_
    | (refine rG 11 ?_
       refine qr5f aJ ?_
       refine kC ?_
       refine aB ?_)
    | (refine rG 13 ?_
       refine qr5f aJ ?_
       refine kC ?_
       refine aB ?_)
    | (refine rG 15 ?_
       refine qr5f aJ ?_
       refine kC ?_
       refine aB ?_)
    | (refine rG 17 ?_
       refine qr5f aJ ?_
       refine kC ?_
       refine aB ?_)
    | (refine rG 19 ?_
       refine qr5t aK ?_
       refine kC ?_
       refine aB ?_)
    | (refine rG 20 ?_
       refine kA ?_
       refine AList.nilPt rfl rfl rfl rfl ?_
       refine kD ?_
       refine AList.load1F tyOk rfl rfl rfl rfl rfl rfl rfl oM oM (e0) ?_
       refine qr5 (aO tyOk) ?_
       refine qr5f aJ ?_
       refine aB ?_))
   refine AWp.weak (S' := mkSt 195 [(5, .c (.ow 301))] [(301, wpB (p))] [301]) (Wk.mk [(301, some 301)] rfl rfl rfl ?_ ⟨.inr ⟨301, p.length, _, .inl rfl, rfl, rfl, ?_⟩, trivial⟩) ?_
   ·exact allT
   ·exact fun i _ j _ => LeC.refl _ (rowF_imm wtC_imm _ i j)
   repeat (first
    | refine uB ?_
    | refine AWp.ret ?_
    | (refine rG 32 ?_
       refine kA ?_
       refine kC ?_
       refine aB ?_))
   exact ⟨mkSt 195 [(4, .c (wpL _))] [] [], [], Wk.mk [] rfl rfl rfl ⟨⟨_, rfl, .c (LeC.fz rfl rfl rfl (fun i _ j _ => ⟨rfl, rowF_imm wtC_imm _ i j⟩))⟩, trivial⟩ trivial, rfl, rfl, aR1⟩
 by_cases v5 : v = 5
 ·subst v5
  by_cases hz : 0 < w.2.length
  ·have hz' : (w.2.length : Int) > 0 := by omega
   have hz2 := Int.emod_nonneg q2 (show (w.2.length : Int) ≠ 0 by omega)
   have hz3 := Int.emod_lt_of_pos q2 (show (0 : Int) < w.2.length by omega)
   have hM2 := Mod_A q2 w.2.length (by omega) (by omega)
   rw [show odV p m q2 5 = p.set m (w.1, w.2.eraseIdx (q2 % w.2.length).toNat) by rw [← hw]; exact if_pos (by rw [hw]; exact hz)]
   obtain ⟨u, hu⟩ := Int.eq_ofNat_of_zero_le hz2
   rw [hu] at hM2 hz3 ⊢
   rw [show ((u : Nat) : Int).toNat = u from rfl]
   have hwo := without_A w.2 u (by omega) (by omega)
   repeat (first
    | refine uA ?_
    | refine uB ?_
    | refine kT ?_
    | refine kU ?_
    | (refine rG 11 ?_
       refine qr5f aJ ?_
       refine kC ?_
       refine aB ?_)
    | (refine rG 13 ?_
       refine qr5f aJ ?_
       refine kC ?_
       refine aB ?_)
    | (refine rG 15 ?_
       refine qr5f aJ ?_
       refine kC ?_
       refine aB ?_)
    | (refine rG 17 ?_
       refine qr5f aJ ?_
       refine kC ?_
       refine aB ?_)
    | (refine rG 19 ?_
       refine qr5f aJ ?_
       refine kC ?_
       refine aB ?_)
    | (refine rG 22 ?_
       refine qr5t aK ?_
       refine kC ?_
       refine aB ?_)
    | (refine rG 23 ?_
       refine kA ?_
       refine AList.nilPt rfl rfl rfl rfl ?_
       refine kD ?_
       refine AList.load1F tyOk rfl rfl rfl rfl rfl rfl rfl oM oM (e1) ?_
       refine qr5 (aO tyOk) ?_
       refine qr5t aK ?_
       refine aB ?_)
    | (refine AWp.draw (id := 24) mixed ?_; (iterate 2 refine kA ?_); refine AList.nilPt rfl rfl rfl rfl ?_; refine kD ?_; refine AList.load1F tyOk rfl rfl rfl rfl rfl rfl rfl oM oM (e1) ?_; refine qr7eo (aU (i := 2) tyOk) ?_; refine kE ?_; refine kA ?_; refine AList.nilPt rfl rfl rfl rfl ?_; refine kD ?_; refine AList.load1F tyOk rfl rfl rfl rfl rfl rfl rfl oM oM (e1) ?_; refine qr5 (aO tyOk) ?_; refine aH rfl rfl rfl rfl Try.func25 rfl (by kernel_rfl) (hM2) ?_; refine aH rfl rfl rfl rfl Try.func42 rfl (by kernel_rfl) (hwo) ?_; refine AList.nilPt rfl rfl rfl rfl ?_; refine kD ?_; refine kI ?_; refine aB ⟨by kernel_rfl, ?_⟩))
   refine AWp.weak (S' := mkSt 195 [(5, .c (.ow 301))] [(301, wpB (p.set m (w.1, w.2.eraseIdx u)))] [301]) (Wk.mk [(301, some 301)] rfl rfl rfl ?_ ⟨.inr ⟨301, p.length, _, .inl rfl, List.length_set, rfl, ?_⟩, trivial⟩) ?_
   ·exact allT
   ·exact hset (setF (rowF wtC wtZ p) m 1 1 [liV (w.2.eraseIdx u)]) (w.1, w.2.eraseIdx u) (fun j hj => by
     rw [setF1]
     match j, hj with
     | 0, _ => exact (if_neg fun h => absurd h.2 (by decide)).trans e0
     | 1, _ => exact if_pos ⟨rfl, rfl⟩) (fun i him j hj => by rw [setF1, if_neg fun h => him h.1]) _ _
   repeat (first
    | refine uB ?_
    | refine AWp.ret ?_
    | (refine rG 32 ?_
       refine kA ?_
       refine kC ?_
       refine aB ?_))
   exact ⟨mkSt 195 [(4, .c (wpL _))] [] [], [], Wk.mk [] rfl rfl rfl ⟨⟨_, rfl, .c (LeC.fz rfl rfl rfl (fun i _ j _ => ⟨rfl, rowF_imm wtC_imm _ i j⟩))⟩, trivial⟩ trivial, rfl, rfl, aR1⟩
  ·have hz' : ¬ (w.2.length : Int) > 0 := by omega
   rw [show odV p m q2 5 = p from if_neg (by rw [hw]; exact hz)]
   repeat (first
    | refine uA ?_
    | refine uB ?_
    | refine uG ?_
    | refine kT ?_
    | refine kU ?_
    | (refine rG 11 ?_
       refine qr5f aJ ?_
       refine kC ?_
       refine aB ?_)
    | (refine rG 13 ?_
       refine qr5f aJ ?_
       refine kC ?_
       refine aB ?_)
    | (refine rG 15 ?_
       refine qr5f aJ ?_
       refine kC ?_
       refine aB ?_)
    | (refine rG 17 ?_
       refine qr5f aJ ?_
       refine kC ?_
       refine aB ?_)
    | (refine rG 19 ?_
       refine qr5f aJ ?_
       refine kC ?_
       refine aB ?_)
    | (refine rG 22 ?_
       refine qr5t aK ?_
       refine kC ?_
       refine aB ?_)
    | (refine rG 23 ?_
       refine kA ?_
       refine AList.nilPt rfl rfl rfl rfl ?_
       refine kD ?_
       refine AList.load1F tyOk rfl rfl rfl rfl rfl rfl rfl oM oM (e1) ?_
       refine qr5 (aO tyOk) ?_
       refine qr5f aJ ?_
       refine aB ?_))
   refine AWp.weak (S' := mkSt 195 [(5, .c (.ow 301))] [(301, wpB (p))] [301]) (Wk.mk [(301, some 301)] rfl rfl rfl ?_ ⟨.inr ⟨301, p.length, _, .inl rfl, rfl, rfl, ?_⟩, trivial⟩) ?_
   ·exact allT
   ·exact fun i _ j _ => LeC.refl _ (rowF_imm wtC_imm _ i j)
   repeat (first
    | refine uB ?_
    | refine AWp.ret ?_
    | (refine rG 32 ?_
       refine kA ?_
       refine kC ?_
       refine aB ?_))
   exact ⟨mkSt 195 [(4, .c (wpL _))] [] [], [], Wk.mk [] rfl rfl rfl ⟨⟨_, rfl, .c (LeC.fz rfl rfl rfl (fun i _ j _ => ⟨rfl, rowF_imm wtC_imm _ i j⟩))⟩, trivial⟩ trivial, rfl, rfl, aR1⟩
 by_cases v7 : v = 7
 ·subst v7
  rw [show odV p m q2 7 = p.set m (w.2, w.1) by rw [← hw]; rfl]
  repeat (first
   | refine uA ?_
   | refine uB ?_
   | refine kT ?_
   | refine kU ?_
   | (refine rG 11 ?_
      refine qr5f aJ ?_
      refine kC ?_
      refine aB ?_)
   | (refine rG 13 ?_
      refine qr5f aJ ?_
      refine kC ?_
      refine aB ?_)
   | (refine rG 15 ?_
      refine qr5f aJ ?_
      refine kC ?_
      refine aB ?_)
   | (refine rG 17 ?_
      refine qr5f aJ ?_
      refine kC ?_
      refine aB ?_)
   | (refine rG 19 ?_
      refine qr5f aJ ?_
      refine kC ?_
      refine aB ?_)
   | (refine rG 22 ?_
      refine qr5f aJ ?_
      refine kC ?_
      refine aB ?_)
   | (refine rG 25 ?_
      refine qr5f aJ ?_
      refine kC ?_
      refine aB ?_)
   | (refine rG 28 ?_
      refine qr5t aK ?_
      refine kC ?_
      refine aB ?_)
   | (refine AWp.draw (id := 29) mixed ?_; (iterate 3 refine kA ?_); refine AList.nilPt rfl rfl rfl rfl ?_; refine kD ?_; refine AList.load1F tyOk rfl rfl rfl rfl rfl rfl rfl oM oM (e1) ?_; refine kA ?_; refine AList.nilPt rfl rfl rfl rfl ?_; refine kD ?_; refine AList.load1F tyOk rfl rfl rfl rfl rfl rfl rfl oM oM (e0) ?_; refine AList.nilPt rfl rfl rfl rfl ?_; refine kD ?_; refine kI ?_; refine AList.nilPt rfl rfl rfl rfl ?_; refine kD ?_; refine kI ?_; refine aB ⟨by kernel_rfl, ?_⟩))
  refine AWp.weak (S' := mkSt 195 [(5, .c (.ow 301))] [(301, wpB (p.set m (w.2, w.1)))] [301]) (Wk.mk [(301, some 301)] rfl rfl rfl ?_ ⟨.inr ⟨301, p.length, _, .inl rfl, List.length_set, rfl, ?_⟩, trivial⟩) ?_
  ·exact allT
  ·exact hset (setF (setF (rowF wtC wtZ p) m 0 1 [liV w.2]) m 1 1 [liV w.1]) (w.2, w.1) (fun j hj => by
    rw [setF1]
    match j, hj with
    | 0, _ => rw [if_neg fun h => absurd h.2 (by decide), setF1]; exact if_pos ⟨rfl, rfl⟩
    | 1, _ => exact if_pos ⟨rfl, rfl⟩) (fun i him j hj => by rw [setF1, if_neg (fun h => him h.1), setF1, if_neg fun h => him h.1]) _ _
  repeat (first
   | refine uB ?_
   | refine AWp.ret ?_
   | (refine rG 32 ?_
      refine kA ?_
      refine kC ?_
      refine aB ?_))
  exact ⟨mkSt 195 [(4, .c (wpL _))] [] [], [], Wk.mk [] rfl rfl rfl ⟨⟨_, rfl, .c (LeC.fz rfl rfl rfl (fun i _ j _ => ⟨rfl, rowF_imm wtC_imm _ i j⟩))⟩, trivial⟩ trivial, rfl, rfl, aR1⟩
 ·obtain rfl : v = 8 := by omega
  have ez : cellsFrom (rowF wtC wtZ p 0) 0 2 = wtC (p.getD 0 wtZ) := rfl
  obtain ⟨z, hz⟩ : ∃ z, p.getD 0 wtZ = z := ⟨_, rfl⟩
  rw [show odV p m q2 8 = (p.set 0 w).set m z by rw [← hw, ← hz]; rfl]
  rw [hz] at ez
  have hz0 : (0 : Int) < p.length := by omega
  repeat (first
   | refine uA ?_
   | refine uB ?_
   | refine kT ?_
   | refine kU ?_
   | (refine rG 11 ?_
      refine qr5f aJ ?_
      refine kC ?_
      refine aB ?_)
   | (refine rG 13 ?_
      refine qr5f aJ ?_
      refine kC ?_
      refine aB ?_)
   | (refine rG 15 ?_
      refine qr5f aJ ?_
      refine kC ?_
      refine aB ?_)
   | (refine rG 17 ?_
      refine qr5f aJ ?_
      refine kC ?_
      refine aB ?_)
   | (refine rG 19 ?_
      refine qr5f aJ ?_
      refine kC ?_
      refine aB ?_)
   | (refine rG 22 ?_
      refine qr5f aJ ?_
      refine kC ?_
      refine aB ?_)
   | (refine rG 25 ?_
      refine qr5f aJ ?_
      refine kC ?_
      refine aB ?_)
   | (refine rG 28 ?_
      refine qr5f aJ ?_
      refine kC ?_
      refine aB ?_)
   | (refine rG 30 ?_
      refine qr5t aK ?_
      refine kC ?_
      refine aB ?_)
   | (refine AWp.draw (id := 31) mixed ?_; (iterate 5 refine kA ?_); refine qr10eo (AList.idxOw (k := m) tyOk) ?_; refine AList.loadAF tyOk rfl rfl rfl rfl rfl rfl rfl oM (by first | omega | (dsimp only; omega) | exact of_decide_eq_true rfl | (simp; done) | (simp; omega) | (show _ + _ * 3 + 3 ≤ 12; omega)) (ew) ?_; refine kA ?_; refine qr10eo (AList.idxOw (k := 0) tyOk) ?_; refine AList.loadAF tyOk rfl rfl rfl rfl rfl rfl rfl oM (by first | omega | (dsimp only; omega) | exact of_decide_eq_true rfl | (simp; done) | (simp; omega) | (show _ + _ * 3 + 3 ≤ 12; omega)) (ez) ?_; refine qr10eo (AList.idxOw (k := 0) tyOk) ?_; refine kI ?_; refine qr10eo (AList.idxOw (k := m) tyOk) ?_; refine kI ?_; refine aB ⟨by kernel_rfl, ?_⟩))
  refine AWp.weak (S' := mkSt 195 [(5, .c (.ow 301))] [(301, wpB ((p.set 0 w).set m z))] [301]) (Wk.mk [(301, some 301)] rfl rfl rfl ?_ ⟨.inr ⟨301, p.length, _, .inl rfl, show ((p.set 0 w).set m z).length = p.length by rw [List.length_set, List.length_set], rfl, ?_⟩, trivial⟩) ?_
  ·exact allT
  ·intro i hi j hj
   have hcell : setF (setF (rowF wtC wtZ p) 0 0 2 (wtC w)) m 0 2 (wtC z) i j = rowF wtC wtZ ((p.set 0 w).set m z) i j := by
    rw [row_set _ i j (by rw [List.length_set]; exact hml), row_set _ i j hn0, setF2 _ _ _ _ _ _ hj, setF2 _ _ _ _ _ _ hj]
    match j, hj with
    | 0, _ => rfl
    | 1, _ => rfl
   show LeC _ _ (setF (setF (rowF wtC wtZ p) 0 0 2 (wtC w)) m 0 2 (wtC z) i j) _
   rw [hcell]
   exact LeC.refl _ (rowF_imm wtC_imm _ i j)
  repeat (first
   | refine uB ?_
   | refine AWp.ret ?_
   | (refine rG 32 ?_
      refine kA ?_
      refine kC ?_
      refine aB ?_))
  exact ⟨mkSt 195 [(4, .c (wpL _))] [] [], [], Wk.mk [] rfl rfl rfl ⟨⟨_, rfl, .c (LeC.fz rfl rfl rfl (fun i _ j _ => ⟨rfl, rowF_imm wtC_imm _ i j⟩))⟩, trivial⟩ trivial, rfl, rfl, aR1⟩
end Go.Proofs.Ytekkldgmjdllbaa
end
