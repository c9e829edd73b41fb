/- Parts of the proof: A24tp, A24gp, A25q, A25y. -/
import Derived.Test.YtekkldgmjdllbaaG22
import Derived.Test.YtekkldgmjdllbaaG21
import Derived.Test.YtekkldgmjdllbaaG17
import Derived.Test.YtekkldgmjdllbaaG04
import Derived.Scope
import Derived.Test.YtekkldgmjdllbaaG20
import Derived.Test.YtekkldgmjdllbaaG09
import Derived.Test.YtekkldgmjdllbaaG03
import Derived.RangeFuncLeaves
import Derived.RangeFuncRecord
import Derived.Shelf.Abstract
import Derived.Test.YtekkldgmjdllbaaG02
import Derived.Test.YtekkldgmjdllbaaG08
import Derived.Test.YtekkldgmjdllbaaG01
import Derived.Test.YtekkldgmjdllbaaG19
import Derived.RangeFuncNested
import Derived.Deep.AppendLies
import Derived.OrdersIn
import Derived.TacticsIn
import Derived.RangeFuncCalls
import Derived.Test.YtekkldgmjdllbaaG16
import Derived.Maps.AppendAt
import Derived.OwnWalk
import Derived.Test.YtekkldgmjdllbaaG18
import Derived.Test.YtekkldgmjdllbaaProg
import Derived.Test.YtekkldgmjdllbaaG11
import Derived.Test.YtekkldgmjdllbaaHA25thr01
import Derived.Laws.Cover3
import Derived.StillTail
import Derived.Below
import Derived.Deep.Draws
import Derived.WalkKit
import Derived.KernelRfl
import Derived.Test.YtekkldgmjdllbaaG13
import Derived.Test.YtekkldgmjdllbaaHA25thr02
import Derived.Test.YtekkldgmjdllbaaG15
import Derived.Lib.Hide
import Derived.Deep.QuietTactic
import Derived.BigQuiet
import Derived.Deep.DrawnRows
import Derived.Laws.StructEq
import Derived.Test.YtekkldgmjdllbaaG12
import Derived.Test.YtekkldgmjdllbaaG07
import Derived.Test.YtekkldgmjdllbaaG10
import Derived.Test.YtekkldgmjdllbaaG06
import Derived.Test.YtekkldgmjdllbaaG05
import Derived.Great.BuildSlice
import Derived.Test.YtekkldgmjdllbaaG14
import Derived.Test.YtekkldgmjdllbaaG27
import Derived.Test.YtekkldgmjdllbaaG39
import Derived.Test.YtekkldgmjdllbaaHA25thr04
import Derived.Test.YtekkldgmjdllbaaG37
import Derived.Test.YtekkldgmjdllbaaG25
import Derived.Test.YtekkldgmjdllbaaG38
import Derived.Test.YtekkldgmjdllbaaG23
import Derived.Test.YtekkldgmjdllbaaG28
import Derived.Test.YtekkldgmjdllbaaG36
import Derived.Test.YtekkldgmjdllbaaG24
import Derived.WideKeyMaps
import Derived.MapKept
import Derived.Carry
import Derived.Test.YtekkldgmjdllbaaG35
import Derived.Test.YtekkldgmjdllbaaG33
import Derived.Test.YtekkldgmjdllbaaG31
import Derived.Lib.Builder
import Derived.Lib.UnsafeStr
import Derived.Laws.Externs
import Derived.Lib.BufferRead
import Derived.Test.YtekkldgmjdllbaaG32
import Derived.Test.YtekkldgmjdllbaaG34
import Derived.Test.YtekkldgmjdllbaaG30
import Derived.Laws.Pointers
import Derived.Test.YtekkldgmjdllbaaG29
set_option linter.unusedSimpArgs false
set_option linter.unusedVariables false
section
namespace Go.Proofs.Ytekkldgmjdllbaa
open Go.RowKit Go.Flow Go.AV Go.Plain
def Bg.le (x y : Bg) : Prop := x.lo ≤ y.lo ∧ x.bl ≤ y.bl ∧ x.sh ≤ y.sh ∧ x.st ≤ y.st
theorem cnt_grid (p : Nat → Bool) (W : Nat) : ∀ H : Nat, cnt p (H * W) = sumTo (fun j => cnt (fun i => p (j * W + i)) W) H
 | 0 => by rw [Nat.zero_mul]; rfl
 | H + 1 => by
   rw [Nat.succ_mul]
   show sumTo _ (H * W + W) = _
   rw [sumTo_split]
   show cnt p (H * W) + _ = _
   rw [cnt_grid p W H]
   rfl
theorem alo_cnt (s : Sd) (P : Int → Bool) : ∀ n : Nat, (((aloN s n).filter P).length : Int) = cnt (fun k => aloB s (k : Int) && P (k : Int)) n
 | 0 => rfl
 | n + 1 => by
   rw [aloN_succ, List.filter_append, List.length_append, Int.natCast_add, alo_cnt s P n, cnt_succ]
   congr 1
   cases h1 : aloB s (n : Int) <;> cases h2 : P (n : Int) <;> simp [h2]
theorem out_only (s : Sd) (W H t f : Nat) (hW : s.o.W = W) (hH : s.o.H = H) (hn : s.o.n = H * W) (hm : -4 ≤ s.mv) :
 outC s t f (aloL s) = onlyN s.o s.p s.dx s.dy ((f : Int) - 4 - s.mv) ((f : Int) - 4 - s.mv + t) := by
 have e : outC s t f (aloL s) = cnt (fun k => aloB s (k : Int) && decide (colV s k < f ∨ f + t ≤ colV s k)) s.o.n := alo_cnt s (fun k => decide (colV s k < f ∨ f + t ≤ colV s k)) s.o.n
 rw [e, hn, cnt_grid]
 unfold onlyN
 rw [hW, hH, Int.toNat_natCast, Int.toNat_natCast]
 refine sumTo_congr fun j hj => cnt_congr fun i hi => ?_
 have hlt : j * W + i < H * W := by
  have : j * W + W ≤ H * W := by rw [← Nat.succ_mul]; exact Nat.mul_le_mul_right W hj
  omega
 have e0 : ((j * W + i : Nat) : Int) = (i : Int) + (W : Int) * j := by
  rw [Int.natCast_add, Int.natCast_mul, Int.mul_comm]
  exact Int.add_comm _ _
 have em : ((j * W + i : Nat) : Int) % (W : Int) = i := by rw [e0, Int.add_mul_emod_self_left, Int.emod_eq_of_lt (by omega) (by omega)]
 have ed : ((j * W + i : Nat) : Int) / (W : Int) = j := by rw [e0, Int.add_mul_ediv_left _ _ (by omega), Int.ediv_eq_zero_of_lt (by omega) (by omega), Int.zero_add]
 unfold aloB onB colV hasB
 rw [hW, hH, em, ed, Int.toNat_natCast, decide_eq_true (Int.natCast_nonneg _), decide_eq_true (show ((j * W + i : Nat) : Int) < (s.o.n : Int) by rw [hn]; omega), Bool.true_and, Bool.true_and, if_pos (show 0 ≤ (i : Int) ∧ (i : Int) < W ∧ 0 ≤ (j : Int) ∧ (j : Int) < H by omega), show ((j : Int) * W + i).toNat = j * W + i by rw [← Int.natCast_mul, ← Int.natCast_add, Int.toNat_natCast]]
 have hc : decide (((i : Int) + s.mv + 4).toNat < f ∨ f + t ≤ ((i : Int) + s.mv + 4).toNat) = (decide ((i : Int) < (f : Int) - 4 - s.mv) || decide ((f : Int) - 4 - s.mv + t ≤ (i : Int))) := by
  rw [← Bool.decide_or]
  exact decide_eq_decide.2 (by omega)
 rw [hc, Bool.and_assoc, Bool.and_assoc, Bool.and_comm (!_)]
theorem open_hit (a b : Bp) (x y : Bg) (d : Int × Int) (f : Nat) (h : cmpOk a b) (hd : -4 ≤ d.1 ∧ d.1 ≤ 4) :
 openB (sd1 a b x y d) (sd2 a b x y d) (stN a.W x y).toNat (aloL (sd1 a b x y d)) (aloL (sd2 a b x y d)) f = hitC a b x y ⟨d.1, d.2, (f : Int) - 4⟩ := by
 obtain ⟨ha, hb, hW, hH⟩ := h
 obtain ⟨q0, q1, q2, q3, q4⟩ := okB ha
 obtain ⟨p0, p1, p2, p3, p4⟩ := okB hb
 obtain ⟨Wn, hWn⟩ := Int.eq_ofNat_of_zero_le q0
 obtain ⟨Hn, hHn⟩ := Int.eq_ofNat_of_zero_le q2
 have hst := stN_bd x y q0
 have hna : a.n = Hn * Wn := by
  rw [hWn, hHn, ← Int.natCast_mul] at q4
  rw [Nat.mul_comm]
  exact Int.ofNat_inj.1 q4
 have hnb : b.n = Hn * Wn := by
  rw [← hW, ← hH, hWn, hHn, ← Int.natCast_mul] at p4
  rw [Nat.mul_comm]
  exact Int.ofNat_inj.1 p4
 unfold openB hitC xsV ovN
 rw [out_only (sd1 a b x y d) Wn Hn _ f hWn hHn hna (by show (-4 : Int) ≤ 0; omega), out_only (sd2 a b x y d) Wn Hn _ f (by show b.W = _; rw [← hW]; exact hWn) (by show b.H = _; rw [← hH]; exact hHn) hnb hd.1]
 rw [show (((stN a.W x y).toNat : Nat) : Int) = stN a.W x y by omega]
 show (decide (onlyN a b d.1 d.2 ((f : Int) - 4 - 0) ((f : Int) - 4 - 0 + stN a.W x y) ≤ (lim4 x).lo + (lim4 y).bl) && decide (onlyN b a (-d.1) (-d.2) ((f : Int) - 4 - d.1) ((f : Int) - 4 - d.1 + stN a.W x y) ≤ (lim4 y).lo + (lim4 x).bl)) = decide (max (onlyN a b d.1 d.2 ((f : Int) - 4) ((f : Int) - 4 + stN a.W x y) - (lim4 x).lo - (lim4 y).bl) (onlyN b a (-d.1) (-d.2) ((f : Int) - 4 - d.1) ((f : Int) - 4 - d.1 + stN a.W x y) - (lim4 y).lo - (lim4 x).bl) ≤ 0)
 rw [Int.sub_zero, ← Bool.decide_and]
 exact decide_eq_decide.2 (by omega)
theorem cnf_iff {a b : Bp} {x y : Bg} (h : cmpOk a b) : (cnfV a b x y).2 = true ↔ ∃ c, c ∈ alL a.W x y ∧ hitC a b x y c = true := by
 unfold cnfV cnfR
 rw [if_pos h]
 cases hf : (alL a.W x y).find? (hitC a b x y) with
 | some c => exact ⟨fun _ => ⟨c, List.mem_of_find?_eq_some hf, List.find?_some hf⟩, fun _ => rfl⟩
 | none =>
   rw [List.find?_eq_none] at hf
   constructor
   ·intro h
    cases h
   ·rintro ⟨c, h1, h2⟩
    exact absurd h2 (hf c h1)
theorem outC_sub {s : Sd} {t f : Nat} {l m : List Int} (h : l.Sublist m) : outC s t f l ≤ outC s t f m := by
 unfold outC
 exact Int.ofNat_le.2 (h.filter _).length_le
theorem decB_mono {s t : Sd} {n M : Nat} {lA lB mA mB : List Int} (hA : ∀ f, outC s n f lA ≤ outC s n f mA) (hB : ∀ f, outC t n f lB ≤ outC t n f mB) (h : decB s t n M lA lB = true) : decB s t n M mA mB = true := by
 unfold decB at h ⊢
 rw [List.all_eq_true] at h ⊢
 intro f hf
 have := h f hf
 unfold openB at this ⊢
 have hA := hA f
 have hB := hB f
 simp only [Bool.not_eq_true', Bool.and_eq_false_iff, decide_eq_false_iff_not] at this ⊢
 omega
theorem decB_sub {s t : Sd} {n M : Nat} {lA lB mA mB : List Int} (hA : lA.Sublist mA) (hB : lB.Sublist mB) (h : decB s t n M lA lB = true) : decB s t n M mA mB = true :=
 decB_mono (fun _ => outC_sub hA) (fun _ => outC_sub hB) h
theorem inc_cnt (P : Int → Bool) : ∀ (n : Nat) (l : List Int), l.Pairwise (· < ·) → (∀ k, k ∈ l → 0 ≤ k ∧ k < n ∧ P k = true) → (l.length : Int) ≤ cnt (fun k => P (k : Int)) n
 | 0, l, _, h => by
   cases l with
   | nil => exact Int.le_refl _
   | cons k l => have := h k (by simp); omega
 | n + 1, l, hp, h => by
   rw [cnt_succ]
   by_cases hl : ∃ m, l = m ++ [(n : Int)]
   ·obtain ⟨m, rfl⟩ := hl
    rw [List.pairwise_append] at hp
    have h1 := inc_cnt P n m hp.1 fun k hk => ⟨(h k (by simp [hk])).1, hp.2.2 k hk n (by simp), (h k (by simp [hk])).2.2⟩
    rw [if_pos (h n (by simp)).2.2, List.length_append, Int.natCast_add]
    show (m.length : Int) + 1 ≤ _
    omega
   ·have h1 := inc_cnt P n l hp fun k hk => ⟨(h k hk).1, by
     have h2 := h k hk
     refine Int.lt_iff_le_and_ne.2 ⟨by omega, fun e => hl ?_⟩
     rcases List.eq_nil_or_concat l with rfl | ⟨m, v, rfl⟩
     ·cases hk
     ·rw [List.concat_eq_append] at hp hk h ⊢
      refine ⟨m, ?_⟩
      rw [List.mem_append, List.mem_singleton] at hk
      rcases hk with hk | hk
      ·rw [List.pairwise_append] at hp
       have h3 := hp.2.2 k hk v (by simp)
       have h4 := h v (by simp)
       omega
      ·rw [← hk, e], (h k hk).2.2⟩
    split <;> omega
theorem okL_pair {s : Sd} {l : List Int} (h : okL s l = true) : l.Pairwise (· < ·) := by
 have hs : ∀ k, k + 1 < l.length → l.getD k 0 < l.getD (k + 1) 0 := fun k hk => by
  have := List.all_eq_true.1 h (k + 1) (List.mem_range.2 hk)
  unfold okAt at this
  rw [Bool.and_eq_true, Bool.or_eq_true, decide_eq_true_eq, decide_eq_true_eq, Nat.add_sub_cancel] at this
  exact this.2.resolve_left (by omega)
 have hm : ∀ d k, k + d + 1 < l.length → l.getD k 0 < l.getD (k + d + 1) 0 := fun d => by
  induction d with
  | zero => exact fun k hk => hs k hk
  | succ d ih => exact fun k hk => Int.lt_trans (ih k (by omega)) (hs (k + d + 1) hk)
 rw [List.pairwise_iff_getElem]
 intro i j hi hj hij
 have := hm (j - i - 1) i (by omega)
 rw [show i + (j - i - 1) + 1 = j by omega, List.getD_eq_getElem?_getD, List.getD_eq_getElem?_getD, List.getElem?_eq_getElem hi, List.getElem?_eq_getElem hj] at this
 exact this
theorem okL_mem {s : Sd} {l : List Int} (h : okL s l = true) {k : Int} (hk : k ∈ l) : aloB s k = true := by
 obtain ⟨i, hi, rfl⟩ := List.getElem_of_mem hk
 have := List.all_eq_true.1 h i (List.mem_range.2 hi)
 unfold okAt at this
 rw [Bool.and_eq_true, List.getD_eq_getElem?_getD, List.getElem?_eq_getElem hi] at this
 exact this.1
theorem okL_of {s : Sd} {l : List Int} (hp : l.Pairwise (· < ·)) (hm : ∀ k, k ∈ l → aloB s k = true) : okL s l = true := by
 refine List.all_eq_true.2 fun i hi => ?_
 have hi := List.mem_range.1 hi
 unfold okAt
 rw [List.getD_eq_getElem?_getD, List.getElem?_eq_getElem hi, Option.getD_some, hm _ (List.getElem_mem hi), Bool.true_and, Bool.or_eq_true, decide_eq_true_eq, decide_eq_true_eq]
 rcases Nat.eq_zero_or_pos i with h0 | h0
 ·exact .inl h0
 ·refine .inr ?_
  rw [List.getD_eq_getElem?_getD, List.getElem?_eq_getElem (show i - 1 < l.length by omega)]
  exact List.pairwise_iff_getElem.1 hp (i - 1) i (by omega) hi (by omega)
theorem okL_sub {s : Sd} {l m : List Int} (h : l.Sublist m) (hm : okL s m = true) : okL s l = true :=
 okL_of ((okL_pair hm).sublist h) fun _ hk => okL_mem hm (h.subset hk)
theorem alo_bd2 {s : Sd} {v : Int} (h : aloB s v = true) : 0 ≤ v ∧ v < s.o.n := by
 unfold aloB at h
 simp only [Bool.and_eq_true, decide_eq_true_eq] at h
 exact ⟨h.1, h.2.1⟩
theorem aloL_ok (s : Sd) : okL s (aloL s) = true := by
 refine okL_of ?_ fun k hk => ?_
 ·unfold aloL aloN
  rw [List.pairwise_map]
  exact List.Pairwise.imp (fun h => by omega) (List.Pairwise.filter _ List.pairwise_lt_range)
 ·unfold aloL aloN at hk
  obtain ⟨i, hi, rfl⟩ := List.mem_map.1 hk
  exact (List.mem_filter.1 hi).2
theorem outC_all {s : Sd} {t f : Nat} {l : List Int} (h : okL s l = true) : outC s t f l ≤ outC s t f (aloL s) := by
 have e : outC s t f (aloL s) = cnt (fun k => aloB s (k : Int) && decide (colV s k < f ∨ f + t ≤ colV s k)) s.o.n := alo_cnt s (fun k => decide (colV s k < f ∨ f + t ≤ colV s k)) s.o.n
 rw [e]
 refine inc_cnt (fun k => aloB s k && decide (colV s k < f ∨ f + t ≤ colV s k)) s.o.n _ ((okL_pair h).filter _) fun k hk => ?_
 obtain ⟨h1, h2⟩ := List.mem_filter.1 hk
 have h3 := okL_mem h h1
 obtain ⟨h4, h5⟩ := alo_bd2 h3
 exact ⟨h4, h5, by rw [h3, h2]; rfl⟩
theorem shrI_spec (dec : List Int → Bool) (hmono : ∀ l m : List Int, l.Sublist m → dec l = true → dec m = true) (l : List Int) : ∀ (i : Nat) (kept : List Int), i ≤ l.length → dec (l.take i ++ kept) = true →
 ∃ r : List Int, shrI dec l i kept = r ++ kept ∧ r.Sublist (l.take i) ∧ dec (r ++ kept) = true ∧ ∀ j, j < r.length → dec ((r ++ kept).eraseIdx j) = false
 | 0, kept, _, h => ⟨[], rfl, by simp, by simpa using h, fun j hj => by cases hj⟩
 | i + 1, kept, hi, h => by
   have ht : l.take (i + 1) = l.take i ++ [l.getD i 0] := by
    rw [List.take_add_one, List.getElem?_eq_getElem (by omega), List.getD_eq_getElem?_getD, List.getElem?_eq_getElem (by omega)]
    rfl
   unfold shrI
   by_cases hd : dec (l.take i ++ kept) = true
   ·rw [if_pos hd]
    obtain ⟨r, h1, h2, h3, h4⟩ := shrI_spec dec hmono l i kept (by omega) hd
    exact ⟨r, h1, h2.trans (by rw [ht]; exact List.sublist_append_left _ _), h3, h4⟩
   ·rw [if_neg hd]
    have h0 : dec (l.take i ++ (l.getD i 0 :: kept)) = true := by rw [ht, List.append_assoc] at h; exact h
    obtain ⟨r, h1, h2, h3, h4⟩ := shrI_spec dec hmono l i (l.getD i 0 :: kept) (by omega) h0
    refine ⟨r ++ [l.getD i 0], by rw [h1, List.append_assoc]; rfl, by rw [ht]; exact List.Sublist.append h2 (List.Sublist.refl _), by rw [List.append_assoc]; exact h3, fun j hj => ?_⟩
    rw [List.append_assoc]
    rw [List.length_append, List.length_singleton] at hj
    by_cases hj' : j < r.length
    ·exact h4 j hj'
    ·obtain rfl : j = r.length := by omega
     have e : (r ++ ([l.getD i 0] ++ kept)).eraseIdx r.length = r ++ kept := by
      rw [List.eraseIdx_append_of_length_le (Nat.le_refl _), Nat.sub_self]
      rfl
     rw [e]
     exact Bool.eq_false_iff.2 fun g => hd (hmono _ _ (List.Sublist.append h2 (List.Sublist.refl _)) g)
theorem shrW_spec (s t : Sd) (n M : Nat) (w : Wt) (h : decB s t n M w.1 w.2 = true) :
 ((shrW s t n M w).1.Sublist w.1 ∧ (shrW s t n M w).2.Sublist w.2) ∧ decB s t n M (shrW s t n M w).1 (shrW s t n M w).2 = true ∧ (∀ j, j < (shrW s t n M w).1.length → decB s t n M ((shrW s t n M w).1.eraseIdx j) (shrW s t n M w).2 = false) ∧ ∀ j, j < (shrW s t n M w).2.length → decB s t n M (shrW s t n M w).1 ((shrW s t n M w).2.eraseIdx j) = false := by
 obtain ⟨r, h1, h2, h3, h4⟩ := shrI_spec (fun l => decB s t n M l w.2) (fun l m hs hd => decB_sub hs (List.Sublist.refl _) hd) w.1 w.1.length [] (Nat.le_refl _) (by rw [List.take_length, List.append_nil]; exact h)
 rw [List.append_nil] at h1 h3 h4
 have e1 : shrA s t n M w = r := h1
 obtain ⟨q, g1, g2, g3, g4⟩ := shrI_spec (fun l => decB s t n M r l) (fun l m hs hd => decB_sub (List.Sublist.refl _) hs hd) w.2 w.2.length [] (Nat.le_refl _) (by rw [List.take_length, List.append_nil]; exact h3)
 rw [List.append_nil] at g1 g3 g4
 rw [List.take_length] at h2 g2
 have e2 : shrW s t n M w = (r, q) := by
  unfold shrW
  rw [e1, g1]
 rw [e2]
 refine ⟨⟨h2, g2⟩, g3, fun j hj => Bool.eq_false_iff.2 fun g => ?_, g4⟩
 have := h4 j hj
 rw [show decB s t n M (r.eraseIdx j) w.2 = true from decB_sub (List.Sublist.refl _) g2 g] at this
 cases this
theorem okL_R {s : Sd} {l : List Int} (h : okL s l = true) (hn : s.o.n ≤ 9216) : lOk l := by
 have h1 := okL_len h
 refine ⟨by omega, fun k hk => ?_⟩
 obtain ⟨h2, h3⟩ := alo_bd2 (okL_alo h hk)
 unfold iOk
 omega
theorem shL_81 (x y : Bg) : (shL (shN x y)).length ≤ 81 := by
 obtain ⟨-, hm⟩ := shN_eq x y
 rw [shL_len hm]
 have h9 : 2 * shN x y + 1 ≤ 9 := by omega
 exact Nat.mul_le_mul h9 h9
theorem mkL25_get (a b : Bp) (x y : Bg) (L : List (Int × Int)) {k : Nat} (hk : k < L.length) : (mkL25 a b x y L).getD k wtZ = (aloL (sd1 a b x y (L.getD k mvZ)), aloL (sd2 a b x y (L.getD k mvZ))) := by
 unfold mkL25
 rw [List.getD_eq_getElem?_getD, List.getElem?_map, List.getD_eq_getElem?_getD, List.getElem?_eq_getElem hk]
 rfl
theorem mkL25_R {a b : Bp} (x y : Bg) (h : cmpOk a b) : PrR (mkL25 a b x y (shL (shN x y))) := by
 obtain ⟨ha, hb, -⟩ := h
 have h1 := n_bd ha
 have h2 := n_bd hb
 have h81 := shL_81 x y
 have hl : (mkL25 a b x y (shL (shN x y))).length = (shL (shN x y)).length := List.length_map ..
 refine ⟨by omega, fun k hk => ?_⟩
 rw [mkL25_get a b x y _ (by omega)]
 exact ⟨okL_R (aloL_ok _) h1, okL_R (aloL_ok _) h2⟩
theorem hit_mem {a : Bp} {x y : Bg} {k f : Nat} (hk : k < (shL (shN x y)).length) (hf : f < alM a.W x y) : (⟨((shL (shN x y)).getD k mvZ).1, ((shL (shN x y)).getD k mvZ).2, (f : Int) - 4⟩ : Cl) ∈ alL a.W x y := by
 unfold alL alK
 refine List.mem_flatMap.2 ⟨(shL (shN x y)).getD k mvZ, ?_, ?_⟩
 ·rw [List.getD_eq_getElem?_getD, List.getElem?_eq_getElem hk]
  exact List.getElem_mem _
 ·unfold alI
  exact List.mem_map.2 ⟨f, List.mem_range.2 hf, rfl⟩
theorem dec_all {a b : Bp} {x y : Bg} (h : cmpOk a b) (hc : (cnfV a b x y).2 = false) {k : Nat} (hk : k < (shL (shN x y)).length) :
 decB (sd1 a b x y ((shL (shN x y)).getD k mvZ)) (sd2 a b x y ((shL (shN x y)).getD k mvZ)) (stN a.W x y).toNat (alM a.W x y) (aloL (sd1 a b x y ((shL (shN x y)).getD k mvZ))) (aloL (sd2 a b x y ((shL (shN x y)).getD k mvZ))) = true := by
 unfold decB
 refine List.all_eq_true.2 fun f hf => ?_
 rw [open_hit a b x y _ f h (shN_bd hk).1]
 cases hh : hitC a b x y ⟨((shL (shN x y)).getD k mvZ).1, ((shL (shN x y)).getD k mvZ).2, (f : Int) - 4⟩ with
 | false => rfl
 | true =>
   have := (cnf_iff h).2 ⟨_, hit_mem hk (List.mem_range.1 hf), hh⟩
   rw [hc] at this
   cases this
theorem chk_mk {a b : Bp} {x y : Bg} (h : cmpOk a b) (hc : (cnfV a b x y).2 = false) : mkV a b x y = (mkL25 a b x y (shL (shN x y)), 0) ∧ chkV a b x y (mkL25 a b x y (shL (shN x y))) = 0 := by
 have h0 := (szV_ok a b).2 h
 refine ⟨by unfold mkV; rw [if_pos h0, hc]; rfl, ?_⟩
 unfold chkV
 rw [if_pos h0, if_pos]
 refine ⟨(List.length_map ..).symm, ?_⟩
 unfold prfB
 refine List.all_eq_true.2 fun k hk => ?_
 have hk := List.mem_range.1 hk
 unfold wtOk
 rw [mkL25_get a b x y _ hk, aloL_ok, aloL_ok, dec_all h hc hk]
 rfl
theorem mk_cnf {a b : Bp} {x y : Bg} (h : cmpOk a b) (hc : (cnfV a b x y).2 = true) : mkV a b x y = ([], 60) := by
 unfold mkV
 rw [if_pos ((szV_ok a b).2 h), if_pos hc]
theorem chk_wt {a b : Bp} {x y : Bg} {p : List Wt} (h : chkV a b x y p = 0) : cmpOk a b ∧ (shL (shN x y)).length = p.length ∧ ∀ k, k < (shL (shN x y)).length → wtOk a b x y ((shL (shN x y)).getD k mvZ) (p.getD k wtZ) = true := by
 have hsz0 : szV a b = 0 := by
  refine Decidable.byContradiction fun hh => ?_
  rw [show chkV a b x y p = szV a b from if_neg hh] at h
  exact hh h
 obtain ⟨hl, hpr⟩ : (shL (shN x y)).length = p.length ∧ prfB a b x y p = true := by
  refine Decidable.byContradiction fun hh => ?_
  rw [show chkV a b x y p = 62 from (if_pos hsz0).trans (if_neg hh)] at h
  exact absurd h (by decide)
 exact ⟨(szV_ok a b).1 hsz0, hl, fun k hk => List.all_eq_true.1 hpr k (List.mem_range.2 hk)⟩
theorem chk_of {a b : Bp} {x y : Bg} {p : List Wt} (h : cmpOk a b) (hl : (shL (shN x y)).length = p.length) (hw : ∀ k, k < (shL (shN x y)).length → wtOk a b x y ((shL (shN x y)).getD k mvZ) (p.getD k wtZ) = true) : chkV a b x y p = 0 := by
 unfold chkV
 rw [if_pos ((szV_ok a b).2 h), if_pos]
 exact ⟨hl, List.all_eq_true.2 fun k hk => hw k (List.mem_range.1 hk)⟩
theorem chk_62 {a b : Bp} {x y : Bg} {p : List Wt} (h : cmpOk a b) (h0 : chkV a b x y p ≠ 0) : chkV a b x y p = 62 := by
 unfold chkV at h0 ⊢
 rw [if_pos ((szV_ok a b).2 h)] at h0 ⊢
 split at h0
 ·exact absurd rfl h0
 ·rename_i hh
  rw [if_neg hh]
theorem chk_cnf {a b : Bp} {x y : Bg} {p : List Wt} (h : chkV a b x y p = 0) : (cnfV a b x y).2 = false := by
 obtain ⟨hc, hl, hw⟩ := chk_wt h
 refine Bool.eq_false_iff.2 fun hcf => ?_
 obtain ⟨c, hc1, hc2⟩ := (cnf_iff hc).1 hcf
 unfold alL alK at hc1
 obtain ⟨d, hd, hcd⟩ := List.mem_flatMap.1 hc1
 obtain ⟨k, hk, rfl⟩ := List.getElem_of_mem hd
 have hg : (shL (shN x y)).getD k mvZ = (shL (shN x y))[k] := by rw [List.getD_eq_getElem?_getD, List.getElem?_eq_getElem hk]; rfl
 unfold alI at hcd
 obtain ⟨f, hf, rfl⟩ := List.mem_map.1 hcd
 have hwk := hw k hk
 rw [hg] at hwk
 unfold wtOk at hwk
 rw [Bool.and_eq_true, Bool.and_eq_true] at hwk
 obtain ⟨w1, w2, w3⟩ := hwk
 have hall := decB_mono (fun f => outC_all w1) (fun f => outC_all w2) w3
 unfold decB at hall
 have := List.all_eq_true.1 hall f hf
 have hbd := shN_bd (x := x) (y := y) hk
 rw [hg] at hbd
 rw [open_hit a b x y _ f hc hbd.1, hc2] at this
 cases this
theorem shrP_get {a b : Bp} {x y : Bg} {p : List Wt} {k : Nat} (hk : k < (shL (shN x y)).length) : (shrP a b x y (shL (shN x y)) p).getD k wtZ = shrW (sd1 a b x y ((shL (shN x y)).getD k mvZ)) (sd2 a b x y ((shL (shN x y)).getD k mvZ)) (stN a.W x y).toNat (alM a.W x y) (p.getD k wtZ) := by
 unfold shrP
 rw [List.getD_eq_getElem?_getD, List.getElem?_map, List.getElem?_range hk]
 rfl
theorem shrP_len (a b : Bp) (x y : Bg) (L : List (Int × Int)) (p : List Wt) : (shrP a b x y L p).length = L.length := by unfold shrP; rw [List.length_map, List.length_range]
theorem shk_spec {a b : Bp} {x y : Bg} {p : List Wt} (h : chkV a b x y p = 0) : shkV a b x y p = (shrP a b x y (shL (shN x y)) p, 0) ∧ chkV a b x y (shrP a b x y (shL (shN x y)) p) = 0 ∧ PrR (shrP a b x y (shL (shN x y)) p) := by
 obtain ⟨hc, hl, hw⟩ := chk_wt h
 have h1 := n_bd hc.1
 have h2 := n_bd hc.2.1
 have h81 := shL_81 x y
 have hs : ∀ k, k < (shL (shN x y)).length → wtOk a b x y ((shL (shN x y)).getD k mvZ) ((shrP a b x y (shL (shN x y)) p).getD k wtZ) = true := fun k hk => by
  rw [shrP_get hk]
  have hwk := hw k hk
  unfold wtOk at hwk ⊢
  rw [Bool.and_eq_true, Bool.and_eq_true] at hwk
  obtain ⟨w1, w2, w3⟩ := hwk
  obtain ⟨⟨s1, s2⟩, s3, -⟩ := shrW_spec _ _ _ _ _ w3
  rw [okL_sub s1 w1, okL_sub s2 w2, s3]
  rfl
 refine ⟨if_pos h, chk_of hc (shrP_len ..).symm hs, by rw [shrP_len]; omega, fun k hk => ?_⟩
 rw [shrP_len] at hk
 have := hs k hk
 unfold wtOk at this
 rw [Bool.and_eq_true, Bool.and_eq_true] at this
 exact ⟨okL_R this.1 h1, okL_R this.2.1 h2⟩
end Go.Proofs.Ytekkldgmjdllbaa
end
