/- Parts of the proof: A24tp, A24gp, A25q, A25y, A25lp, A25pt, A25nl. -/
import Derived.Test.YtekkldgmjdllbaaHA25ler02
import Derived.Test.YtekkldgmjdllbaaG22
import Derived.Test.YtekkldgmjdllbaaG21
import Derived.Test.YtekkldgmjdllbaaG17
import Derived.Test.YtekkldgmjdllbaaG04
import Derived.Scope
import Derived.Test.YtekkldgmjdllbaaG20
import Derived.Test.YtekkldgmjdllbaaG09
import Derived.Test.YtekkldgmjdllbaaG03
import Derived.RangeFuncLeaves
import Derived.RangeFuncRecord
import Derived.Shelf.Abstract
import Derived.Test.YtekkldgmjdllbaaG02
import Derived.Test.YtekkldgmjdllbaaG08
import Derived.Test.YtekkldgmjdllbaaG01
import Derived.Test.YtekkldgmjdllbaaG19
import Derived.RangeFuncNested
import Derived.Deep.AppendLies
import Derived.OrdersIn
import Derived.TacticsIn
import Derived.RangeFuncCalls
import Derived.Test.YtekkldgmjdllbaaG16
import Derived.Maps.AppendAt
import Derived.OwnWalk
import Derived.Test.YtekkldgmjdllbaaG18
import Derived.Test.YtekkldgmjdllbaaProg
import Derived.Test.YtekkldgmjdllbaaG11
import Derived.Test.YtekkldgmjdllbaaHA25ler01
import Derived.Laws.Cover3
import Derived.StillTail
import Derived.Below
import Derived.Deep.Draws
import Derived.WalkKit
import Derived.KernelRfl
import Derived.Test.YtekkldgmjdllbaaG13
import Derived.Test.YtekkldgmjdllbaaG15
import Derived.Lib.Hide
import Derived.Deep.QuietTactic
import Derived.BigQuiet
import Derived.Deep.DrawnRows
import Derived.Laws.StructEq
import Derived.Test.YtekkldgmjdllbaaG12
import Derived.Test.YtekkldgmjdllbaaG07
import Derived.Test.YtekkldgmjdllbaaG10
import Derived.Test.YtekkldgmjdllbaaG06
import Derived.Test.YtekkldgmjdllbaaG05
import Derived.Great.BuildSlice
import Derived.Test.YtekkldgmjdllbaaG14
import Derived.Test.YtekkldgmjdllbaaG27
import Derived.Test.YtekkldgmjdllbaaG39
import Derived.Test.YtekkldgmjdllbaaHA25ler04
import Derived.Test.YtekkldgmjdllbaaG37
import Derived.Test.YtekkldgmjdllbaaG25
import Derived.Test.YtekkldgmjdllbaaG38
import Derived.Test.YtekkldgmjdllbaaG23
import Derived.Test.YtekkldgmjdllbaaG28
import Derived.Test.YtekkldgmjdllbaaG36
import Derived.Test.YtekkldgmjdllbaaG24
import Derived.WideKeyMaps
import Derived.MapKept
import Derived.Carry
import Derived.Test.YtekkldgmjdllbaaG35
import Derived.Test.YtekkldgmjdllbaaG33
import Derived.Test.YtekkldgmjdllbaaG31
import Derived.Lib.Builder
import Derived.Lib.UnsafeStr
import Derived.Laws.Externs
import Derived.Lib.BufferRead
import Derived.Test.YtekkldgmjdllbaaG32
import Derived.Test.YtekkldgmjdllbaaG34
import Derived.Test.YtekkldgmjdllbaaG30
import Derived.Laws.Pointers
import Derived.Test.YtekkldgmjdllbaaG29
set_option linter.unusedSimpArgs false
set_option linter.unusedVariables false
section
namespace Go.Proofs.Ytekkldgmjdllbaa
open Go.RowKit Go.Flow Go.AV Go.Plain
def Bg.le (x y : Bg) : Prop := x.lo ≤ y.lo ∧ x.bl ≤ y.bl ∧ x.sh ≤ y.sh ∧ x.st ≤ y.st
theorem cnt_grid (p : Nat → Bool) (W : Nat) : ∀ H : Nat, cnt p (H * W) = sumTo (fun j => cnt (fun i => p (j * W + i)) W) H
 | 0 => by rw [Nat.zero_mul]; rfl
 | H + 1 => by
   rw [Nat.succ_mul]
   show sumTo _ (H * W + W) = _
   rw [sumTo_split]
   show cnt p (H * W) + _ = _
   rw [cnt_grid p W H]
   rfl
theorem alo_cnt (s : Sd) (P : Int → Bool) : ∀ n : Nat, (((aloN s n).filter P).length : Int) = cnt (fun k => aloB s (k : Int) && P (k : Int)) n
 | 0 => rfl
 | n + 1 => by
   rw [aloN_succ, List.filter_append, List.length_append, Int.natCast_add, alo_cnt s P n, cnt_succ]
   congr 1
   cases h1 : aloB s (n : Int) <;> cases h2 : P (n : Int) <;> simp [h2]
theorem out_only (s : Sd) (W H t f : Nat) (hW : s.o.W = W) (hH : s.o.H = H) (hn : s.o.n = H * W) (hm : -4 ≤ s.mv) :
 outC s t f (aloL s) = onlyN s.o s.p s.dx s.dy ((f : Int) - 4 - s.mv) ((f : Int) - 4 - s.mv + t) := by
 have e : outC s t f (aloL s) = cnt (fun k => aloB s (k : Int) && decide (colV s k < f ∨ f + t ≤ colV s k)) s.o.n := alo_cnt s (fun k => decide (colV s k < f ∨ f + t ≤ colV s k)) s.o.n
 rw [e, hn, cnt_grid]
 unfold onlyN
 rw [hW, hH, Int.toNat_natCast, Int.toNat_natCast]
 refine sumTo_congr fun j hj => cnt_congr fun i hi => ?_
 have hlt : j * W + i < H * W := by
  have : j * W + W ≤ H * W := by rw [← Nat.succ_mul]; exact Nat.mul_le_mul_right W hj
  omega
 have e0 : ((j * W + i : Nat) : Int) = (i : Int) + (W : Int) * j := by
  rw [Int.natCast_add, Int.natCast_mul, Int.mul_comm]
  exact Int.add_comm _ _
 have em : ((j * W + i : Nat) : Int) % (W : Int) = i := by rw [e0, Int.add_mul_emod_self_left, Int.emod_eq_of_lt (by omega) (by omega)]
 have ed : ((j * W + i : Nat) : Int) / (W : Int) = j := by rw [e0, Int.add_mul_ediv_left _ _ (by omega), Int.ediv_eq_zero_of_lt (by omega) (by omega), Int.zero_add]
 unfold aloB onB colV hasB
 rw [hW, hH, em, ed, Int.toNat_natCast, decide_eq_true (Int.natCast_nonneg _), decide_eq_true (show ((j * W + i : Nat) : Int) < (s.o.n : Int) by rw [hn]; omega), Bool.true_and, Bool.true_and, if_pos (show 0 ≤ (i : Int) ∧ (i : Int) < W ∧ 0 ≤ (j : Int) ∧ (j : Int) < H by omega), show ((j : Int) * W + i).toNat = j * W + i by rw [← Int.natCast_mul, ← Int.natCast_add, Int.toNat_natCast]]
 have hc : decide (((i : Int) + s.mv + 4).toNat < f ∨ f + t ≤ ((i : Int) + s.mv + 4).toNat) = (decide ((i : Int) < (f : Int) - 4 - s.mv) || decide ((f : Int) - 4 - s.mv + t ≤ (i : Int))) := by
  rw [← Bool.decide_or]
  exact decide_eq_decide.2 (by omega)
 rw [hc, Bool.and_assoc, Bool.and_assoc, Bool.and_comm (!_)]
theorem open_hit (a b : Bp) (x y : Bg) (d : Int × Int) (f : Nat) (h : cmpOk a b) (hd : -4 ≤ d.1 ∧ d.1 ≤ 4) :
 openB (sd1 a b x y d) (sd2 a b x y d) (stN a.W x y).toNat (aloL (sd1 a b x y d)) (aloL (sd2 a b x y d)) f = hitC a b x y ⟨d.1, d.2, (f : Int) - 4⟩ := by
 obtain ⟨ha, hb, hW, hH⟩ := h
 obtain ⟨q0, q1, q2, q3, q4⟩ := okB ha
 obtain ⟨p0, p1, p2, p3, p4⟩ := okB hb
 obtain ⟨Wn, hWn⟩ := Int.eq_ofNat_of_zero_le q0
 obtain ⟨Hn, hHn⟩ := Int.eq_ofNat_of_zero_le q2
 have hst := stN_bd x y q0
 have hna : a.n = Hn * Wn := by
  rw [hWn, hHn, ← Int.natCast_mul] at q4
  rw [Nat.mul_comm]
  exact Int.ofNat_inj.1 q4
 have hnb : b.n = Hn * Wn := by
  rw [← hW, ← hH, hWn, hHn, ← Int.natCast_mul] at p4
  rw [Nat.mul_comm]
  exact Int.ofNat_inj.1 p4
 unfold openB hitC xsV ovN
 rw [out_only (sd1 a b x y d) Wn Hn _ f hWn hHn hna (by show (-4 : Int) ≤ 0; omega), out_only (sd2 a b x y d) Wn Hn _ f (by show b.W = _; rw [← hW]; exact hWn) (by show b.H = _; rw [← hH]; exact hHn) hnb hd.1]
 rw [show (((stN a.W x y).toNat : Nat) : Int) = stN a.W x y by omega]
 show (decide (onlyN a b d.1 d.2 ((f : Int) - 4 - 0) ((f : Int) - 4 - 0 + stN a.W x y) ≤ (lim4 x).lo + (lim4 y).bl) && decide (onlyN b a (-d.1) (-d.2) ((f : Int) - 4 - d.1) ((f : Int) - 4 - d.1 + stN a.W x y) ≤ (lim4 y).lo + (lim4 x).bl)) = decide (max (onlyN a b d.1 d.2 ((f : Int) - 4) ((f : Int) - 4 + stN a.W x y) - (lim4 x).lo - (lim4 y).bl) (onlyN b a (-d.1) (-d.2) ((f : Int) - 4 - d.1) ((f : Int) - 4 - d.1 + stN a.W x y) - (lim4 y).lo - (lim4 x).bl) ≤ 0)
 rw [Int.sub_zero, ← Bool.decide_and]
 exact decide_eq_decide.2 (by omega)
theorem cnf_iff {a b : Bp} {x y : Bg} (h : cmpOk a b) : (cnfV a b x y).2 = true ↔ ∃ c, c ∈ alL a.W x y ∧ hitC a b x y c = true := by
 unfold cnfV cnfR
 rw [if_pos h]
 cases hf : (alL a.W x y).find? (hitC a b x y) with
 | some c => exact ⟨fun _ => ⟨c, List.mem_of_find?_eq_some hf, List.find?_some hf⟩, fun _ => rfl⟩
 | none =>
   rw [List.find?_eq_none] at hf
   constructor
   ·intro h
    cases h
   ·rintro ⟨c, h1, h2⟩
    exact absurd h2 (hf c h1)
theorem outC_sub {s : Sd} {t f : Nat} {l m : List Int} (h : l.Sublist m) : outC s t f l ≤ outC s t f m := by
 unfold outC
 exact Int.ofNat_le.2 (h.filter _).length_le
theorem decB_mono {s t : Sd} {n M : Nat} {lA lB mA mB : List Int} (hA : ∀ f, outC s n f lA ≤ outC s n f mA) (hB : ∀ f, outC t n f lB ≤ outC t n f mB) (h : decB s t n M lA lB = true) : decB s t n M mA mB = true := by
 unfold decB at h ⊢
 rw [List.all_eq_true] at h ⊢
 intro f hf
 have := h f hf
 unfold openB at this ⊢
 have hA := hA f
 have hB := hB f
 simp only [Bool.not_eq_true', Bool.and_eq_false_iff, decide_eq_false_iff_not] at this ⊢
 omega
theorem decB_sub {s t : Sd} {n M : Nat} {lA lB mA mB : List Int} (hA : lA.Sublist mA) (hB : lB.Sublist mB) (h : decB s t n M lA lB = true) : decB s t n M mA mB = true :=
 decB_mono (fun _ => outC_sub hA) (fun _ => outC_sub hB) h
theorem okL_pair {s : Sd} {l : List Int} (h : okL s l = true) : l.Pairwise (· < ·) := by
 have hs : ∀ k, k + 1 < l.length → l.getD k 0 < l.getD (k + 1) 0 := fun k hk => by
  have := List.all_eq_true.1 h (k + 1) (List.mem_range.2 hk)
  unfold okAt at this
  rw [Bool.and_eq_true, Bool.or_eq_true, decide_eq_true_eq, decide_eq_true_eq, Nat.add_sub_cancel] at this
  exact this.2.resolve_left (by omega)
 have hm : ∀ d k, k + d + 1 < l.length → l.getD k 0 < l.getD (k + d + 1) 0 := fun d => by
  induction d with
  | zero => exact fun k hk => hs k hk
  | succ d ih => exact fun k hk => Int.lt_trans (ih k (by omega)) (hs (k + d + 1) hk)
 rw [List.pairwise_iff_getElem]
 intro i j hi hj hij
 have := hm (j - i - 1) i (by omega)
 rw [show i + (j - i - 1) + 1 = j by omega, List.getD_eq_getElem?_getD, List.getD_eq_getElem?_getD, List.getElem?_eq_getElem hi, List.getElem?_eq_getElem hj] at this
 exact this
theorem okL_mem {s : Sd} {l : List Int} (h : okL s l = true) {k : Int} (hk : k ∈ l) : aloB s k = true := by
 obtain ⟨i, hi, rfl⟩ := List.getElem_of_mem hk
 have := List.all_eq_true.1 h i (List.mem_range.2 hi)
 unfold okAt at this
 rw [Bool.and_eq_true, List.getD_eq_getElem?_getD, List.getElem?_eq_getElem hi] at this
 exact this.1
theorem okL_of {s : Sd} {l : List Int} (hp : l.Pairwise (· < ·)) (hm : ∀ k, k ∈ l → aloB s k = true) : okL s l = true := by
 refine List.all_eq_true.2 fun i hi => ?_
 have hi := List.mem_range.1 hi
 unfold okAt
 rw [List.getD_eq_getElem?_getD, List.getElem?_eq_getElem hi, Option.getD_some, hm _ (List.getElem_mem hi), Bool.true_and, Bool.or_eq_true, decide_eq_true_eq, decide_eq_true_eq]
 rcases Nat.eq_zero_or_pos i with h0 | h0
 ·exact .inl h0
 ·refine .inr ?_
  rw [List.getD_eq_getElem?_getD, List.getElem?_eq_getElem (show i - 1 < l.length by omega)]
  exact List.pairwise_iff_getElem.1 hp (i - 1) i (by omega) hi (by omega)
theorem okL_sub {s : Sd} {l m : List Int} (h : l.Sublist m) (hm : okL s m = true) : okL s l = true :=
 okL_of ((okL_pair hm).sublist h) fun _ hk => okL_mem hm (h.subset hk)
theorem alo_bd2 {s : Sd} {v : Int} (h : aloB s v = true) : 0 ≤ v ∧ v < s.o.n := by
 unfold aloB at h
 simp only [Bool.and_eq_true, decide_eq_true_eq] at h
 exact ⟨h.1, h.2.1⟩
theorem aloL_ok (s : Sd) : okL s (aloL s) = true := by
 refine okL_of ?_ fun k hk => ?_
 ·unfold aloL aloN
  rw [List.pairwise_map]
  exact List.Pairwise.imp (fun h => by omega) (List.Pairwise.filter _ List.pairwise_lt_range)
 ·unfold aloL aloN at hk
  obtain ⟨i, hi, rfl⟩ := List.mem_map.1 hk
  exact (List.mem_filter.1 hi).2
theorem shrI_spec (dec : List Int → Bool) (hmono : ∀ l m : List Int, l.Sublist m → dec l = true → dec m = true) (l : List Int) : ∀ (i : Nat) (kept : List Int), i ≤ l.length → dec (l.take i ++ kept) = true →
 ∃ r : List Int, shrI dec l i kept = r ++ kept ∧ r.Sublist (l.take i) ∧ dec (r ++ kept) = true ∧ ∀ j, j < r.length → dec ((r ++ kept).eraseIdx j) = false
 | 0, kept, _, h => ⟨[], rfl, by simp, by simpa using h, fun j hj => by cases hj⟩
 | i + 1, kept, hi, h => by
   have ht : l.take (i + 1) = l.take i ++ [l.getD i 0] := by
    rw [List.take_add_one, List.getElem?_eq_getElem (by omega), List.getD_eq_getElem?_getD, List.getElem?_eq_getElem (by omega)]
    rfl
   unfold shrI
   by_cases hd : dec (l.take i ++ kept) = true
   ·rw [if_pos hd]
    obtain ⟨r, h1, h2, h3, h4⟩ := shrI_spec dec hmono l i kept (by omega) hd
    exact ⟨r, h1, h2.trans (by rw [ht]; exact List.sublist_append_left _ _), h3, h4⟩
   ·rw [if_neg hd]
    have h0 : dec (l.take i ++ (l.getD i 0 :: kept)) = true := by rw [ht, List.append_assoc] at h; exact h
    obtain ⟨r, h1, h2, h3, h4⟩ := shrI_spec dec hmono l i (l.getD i 0 :: kept) (by omega) h0
    refine ⟨r ++ [l.getD i 0], by rw [h1, List.append_assoc]; rfl, by rw [ht]; exact List.Sublist.append h2 (List.Sublist.refl _), by rw [List.append_assoc]; exact h3, fun j hj => ?_⟩
    rw [List.append_assoc]
    rw [List.length_append, List.length_singleton] at hj
    by_cases hj' : j < r.length
    ·exact h4 j hj'
    ·obtain rfl : j = r.length := by omega
     have e : (r ++ ([l.getD i 0] ++ kept)).eraseIdx r.length = r ++ kept := by
      rw [List.eraseIdx_append_of_length_le (Nat.le_refl _), Nat.sub_self]
      rfl
     rw [e]
     exact Bool.eq_false_iff.2 fun g => hd (hmono _ _ (List.Sublist.append h2 (List.Sublist.refl _)) g)
theorem shrI_same (dec : List Int → Bool) (l : List Int) (h : ∀ j, j < l.length → dec (l.eraseIdx j) = false) : ∀ i, i ≤ l.length → shrI dec l i (l.drop i) = l
 | 0, _ => rfl
 | i + 1, hi => by
   have e : l.take i ++ l.drop (i + 1) = l.eraseIdx i := by rw [List.eraseIdx_eq_take_drop_succ]
   have e2 : l.getD i 0 :: l.drop (i + 1) = l.drop i := by rw [List.drop_eq_getElem_cons (show i < l.length by omega), List.getD_eq_getElem?_getD, List.getElem?_eq_getElem (by omega)]; rfl
   unfold shrI
   rw [e, h i (by omega), if_neg (by decide), e2]
   exact shrI_same dec l h i (by omega)
theorem shrW_spec (s t : Sd) (n M : Nat) (w : Wt) (h : decB s t n M w.1 w.2 = true) :
 ((shrW s t n M w).1.Sublist w.1 ∧ (shrW s t n M w).2.Sublist w.2) ∧ decB s t n M (shrW s t n M w).1 (shrW s t n M w).2 = true ∧ (∀ j, j < (shrW s t n M w).1.length → decB s t n M ((shrW s t n M w).1.eraseIdx j) (shrW s t n M w).2 = false) ∧ ∀ j, j < (shrW s t n M w).2.length → decB s t n M (shrW s t n M w).1 ((shrW s t n M w).2.eraseIdx j) = false := by
 obtain ⟨r, h1, h2, h3, h4⟩ := shrI_spec (fun l => decB s t n M l w.2) (fun l m hs hd => decB_sub hs (List.Sublist.refl _) hd) w.1 w.1.length [] (Nat.le_refl _) (by rw [List.take_length, List.append_nil]; exact h)
 rw [List.append_nil] at h1 h3 h4
 have e1 : shrA s t n M w = r := h1
 obtain ⟨q, g1, g2, g3, g4⟩ := shrI_spec (fun l => decB s t n M r l) (fun l m hs hd => decB_sub (List.Sublist.refl _) hs hd) w.2 w.2.length [] (Nat.le_refl _) (by rw [List.take_length, List.append_nil]; exact h3)
 rw [List.append_nil] at g1 g3 g4
 rw [List.take_length] at h2 g2
 have e2 : shrW s t n M w = (r, q) := by
  unfold shrW
  rw [e1, g1]
 rw [e2]
 refine ⟨⟨h2, g2⟩, g3, fun j hj => Bool.eq_false_iff.2 fun g => ?_, g4⟩
 have := h4 j hj
 rw [show decB s t n M (r.eraseIdx j) w.2 = true from decB_sub (List.Sublist.refl _) g2 g] at this
 cases this
theorem shrW_same (s t : Sd) (n M : Nat) (w : Wt) (hA : ∀ j, j < w.1.length → decB s t n M (w.1.eraseIdx j) w.2 = false) (hB : ∀ j, j < w.2.length → decB s t n M w.1 (w.2.eraseIdx j) = false) : shrW s t n M w = w := by
 have e1 : shrA s t n M w = w.1 := by
  have := shrI_same (fun l => decB s t n M l w.2) w.1 hA w.1.length (Nat.le_refl _)
  rwa [List.drop_length] at this
 have e2 : shrI (fun l => decB s t n M w.1 l) w.2 w.2.length [] = w.2 := by
  have := shrI_same (fun l => decB s t n M w.1 l) w.2 hB w.2.length (Nat.le_refl _)
  rwa [List.drop_length] at this
 unfold shrW
 rw [e1, e2]
theorem okL_R {s : Sd} {l : List Int} (h : okL s l = true) (hn : s.o.n ≤ 9216) : lOk l := by
 have h1 := okL_len h
 refine ⟨by omega, fun k hk => ?_⟩
 obtain ⟨h2, h3⟩ := alo_bd2 (okL_alo h hk)
 unfold iOk
 omega
theorem shL_81 (x y : Bg) : (shL (shN x y)).length ≤ 81 := by
 obtain ⟨-, hm⟩ := shN_eq x y
 rw [shL_len hm]
 have h9 : 2 * shN x y + 1 ≤ 9 := by omega
 exact Nat.mul_le_mul h9 h9
theorem mkL25_get (a b : Bp) (x y : Bg) (L : List (Int × Int)) {k : Nat} (hk : k < L.length) : (mkL25 a b x y L).getD k wtZ = (aloL (sd1 a b x y (L.getD k mvZ)), aloL (sd2 a b x y (L.getD k mvZ))) := by
 unfold mkL25
 rw [List.getD_eq_getElem?_getD, List.getElem?_map, List.getD_eq_getElem?_getD, List.getElem?_eq_getElem hk]
 rfl
theorem mkL25_R {a b : Bp} (x y : Bg) (h : cmpOk a b) : PrR (mkL25 a b x y (shL (shN x y))) := by
 obtain ⟨ha, hb, -⟩ := h
 have h1 := n_bd ha
 have h2 := n_bd hb
 have h81 := shL_81 x y
 have hl : (mkL25 a b x y (shL (shN x y))).length = (shL (shN x y)).length := List.length_map ..
 refine ⟨by omega, fun k hk => ?_⟩
 rw [mkL25_get a b x y _ (by omega)]
 exact ⟨okL_R (aloL_ok _) h1, okL_R (aloL_ok _) h2⟩
theorem hit_mem {a : Bp} {x y : Bg} {k f : Nat} (hk : k < (shL (shN x y)).length) (hf : f < alM a.W x y) : (⟨((shL (shN x y)).getD k mvZ).1, ((shL (shN x y)).getD k mvZ).2, (f : Int) - 4⟩ : Cl) ∈ alL a.W x y := by
 unfold alL alK
 refine List.mem_flatMap.2 ⟨(shL (shN x y)).getD k mvZ, ?_, ?_⟩
 ·rw [List.getD_eq_getElem?_getD, List.getElem?_eq_getElem hk]
  exact List.getElem_mem _
 ·unfold alI
  exact List.mem_map.2 ⟨f, List.mem_range.2 hf, rfl⟩
theorem dec_all {a b : Bp} {x y : Bg} (h : cmpOk a b) (hc : (cnfV a b x y).2 = false) {k : Nat} (hk : k < (shL (shN x y)).length) :
 decB (sd1 a b x y ((shL (shN x y)).getD k mvZ)) (sd2 a b x y ((shL (shN x y)).getD k mvZ)) (stN a.W x y).toNat (alM a.W x y) (aloL (sd1 a b x y ((shL (shN x y)).getD k mvZ))) (aloL (sd2 a b x y ((shL (shN x y)).getD k mvZ))) = true := by
 unfold decB
 refine List.all_eq_true.2 fun f hf => ?_
 rw [open_hit a b x y _ f h (shN_bd hk).1]
 cases hh : hitC a b x y ⟨((shL (shN x y)).getD k mvZ).1, ((shL (shN x y)).getD k mvZ).2, (f : Int) - 4⟩ with
 | false => rfl
 | true =>
   have := (cnf_iff h).2 ⟨_, hit_mem hk (List.mem_range.1 hf), hh⟩
   rw [hc] at this
   cases this
theorem chk_mk {a b : Bp} {x y : Bg} (h : cmpOk a b) (hc : (cnfV a b x y).2 = false) : mkV a b x y = (mkL25 a b x y (shL (shN x y)), 0) ∧ chkV a b x y (mkL25 a b x y (shL (shN x y))) = 0 := by
 have h0 := (szV_ok a b).2 h
 refine ⟨by unfold mkV; rw [if_pos h0, hc]; rfl, ?_⟩
 unfold chkV
 rw [if_pos h0, if_pos]
 refine ⟨(List.length_map ..).symm, ?_⟩
 unfold prfB
 refine List.all_eq_true.2 fun k hk => ?_
 have hk := List.mem_range.1 hk
 unfold wtOk
 rw [mkL25_get a b x y _ hk, aloL_ok, aloL_ok, dec_all h hc hk]
 rfl
theorem mk_cnf {a b : Bp} {x y : Bg} (h : cmpOk a b) (hc : (cnfV a b x y).2 = true) : mkV a b x y = ([], 60) := by
 unfold mkV
 rw [if_pos ((szV_ok a b).2 h), if_pos hc]
theorem chk_wt {a b : Bp} {x y : Bg} {p : List Wt} (h : chkV a b x y p = 0) : cmpOk a b ∧ (shL (shN x y)).length = p.length ∧ ∀ k, k < (shL (shN x y)).length → wtOk a b x y ((shL (shN x y)).getD k mvZ) (p.getD k wtZ) = true := by
 have hsz0 : szV a b = 0 := by
  refine Decidable.byContradiction fun hh => ?_
  rw [show chkV a b x y p = szV a b from if_neg hh] at h
  exact hh h
 obtain ⟨hl, hpr⟩ : (shL (shN x y)).length = p.length ∧ prfB a b x y p = true := by
  refine Decidable.byContradiction fun hh => ?_
  rw [show chkV a b x y p = 62 from (if_pos hsz0).trans (if_neg hh)] at h
  exact absurd h (by decide)
 exact ⟨(szV_ok a b).1 hsz0, hl, fun k hk => List.all_eq_true.1 hpr k (List.mem_range.2 hk)⟩
theorem chk_of {a b : Bp} {x y : Bg} {p : List Wt} (h : cmpOk a b) (hl : (shL (shN x y)).length = p.length) (hw : ∀ k, k < (shL (shN x y)).length → wtOk a b x y ((shL (shN x y)).getD k mvZ) (p.getD k wtZ) = true) : chkV a b x y p = 0 := by
 unfold chkV
 rw [if_pos ((szV_ok a b).2 h), if_pos]
 exact ⟨hl, List.all_eq_true.2 fun k hk => hw k (List.mem_range.1 hk)⟩
theorem chk_62 {a b : Bp} {x y : Bg} {p : List Wt} (h : cmpOk a b) (h0 : chkV a b x y p ≠ 0) : chkV a b x y p = 62 := by
 unfold chkV at h0 ⊢
 rw [if_pos ((szV_ok a b).2 h)] at h0 ⊢
 split at h0
 ·exact absurd rfl h0
 ·rename_i hh
  rw [if_neg hh]
theorem shrP_get {a b : Bp} {x y : Bg} {p : List Wt} {k : Nat} (hk : k < (shL (shN x y)).length) : (shrP a b x y (shL (shN x y)) p).getD k wtZ = shrW (sd1 a b x y ((shL (shN x y)).getD k mvZ)) (sd2 a b x y ((shL (shN x y)).getD k mvZ)) (stN a.W x y).toNat (alM a.W x y) (p.getD k wtZ) := by
 unfold shrP
 rw [List.getD_eq_getElem?_getD, List.getElem?_map, List.getElem?_range hk]
 rfl
theorem shrP_len (a b : Bp) (x y : Bg) (L : List (Int × Int)) (p : List Wt) : (shrP a b x y L p).length = L.length := by unfold shrP; rw [List.length_map, List.length_range]
theorem shk_spec {a b : Bp} {x y : Bg} {p : List Wt} (h : chkV a b x y p = 0) : shkV a b x y p = (shrP a b x y (shL (shN x y)) p, 0) ∧ chkV a b x y (shrP a b x y (shL (shN x y)) p) = 0 ∧ PrR (shrP a b x y (shL (shN x y)) p) := by
 obtain ⟨hc, hl, hw⟩ := chk_wt h
 have h1 := n_bd hc.1
 have h2 := n_bd hc.2.1
 have h81 := shL_81 x y
 have hs : ∀ k, k < (shL (shN x y)).length → wtOk a b x y ((shL (shN x y)).getD k mvZ) ((shrP a b x y (shL (shN x y)) p).getD k wtZ) = true := fun k hk => by
  rw [shrP_get hk]
  have hwk := hw k hk
  unfold wtOk at hwk ⊢
  rw [Bool.and_eq_true, Bool.and_eq_true] at hwk
  obtain ⟨w1, w2, w3⟩ := hwk
  obtain ⟨⟨s1, s2⟩, s3, -⟩ := shrW_spec _ _ _ _ _ w3
  rw [okL_sub s1 w1, okL_sub s2 w2, s3]
  rfl
 refine ⟨if_pos h, chk_of hc (shrP_len ..).symm hs, by rw [shrP_len]; omega, fun k hk => ?_⟩
 rw [shrP_len] at hk
 have := hs k hk
 unfold wtOk at this
 rw [Bool.and_eq_true, Bool.and_eq_true] at this
 exact ⟨okL_R this.1 h1, okL_R this.2.1 h2⟩
theorem shr_wt {a b : Bp} {x y : Bg} {p : List Wt} (h : chkV a b x y p = 0) {k : Nat} (hk : k < (shL (shN x y)).length) :
 ((shrP a b x y (shL (shN x y)) p).getD k wtZ).1.Sublist (p.getD k wtZ).1 ∧ ((shrP a b x y (shL (shN x y)) p).getD k wtZ).2.Sublist (p.getD k wtZ).2 ∧
 (∀ j, j < ((shrP a b x y (shL (shN x y)) p).getD k wtZ).1.length → decB (sd1 a b x y ((shL (shN x y)).getD k mvZ)) (sd2 a b x y ((shL (shN x y)).getD k mvZ)) (stN a.W x y).toNat (alM a.W x y) (((shrP a b x y (shL (shN x y)) p).getD k wtZ).1.eraseIdx j) ((shrP a b x y (shL (shN x y)) p).getD k wtZ).2 = false) ∧
 ∀ j, j < ((shrP a b x y (shL (shN x y)) p).getD k wtZ).2.length → decB (sd1 a b x y ((shL (shN x y)).getD k mvZ)) (sd2 a b x y ((shL (shN x y)).getD k mvZ)) (stN a.W x y).toNat (alM a.W x y) ((shrP a b x y (shL (shN x y)) p).getD k wtZ).1 (((shrP a b x y (shL (shN x y)) p).getD k wtZ).2.eraseIdx j) = false := by
 obtain ⟨hc, hl, hw⟩ := chk_wt h
 have hwk := hw k hk
 unfold wtOk at hwk
 rw [Bool.and_eq_true, Bool.and_eq_true] at hwk
 obtain ⟨⟨s1, s2⟩, -, s4, s5⟩ := shrW_spec _ _ _ _ _ hwk.2.2
 rw [shrP_get hk]
 exact ⟨s1, s2, s4, s5⟩
theorem list_ext {L M : List Wt} (hl : L.length = M.length) (h : ∀ k, k < L.length → L.getD k wtZ = M.getD k wtZ) : L = M := by
 refine List.ext_getElem hl fun k h1 h2 => ?_
 have := h k h1
 rw [List.getD_eq_getElem?_getD, List.getD_eq_getElem?_getD, List.getElem?_eq_getElem h1, List.getElem?_eq_getElem h2] at this
 exact this
theorem shk_again {a b : Bp} {x y : Bg} {p : List Wt} (h : chkV a b x y p = 0) : shkV a b x y (shrP a b x y (shL (shN x y)) p) = (shrP a b x y (shL (shN x y)) p, 0) := by
 obtain ⟨-, h2, -⟩ := shk_spec h
 have e : shrP a b x y (shL (shN x y)) (shrP a b x y (shL (shN x y)) p) = shrP a b x y (shL (shN x y)) p := by
  refine list_ext (by rw [shrP_len, shrP_len]) fun k hk => ?_
  rw [shrP_len] at hk
  obtain ⟨-, -, s3, s4⟩ := shr_wt h hk
  rw [shrP_get (p := shrP a b x y (shL (shN x y)) p) hk]
  exact shrW_same _ _ _ _ _ s3 s4
 exact (shk_spec h2).1.trans (congrArg (fun l => (l, (0 : Int))) e)
theorem shL_pos (x y : Bg) : 0 < (shL (shN x y)).length := by
 obtain ⟨-, hm⟩ := shN_eq x y
 rw [shL_len hm]
 exact Nat.mul_pos (Nat.succ_pos _) (Nat.succ_pos _)
theorem set_get {p : List Wt} {k : Nat} {w : Wt} (hk : k < p.length) : (p.set k w).getD k wtZ = w := by rw [List.getD_eq_getElem?_getD, List.getElem?_set_self hk]; rfl
theorem set_oth {p : List Wt} {k i : Nat} {w : Wt} (h : i ≠ k) : (p.set k w).getD i wtZ = p.getD i wtZ := by rw [List.getD_eq_getElem?_getD, List.getElem?_set_ne (Ne.symm h), ← List.getD_eq_getElem?_getD]
theorem chk_set {a b : Bp} {x y : Bg} {s : List Wt} {k : Nat} {w : Wt} (h : chkV a b x y s = 0) (hk : k < s.length) : chkV a b x y (s.set k w) = if wtOk a b x y ((shL (shN x y)).getD k mvZ) w = true then 0 else 62 := by
 obtain ⟨hc, hl, hw⟩ := chk_wt h
 split
 ·rename_i hh
  refine chk_of hc (by rw [List.length_set]; exact hl) fun i hi => ?_
  by_cases hik : i = k
  ·subst hik
   rw [set_get hk]
   exact hh
  ·rw [set_oth hik]
   exact hw i hi
 ·rename_i hh
  refine chk_62 hc fun h0 => hh ?_
  have := (chk_wt h0).2.2 k (by omega)
  rwa [set_get hk] at this
def putZ (n : Int) : List Int → List Int
 | [] => [n]
 | v :: l => if n ≤ v then n :: (v :: l).filter (fun u => !decide (u = n)) else v :: putZ n l
theorem putZ_mem (n : Int) : ∀ (l : List Int) (v : Int), v ∈ putZ n l ↔ v = n ∨ v ∈ l
 | [], v => by simp [putZ]
 | u :: l, v => by
   unfold putZ
   split
   ·rw [List.mem_cons, List.mem_filter]
    simp only [Bool.not_eq_true', decide_eq_false_iff_not]
    constructor
    ·rintro (h | ⟨h, _⟩)
     ·exact .inl h
     ·exact .inr h
    ·rintro (h | h)
     ·exact .inl h
     ·by_cases hv : v = n
      ·exact .inl hv
      ·exact .inr ⟨h, hv⟩
   ·rw [List.mem_cons, putZ_mem n l v, List.mem_cons]
    constructor
    ·rintro (h | h | h)
     ·exact .inr (.inl h)
     ·exact .inl h
     ·exact .inr (.inr h)
    ·rintro (h | h | h)
     ·exact .inr (.inl h)
     ·exact .inl h
     ·exact .inr (.inr h)
theorem filt_self {n : Int} {l : List Int} (h : ∀ v ∈ l, n < v) : l.filter (fun u => !decide (u = n)) = l :=
 List.filter_eq_self.2 fun v hv => by
  have := h v hv
  simp only [Bool.not_eq_true', decide_eq_false_iff_not]
  omega
theorem putZ_sorted (n : Int) : ∀ {l : List Int}, l.Pairwise (· < ·) → (putZ n l).Pairwise (· < ·) ∧ l.Sublist (putZ n l)
 | [], _ => ⟨by simp [putZ], by simp⟩
 | u :: l, h => by
   obtain ⟨h1, h2⟩ := List.pairwise_cons.1 h
   unfold putZ
   by_cases hu : n ≤ u
   ·rw [if_pos hu]
    by_cases he : u = n
    ·subst he
     have : (u :: l).filter (fun v => !decide (v = u)) = l := by
      rw [List.filter_cons_of_neg (by simp), filt_self h1]
     rw [this]
     exact ⟨h, List.Sublist.refl _⟩
    ·have hall : ∀ v ∈ u :: l, n < v := fun v hv => by
      rcases List.mem_cons.1 hv with rfl | hv
      ·omega
      ·have := h1 v hv; omega
     rw [filt_self hall]
     exact ⟨List.pairwise_cons.2 ⟨hall, h⟩, List.sublist_cons_self _ _⟩
   ·rw [if_neg hu]
    obtain ⟨g1, g2⟩ := putZ_sorted n h2
    refine ⟨List.pairwise_cons.2 ⟨fun v hv => ?_, g1⟩, g2.cons_cons u⟩
    rcases (putZ_mem n l v).1 hv with rfl | hv
    ·omega
    ·exact h1 v hv
theorem putZ_len (n : Int) : ∀ l : List Int, (putZ n l).length ≤ l.length + 1
 | [] => Nat.le_refl _
 | u :: l => by
   unfold putZ
   split
   ·have := List.length_filter_le (fun v => !decide (v = n)) (u :: l)
    rw [List.length_cons]
    omega
   ·have := putZ_len n l
    rw [List.length_cons, List.length_cons]
    omega
theorem put_wt {a b : Bp} {x y : Bg} {d : Int × Int} {w : Wt} (h : wtOk a b x y d w = true) (n : Int) : wtOk a b x y d (putZ n w.1, w.2) = aloB (sd1 a b x y d) n := by
 unfold wtOk at h ⊢
 rw [Bool.and_eq_true, Bool.and_eq_true] at h
 obtain ⟨h1, h2, h3⟩ := h
 obtain ⟨g1, g2⟩ := putZ_sorted n (okL_pair h1)
 cases hn : aloB (sd1 a b x y d) n with
 | true =>
   have : okL (sd1 a b x y d) (putZ n w.1) = true := okL_of g1 fun k hk => by
    rcases (putZ_mem n w.1 k).1 hk with rfl | hk
    ·exact hn
    ·exact okL_mem h1 hk
   rw [this, h2, decB_sub g2 (List.Sublist.refl _) h3]
   rfl
 | false =>
   have : okL (sd1 a b x y d) (putZ n w.1) = false := Bool.eq_false_iff.2 fun hh => by
    have := okL_mem hh ((putZ_mem n w.1 n).2 (.inl rfl))
    rw [hn] at this
    cases this
   rw [this]
   rfl
theorem rwm_imm (l : List Int) : ∀ i, i < l.length → ∀ j, j < 1 → iF (fun k => l.getD k 0) i j = iF (fun k => l.getD k 0) i j ∧ immC (iF (fun k => l.getD k 0) i j) = true := fun _ _ _ _ => ⟨rfl, rfl⟩
theorem drop_at {l : List Int} {k : Nat} (hk : k < l.length) : l.drop k = l.getD k 0 :: l.drop (k + 1) := by
 rw [List.getD_eq_getElem?_getD, List.getElem?_eq_getElem hk, Option.getD_some, List.drop_eq_getElem_cons hk]
theorem sub_step {x : Int} {L M : List Int} (h : (x :: L).Sublist M) : ∃ y M', M = y :: M' ∧ (y = x → L.Sublist M') ∧ (y ≠ x → (x :: L).Sublist M') := by
 cases h with
 | cons y h => exact ⟨y, _, rfl, fun _ => (List.sublist_cons_self x L).trans h, fun _ => h⟩
 | cons_cons _ h => exact ⟨x, _, rfl, fun _ => h, fun hh => absurd rfl hh⟩
set_option maxHeartbeats 2000000 in
set_option maxRecDepth 100000 in
theorem part25_A (l m : List Int) (h : l.Sublist m) (hl : l.length ≤ 1000000) (hm : m.length ≤ 1000000) : ACalls Try.prog 24 [.c (liV l), .c (liV m)] (.c (bC true)) := by
 refine acalls_at Try.func24 rfl rfl Try.ntmps24 rfl ?_
 repeat (first
  | refine uA ?_
  | refine uB ?_
  | refine uC ?_
  | (refine rG 0 ?_
     refine kC ?_
     refine aB ?_)
  | (refine rG 1 ?_
     refine kC ?_
     refine aB ?_)
  | (refine rG 2 ?_
     refine kA ?_
     refine qr5 (aO tyOk) ?_
     refine kA ?_
     refine aB ?_))
 refine AWp.round (fun i : Nat × Nat => mkSt 36 [(0, .c (liV l)), (1, .c (liV m)), (5, .c (iC (i.2 : Nat))), (8, .c (iC l.length)), (9, .c (iC (i.1 : Nat)))] [] [])
  (fun i => i.1 ≤ l.length ∧ (l.drop i.1).Sublist (m.drop i.2)) (fun i => l.length - i.1) (0, 0) ⟨Nat.zero_le _, h⟩ ?_ (fun ⟨k, at0⟩ hi => ?_)
 ·refine Wk.mk [] rfl rfl rfl ?_ trivial
  exact allT
 obtain ⟨hk, hs⟩ := hi
 dsimp only at hk hs ⊢
 by_cases hkl : k < l.length
 rotate_left
 ·obtain rfl : k = l.length := by omega
  repeat (first
   | refine uA ?_
   | refine uB ?_
   | refine uH ?_
   | refine AWp.ret ?_
   | refine kU ?_
   | (refine rG 3 ?_
      refine qr5f aJ ?_
      refine aB ?_)
   | (refine rG 11 ?_
      refine kC ?_
      refine aB ?_))
  refine ⟨mkSt 36 [(4, .c (bC true))] [] [], [], Wk.mk [] rfl rfl rfl ?_ trivial, rfl, rfl, aR1⟩
  exact allT
 have hkl' : (k : Int) < l.length := by omega
 rw [drop_at hkl] at hs
 repeat (first
  | refine uA ?_
  | refine uC ?_
  | refine uG ?_
  | refine kT ?_
  | (refine rG 3 ?_
     refine qr5t aK ?_
     refine aB ?_)
  | (refine rG 4 ?_
     refine kA ?_
     refine kC ?_
     refine aB ?_))
 refine AWp.round (fun j : Nat => mkSt 36 [(0, .c (liV l)), (1, .c (liV m)), (5, .c (iC (j : Nat))), (6, .c (iC (k : Nat))), (8, .c (iC l.length)), (9, .c (iC (k : Nat)))] [] [])
  (fun j => (l.getD k 0 :: l.drop (k + 1)).Sublist (m.drop j)) (fun j => m.length - j) at0 hs ?_ (fun j hj => ?_)
 ·refine Wk.mk [] rfl rfl rfl ?_ trivial
  exact allT
 obtain ⟨y, M', hM, g1, g2⟩ := sub_step hj
 have hjm : j < m.length := by
  refine Decidable.byContradiction fun hh => ?_
  rw [List.drop_eq_nil_of_le (by omega)] at hM
  cases hM
 have hjm' : (j : Int) < m.length := by omega
 rw [drop_at hjm] at hM
 obtain ⟨rfl, rfl⟩ := List.cons.inj hM
 have ev : iF (fun k => m.getD k 0) j 0 = iC (m.getD j 0) := rfl
 have eu : iF (fun i => l.getD i 0) k 0 = iC (l.getD k 0) := rfl
 by_cases he : m.getD j 0 = l.getD k 0
 ·have hne : ¬ (j : Int) = m.length := by omega
  repeat (first
   | refine uA ?_
   | refine uB ?_
   | refine uG ?_
   | refine uH ?_
   | refine uD ?_
   | refine kU ?_
   | (refine AWp.draw (id := 5) mixed ?_; (iterate 2 refine kA ?_); refine qr5 (aO tyOk) ?_; refine qr5t aK ?_; (iterate 3 refine kA ?_); refine qr8eo2 (aP (k := j) tyOk) ?_; refine AList.load1lE tyOk (ev) rfl rfl rfl rfl rfl oM ?_; (iterate 2 refine kA ?_); refine qr8eo2 (aP (k := k) tyOk) ?_; refine AList.load1lE tyOk (eu) rfl rfl rfl rfl rfl oM ?_; refine qr5f aJ ?_; refine qr4 aS ?_; refine aB ⟨by kernel_rfl, ?_⟩)
   | (refine rG 7 ?_
      (iterate 2 refine kA ?_)
      refine qr5 (aO tyOk) ?_
      refine qr5f aJ ?_
      refine aB ?_)
   | (refine rG 9 ?_
      refine kA ?_
      refine qr4w2 aL ?_
      refine kC ?_
      refine aB ?_)
   | (refine rG 10 ?_
      refine qr4w2 aL ?_
      refine kA ?_
      refine aB ?_))
  refine ⟨(k + 1, j + 1), ⟨hkl, g1 he⟩, Wk.mk [] rfl rfl rfl ?_ trivial, by dsimp only; omega⟩
  exact allT
 ·repeat (first
   | refine uA ?_
   | refine uB ?_
   | refine uC ?_
   | refine uG ?_
   | refine uD ?_
   | refine kT ?_
   | (refine AWp.draw (id := 5) mixed ?_; (iterate 2 refine kA ?_); refine qr5 (aO tyOk) ?_; refine qr5t aK ?_; (iterate 3 refine kA ?_); refine qr8eo2 (aP (k := j) tyOk) ?_; refine AList.load1lE tyOk (ev) rfl rfl rfl rfl rfl oM ?_; (iterate 2 refine kA ?_); refine qr8eo2 (aP (k := k) tyOk) ?_; refine AList.load1lE tyOk (eu) rfl rfl rfl rfl rfl oM ?_; refine qr5t aK ?_; refine qr4 aS ?_; refine aB ⟨by kernel_rfl, ?_⟩)
   | (refine rG 6 ?_
      refine kA ?_
      refine qr4w2 aL ?_
      refine kC ?_
      refine aB ?_))
  refine ⟨j + 1, g2 he, Wk.mk [] rfl rfl rfl ?_ trivial, by omega⟩
  exact allT
set_option maxHeartbeats 2000000 in
set_option maxRecDepth 100000 in
theorem put_A (l : List Int) (n : Int) (hl : l.length ≤ 1000000) : ACalls Try.prog 26 [.c (liV l), .c (iC n)] (.c (liV (putZ n l))) := by
 refine acalls_at Try.func26 rfl rfl Try.ntmps26 rfl ?_
 repeat (first
  | refine uA ?_
  | refine uB ?_
  | refine uC ?_
  | (refine rG 0 ?_
     refine kC ?_
     refine aB ?_)
  | (refine rG 1 ?_
     refine kC ?_
     refine aB ?_)
  | (refine rG 2 ?_
     refine kC ?_
     refine aB ?_)
  | (refine rG 3 ?_
     refine kA ?_
     refine qr5 (aO tyOk) ?_
     refine kA ?_
     refine aB ?_))
 refine AWp.round (fun i : Nat × List Int × Bool =>
  mkSt 48 [(0, .c (liV l)), (1, .c (iC n)), (5, .c (.ow 301)), (6, .c (bC (i.2.2))), (9, .c (iC l.length)), (10, .c (iC (i.1 : Nat)))] [(301, rwI (i.2.1))] [301]
  ) (fun i => i.1 ≤ l.length ∧ i.2.1.length ≤ 2 * i.1 ∧ i.2.1 ++ (if i.2.2 = true then (l.drop i.1).filter (fun u => !decide (u = n)) else putZ n (l.drop i.1)) = putZ n l) (fun i => l.length - i.1) (0, [], false) ⟨Nat.zero_le _, Nat.zero_le _, rfl⟩ ?_ (fun ⟨k, out, done⟩ hi => ?_)
 ·refine Wk.mk [(301, none)] rfl rfl rfl ?_ ?_
  ·exact allT
  ·exact allH
 obtain ⟨hk, ho, hinv⟩ := hi
 dsimp only at hk ho hinv ⊢
 by_cases hkl : k < l.length
 rotate_left
 ·obtain rfl : k = l.length := by omega
  rw [List.drop_length] at hinv
  cases done with
  | true =>
    obtain rfl : out = putZ n l := by rw [if_pos rfl, List.filter_nil, List.append_nil] at hinv; exact hinv
    repeat (first
     | refine uA ?_
     | refine uB ?_
     | refine uG ?_
     | refine uH ?_
     | refine AWp.ret ?_
     | refine kU ?_
     | (refine rG 4 ?_
        refine qr5f aJ ?_
        refine aB ?_)
     | (refine rG 12 ?_
        refine kA ?_
        refine qr3 AList.notB ?_
        refine aB ?_)
     | (refine rG 14 ?_
        refine kA ?_
        refine kC ?_
        refine aB ?_))
    refine ⟨mkSt 48 [(4, .c (liV (putZ n l)))] [] [], [], Wk.mk [] rfl rfl rfl ⟨⟨_, rfl, .c (LeC.fz rfl rfl rfl (rwm_imm _))⟩, trivial⟩ trivial, rfl, rfl, aR1⟩
  | false =>
    have e : putZ n l = out ++ [n] := by rw [← hinv]; rfl
    rw [e]
    repeat (first
     | refine uA ?_
     | refine uB ?_
     | refine uH ?_
     | refine AWp.ret ?_
     | refine kT ?_
     | refine kU ?_
     | (refine rG 4 ?_
        refine qr5f aJ ?_
        refine aB ?_)
     | (refine rG 12 ?_
        refine kA ?_
        refine qr3 AList.notB ?_
        refine aB ?_)
     | (refine rG 13 ?_
        (iterate 2 refine kA ?_)
        refine qr11 (AList.litSl tyOk) ?_
        refine AList.appL tyOk rfl rfl rfl rfl rfl rfl rfl rfl rfl rfl oM oM ?_
        refine kC ?_
        refine aB ?_)
     | (refine rG 14 ?_
        refine kA ?_
        refine kC ?_
        refine aB ?_))
    refine ⟨mkSt 48 [(4, .c (liV (out ++ [n])))] [] [], [], Wk.mk [] rfl rfl rfl ⟨⟨_, rfl, .c (LeC.fz rfl rfl (by rw [List.length_append]; rfl) (rwI_snoc out n))⟩, trivial⟩ trivial, rfl, rfl, aR1⟩
 have hkl' : (k : Int) < l.length := by omega
 rw [drop_at hkl] at hinv
 have ev : iF (fun i => l.getD i 0) k 0 = iC (l.getD k 0) := rfl
 obtain ⟨v, hv⟩ : ∃ v, l.getD k 0 = v := ⟨_, rfl⟩
 rw [hv] at ev hinv
 cases done with
 | true =>
   rw [if_pos rfl] at hinv
   by_cases he : v = n
   ·have hi2 : out ++ (l.drop (k + 1)).filter (fun u => !decide (u = n)) = putZ n l := by rw [List.filter_cons_of_neg (by simp [he])] at hinv; exact hinv
    repeat (first
     | refine uA ?_
     | refine uB ?_
     | refine uC ?_
     | refine uG ?_
     | refine uD ?_
     | refine kT ?_
     | refine kU ?_
     | (refine rG 4 ?_
        refine qr5t aK ?_
        refine aB ?_)
     | (refine rG 5 ?_
        refine kA ?_
        refine kC ?_
        refine aB ?_)
     | (refine rG 6 ?_
        refine kA ?_
        refine qr3 AList.notB ?_
        refine kA ?_
        (iterate 6 refine qr2 aG ?_)
        refine qr4 aR ?_
        refine aB ?_)
     | (refine rG 9 ?_
        (iterate 2 refine kA ?_)
        refine qr8eo2 (aP (k := k) tyOk) ?_
        refine AList.load1lE tyOk (ev) rfl rfl rfl rfl rfl oM ?_
        refine kA ?_
        refine qr5f aJ ?_
        refine aB ?_)
     | (refine rG 11 ?_
        refine qr4w2 aL ?_
        refine kA ?_
        refine aB ?_))
    refine ⟨(k + 1, out, true), ⟨hkl, by simp only [List.length_append, List.length_cons, List.length_nil]; omega, hi2⟩, Wk.mk [(301, some 301)] rfl rfl rfl ?_ ⟨HeapOk.row rfl rfl (rfl) (rwm_imm _), trivial⟩, by dsimp only; omega⟩
    exact allT
   ·have hi2 : (out ++ [v]) ++ (l.drop (k + 1)).filter (fun u => !decide (u = n)) = putZ n l := by rw [List.filter_cons_of_pos (by simp [he])] at hinv; rw [List.append_assoc]; exact hinv
    repeat (first
     | refine uA ?_
     | refine uB ?_
     | refine uC ?_
     | refine uG ?_
     | refine uD ?_
     | refine kT ?_
     | refine kU ?_
     | (refine rG 4 ?_
        refine qr5t aK ?_
        refine aB ?_)
     | (refine rG 5 ?_
        refine kA ?_
        refine kC ?_
        refine aB ?_)
     | (refine rG 6 ?_
        refine kA ?_
        refine qr3 AList.notB ?_
        refine kA ?_
        (iterate 6 refine qr2 aG ?_)
        refine qr4 aR ?_
        refine aB ?_)
     | (refine rG 9 ?_
        (iterate 2 refine kA ?_)
        refine qr8eo2 (aP (k := k) tyOk) ?_
        refine AList.load1lE tyOk (ev) rfl rfl rfl rfl rfl oM ?_
        refine kA ?_
        refine qr5t aK ?_
        refine aB ?_)
     | (refine rG 10 ?_
        (iterate 3 refine kA ?_)
        refine qr8eo2 (aP (k := k) tyOk) ?_
        refine AList.load1lE tyOk (ev) rfl rfl rfl rfl rfl oM ?_
        refine qr11 (AList.litSl tyOk) ?_
        refine AList.appL tyOk rfl rfl rfl rfl rfl rfl rfl rfl rfl rfl oM oM ?_
        refine kC ?_
        refine aB ?_)
     | (refine rG 11 ?_
        refine qr4w2 aL ?_
        refine kA ?_
        refine aB ?_))
    refine ⟨(k + 1, out ++ [v], true), ⟨hkl, by simp only [List.length_append, List.length_cons, List.length_nil]; omega, hi2⟩, Wk.mk [(301, some 39)] rfl rfl rfl ?_ ⟨HeapOk.row rfl rfl (by rw [List.length_append]; rfl) (rwI_snoc out v), trivial⟩, by dsimp only; omega⟩
    exact allT
 | false =>
   rw [if_neg (by decide)] at hinv
   by_cases hn : n ≤ v
   ·rw [show putZ n (v :: l.drop (k + 1)) = n :: (v :: l.drop (k + 1)).filter (fun u => !decide (u = n)) from if_pos hn] at hinv
    by_cases he : v = n
    ·have hi2 : (out ++ [n]) ++ (l.drop (k + 1)).filter (fun u => !decide (u = n)) = putZ n l := by rw [List.filter_cons_of_neg (by simp [he])] at hinv; rw [List.append_assoc]; exact hinv
     repeat (first
      | refine uA ?_
      | refine uB ?_
      | refine uC ?_
      | refine uG ?_
      | refine uD ?_
      | refine kT ?_
      | refine kU ?_
      | (refine rG 4 ?_
         refine qr5t aK ?_
         refine aB ?_)
      | (refine rG 5 ?_
         refine kA ?_
         refine kC ?_
         refine aB ?_)
      | (refine rG 6 ?_
         refine kA ?_
         refine qr3 AList.notB ?_
         (iterate 3 refine kA ?_)
         refine qr8eo2 (aP (k := k) tyOk) ?_
         refine AList.load1lE tyOk (ev) rfl rfl rfl rfl rfl oM ?_
         refine kA ?_
         refine qr5t aK ?_
         refine qr4 aS ?_
         refine aB ?_)
      | (refine rG 7 ?_
         (iterate 2 refine kA ?_)
         refine qr11 (AList.litSl tyOk) ?_
         refine AList.appL tyOk rfl rfl rfl rfl rfl rfl rfl rfl rfl rfl oM oM ?_
         refine kC ?_
         refine aB ?_)
      | (refine rG 8 ?_
         refine kC ?_
         refine aB ?_)
      | (refine rG 9 ?_
         (iterate 2 refine kA ?_)
         refine qr8eo2 (aP (k := k) tyOk) ?_
         refine AList.load1lE tyOk (ev) rfl rfl rfl rfl rfl oM ?_
         refine kA ?_
         refine qr5f aJ ?_
         refine aB ?_)
      | (refine rG 11 ?_
         refine qr4w2 aL ?_
         refine kA ?_
         refine aB ?_))
     refine ⟨(k + 1, out ++ [n], true), ⟨hkl, by simp only [List.length_append, List.length_cons, List.length_nil]; omega, hi2⟩, Wk.mk [(301, some 26)] rfl rfl rfl ?_ ⟨HeapOk.row rfl rfl (by rw [List.length_append]; rfl) (rwI_snoc out n), trivial⟩, by dsimp only; omega⟩
     exact allT
    ·have hi2 : ((out ++ [n]) ++ [v]) ++ (l.drop (k + 1)).filter (fun u => !decide (u = n)) = putZ n l := by rw [List.filter_cons_of_pos (by simp [he])] at hinv; rw [List.append_assoc, List.append_assoc]; exact hinv
     repeat (first
      | refine uA ?_
      | refine uB ?_
      | refine uC ?_
      | refine uG ?_
      | refine kT ?_
      | (refine rG 4 ?_
         refine qr5t aK ?_
         refine aB ?_)
      | (refine rG 5 ?_
         refine kA ?_
         refine kC ?_
         refine aB ?_)
      | (refine rG 6 ?_
         refine kA ?_
         refine qr3 AList.notB ?_
         (iterate 3 refine kA ?_)
         refine qr8eo2 (aP (k := k) tyOk) ?_
         refine AList.load1lE tyOk (ev) rfl rfl rfl rfl rfl oM ?_
         refine kA ?_
         refine qr5t aK ?_
         refine qr4 aS ?_
         refine aB ?_)
      | (refine rG 7 ?_
         (iterate 2 refine kA ?_)
         refine qr11 (AList.litSl tyOk) ?_
         refine AList.appL tyOk rfl rfl rfl rfl rfl rfl rfl rfl rfl rfl oM oM ?_
         refine kC ?_
         refine aB ?_)
      | (refine rG 8 ?_
         refine kC ?_
         refine aB ?_))
     refine AWp.weak (S' := mkSt 48 [(0, .c (liV l)), (1, .c (iC n)), (5, .c (.ow 301)), (6, .c (bC true)), (7, .c (iC (k : Nat))), (9, .c (iC l.length)), (10, .c (iC (k : Nat)))] [(301, rwI (out ++ [n]))] [301]) (Wk.mk [(301, some 26)] rfl rfl rfl ?_ ⟨HeapOk.row rfl rfl (by rw [List.length_append]; rfl) (rwI_snoc out n), trivial⟩) ?_
     ·exact allT
     have hlo : (out ++ [n]).length ≤ 2 * k + 1 := by rw [List.length_append, List.length_singleton]; omega
     repeat (first
      | refine uB ?_
      | refine uD ?_
      | refine kT ?_
      | (refine rG 9 ?_
         (iterate 2 refine kA ?_)
         refine qr8eo2 (aP (k := k) tyOk) ?_
         refine AList.load1lE tyOk (ev) rfl rfl rfl rfl rfl oM ?_
         refine kA ?_
         refine qr5t aK ?_
         refine aB ?_)
      | (refine rG 10 ?_
         (iterate 3 refine kA ?_)
         refine qr8eo2 (aP (k := k) tyOk) ?_
         refine AList.load1lE tyOk (ev) rfl rfl rfl rfl rfl oM ?_
         refine qr11 (AList.litSl tyOk) ?_
         refine AList.appL tyOk rfl rfl rfl rfl rfl rfl rfl rfl rfl rfl oM oM ?_
         refine kC ?_
         refine aB ?_)
      | (refine rG 11 ?_
         refine qr4w2 aL ?_
         refine kA ?_
         refine aB ?_))
     refine ⟨(k + 1, (out ++ [n]) ++ [v], true), ⟨hkl, by simp only [List.length_append, List.length_cons, List.length_nil]; omega, hi2⟩, Wk.mk [(301, some 39)] rfl rfl rfl ?_ ⟨HeapOk.row rfl rfl (by rw [List.length_append]; rfl) (rwI_snoc (out ++ [n]) v), trivial⟩, by dsimp only; omega⟩
     exact allT
   ·rw [show putZ n (v :: l.drop (k + 1)) = v :: putZ n (l.drop (k + 1)) from if_neg hn] at hinv
    have hi2 : (out ++ [v]) ++ putZ n (l.drop (k + 1)) = putZ n l := by rw [List.append_assoc]; exact hinv
    have he : ¬ v = n := by omega
    repeat (first
     | refine uA ?_
     | refine uB ?_
     | refine uC ?_
     | refine uG ?_
     | refine uD ?_
     | refine kT ?_
     | refine kU ?_
     | (refine rG 4 ?_
        refine qr5t aK ?_
        refine aB ?_)
     | (refine rG 5 ?_
        refine kA ?_
        refine kC ?_
        refine aB ?_)
     | (refine rG 6 ?_
        refine kA ?_
        refine qr3 AList.notB ?_
        (iterate 3 refine kA ?_)
        refine qr8eo2 (aP (k := k) tyOk) ?_
        refine AList.load1lE tyOk (ev) rfl rfl rfl rfl rfl oM ?_
        refine kA ?_
        refine qr5f aJ ?_
        refine qr4 aS ?_
        refine aB ?_)
     | (refine rG 9 ?_
        (iterate 2 refine kA ?_)
        refine qr8eo2 (aP (k := k) tyOk) ?_
        refine AList.load1lE tyOk (ev) rfl rfl rfl rfl rfl oM ?_
        refine kA ?_
        refine qr5t aK ?_
        refine aB ?_)
     | (refine rG 10 ?_
        (iterate 3 refine kA ?_)
        refine qr8eo2 (aP (k := k) tyOk) ?_
        refine AList.load1lE tyOk (ev) rfl rfl rfl rfl rfl oM ?_
        refine qr11 (AList.litSl tyOk) ?_
        refine AList.appL tyOk rfl rfl rfl rfl rfl rfl rfl rfl rfl rfl oM oM ?_
        refine kC ?_
        refine aB ?_)
     | (refine rG 11 ?_
        refine qr4w2 aL ?_
        refine kA ?_
        refine aB ?_))
    refine ⟨(k + 1, out ++ [v], false), ⟨hkl, by simp only [List.length_append, List.length_cons, List.length_nil]; omega, hi2⟩, Wk.mk [(301, some 39)] rfl rfl rfl ?_ ⟨HeapOk.row rfl rfl (by rw [List.length_append]; rfl) (rwI_snoc out v), trivial⟩, by dsimp only; omega⟩
    exact allT
set_option maxHeartbeats 8000000 in
set_option maxRecDepth 100000 in
theorem pShrink_L (a b : Bp) (x y : Bg) (p : List Wt) (hp : PrOk p) (h0 : chkV a b x y p = 0) : GMCalls Try.prog 16 [.ag (bpC a), .ag (bpC b), .ag (bgC x), .ag (bgC y), .c (.ow 1000)] [wpB p] [] (.tu [.c (.ow 900), .c (iC 0)]) [wpB p] [wpB (shrP a b x y (shL (shN x y)) p)] := by
 have hck := pCheck_A a b x y p hp
 rw [h0] at hck
 have hsz0 : szV a b = 0 := by
  refine Decidable.byContradiction fun h => ?_
  rw [show chkV a b x y p = szV a b from if_neg h] at h0
  exact h h0
 obtain ⟨ha, hb, hW, hH⟩ := (szV_ok a b).1 hsz0
 obtain ⟨w1, w2, w3, w4, w5⟩ := okB ha
 obtain ⟨hl, hpr⟩ : (shL (shN x y)).length = p.length ∧ prfB a b x y p = true := by
  refine Decidable.byContradiction fun h => ?_
  rw [show chkV a b x y p = 62 from (if_pos hsz0).trans (if_neg h)] at h0
  exact absurd h0 (by decide)
 have hsh := aShifts_A x y
 have hwd := pwidth_A a x y ⟨w1, w2⟩
 have hsb := fun k hk => shN_bd (x := x) (y := y) (k := k) hk
 have hok : ∀ k, k < (shL (shN x y)).length → wtOk a b x y ((shL (shN x y)).getD k mvZ) (p.getD k wtZ) = true := fun k hk => List.all_eq_true.1 hpr k (List.mem_range.2 hk)
 have hp1 := hp.1
 have hst := stN_bd x y w1
 obtain ⟨n, hn⟩ := Int.eq_ofNat_of_zero_le (show 0 ≤ a.W + 8 by omega)
 obtain ⟨m, hm⟩ := Int.eq_ofNat_of_zero_le hst.1
 have hM : alM a.W x y + m = n + 1 := by unfold alM; omega
 have hmt : (stN a.W x y).toNat = m := by omega
 obtain ⟨shrK, hs0, hsN, hsl, hsS⟩ := shrK_ex a b x y p
 rw [hsN]
 rw [hmt] at hsS
 rw [hm] at hwd hst
 obtain ⟨L, hL⟩ : ∃ L, shL (shN x y) = L := ⟨_, rfl⟩
 rw [hL] at hsh hl hsb hok hsl hsS ⊢
 have hLp : L.length ≤ 1000000 := by omega
 refine gm_at Try.func16 rfl rfl Try.ntmps16 rfl ?_
 repeat (first
  | refine uA ?_
  | refine uB ?_
  | refine uC ?_
  | refine uG ?_
  | refine kU ?_
  | (refine rG 0 ?_
     (iterate 4 refine qr5 aQ ?_)
     (iterate 2 refine kC ?_)
     refine aB ?_)
  | (refine rG 1 ?_
     (iterate 4 refine kF ?_)
     refine kA ?_
     refine AList.callP [1000] rfl rfl rfl Try.func14 rfl (by kernel_rfl) (hck) (⟨.inl ⟨rfl, rfl⟩, .inl ⟨rfl, rfl⟩, .inl ⟨rfl, rfl⟩, .inl ⟨rfl, rfl⟩, .inr ⟨1000, p.length, 2, _, _, rowF wtC wtZ p, rfl, rfl, by simp, rfl, fun i _ j _ => ⟨rfl, rowF_imm wtC_imm _ i j⟩⟩, trivial⟩) ?_
     refine kC ?_
     refine aB ?_)
  | (refine rG 2 ?_
     refine kA ?_
     refine qr5 aW ?_
     refine aB ?_)
  | (refine rG 4 ?_
     (iterate 3 refine kF ?_)
     refine aH rfl rfl rfl rfl Try.func44 rfl (by kernel_rfl) (hwd) ?_
     refine kC ?_
     refine aB ?_)
  | (refine rG 5 ?_
     refine kC ?_
     refine aB ?_)
  | (refine rG 6 ?_
     (iterate 2 refine kF ?_)
     refine aH rfl rfl rfl rfl Try.func22 rfl (by kernel_rfl) (hsh) ?_
     refine qr5 (aO tyOk) ?_
     refine kA ?_
     refine aB ?_))
 refine AWp.round (fun k : Nat =>
  mkL 88 1 [(4, .c (.ow 1000)), (5, .c (.pt 5 3 0 0)), (6, .c (.pt 6 3 0 0)), (7, .c (.pt 7 4 0 0)), (8, .c (.pt 8 4 0 0)), (13, .c (iC m)), (14, .c (.ow 30)), (37, .c (.ls L.length 2 (rowF mvC mvZ L))), (38, .c (iC L.length)), (39, .c (iC (k : Nat))) ] [(5, ⟨false, 1, 3, 31, lF (bpC a)⟩), (6, ⟨false, 1, 3, 31, lF (bpC b)⟩), (7, ⟨false, 1, 4, 33, lF (bgC x)⟩), (8, ⟨false, 1, 4, 33, lF (bgC y)⟩), (30, wpB (shrK k)) , (1000, wpB p)] [5, 6, 7, 8, 30 ]
  ) (fun k => k ≤ L.length) (fun k => L.length - k) 0 (Nat.zero_le _) ?_ (fun k hk => ?_)
 ·rw [hs0]
  refine Wk.mkL [(5, some 5), (6, some 6), (7, some 7), (8, some 8), (30, none)] rfl rfl rfl rfl rfl ?_ ?_
  ·repeat (first | exact trivial | refine ⟨⟨_, rfl, by first | exact LeA.c (LeC.owB _ rfl) | exact leT⟩, ?_⟩)
  ·repeat (first | exact trivial | refine ⟨by first | exact HeapOk.lentRow rfl rfl (fun i _ j _ => ⟨rfl, rowF_imm wtC_imm _ i j⟩) | exact hoT, ?_⟩)
 by_cases hkl : k < L.length
 rotate_left
 ·obtain rfl : k = L.length := by omega
  repeat (first
   | refine uA ?_
   | refine uB ?_
   | refine uH ?_
   | refine AWp.ret ?_
   | refine kU ?_
   | (refine rG 7 ?_
      refine qr5f aJ ?_
      refine aB ?_)
   | (refine rG 16 ?_
      refine kA ?_
      (iterate 2 refine kC ?_)
      refine aB ?_))
  refine ⟨mkL 88 1 [(10, .c (.ow 900)), (11, .c (iC 0))] [(900, wpB (shrK L.length)), (1000, wpB p)] [900], [], _, [wpB p], [wpB (shrK L.length)], ⟨rfl, rfl, rfl⟩, rfl, Wk.mkL [(900, some 30)] rfl rfl rfl rfl rfl ?_ ?_, rfl, rfl, GRets.two (x := .c _) (y := .c _) (GRes.tmp rfl) (GRes.tmp rfl)⟩
  ·repeat (first | exact trivial | refine ⟨⟨_, rfl, by first | exact LeA.c (LeC.owB _ rfl) | exact leT⟩, ?_⟩)
  ·exact ⟨hrF wtC_imm, HeapOk.lentRow rfl rfl (fun i _ j _ => ⟨rfl, rowF_imm wtC_imm _ i j⟩), trivial⟩
 have hkl' : (k : Int) < L.length := by omega
 have hd := hsb k hkl
 have hside := psides_A a b x y (L.getD k mvZ) hd
 have hw := hok k hkl
 unfold wtOk at hw
 rw [Bool.and_eq_true, Bool.and_eq_true] at hw
 obtain ⟨hw1, hw2, -⟩ := hw
 have al1 := fun k hk => okL_alo hw1 (k := k) hk
 have al2 := fun k hk => okL_alo hw2 (k := k) hk
 have ln1 := okL_len hw1
 have ln2 := okL_len hw2
 rw [show (sd1 a b x y (L.getD k mvZ)).o.n = a.n from rfl] at ln1
 rw [show (sd2 a b x y (L.getD k mvZ)).o.n = b.n from rfl] at ln2
 have b91 := n_bd ha
 have b92 := n_bd hb
 have hSk := hsS k hkl
 have hlk := hsl k hk
 have hn0 : 0 < n := by omega
 have cm := counted_M (sd1 a b x y (L.getD k mvZ)) (sd2 a b x y (L.getD k mvZ)) (p.getD k wtZ) m n hn (by show b.W + 8 = _; rw [← hW]; exact hn) (by omega) ha hb (by show -4 ≤ (0 : Int) ∧ (0 : Int) ≤ 4; omega) hd.1 al1 al2 (by omega) (by omega)
 have lA := lessA_M (sd1 a b x y (L.getD k mvZ)) (sd2 a b x y (L.getD k mvZ)) (p.getD k wtZ).2 (p.getD k wtZ).1 n m (alM a.W x y) ha hn (by show -4 ≤ (0 : Int) ∧ (0 : Int) ≤ 4; omega) al1 (by omega) (by omega) hn0 (by omega) (by omega) (by omega) hM
 have lB := fun o (ho : o.length ≤ 9216) => lessB_M (sd1 a b x y (L.getD k mvZ)) (sd2 a b x y (L.getD k mvZ)) o (p.getD k wtZ).2 n m (alM a.W x y) hb (by show b.W + 8 = _; rw [← hW]; exact hn) hd.1 al2 (by omega) ho hn0 (by omega) (by omega) (by omega) hM
 have hkA := keptR_len (fun l => decB (sd1 a b x y (L.getD k mvZ)) (sd2 a b x y (L.getD k mvZ)) m (alM a.W x y) l (p.getD k wtZ).2) (p.getD k wtZ).1 (p.getD k wtZ).1.length
 have hsW : shrW (sd1 a b x y (L.getD k mvZ)) (sd2 a b x y (L.getD k mvZ)) m (alM a.W x y) (p.getD k wtZ) = (keptR (fun l => decB (sd1 a b x y (L.getD k mvZ)) (sd2 a b x y (L.getD k mvZ)) m (alM a.W x y) l (p.getD k wtZ).2) (p.getD k wtZ).1 (p.getD k wtZ).1.length, keptR (fun l => decB (sd1 a b x y (L.getD k mvZ)) (sd2 a b x y (L.getD k mvZ)) m (alM a.W x y) (keptR (fun l => decB (sd1 a b x y (L.getD k mvZ)) (sd2 a b x y (L.getD k mvZ)) m (alM a.W x y) l (p.getD k wtZ).2) (p.getD k wtZ).1 (p.getD k wtZ).1.length) l) (p.getD k wtZ).2 (p.getD k wtZ).2.length) := by
  rw [keptR_all, keptR_all]
  rfl
 rw [hsW] at hSk
 clear hsW
 have ew : cellsFrom (rowF wtC wtZ p k) 0 2 = wtC (p.getD k wtZ) := rfl
 have q1 : rowF wtC wtZ p k 0 = liV (p.getD k wtZ).1 := rfl
 have q2 : rowF wtC wtZ p k 1 = liV (p.getD k wtZ).2 := rfl
 generalize p.getD k wtZ = w at *
 obtain ⟨A', hA'⟩ : ∃ A', keptR (fun l => decB (sd1 a b x y (L.getD k mvZ)) (sd2 a b x y (L.getD k mvZ)) m (alM a.W x y) l w.2) w.1 w.1.length = A' := ⟨_, rfl⟩
 rw [hA'] at hSk hkA lA
 have lB := lB A' (by omega)
 obtain ⟨B', hB'⟩ : ∃ B', keptR (fun l => decB (sd1 a b x y (L.getD k mvZ)) (sd2 a b x y (L.getD k mvZ)) m (alM a.W x y) A' l) w.2 w.2.length = B' := ⟨_, rfl⟩
 rw [hB'] at hSk lB
 have hlen : (shrK (k + 1)).length = (shrK k).length + 1 := by rw [hSk, List.length_append]; rfl
 obtain ⟨s, hs⟩ : ∃ s, sd1 a b x y (L.getD k mvZ) = s := ⟨_, rfl⟩
 obtain ⟨t, ht⟩ : ∃ t, sd2 a b x y (L.getD k mvZ) = t := ⟨_, rfl⟩
 rw [hs, ht] at hside cm lA lB
 have hkp : (k : Int) < p.length := by omega
 clear hA' hB' hok al1 al2 hw1 hw2 hs0 hsN
 repeat (first
  | refine uA ?_
  | refine uC ?_
  | refine uG ?_
  | refine kT ?_
  | (refine rG 7 ?_
     refine qr5t aK ?_
     refine aB ?_)
  | (refine rG 8 ?_
     refine kA ?_
     refine qr8eo2 (aP (k := k) tyOk) ?_
     refine qr5o (aT tyOk) ?_
     refine qr5 (aM tyOk) ?_
     refine kC ?_
     refine kI ?_
     refine aB ?_))
 refine AWp.weak (S' :=
  mkL 88 1 [(4, .c (.ow 1000)), (5, .c (.pt 5 3 0 0)), (6, .c (.pt 6 3 0 0)), (7, .c (.pt 7 4 0 0)), (8, .c (.pt 8 4 0 0)), (13, .c (iC m)), (14, .c (.ow 30)), (37, .c (.ls L.length 2 (rowF mvC mvZ L))), (38, .c (iC L.length)), (39, .c (iC (k : Nat))) , (15, .c (iC (k : Nat))), (16, .c (.pt 16 2 0 0))] [(5, ⟨false, 1, 3, 31, lF (bpC a)⟩), (6, ⟨false, 1, 3, 31, lF (bpC b)⟩), (7, ⟨false, 1, 4, 33, lF (bgC x)⟩), (8, ⟨false, 1, 4, 33, lF (bgC y)⟩), (30, wpB (shrK k)) , (16, ⟨false, 1, 2, 59, lF (mvC (L.getD k mvZ))⟩), (1000, wpB p)] [5, 6, 7, 8, 30 , 16]
  ) (Wk.mkL [(5, some 5), (6, some 6), (7, some 7), (8, some 8), (16, some 16), (30, some 30)] rfl rfl rfl rfl rfl ?_ ?_) ?_
 ·repeat (first | exact trivial | refine ⟨⟨_, rfl, by first | exact LeA.c (LeC.owB _ rfl) | exact leT⟩, ?_⟩)
 ·repeat (first | exact trivial | refine ⟨by first | exact HeapOk.lentRow rfl rfl (fun i _ j _ => ⟨rfl, rowF_imm wtC_imm _ i j⟩) | exact hoT, ?_⟩)
 repeat (first
  | refine uA ?_
  | (refine rG 9 ?_
     (iterate 5 refine kF ?_)
     refine aH rfl rfl rfl rfl Try.func45 rfl (by kernel_rfl) (hside) ?_
     refine kA ?_
     (iterate 2 refine qr4 aN ?_)
     (iterate 2 refine qr5 (aM tyOk) ?_)
     (iterate 2 refine kI ?_)
     refine aB ?_))
 repeat (first
  | refine uA ?_
  | (refine AWp.draw (id := 10) mixed ?_; (iterate 2 refine kA ?_); refine qr10eo (AList.idxOw (k := k) tyOk) ?_; refine AList.loadAF tyOk rfl rfl rfl rfl rfl rfl rfl oM (by first | omega | (dsimp only; omega) | exact of_decide_eq_true rfl | (simp; done) | (simp; omega) | (show _ + _ * 3 + 3 ≤ 12; omega)) (ew) ?_; (iterate 2 refine kF ?_); refine kA ?_; refine AList.callM [] [] [60, 61, 62] [] [] [] [ctB 901 902 w.1.length w.2.length s.mo t.mo m n, cwB n (colC s w.1), cwB n (colC t w.2)] [] [ctB 61 62 w.1.length w.2.length s.mo t.mo m n, cwB n (colC s w.1), cwB n (colC t w.2)] rfl rfl FnV.func rfl Try.func47 rfl (by kernel_rfl) (trivial) (trivial) rfl (by exact ⟨.ag (lentAg rfl), .ag (lentAg rfl), .ag (lentAg rfl), .c (.b (.imm _ rfl)), trivial⟩) (.c (.ptN 0 60 8 0 0 rfl)) (trivial) (ct_new 1 2 (h := trivial)) (cm) ?_; refine qr5 (aM tyOk) ?_; refine kI ?_; refine aB ⟨by kernel_rfl, ?_⟩))
 refine AWp.weak (S' :=
  mkL 88 1 [(4, .c (.ow 1000)), (5, .c (.pt 5 3 0 0)), (6, .c (.pt 6 3 0 0)), (7, .c (.pt 7 4 0 0)), (8, .c (.pt 8 4 0 0)), (13, .c (iC m)), (14, .c (.ow 30)), (37, .c (.ls L.length 2 (rowF mvC mvZ L))), (38, .c (iC L.length)), (39, .c (iC (k : Nat))) , (15, .c (iC (k : Nat))), (17, .c (.pt 17 10 0 0)), (18, .c (.pt 18 10 0 0)), (19, .c (.pt 19 1 0 0))] [(5, ⟨false, 1, 3, 31, lF (bpC a)⟩), (6, ⟨false, 1, 3, 31, lF (bpC b)⟩), (7, ⟨false, 1, 4, 33, lF (bgC x)⟩), (8, ⟨false, 1, 4, 33, lF (bgC y)⟩), (30, wpB (shrK k)) , (17, ⟨false, 1, 10, 97, lF (sdC s)⟩), (18, ⟨false, 1, 10, 97, lF (sdC t)⟩), (19, cxB 60), (60, ctB 61 62 w.1.length w.2.length s.mo t.mo m n), (61, cwB n (colC s w.1)), (62, cwB n (colC t w.2)), (1000, wpB p)] [5, 6, 7, 8, 30 , 17, 18, 19, 60, 61, 62]
  ) (Wk.mkL [(5, some 5), (6, some 6), (7, some 7), (8, some 8), (17, some 17), (18, some 18), (19, some 19), (30, some 30), (60, some 60), (61, some 61), (62, some 62)] rfl rfl rfl rfl rfl ?_ ?_) ?_
 ·repeat (first | exact trivial | refine ⟨⟨_, rfl, by first | exact LeA.c (LeC.owB _ rfl) | exact leT⟩, ?_⟩)
 ·exact ⟨hSm, hSm, hSm, hSm, hrF wtC_imm, hSm, hSm, HeapOk.box rfl rfl ⟨LeC.pt _ _ _ _ _ rfl, trivial⟩ rfl, HeapOk.box rfl rfl ⟨LeC.ow _ _ rfl, LeC.ow _ _ rfl, LeC.int rfl, LeC.int rfl, LeC.int rfl, LeC.int rfl, LeC.int rfl, LeC.int rfl, trivial⟩ rfl, HeapOk.row rfl rfl rfl (fun i _ => cell1 ⟨rfl, rfl⟩), HeapOk.row rfl rfl rfl (fun i _ => cell1 ⟨rfl, rfl⟩), HeapOk.lentRow rfl rfl (fun i _ j _ => ⟨rfl, rowF_imm wtC_imm _ i j⟩), trivial⟩
 repeat (first
  | refine uA ?_
  | (refine rG 11 ?_
     refine qr5 AList.makeFn ?_
     refine kC ?_
     refine aB ?_)
  | (refine AWp.draw (id := 12) mixed ?_; (iterate 3 refine kA ?_); refine qr10eo (AList.idxOw (k := k) tyOk) ?_; refine kD ?_; refine AList.load1F tyOk rfl rfl rfl rfl rfl rfl rfl oM oM (q1) ?_; refine kF ?_; refine qr4 AList.makeFs ?_; refine AList.callM [19, 60, 61, 62] [] [] (lsH s t m n w) [] (lsH s t m n (A', w.2)) [] [cxB 60, ctB 61 62 A'.length w.2.length s.mo t.mo m n, cwB n (colC s A'), cwB n (colC t w.2)] [] rfl rfl (FnV.fn 1 (fun i => [CV.pt 19 1 0 0].getD i .any) rfl rfl) rfl Try.func51 rfl (by kernel_rfl) (lend_bx rfl (.b (.pt 60 1 8 0 0 rfl)) (ct_lend 2 3 hn0 (h := trivial))) (trivial) rfl (by exact ⟨.c (.b (.imm _ rfl)), .c (.b (.imm _ rfl)), .c (.b (.imm _ rfl)), .c (.b (.pt 19 0 1 0 0 rfl)), trivial⟩) (.c (.imm _ rfl)) (back_bx (.b (.pt 1 60 8 0 0 rfl)) (ct_back 2 3 (h := trivial))) (trivial) (lA) ?_; refine qr8 (aX tyOk) ?_; refine qr5 (aM tyOk) ?_; refine kI ?_; refine aB ⟨by kernel_rfl, ?_⟩))
 repeat (first
  | refine uB ?_
  | (refine AWp.draw (id := 13) mixed ?_; (iterate 3 refine kA ?_); refine qr10eo (AList.idxOw (k := k) tyOk) ?_; refine kD ?_; refine AList.load1F tyOk rfl rfl rfl rfl rfl rfl rfl oM oM (q2) ?_; refine kF ?_; refine qr4 AList.makeFs ?_; refine AList.callM [19, 60, 61, 62] [] [] (lsH s t m n (A', w.2)) [] (lsH s t m n (A', B')) [] [cxB 60, ctB 61 62 A'.length B'.length s.mo t.mo m n, cwB n (colC s A'), cwB n (colC t B')] [] rfl rfl (FnV.fn 1 (fun i => [CV.pt 19 1 0 0].getD i .any) rfl rfl) rfl Try.func51 rfl (by kernel_rfl) (lend_bx rfl (.b (.pt 60 1 8 0 0 rfl)) (ct_lend 2 3 hn0 (h := trivial))) (trivial) rfl (by exact ⟨.c (.b (.imm _ rfl)), .c (.b (.imm _ rfl)), .c (.b (.imm _ rfl)), .c (.b (.pt 19 0 1 0 0 rfl)), trivial⟩) (.c (.imm _ rfl)) (back_bx (.b (.pt 1 60 8 0 0 rfl)) (ct_back 2 3 (h := trivial))) (trivial) (lB) ?_; refine kD ?_; refine kI ?_; refine aB ⟨by kernel_rfl, ?_⟩))
 repeat (first
  | refine uB ?_
  | refine uD ?_
  | (refine rG 14 ?_
     refine kA ?_
     refine kF ?_
     refine qr11 (AList.litSl tyOk) ?_
     refine AList.appL tyOk rfl rfl rfl rfl rfl rfl rfl rfl rfl rfl oM oM ?_
     refine kC ?_
     refine aB ?_)
  | (refine rG 15 ?_
     refine qr4w2 aL ?_
     refine kA ?_
     refine aB ?_))
 refine ⟨k + 1, hkl, Wk.mkL [(5, some 5), (6, some 6), (7, some 7), (8, some 8), (30, some 85)] rfl rfl rfl rfl rfl ?_ ?_, by omega⟩
 ·repeat (first | exact trivial | refine ⟨⟨_, rfl, by first | exact LeA.c (LeC.owB _ rfl) | exact leT⟩, ?_⟩)
 ·refine ⟨hSm, hSm, hSm, hSm, HeapOk.row rfl rfl hlen ?_, HeapOk.lentRow rfl rfl (fun i _ j _ => ⟨rfl, rowF_imm wtC_imm _ i j⟩), trivial⟩
  rw [hSk]
  exact row_snoc (c := wtC) (z := wtZ) (shrK k) (A', B') wtC_imm rfl
end Go.Proofs.Ytekkldgmjdllbaa
end
