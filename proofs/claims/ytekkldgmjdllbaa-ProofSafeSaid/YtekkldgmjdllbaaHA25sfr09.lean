/- ProofSafe: the statement. No condition. -/
import Derived.Test.YtekkldgmjdllbaaHA25sfr06
import Derived.Test.YtekkldgmjdllbaaG22
import Derived.Test.YtekkldgmjdllbaaG21
import Derived.Test.YtekkldgmjdllbaaG17
import Derived.Test.YtekkldgmjdllbaaHA25sfr05
import Derived.Test.YtekkldgmjdllbaaG04
import Derived.Scope
import Derived.Test.YtekkldgmjdllbaaG20
import Derived.Test.YtekkldgmjdllbaaG09
import Derived.Test.YtekkldgmjdllbaaG03
import Derived.RangeFuncLeaves
import Derived.RangeFuncRecord
import Derived.Shelf.Abstract
import Derived.Test.YtekkldgmjdllbaaG02
import Derived.Test.YtekkldgmjdllbaaG08
import Derived.Test.YtekkldgmjdllbaaG01
import Derived.Test.YtekkldgmjdllbaaG19
import Derived.Test.YtekkldgmjdllbaaHA25sfr01
import Derived.RangeFuncNested
import Derived.Deep.AppendLies
import Derived.OrdersIn
import Derived.TacticsIn
import Derived.RangeFuncCalls
import Derived.Test.YtekkldgmjdllbaaG16
import Derived.Maps.AppendAt
import Derived.OwnWalk
import Derived.Test.YtekkldgmjdllbaaG18
import Derived.Test.YtekkldgmjdllbaaHA25sfr04
import Derived.Test.YtekkldgmjdllbaaProg
import Derived.Test.YtekkldgmjdllbaaG11
import Derived.Laws.Cover3
import Derived.StillTail
import Derived.Below
import Derived.Deep.Draws
import Derived.WalkKit
import Derived.KernelRfl
import Derived.Test.YtekkldgmjdllbaaG13
import Derived.Test.YtekkldgmjdllbaaHA25sfr03
import Derived.Test.YtekkldgmjdllbaaG15
import Derived.Test.YtekkldgmjdllbaaHA25sfr02
import Derived.Lib.Hide
import Derived.Deep.QuietTactic
import Derived.BigQuiet
import Derived.Deep.DrawnRows
import Derived.Laws.StructEq
import Derived.Test.YtekkldgmjdllbaaG12
import Derived.Test.YtekkldgmjdllbaaG07
import Derived.Test.YtekkldgmjdllbaaG10
import Derived.Test.YtekkldgmjdllbaaG06
import Derived.Test.YtekkldgmjdllbaaG05
import Derived.Great.BuildSlice
import Derived.Test.YtekkldgmjdllbaaG14
import Derived.Test.YtekkldgmjdllbaaG27
import Derived.Test.YtekkldgmjdllbaaG39
import Derived.Test.YtekkldgmjdllbaaHA25sfr08
import Derived.Test.YtekkldgmjdllbaaG37
import Derived.Test.YtekkldgmjdllbaaG25
import Derived.Test.YtekkldgmjdllbaaG38
import Derived.Test.YtekkldgmjdllbaaG23
import Derived.Test.YtekkldgmjdllbaaG28
import Derived.Test.YtekkldgmjdllbaaG36
import Derived.Test.YtekkldgmjdllbaaG24
import Derived.WideKeyMaps
import Derived.MapKept
import Derived.Carry
import Derived.Test.YtekkldgmjdllbaaG35
import Derived.Test.YtekkldgmjdllbaaG33
import Derived.Test.YtekkldgmjdllbaaG31
import Derived.Lib.Builder
import Derived.Lib.UnsafeStr
import Derived.Laws.Externs
import Derived.Lib.BufferRead
import Derived.Test.YtekkldgmjdllbaaG32
import Derived.Test.YtekkldgmjdllbaaG34
import Derived.Test.YtekkldgmjdllbaaG30
import Derived.Laws.Pointers
import Derived.Test.YtekkldgmjdllbaaG29
import Derived.Test.YtekkldgmjdllbaaRows
import Derived.Test.YtekkldgmjdllbaaG26
import Derived.Test.YtekkldgmjdllbaaHA25sfr07
import Derived.ProofKit
import Derived.OpenShut
import Derived.Deep.DeepHandedRow
import Derived.SizedLaws
import Derived.ChangeSlices
import Derived.ChangeSame
set_option linter.unusedSimpArgs false
set_option linter.unusedVariables false
section
namespace Go.Proofs.Ytekkldgmjdllbaa
open Go.RowKit Go.Flow Go.AV Go.Plain
theorem lsN_le {f : Cl → Int} {v : Int} : ∀ {L : List Cl} {z : Int}, lsN f L z ≤ v ↔ z ≤ v ∨ ∃ c, c ∈ L ∧ f c ≤ v
 | [], z => ⟨.inl, fun h => h.elim id fun ⟨_, h, _⟩ => by cases h⟩
 | c :: L, z => by
   show lsN f L (min z (f c)) ≤ v ↔ _
   rw [lsN_le]
   constructor
   ·rintro (h | ⟨d, h1, h2⟩)
    ·by_cases hz : z ≤ v
     ·exact .inl hz
     ·exact .inr ⟨c, by simp, by omega⟩
    ·exact .inr ⟨d, by simp [h1], h2⟩
   ·rintro (h | ⟨d, h1, h2⟩)
    ·exact .inl (by omega)
    ·rcases List.mem_cons.1 h1 with rfl | h1
     ·exact .inl (by omega)
     ·exact .inr ⟨d, h1, h2⟩
theorem lsN_dom {f g : Cl → Int} {L M : List Cl} {z : Int} (h : ∀ c, c ∈ L → ∃ d, d ∈ M ∧ g d ≤ f c) : lsN g M z ≤ lsN f L z := by
 have h1 : lsN f L z ≤ lsN f L z := Int.le_refl _
 rw [lsN_le] at h1
 rw [lsN_le]
 rcases h1 with h1 | ⟨c, hc, h1⟩
 ·exact .inl h1
 ·obtain ⟨d, hd, h2⟩ := h c hc
  exact .inr ⟨d, hd, by omega⟩
theorem cnf_slk (a b : Bp) (x y : Bg) (h : cmpOk a b) : (cnfV a b x y).2 = decide ((slkV a b x y).1 ≤ 0) := by
 unfold cnfV slkV
 rw [if_pos h, if_pos h]
 show (cnfR (hitC a b x y) (alL a.W x y)).2 = decide (lsN (xsV a b x y) (alL a.W x y) ((a.n : Int) + 1) ≤ 0)
 unfold cnfR
 cases hf : (alL a.W x y).find? (hitC a b x y) with
 | some c =>
   have h1 := List.find?_some hf
   have h2 := List.mem_of_find?_eq_some hf
   exact (decide_eq_true (lsN_le.2 (.inr ⟨c, h2, of_decide_eq_true h1⟩))).symm
 | none =>
   rw [List.find?_eq_none] at hf
   refine (decide_eq_false fun h => ?_).symm
   rcases lsN_le.1 h with h | ⟨c, hc, h⟩
   ·omega
   ·exact hf c hc (decide_eq_true h)
def sh5 : Bool := (List.range 5).all fun m => (List.range (2 * m + 1)).all fun i => (List.range (2 * m + 1)).all fun j => decide ((((i : Int) - m, (j : Int) - m) : Int × Int) ∈ shL m)
theorem sh5_ok : sh5 = true := by decide +kernel
theorem sh5_mem {m : Nat} (hm : m ≤ 4) {d : Int × Int} : d ∈ shL m ↔ (-(m : Int) ≤ d.1 ∧ d.1 ≤ m) ∧ -(m : Int) ≤ d.2 ∧ d.2 ≤ m := by
 constructor
 ·intro h
  obtain ⟨j, hj, rfl⟩ := List.getElem_of_mem h
  have := sh_bd hj
  rwa [List.getD_eq_getElem?_getD, List.getElem?_eq_getElem hj] at this
 ·rintro ⟨⟨h1, h2⟩, h3, h4⟩
  have h := sh5_ok
  unfold sh5 at h
  have h := List.all_eq_true.1 (List.all_eq_true.1 (List.all_eq_true.1 h m (List.mem_range.2 (by omega))) (d.1 + m).toNat (List.mem_range.2 (by omega))) (d.2 + m).toNat (List.mem_range.2 (by omega))
  have h := of_decide_eq_true h
  rwa [show (((d.1 + m).toNat : Nat) : Int) - m = d.1 by omega, show (((d.2 + m).toNat : Nat) : Int) - m = d.2 by omega] at h
theorem al_mem2 {w : Int} {x y : Bg} {c : Cl} (hw : 0 ≤ w) : c ∈ alL w x y ↔ ((-(shN x y : Int) ≤ c.dx ∧ c.dx ≤ shN x y) ∧ -(shN x y : Int) ≤ c.dy ∧ c.dy ≤ shN x y) ∧ -4 ≤ c.col ∧ c.col ≤ w + 4 - stN w x y := by
 rw [mem_al, sh5_mem (shN_eq x y).2]
 have ht := stN_bd x y hw
 have hM : ((alM w x y : Nat) : Int) = w + 9 - stN w x y := by unfold alM; omega
 constructor
 ·rintro ⟨h, i, hi, e⟩
  exact ⟨h, by omega, by omega⟩
 ·rintro ⟨h, h1, h2⟩
  exact ⟨h, (c.col + 4).toNat, by omega, by omega⟩
theorem only_mono {a b : Bp} {dx dy fr ti fr' ti' : Int} (h : ∀ i : Int, 0 ≤ i → i < a.W → fr ≤ i → i < ti → fr' ≤ i ∧ i < ti') : onlyN a b dx dy fr' ti' ≤ onlyN a b dx dy fr ti := by
 unfold onlyN
 refine sumTo_le fun j _ => cnt_mono fun i hi h1 => ?_
 unfold onB at h1 ⊢
 simp only [Bool.and_eq_true, Bool.or_eq_true, decide_eq_true_eq] at h1 ⊢
 refine ⟨⟨h1.1.1, ?_⟩, h1.2⟩
 by_cases g1 : (i : Int) < fr
 ·exact .inl g1
 ·by_cases g2 : ti ≤ (i : Int)
  ·exact .inr g2
  ·have := h i (by omega) (by omega) (by omega) (by omega)
   rcases h1.1.2 with h3 | h3 <;> omega
theorem stN_comm (w : Int) (x y : Bg) : stN w x y = stN w y x := by unfold stN; omega
theorem shN_comm (x y : Bg) : shN x y = shN y x := by
 have h1 := (shN_eq x y).1
 have h2 := (shN_eq y x).1
 omega
theorem slk_turn (a b : Bp) (x y : Bg) (h : cmpOk a b) : (slkV b a y x).1 ≤ (slkV a b x y).1 := by
 have h' : cmpOk b a := ⟨h.2.1, h.1, h.2.2.1.symm, h.2.2.2.symm⟩
 obtain ⟨ha, hb, hW, hH⟩ := h
 obtain ⟨q0, q1, q2, q3, q4⟩ := okB ha
 obtain ⟨-, -, -, -, r4⟩ := okB hb
 have hn : (b.n : Int) = a.n := by rw [q4, r4, hW, hH]
 unfold slkV
 rw [if_pos h', if_pos ⟨ha, hb, hW, hH⟩]
 show lsN (xsV b a y x) (alL b.W y x) ((b.n : Int) + 1) ≤ lsN (xsV a b x y) (alL a.W x y) ((a.n : Int) + 1)
 rw [hn, ← hW]
 refine lsN_dom fun c hc => ?_
 rw [al_mem2 q0] at hc
 have hm := (shN_eq x y).2
 have ht := stN_bd x y q0
 obtain ⟨⟨⟨c1, c2⟩, c3, c4⟩, c5, c6⟩ := hc
 obtain ⟨t, htt⟩ : ∃ t, stN a.W x y = t := ⟨_, rfl⟩
 rw [htt] at c6 ht
 obtain ⟨e, he⟩ : ∃ e, e = max (-4) (min (a.W + 4 - t) (c.col - c.dx)) := ⟨_, rfl⟩
 refine ⟨⟨-c.dx, -c.dy, e⟩, (al_mem2 q0).2 ⟨?_, ?_⟩, ?_⟩
 ·rw [← shN_comm x y]
  dsimp only
  omega
 ·rw [← stN_comm, htt]
  dsimp only
  omega
 ·unfold xsV ovN
  dsimp only
  rw [← hW, ← stN_comm, htt, Int.neg_neg, Int.neg_neg]
  have m1 : onlyN b a (-c.dx) (-c.dy) e (e + t) ≤ onlyN b a (-c.dx) (-c.dy) (c.col - c.dx) (c.col - c.dx + t) := only_mono fun i h1 h2 h3 h4 => by rw [← hW] at h2; omega
  have m2 : onlyN a b c.dx c.dy (e - -c.dx) (e - -c.dx + t) ≤ onlyN a b c.dx c.dy c.col (c.col + t) := only_mono fun i h1 h2 h3 h4 => by omega
  omega
theorem slk_comm (a b : Bp) (x y : Bg) (h : cmpOk a b) : (slkV b a y x).1 = (slkV a b x y).1 :=
 Int.le_antisymm (slk_turn a b x y h) (slk_turn b a y x ⟨h.2.1, h.1, h.2.2.1.symm, h.2.2.2.symm⟩)
def Bg.le (x y : Bg) : Prop := x.lo ≤ y.lo ∧ x.bl ≤ y.bl ∧ x.sh ≤ y.sh ∧ x.st ≤ y.st
theorem sum_shift (f : Int → Int) (n c : Nat) (hc : c ≤ 4) (h0 : ∀ y, y < 0 → f y = 0) (h1 : ∀ y : Int, (n : Int) ≤ y → f y = 0) : sumTo (fun j => f ((j : Int) - c)) (n + 4) = sumTo (fun j => f j) n := by
 rw [show n + 4 = c + (n + (4 - c)) by omega, sumTo_split, sumTo_split]
 have e1 : sumTo (fun j => f ((j : Int) - c)) c = 0 := by
  rw [sumTo_congr (g := fun _ => 0) fun k hk => h0 _ (by omega)]
  exact sum_zero c
 have e2 : sumTo (fun k => f (((c + (n + k) : Nat) : Int) - c)) (4 - c) = 0 := by
  rw [sumTo_congr (g := fun _ => 0) fun k hk => h1 _ (by omega)]
  exact sum_zero _
 have e3 : sumTo (fun k => f (((c + k : Nat) : Int) - c)) n = sumTo (fun j => f j) n := sumTo_congr fun k hk => by
  rw [show ((c + k : Nat) : Int) - c = k by omega]
 rw [e1, e3]
 show 0 + (_ + sumTo (fun k => f (((c + (n + k) : Nat) : Int) - c)) (4 - c)) = _
 rw [e2]
 omega
theorem cnt_none24 {q : Nat → Bool} {n : Nat} (h : ∀ k, k < n → q k = false) : cnt q n = 0 := by
 unfold cnt
 rw [sumTo_congr (g := fun _ => 0) fun k hk => if_neg (by rw [h k hk]; decide)]
 exact sum_zero n
theorem cnt_grid (p : Nat → Bool) (W : Nat) : ∀ H : Nat, cnt p (H * W) = sumTo (fun j => cnt (fun i => p (j * W + i)) W) H
 | 0 => by rw [Nat.zero_mul]; rfl
 | H + 1 => by
   rw [Nat.succ_mul]
   show sumTo _ (H * W + W) = _
   rw [sumTo_split]
   show cnt p (H * W) + _ = _
   rw [cnt_grid p W H]
   rfl
theorem img_cnt (g : Int → Int → Bool) (W H : Nat) (r s : Int) (hr : -2 ≤ r ∧ r ≤ 2) (hs : -2 ≤ s ∧ s ≤ 2) (hg : ∀ x y, g x y = true → (0 ≤ x ∧ x < W) ∧ 0 ≤ y ∧ y < H) :
 cnt (fun k => g ((k : Int) % ((W : Int) + 4) - 2 - r) ((k : Int) / ((W : Int) + 4) - 2 - s)) ((H + 4) * (W + 4)) = sumTo (fun j => cnt (fun i => g i j) W) H := by
 rw [cnt_grid]
 obtain ⟨c, hc⟩ := Int.eq_ofNat_of_zero_le (show 0 ≤ 2 + r by omega)
 obtain ⟨d, hd⟩ := Int.eq_ofNat_of_zero_le (show 0 ≤ 2 + s by omega)
 have e1 : ∀ j i : Nat, i < W + 4 → g (((j * (W + 4) + i : Nat) : Int) % ((W : Int) + 4) - 2 - r) (((j * (W + 4) + i : Nat) : Int) / ((W : Int) + 4) - 2 - s) = g ((i : Int) - c) ((j : Int) - d) := fun j i hi => by
  have e : ((j * (W + 4) + i : Nat) : Int) = (i : Int) + ((W : Int) + 4) * j := by
   rw [Int.natCast_add, Int.natCast_mul, Int.natCast_add, Int.mul_comm]
   exact Int.add_comm _ _
  rw [e, Int.add_mul_emod_self_left, Int.add_mul_ediv_left _ _ (by omega), Int.emod_eq_of_lt (by omega) (by omega), Int.ediv_eq_zero_of_lt (by omega) (by omega)]
  rw [show (i : Int) - 2 - r = (i : Int) - c by omega, show 0 + (j : Int) - 2 - s = (j : Int) - d by omega]
 have e2 : ∀ j : Nat, cnt (fun i => g (((j * (W + 4) + i : Nat) : Int) % ((W : Int) + 4) - 2 - r) (((j * (W + 4) + i : Nat) : Int) / ((W : Int) + 4) - 2 - s)) (W + 4) = cnt (fun i => g i ((j : Int) - d)) W := fun j => by
  rw [cnt_congr (q := fun i => g ((i : Int) - c) ((j : Int) - d)) fun i hi => e1 j i hi]
  refine sum_shift (fun x => if g x ((j : Int) - d) = true then 1 else 0) W c (by omega) (fun y hy => if_neg fun h => ?_) (fun y hy => if_neg fun h => ?_)
  ·have := (hg _ _ h).1; omega
  ·have := (hg _ _ h).1; omega
 rw [sum_eq e2]
 refine sum_shift (fun y => cnt (fun i => g i y) W) H d (by omega) (fun y hy => ?_) (fun y hy => ?_)
 ·refine cnt_none24 fun i hi => ?_
  cases hgv : g i y with
  | false => rfl
  | true => have := (hg _ _ hgv).2; omega
 ·refine cnt_none24 fun i hi => ?_
  cases hgv : g i y with
  | false => rfl
  | true => have := (hg _ _ hgv).2; omega
def onG (a b : Bp) (dx dy fr ti : Int) (x y : Int) : Bool := hasB a.W a.H a.d x y && (decide (x < fr) || decide (ti ≤ x)) && !hasB b.W b.H b.d (x - dx) (y - dy)
theorem only_img (a b : Bp) (dx dy fr ti r s : Int) (W H : Nat) (hW : a.W = W) (hH : a.H = H) (hr : -2 ≤ r ∧ r ≤ 2) (hs : -2 ≤ s ∧ s ≤ 2) :
 onlyN a b dx dy fr ti = cnt (fun k => onG a b dx dy fr ti ((k : Int) % (a.W + 4) - 2 - r) ((k : Int) / (a.W + 4) - 2 - s)) ((H + 4) * (W + 4)) := by
 have := img_cnt (onG a b dx dy fr ti) W H r s hr hs (fun x y h => by
  unfold onG hasB at h
  rw [hW, hH] at h
  by_cases hb : 0 ≤ x ∧ x < (W : Int) ∧ 0 ≤ y ∧ y < (H : Int)
  ·omega
  ·rw [if_neg hb] at h
   simp at h)
 rw [hW, this]
 unfold onlyN
 rw [hW, hH, Int.toNat_natCast, Int.toNat_natCast]
 rfl
theorem alo_cnt (s : Sd) (P : Int → Bool) : ∀ n : Nat, (((aloN s n).filter P).length : Int) = cnt (fun k => aloB s (k : Int) && P (k : Int)) n
 | 0 => rfl
 | n + 1 => by
   rw [aloN_succ, List.filter_append, List.length_append, Int.natCast_add, alo_cnt s P n, cnt_succ]
   congr 1
   cases h1 : aloB s (n : Int) <;> cases h2 : P (n : Int) <;> simp [h2]
theorem out_only (s : Sd) (W H t f : Nat) (hW : s.o.W = W) (hH : s.o.H = H) (hn : s.o.n = H * W) (hm : -4 ≤ s.mv) :
 outC s t f (aloL s) = onlyN s.o s.p s.dx s.dy ((f : Int) - 4 - s.mv) ((f : Int) - 4 - s.mv + t) := by
 have e : outC s t f (aloL s) = cnt (fun k => aloB s (k : Int) && decide (colV s k < f ∨ f + t ≤ colV s k)) s.o.n := alo_cnt s (fun k => decide (colV s k < f ∨ f + t ≤ colV s k)) s.o.n
 rw [e, hn, cnt_grid]
 unfold onlyN
 rw [hW, hH, Int.toNat_natCast, Int.toNat_natCast]
 refine sumTo_congr fun j hj => cnt_congr fun i hi => ?_
 have hlt : j * W + i < H * W := by
  have : j * W + W ≤ H * W := by rw [← Nat.succ_mul]; exact Nat.mul_le_mul_right W hj
  omega
 have e0 : ((j * W + i : Nat) : Int) = (i : Int) + (W : Int) * j := by
  rw [Int.natCast_add, Int.natCast_mul, Int.mul_comm]
  exact Int.add_comm _ _
 have em : ((j * W + i : Nat) : Int) % (W : Int) = i := by rw [e0, Int.add_mul_emod_self_left, Int.emod_eq_of_lt (by omega) (by omega)]
 have ed : ((j * W + i : Nat) : Int) / (W : Int) = j := by rw [e0, Int.add_mul_ediv_left _ _ (by omega), Int.ediv_eq_zero_of_lt (by omega) (by omega), Int.zero_add]
 unfold aloB onB colV hasB
 rw [hW, hH, em, ed, Int.toNat_natCast, decide_eq_true (Int.natCast_nonneg _), decide_eq_true (show ((j * W + i : Nat) : Int) < (s.o.n : Int) by rw [hn]; omega), Bool.true_and, Bool.true_and, if_pos (show 0 ≤ (i : Int) ∧ (i : Int) < W ∧ 0 ≤ (j : Int) ∧ (j : Int) < H by omega), show ((j : Int) * W + i).toNat = j * W + i by rw [← Int.natCast_mul, ← Int.natCast_add, Int.toNat_natCast]]
 have hc : decide (((i : Int) + s.mv + 4).toNat < f ∨ f + t ≤ ((i : Int) + s.mv + 4).toNat) = (decide ((i : Int) < (f : Int) - 4 - s.mv) || decide ((f : Int) - 4 - s.mv + t ≤ (i : Int))) := by
  rw [← Bool.decide_or]
  exact decide_eq_decide.2 (by omega)
 rw [hc, Bool.and_assoc, Bool.and_assoc, Bool.and_comm (!_)]
theorem open_hit (a b : Bp) (x y : Bg) (d : Int × Int) (f : Nat) (h : cmpOk a b) (hd : -4 ≤ d.1 ∧ d.1 ≤ 4) :
 openB (sd1 a b x y d) (sd2 a b x y d) (stN a.W x y).toNat (aloL (sd1 a b x y d)) (aloL (sd2 a b x y d)) f = hitC a b x y ⟨d.1, d.2, (f : Int) - 4⟩ := by
 obtain ⟨ha, hb, hW, hH⟩ := h
 obtain ⟨q0, q1, q2, q3, q4⟩ := okB ha
 obtain ⟨p0, p1, p2, p3, p4⟩ := okB hb
 obtain ⟨Wn, hWn⟩ := Int.eq_ofNat_of_zero_le q0
 obtain ⟨Hn, hHn⟩ := Int.eq_ofNat_of_zero_le q2
 have hst := stN_bd x y q0
 have hna : a.n = Hn * Wn := by
  rw [hWn, hHn, ← Int.natCast_mul] at q4
  rw [Nat.mul_comm]
  exact Int.ofNat_inj.1 q4
 have hnb : b.n = Hn * Wn := by
  rw [← hW, ← hH, hWn, hHn, ← Int.natCast_mul] at p4
  rw [Nat.mul_comm]
  exact Int.ofNat_inj.1 p4
 unfold openB hitC xsV ovN
 rw [out_only (sd1 a b x y d) Wn Hn _ f hWn hHn hna (by show (-4 : Int) ≤ 0; omega), out_only (sd2 a b x y d) Wn Hn _ f (by show b.W = _; rw [← hW]; exact hWn) (by show b.H = _; rw [← hH]; exact hHn) hnb hd.1]
 rw [show (((stN a.W x y).toNat : Nat) : Int) = stN a.W x y by omega]
 show (decide (onlyN a b d.1 d.2 ((f : Int) - 4 - 0) ((f : Int) - 4 - 0 + stN a.W x y) ≤ (lim4 x).lo + (lim4 y).bl) && decide (onlyN b a (-d.1) (-d.2) ((f : Int) - 4 - d.1) ((f : Int) - 4 - d.1 + stN a.W x y) ≤ (lim4 y).lo + (lim4 x).bl)) = decide (max (onlyN a b d.1 d.2 ((f : Int) - 4) ((f : Int) - 4 + stN a.W x y) - (lim4 x).lo - (lim4 y).bl) (onlyN b a (-d.1) (-d.2) ((f : Int) - 4 - d.1) ((f : Int) - 4 - d.1 + stN a.W x y) - (lim4 y).lo - (lim4 x).bl) ≤ 0)
 rw [Int.sub_zero, ← Bool.decide_and]
 exact decide_eq_decide.2 (by omega)
theorem cnf_iff {a b : Bp} {x y : Bg} (h : cmpOk a b) : (cnfV a b x y).2 = true ↔ ∃ c, c ∈ alL a.W x y ∧ hitC a b x y c = true := by
 unfold cnfV cnfR
 rw [if_pos h]
 cases hf : (alL a.W x y).find? (hitC a b x y) with
 | some c => exact ⟨fun _ => ⟨c, List.mem_of_find?_eq_some hf, List.find?_some hf⟩, fun _ => rfl⟩
 | none =>
   rw [List.find?_eq_none] at hf
   constructor
   ·intro h
    cases h
   ·rintro ⟨c, h1, h2⟩
    exact absurd h2 (hf c h1)
theorem okL_of {s : Sd} {l : List Int} (hp : l.Pairwise (· < ·)) (hm : ∀ k, k ∈ l → aloB s k = true) : okL s l = true := by
 refine List.all_eq_true.2 fun i hi => ?_
 have hi := List.mem_range.1 hi
 unfold okAt
 rw [List.getD_eq_getElem?_getD, List.getElem?_eq_getElem hi, Option.getD_some, hm _ (List.getElem_mem hi), Bool.true_and, Bool.or_eq_true, decide_eq_true_eq, decide_eq_true_eq]
 rcases Nat.eq_zero_or_pos i with h0 | h0
 ·exact .inl h0
 ·refine .inr ?_
  rw [List.getD_eq_getElem?_getD, List.getElem?_eq_getElem (show i - 1 < l.length by omega)]
  exact List.pairwise_iff_getElem.1 hp (i - 1) i (by omega) hi (by omega)
theorem alo_bd2 {s : Sd} {v : Int} (h : aloB s v = true) : 0 ≤ v ∧ v < s.o.n := by
 unfold aloB at h
 simp only [Bool.and_eq_true, decide_eq_true_eq] at h
 exact ⟨h.1, h.2.1⟩
theorem aloL_ok (s : Sd) : okL s (aloL s) = true := by
 refine okL_of ?_ fun k hk => ?_
 ·unfold aloL aloN
  rw [List.pairwise_map]
  exact List.Pairwise.imp (fun h => by omega) (List.Pairwise.filter _ List.pairwise_lt_range)
 ·unfold aloL aloN at hk
  obtain ⟨i, hi, rfl⟩ := List.mem_map.1 hk
  exact (List.mem_filter.1 hi).2
theorem decB_less {s t s' t' : Sd} {n M : Nat} {lA lB : List Int} (h1 : s'.o.W = s.o.W ∧ s'.mv = s.mv) (h2 : t'.o.W = t.o.W ∧ t'.mv = t.mv) (m1 : s'.mo ≤ s.mo) (m2 : t'.mo ≤ t.mo) (h : decB s t n M lA lB = true) : decB s' t' n M lA lB = true := by
 unfold decB at h ⊢
 rw [List.all_eq_true] at h ⊢
 intro f hf
 have := h f hf
 have e1 : outC s' n f lA = outC s n f lA := by unfold outC colV; rw [h1.1, h1.2]
 have e2 : outC t' n f lB = outC t n f lB := by unfold outC colV; rw [h2.1, h2.2]
 unfold openB at this ⊢
 rw [e1, e2]
 simp only [Bool.not_eq_true', Bool.and_eq_false_iff, decide_eq_false_iff_not] at this ⊢
 omega
theorem okL_R {s : Sd} {l : List Int} (h : okL s l = true) (hn : s.o.n ≤ 9216) : lOk l := by
 have h1 := okL_len h
 refine ⟨by omega, fun k hk => ?_⟩
 obtain ⟨h2, h3⟩ := alo_bd2 (okL_alo h hk)
 unfold iOk
 omega
theorem shL_81 (x y : Bg) : (shL (shN x y)).length ≤ 81 := by
 obtain ⟨-, hm⟩ := shN_eq x y
 rw [shL_len hm]
 have h9 : 2 * shN x y + 1 ≤ 9 := by omega
 exact Nat.mul_le_mul h9 h9
theorem mkL25_get (a b : Bp) (x y : Bg) (L : List (Int × Int)) {k : Nat} (hk : k < L.length) : (mkL25 a b x y L).getD k wtZ = (aloL (sd1 a b x y (L.getD k mvZ)), aloL (sd2 a b x y (L.getD k mvZ))) := by
 unfold mkL25
 rw [List.getD_eq_getElem?_getD, List.getElem?_map, List.getD_eq_getElem?_getD, List.getElem?_eq_getElem hk]
 rfl
theorem mkL25_R {a b : Bp} (x y : Bg) (h : cmpOk a b) : PrR (mkL25 a b x y (shL (shN x y))) := by
 obtain ⟨ha, hb, -⟩ := h
 have h1 := n_bd ha
 have h2 := n_bd hb
 have h81 := shL_81 x y
 have hl : (mkL25 a b x y (shL (shN x y))).length = (shL (shN x y)).length := List.length_map ..
 refine ⟨by omega, fun k hk => ?_⟩
 rw [mkL25_get a b x y _ (by omega)]
 exact ⟨okL_R (aloL_ok _) h1, okL_R (aloL_ok _) h2⟩
theorem hit_mem {a : Bp} {x y : Bg} {k f : Nat} (hk : k < (shL (shN x y)).length) (hf : f < alM a.W x y) : (⟨((shL (shN x y)).getD k mvZ).1, ((shL (shN x y)).getD k mvZ).2, (f : Int) - 4⟩ : Cl) ∈ alL a.W x y := by
 unfold alL alK
 refine List.mem_flatMap.2 ⟨(shL (shN x y)).getD k mvZ, ?_, ?_⟩
 ·rw [List.getD_eq_getElem?_getD, List.getElem?_eq_getElem hk]
  exact List.getElem_mem _
 ·unfold alI
  exact List.mem_map.2 ⟨f, List.mem_range.2 hf, rfl⟩
theorem dec_all {a b : Bp} {x y : Bg} (h : cmpOk a b) (hc : (cnfV a b x y).2 = false) {k : Nat} (hk : k < (shL (shN x y)).length) :
 decB (sd1 a b x y ((shL (shN x y)).getD k mvZ)) (sd2 a b x y ((shL (shN x y)).getD k mvZ)) (stN a.W x y).toNat (alM a.W x y) (aloL (sd1 a b x y ((shL (shN x y)).getD k mvZ))) (aloL (sd2 a b x y ((shL (shN x y)).getD k mvZ))) = true := by
 unfold decB
 refine List.all_eq_true.2 fun f hf => ?_
 rw [open_hit a b x y _ f h (shN_bd hk).1]
 cases hh : hitC a b x y ⟨((shL (shN x y)).getD k mvZ).1, ((shL (shN x y)).getD k mvZ).2, (f : Int) - 4⟩ with
 | false => rfl
 | true =>
   have := (cnf_iff h).2 ⟨_, hit_mem hk (List.mem_range.1 hf), hh⟩
   rw [hc] at this
   cases this
theorem chk_mk {a b : Bp} {x y : Bg} (h : cmpOk a b) (hc : (cnfV a b x y).2 = false) : mkV a b x y = (mkL25 a b x y (shL (shN x y)), 0) ∧ chkV a b x y (mkL25 a b x y (shL (shN x y))) = 0 := by
 have h0 := (szV_ok a b).2 h
 refine ⟨by unfold mkV; rw [if_pos h0, hc]; rfl, ?_⟩
 unfold chkV
 rw [if_pos h0, if_pos]
 refine ⟨(List.length_map ..).symm, ?_⟩
 unfold prfB
 refine List.all_eq_true.2 fun k hk => ?_
 have hk := List.mem_range.1 hk
 unfold wtOk
 rw [mkL25_get a b x y _ hk, aloL_ok, aloL_ok, dec_all h hc hk]
 rfl
theorem mk_cnf {a b : Bp} {x y : Bg} (h : cmpOk a b) (hc : (cnfV a b x y).2 = true) : mkV a b x y = ([], 60) := by
 unfold mkV
 rw [if_pos ((szV_ok a b).2 h), if_pos hc]
theorem chk_wt {a b : Bp} {x y : Bg} {p : List Wt} (h : chkV a b x y p = 0) : cmpOk a b ∧ (shL (shN x y)).length = p.length ∧ ∀ k, k < (shL (shN x y)).length → wtOk a b x y ((shL (shN x y)).getD k mvZ) (p.getD k wtZ) = true := by
 have hsz0 : szV a b = 0 := by
  refine Decidable.byContradiction fun hh => ?_
  rw [show chkV a b x y p = szV a b from if_neg hh] at h
  exact hh h
 obtain ⟨hl, hpr⟩ : (shL (shN x y)).length = p.length ∧ prfB a b x y p = true := by
  refine Decidable.byContradiction fun hh => ?_
  rw [show chkV a b x y p = 62 from (if_pos hsz0).trans (if_neg hh)] at h
  exact absurd h (by decide)
 exact ⟨(szV_ok a b).1 hsz0, hl, fun k hk => List.all_eq_true.1 hpr k (List.mem_range.2 hk)⟩
theorem chk_of {a b : Bp} {x y : Bg} {p : List Wt} (h : cmpOk a b) (hl : (shL (shN x y)).length = p.length) (hw : ∀ k, k < (shL (shN x y)).length → wtOk a b x y ((shL (shN x y)).getD k mvZ) (p.getD k wtZ) = true) : chkV a b x y p = 0 := by
 unfold chkV
 rw [if_pos ((szV_ok a b).2 h), if_pos]
 exact ⟨hl, List.all_eq_true.2 fun k hk => hw k (List.mem_range.1 hk)⟩
theorem cnt_or {g p q : Nat → Bool} : ∀ {n : Nat}, (∀ k, k < n → g k = true → p k = true ∨ q k = true) → cnt g n ≤ cnt p n + cnt q n
 | 0, _ => by rw [cnt_zero, cnt_zero, cnt_zero]; omega
 | n + 1, h => by
   have h1 := cnt_or (n := n) fun k hk => h k (by omega)
   have h2 := h n (by omega)
   rw [cnt_succ, cnt_succ, cnt_succ]
   by_cases hg : g n = true
   ·rw [if_pos hg]
    rcases h2 hg with h3 | h3
    ·rw [if_pos h3]; split <;> omega
    ·rw [if_pos h3]; split <;> omega
   ·rw [if_neg hg]
    split <;> split <;> omega
theorem hasB_bd {W H : Int} {d : Nat → Bool} {x y : Int} (h : hasB W H d x y = true) : 0 ≤ x ∧ x < W := by
 unfold hasB at h
 by_cases hb : 0 ≤ x ∧ x < W ∧ 0 ≤ y ∧ y < H
 ·exact ⟨hb.1, hb.2.1⟩
 ·rw [if_neg hb] at h; cases h
theorem bothB_iff {i j : Int} {f g : Nat → Int} {k : Nat} : bothB i j f g k = true ↔ f k = i ∧ g k = j := by
 unfold bothB
 rw [Bool.and_eq_true, beq_iff_eq, beq_iff_eq]
theorem alone_le {img : Ip} {a b : Bp} {r s u v fr ti : Int} {W H : Nat} (hW : a.W = W) (hH : a.H = H) (hWb : b.W = a.W) (fa : fitOk img a r s) (fb : fitOk img b u v) (hr : -2 ≤ r ∧ r ≤ 2) (hs : -2 ≤ s ∧ s ≤ 2) (dx dy : Int) (hdx : dx = u - r) (hdy : dy = v - s)
 (hT : ∀ k, k < img.n → img.f k = 2 → (0 ≤ (k : Int) % (a.W + 4) - 2 - r ∧ (k : Int) % (a.W + 4) - 2 - r < a.W) → fr ≤ (k : Int) % (a.W + 4) - 2 - r ∧ (k : Int) % (a.W + 4) - 2 - r < ti) :
 onlyN a b dx dy fr ti ≤ fitN img a r s 0 1 + fitN img b u v 1 0 := by
 obtain ⟨p1, p2, p3, p4⟩ := fa
 obtain ⟨⟨-, -, -, -, hn⟩, hpx⟩ := chkI_ok.1 p2
 have hn2 : img.n = (H + 4) * (W + 4) := by
  rw [p3, p4, hW, hH] at hn
  have : ((img.n : Nat) : Int) = (((H + 4) * (W + 4) : Nat) : Int) := by rw [hn, Int.natCast_mul, Int.mul_comm]; rfl
  exact_mod_cast this
 unfold fitN
 rw [if_pos ⟨p1, p2, p3, p4⟩, if_pos fb, only_img a b dx dy fr ti r s W H hW hH hr hs, ← hn2]
 refine cnt_or fun k hk hg => ?_
 unfold onG at hg
 rw [Bool.and_eq_true, Bool.and_eq_true, Bool.or_eq_true, decide_eq_true_eq, decide_eq_true_eq, Bool.not_eq_true'] at hg
 obtain ⟨⟨g1, g2⟩, g3⟩ := hg
 have hx := hasB_bd g1
 have e1 : bpF a r s k = 1 := by
  show (if hasB a.W a.H a.d ((k : Int) % (a.W + 4) - 2 - r) ((k : Int) / (a.W + 4) - 2 - s) = true then (1 : Int) else 0) = 1
  rw [if_pos g1]
 have e2 : bpF b u v k = 0 := by
  show (if hasB b.W b.H b.d ((k : Int) % (b.W + 4) - 2 - u) ((k : Int) / (b.W + 4) - 2 - v) = true then (1 : Int) else 0) = 0
  rw [show (k : Int) % (a.W + 4) - 2 - r - dx = (k : Int) % (b.W + 4) - 2 - u by rw [hWb]; omega, show (k : Int) / (a.W + 4) - 2 - s - dy = (k : Int) / (b.W + 4) - 2 - v by rw [hWb]; omega] at g3
  rw [if_neg (by rw [g3]; decide)]
 have hp := hpx k hk
 rw [bothB_iff, bothB_iff]
 by_cases h2 : img.f k = 2
 ·have := hT k hk h2 hx
  omega
 ·by_cases h1 : img.f k = 0
  ·exact .inl ⟨h1, e1⟩
  ·exact .inr ⟨by omega, e2⟩
theorem sound_plain {img : Ip} {a b : Bp} {x y : Bg} {r s u v F T : Int} (h : cmpOk a b) (fa : fitOk img a r s) (fb : fitOk img b u v)
 (la : fitN img a r s 0 1 ≤ (lim4 x).lo) (ba : fitN img a r s 1 0 ≤ (lim4 x).bl) (lb : fitN img b u v 0 1 ≤ (lim4 y).lo) (bb : fitN img b u v 1 0 ≤ (lim4 y).bl)
 (hr : (-(lim4 x).sh ≤ r ∧ r ≤ (lim4 x).sh) ∧ -(lim4 x).sh ≤ s ∧ s ≤ (lim4 x).sh) (hu : (-(lim4 y).sh ≤ u ∧ u ≤ (lim4 y).sh) ∧ -(lim4 y).sh ≤ v ∧ v ≤ (lim4 y).sh)
 (hT : ∀ k, k < img.n → img.f k = 2 → F ≤ (k : Int) % (a.W + 4) ∧ (k : Int) % (a.W + 4) < F + T) (hT1 : T ≤ (lim4 x).st) : (cnfV a b x y).2 = true := by
 rw [cnf_slk a b x y h]
 refine decide_eq_true ?_
 unfold slkV
 rw [if_pos h]
 show lsN (xsV a b x y) (alL a.W x y) ((a.n : Int) + 1) ≤ 0
 obtain ⟨ha, hb, hWb, hHb⟩ := h
 obtain ⟨q0, q1, q2, q3, q4⟩ := okB ha
 obtain ⟨W, hW⟩ := Int.eq_ofNat_of_zero_le q0
 obtain ⟨H, hH⟩ := Int.eq_ofNat_of_zero_le q2
 have b1 := lim_bds x
 have b2 := lim_bds y
 have hm := shN_eq x y
 obtain ⟨t, ht⟩ : ∃ t, stN a.W x y = t := ⟨_, rfl⟩
 have ht2 : t = min (a.W + 8) (max (lim4 x).st (lim4 y).st) := by rw [← ht]; rfl
 obtain ⟨e, he⟩ : ∃ e, e = max (-4) (min (a.W + 4 - t) (F - 2 - r)) := ⟨_, rfl⟩
 rw [lsN_le]
 refine .inr ⟨⟨u - r, v - s, e⟩, (al_mem2 q0).2 ⟨by dsimp only; omega, by rw [ht]; dsimp only; omega⟩, ?_⟩
 unfold xsV ovN
 dsimp only
 rw [ht]
 have k1 : onlyN a b (u - r) (v - s) e (e + t) ≤ fitN img a r s 0 1 + fitN img b u v 1 0 :=
  alone_le hW hH hWb.symm fa fb (by omega) (by omega) _ _ rfl rfl fun k hk h2 hx => by have := hT k hk h2; omega
 have k2 : onlyN b a (-(u - r)) (-(v - s)) (e - (u - r)) (e - (u - r) + t) ≤ fitN img b u v 0 1 + fitN img a r s 1 0 :=
  alone_le (by rw [← hWb]; exact hW) (by rw [← hHb]; exact hH) hWb fb fa (by omega) (by omega) _ _ (by omega) (by omega) fun k hk h2 hx => by
   have := hT k hk h2
   rw [← hWb] at hx ⊢
   omega
 omega
theorem ap_two {b : Bp} {h : Ht} {k : Nat} (h2 : (apP b h).f k = 2) : h.fr ≤ (k : Int) % (b.W + 4) ∧ (k : Int) % (b.W + 4) < h.ti := by
 have hb := setL_bd (px := setL (bpx b h) h.lo 0 h.N) (l := h.bl) (v := 1) (by omega) (setL_bd (l := h.lo) (v := 0) (by omega) (putF_bd b.W b.H b.d h.dx h.dy) h.N) h.M k
 have h3 : hideF (b.W + 4) (setL (setL (bpx b h) h.lo 0 h.N) h.bl 1 h.M) h.fr h.ti k = 2 := h2
 unfold hideF at h3
 split at h3
 ·assumption
 ·omega
theorem sound_hit {a p : Bp} {h : Ht} {x y : Bg} (hc : cmpOk a p) (hw : wiB a h x = true) (he : (exV (apP a h) p y).2 = true) : (cnfV a p x y).2 = true := by
 obtain ⟨w1, w2, w3, w4, w5⟩ := of_decide_eq_true hw
 obtain ⟨⟨u, v⟩, hs, hB⟩ := ex_iff.1 he
 obtain ⟨f1, f2, f3⟩ := of_decide_eq_true hB
 have b1 := lim_bds x
 have b2 := lim_bds y
 have hs2 := (sh5_mem (m := (lim4 y).sh.toNat) (by omega)).1 hs
 dsimp only at hs2 f1 f2 f3
 have l1 := ap_lost w1
 have l2 := ap_blot w1
 exact sound_plain (F := h.fr) (T := h.ti - h.fr) hc (ap_fit w1) f1 (by omega) (by omega) f2 f3 (by omega) (by omega) (fun k _ h2 => by have := ap_two h2; omega) w5
def bgLess (x : Bg) (u v : Int) : Bg := ⟨x.lo - u, x.bl - v, x.sh, x.st⟩
theorem lim1_mono {a b : Int} (m : Int) (h : a ≤ b) : lim1 a m ≤ lim1 b m := by unfold lim1; omega
theorem chk_less {a b : Bp} {x y : Bg} {p : List Wt} (h : chkV a b x y p = 0) {u v u' v' : Int} (h1 : 0 ≤ u) (h2 : 0 ≤ v) (h3 : 0 ≤ u') (h4 : 0 ≤ v') : chkV a b (bgLess x u v) (bgLess y u' v') p = 0 := by
 obtain ⟨hc, hl, hw⟩ := chk_wt h
 have es : shN (bgLess x u v) (bgLess y u' v') = shN x y := rfl
 have et : stN a.W (bgLess x u v) (bgLess y u' v') = stN a.W x y := rfl
 have em : alM a.W (bgLess x u v) (bgLess y u' v') = alM a.W x y := rfl
 refine chk_of hc (by rw [es]; exact hl) fun k hk => ?_
 rw [es] at hk ⊢
 have hwk := hw k hk
 generalize (shL (shN x y)).getD k mvZ = d at *
 generalize p.getD k wtZ = w at *
 unfold wtOk at hwk ⊢
 rw [Bool.and_eq_true, Bool.and_eq_true] at hwk
 obtain ⟨w1, w2, w3⟩ := hwk
 have o1 : okL (sd1 a b (bgLess x u v) (bgLess y u' v') d) w.1 = okL (sd1 a b x y d) w.1 := by unfold okL okAt aloB sd1; rfl
 have o2 : okL (sd2 a b (bgLess x u v) (bgLess y u' v') d) w.2 = okL (sd2 a b x y d) w.2 := by unfold okL okAt aloB sd2; rfl
 have l1 := lim1_mono (a := x.lo - u) (b := x.lo) 200 (by omega)
 have l2 := lim1_mono (a := x.bl - v) (b := x.bl) 200 (by omega)
 have l3 := lim1_mono (a := y.lo - u') (b := y.lo) 200 (by omega)
 have l4 := lim1_mono (a := y.bl - v') (b := y.bl) 200 (by omega)
 rw [o1, o2, w1, w2, et, em, Bool.true_and, Bool.true_and]
 refine decB_less (s := sd1 a b x y d) (t := sd2 a b x y d) ⟨rfl, rfl⟩ ⟨rfl, rfl⟩ ?_ ?_ w3
 ·show lim1 (x.lo - u) 200 + lim1 (y.bl - v') 200 ≤ lim1 x.lo 200 + lim1 y.bl 200
  omega
 ·show lim1 (y.lo - u') 200 + lim1 (x.bl - v) 200 ≤ lim1 y.lo 200 + lim1 x.bl 200
  omega
theorem cnf_turn {a b : Bp} {x y : Bg} (h : cmpOk a b) : (cnfV b a y x).2 = (cnfV a b x y).2 := by
 rw [cnf_slk a b x y h, cnf_slk b a y x ⟨h.2.1, h.1, h.2.2.1.symm, h.2.2.2.symm⟩, slk_comm a b x y h]
set_option maxHeartbeats 4000000 in
set_option maxRecDepth 100000 in
theorem ProofSafe_A (c : Ca5) (hc : c.ok) (L : List Int) (hL : L.length ≤ 4611686018427387904) (q : Int × Int × Int × Int) : ACalls Try.prog 8 [.ag (ca5C c), .c (.ls L.length 1 (iF fun k => L.getD k 0)), .ag [iC q.1, iC q.2.1, iC q.2.2.1, iC q.2.2.2]] (.c (bC true)) := by
 have hsan := sanity25_A
 have hmade := made25_A c hc
 have hcm := pc_cmp c
 have hbd := pc_bd c
 have hxb : (0 ≤ (pcX c).lo ∧ (pcX c).lo < 5) ∧ (0 ≤ (pcX c).bl ∧ (pcX c).bl < 4) ∧ (0 ≤ (pcX c).sh ∧ (pcX c).sh < 2) ∧ 0 ≤ (pcX c).st ∧ (pcX c).st < 4 := bgN_bd c.nX c.fX
 have hyb : (0 ≤ (pcY c).lo ∧ (pcY c).lo < 5) ∧ (0 ≤ (pcY c).bl ∧ (pcY c).bl < 4) ∧ (0 ≤ (pcY c).sh ∧ (pcY c).sh < 2) ∧ 0 ≤ (pcY c).st ∧ (pcY c).st < 4 := bgN_bd c.nY c.fY
 have hM := pMake_A (pcA c) (pcB c) (pcX c) (pcY c)
 refine acalls_at Try.func8 rfl rfl Try.ntmps8 rfl ?_
 generalize pcA c = a at *
 generalize pcB c = b at *
 generalize pcX c = x at *
 generalize pcY c = y at *
 cases hcf : (cnfV a b x y).2 with
 | true =>
   rw [mk_cnf hcm hcf] at hM
   repeat (first
    | refine uA ?_
    | refine uB ?_
    | refine AWp.ret ?_
    | refine thenA_r ?_
    | refine kT ?_
    | (refine rG 0 ?_
       (iterate 2 refine qr5 aQ ?_)
       refine kC ?_
       refine aB ?_)
    | (refine rG 1 ?_
       refine aH rfl rfl rfl rfl Try.func9 rfl (by kernel_rfl) (hsan) ?_
       refine kC ?_
       refine aB ?_)
    | (refine rG 2 ?_
       refine kF ?_
       refine aH rfl rfl rfl rfl Try.func10 rfl (by kernel_rfl) (hmade) ?_
       refine kA ?_
       (iterate 4 refine qr4 aN ?_)
       (iterate 4 refine qr5 (aM tyOk) ?_)
       (iterate 4 refine kI ?_)
       refine aB ?_)
    | (refine rG 3 ?_
       (iterate 4 refine kF ?_)
       refine aH rfl rfl rfl rfl Try.func20 rfl (by kernel_rfl) (hM) ?_
       refine kA ?_
       (iterate 2 refine qr4 aN ?_)
       (iterate 2 refine kC ?_)
       refine aB ?_)
    | (refine rG 4 ?_
       refine kA ?_
       refine qr5t aK ?_
       refine aB ?_)
    | (refine rG 5 ?_
       refine kA ?_
       refine kC ?_
       refine aB ?_))
   refine ⟨mkSt 123 [(6, .c (bC true))] [] [], [], Wk.mk [] rfl rfl rfl ?_ trivial, rfl, rfl, aR1⟩
   exact allT
 | false =>
   have hcm' : cmpOk b a := ⟨hcm.2.1, hcm.1, hcm.2.2.1.symm, hcm.2.2.2.symm⟩
   have hcf' : (cnfV b a y x).2 = false := (cnf_turn hcm).trans hcf
   obtain ⟨e1, e2⟩ := chk_mk hcm hcf
   have hR := mkL25_R x y hcm
   rw [e1] at hM
   have h01 := Int.emod_nonneg q.1 (show (3 : Int) ≠ 0 by omega)
   have h02 := Int.emod_nonneg q.2.1 (show (3 : Int) ≠ 0 by omega)
   have h03 := Int.emod_nonneg q.2.2.1 (show (3 : Int) ≠ 0 by omega)
   have h04 := Int.emod_nonneg q.2.2.2 (show (3 : Int) ≠ 0 by omega)
   have h11 := Int.emod_lt_of_pos q.1 (show (0 : Int) < 3 by omega)
   have h12 := Int.emod_lt_of_pos q.2.1 (show (0 : Int) < 3 by omega)
   have h13 := Int.emod_lt_of_pos q.2.2.1 (show (0 : Int) < 3 by omega)
   have h14 := Int.emod_lt_of_pos q.2.2.2 (show (0 : Int) < 3 by omega)
   have m1 := Mod_A q.1 3 (by omega) (by omega)
   have m2 := Mod_A q.2.1 3 (by omega) (by omega)
   have m3 := Mod_A q.2.2.1 3 (by omega) (by omega)
   have m4 := Mod_A q.2.2.2 3 (by omega) (by omega)
   have e3 := chk_less e2 h01 h02 h03 h04
   generalize mkL25 a b x y (shL (shN x y)) = p at *
   have hck := pCheck_A a b (bgLess x (q.1 % 3) (q.2.1 % 3)) (bgLess y (q.2.2.1 % 3) (q.2.2.2 % 3)) p hR.ok
   rw [e3] at hck
   have dmg : ∀ (a b : Bp) (x y : Bg), cmpOk a b → (cnfV a b x y).2 = false → ∃ (h : Ht) (im : Ip) (vm : _), im.n ≤ 100000 ∧ ACalls Try.prog 32 [.c (.ls L.length 1 (iF fun k => L.getD k 0)), .ag (bpC a), .ag (bgC x)] (.ag (htC h)) ∧ ACalls Try.prog 31 [.ag (bpC a), .ag (htC h)] (.tu [.ag (ipC im), .c (iC 0)]) ∧ exV im b y = (vm, false) := fun a b x y hb hcf => by
    obtain ⟨hH, hHN, hHM, hw⟩ := Hit_A L.length (fun k => L.getD k 0) a x hL hb.1
    generalize hitV L.length (fun k => L.getD k 0) a x = h at *
    have hAp := pApply_A a h (by omega) (by omega)
    have hw0 : apE a h = 0 := (of_decide_eq_true hw).1
    rw [apV, apI, if_pos hw0, hw0] at hAp
    obtain ⟨q0, q1, q2, q3, q4⟩ := okB hb.1
    refine ⟨h, apP a h, (exV (apP a h) b y).1, ?_, hH, hAp, ?_⟩
    ·show ((a.W + 4) * (a.H + 4)).toNat ≤ 100000
     have := Int.mul_le_mul (show a.W + 4 ≤ 100 by omega) (show a.H + 4 ≤ 100 by omega) (by omega) (by omega)
     omega
    ·cases he : (exV (apP a h) b y).2 with
     | true =>
       have := sound_hit hb hw he
       rw [hcf] at this
       cases this
     | false => rw [← he]
   obtain ⟨g1, i1, v1, hn1, hH1, hA1, hV1⟩ := dmg a b x y hcm hcf
   obtain ⟨g2, i2, v2, hn2, hH2, hA2, hV2⟩ := dmg b a y x hcm' hcf'
   have hE1 := pExplains_A i1 b y (by omega)
   have hE2 := pExplains_A i2 a x (by omega)
   rw [hV1] at hE1
   rw [hV2] at hE2
   clear dmg hV1 hV2 e1 e2 e3
   repeat (first
    | refine uA ?_
    | refine uB ?_
    | refine uG ?_
    | refine AWp.ret ?_
    | refine kU ?_
    | (refine rG 0 ?_
       (iterate 2 refine qr5 aQ ?_)
       refine kC ?_
       refine aB ?_)
    | (refine rG 1 ?_
       refine aH rfl rfl rfl rfl Try.func9 rfl (by kernel_rfl) (hsan) ?_
       refine kC ?_
       refine aB ?_)
    | (refine rG 2 ?_
       refine kF ?_
       refine aH rfl rfl rfl rfl Try.func10 rfl (by kernel_rfl) (hmade) ?_
       refine kA ?_
       (iterate 4 refine qr4 aN ?_)
       (iterate 4 refine qr5 (aM tyOk) ?_)
       (iterate 4 refine kI ?_)
       refine aB ?_)
    | (refine rG 3 ?_
       (iterate 4 refine kF ?_)
       refine aH rfl rfl rfl rfl Try.func20 rfl (by kernel_rfl) (hM) ?_
       refine kA ?_
       (iterate 2 refine qr4 aN ?_)
       (iterate 2 refine kC ?_)
       refine aB ?_)
    | (refine rG 4 ?_
       refine kA ?_
       refine qr5 aW ?_
       refine aB ?_)
    | (refine AWp.draw (id := 6) mixed ?_; refine kF ?_; refine kA ?_; (iterate 2 refine kF ?_); refine aH rfl rfl rfl rfl Try.func32 rfl (by kernel_rfl) (hH1) ?_; refine aH rfl rfl rfl rfl Try.func31 rfl (by kernel_rfl) (hA1) ?_; refine kA ?_; (iterate 2 refine qr4 aN ?_); refine qr5 (aM tyOk) ?_; refine kI ?_; refine kC ?_; refine aB ⟨by kernel_rfl, ?_⟩)
    | (refine AWp.draw (id := 7) mixed ?_; refine kF ?_; refine kA ?_; (iterate 2 refine kF ?_); refine aH rfl rfl rfl rfl Try.func32 rfl (by kernel_rfl) (hH2) ?_; refine aH rfl rfl rfl rfl Try.func31 rfl (by kernel_rfl) (hA2) ?_; refine kA ?_; (iterate 2 refine qr4 aN ?_); refine qr5 (aM tyOk) ?_; refine kI ?_; refine kC ?_; refine aB ⟨by kernel_rfl, ?_⟩)
    | (refine rG 8 ?_
       (iterate 3 refine kF ?_)
       refine aH rfl rfl rfl rfl Try.func33 rfl (by kernel_rfl) (hE1) ?_
       refine kA ?_
       (iterate 2 refine qr4 aN ?_)
       refine qr5 (aM tyOk) ?_
       refine kI ?_
       refine kC ?_
       refine aB ?_)
    | (refine rG 9 ?_
       (iterate 3 refine kF ?_)
       refine aH rfl rfl rfl rfl Try.func33 rfl (by kernel_rfl) (hE2) ?_
       refine kA ?_
       (iterate 2 refine qr4 aN ?_)
       refine qr5 (aM tyOk) ?_
       refine kI ?_
       refine kC ?_
       refine aB ?_)
    | (refine rG 10 ?_
       refine kA ?_
       refine qr5 aW ?_
       (iterate 2 refine kA ?_)
       refine qr5 aW ?_
       refine qr4 aR ?_
       (iterate 2 refine kA ?_)
       refine qr4 aR ?_
       (iterate 2 refine kA ?_)
       refine qr4 aR ?_
       refine aB ?_)
    | (refine AWp.draw (id := 12) mixed ?_; refine kD ?_; refine kE ?_; refine qr7eo (aU (i := 0) tyOk) ?_; refine kE ?_; refine aH rfl rfl rfl rfl Try.func25 rfl (by kernel_rfl) (m1) ?_; refine qr4w2 AList.sub ?_; refine kD ?_; refine kI ?_; refine aB ⟨by kernel_rfl, ?_⟩)
    | (refine AWp.draw (id := 13) mixed ?_; refine kD ?_; refine kE ?_; refine qr7eo (aU (i := 1) tyOk) ?_; refine kE ?_; refine aH rfl rfl rfl rfl Try.func25 rfl (by kernel_rfl) (m2) ?_; refine qr4w2 AList.sub ?_; refine kD ?_; refine kI ?_; refine aB ⟨by kernel_rfl, ?_⟩)
    | (refine AWp.draw (id := 14) mixed ?_; refine kD ?_; refine kE ?_; refine qr7eo (aU (i := 2) tyOk) ?_; refine kE ?_; refine aH rfl rfl rfl rfl Try.func25 rfl (by kernel_rfl) (m3) ?_; refine qr4w2 AList.sub ?_; refine kD ?_; refine kI ?_; refine aB ⟨by kernel_rfl, ?_⟩)
    | (refine AWp.draw (id := 15) mixed ?_; refine kD ?_; refine kE ?_; refine qr7eo (aU (i := 3) tyOk) ?_; refine kE ?_; refine aH rfl rfl rfl rfl Try.func25 rfl (by kernel_rfl) (m4) ?_; refine qr4w2 AList.sub ?_; refine kD ?_; refine kI ?_; refine aB ⟨by kernel_rfl, ?_⟩)
    | (refine rG 16 ?_
       (iterate 2 refine kA ?_)
       (iterate 4 refine kF ?_)
       refine kA ?_
       refine aH rfl rfl rfl rfl Try.func14 rfl (by kernel_rfl) (hck) ?_
       refine aK rfl rfl rfl rfl rfl (by simp only [cmpP, eq_self, decide_true]) ?_
       refine qr4 aS ?_
       refine kC ?_
       refine aB ?_))
   refine ⟨mkSt 123 [(6, .c (bC true))] [] [], [], Wk.mk [] rfl rfl rfl ?_ trivial, rfl, rfl, aR1⟩
   exact allT
end Go.Proofs.Ytekkldgmjdllbaa
end
section
namespace Go.Proofs.Ytekkldgmjdllbaa.proofSafe
open Go.ChangeShapes Go.WideShapes Go.ChangeAt Go.RowKit Go.Flow Go.AV
set_option maxRecDepth 100000 in
theorem contract (H : Type) (enc : TypeId × Value → H) (W : World) (base : Nat) (args : Array Value) (ds gs : List (DataW H)) (before : List MemPlace)
 (hval : ∀ (j : Nat) t v, Try.f8.params[j]? = some t → args[j]? = some v → Value.okWide Try.prog W .any base t v)
 (hW : DataW.Whole enc Try.prog Try.f8.params.toList Rows.proofSafeSpec.vars false W args.toList ds gs before)
 (hsz : (DataW.weightsEach Try.prog (Try.f8.params.toList ++ (OpenSpec.ofChange Rows.proofSafeSpec).bare.plain.varTypes Try.prog) (ds ++ gs)).all (· ≤ reachBytes) = true) :
 Calls Try.prog 8 args W fun e W' => ∃ v, e = .returned v ∧ Rows.proofSafeSpec.post enc Try.prog Try.f8 false true false false W args v W' := by
 have hW' := hW
 obtain ⟨p, q, hA0, hV, rfl, hfz, hnd⟩ := hW
 have hA : DataW.TrodAll enc Try.prog W 0 (fun _ => true) true Try.f8.params.toList args.toList ds p := hA0
 have hAk := hA0
 rw [Try.params8] at hA hval hsz
 obtain ⟨rfl, rfl⟩ := trodVars_none hV
 obtain ⟨v0, vs0, d0, ds0, p0, q0, hargs, rfl, rfl, h0, t0⟩ := trodAll_cons hA
 obtain ⟨v1, vs1, d1, ds1, p1, q1, rfl, rfl, rfl, h1, t1⟩ := trodAll_cons t0
 obtain ⟨v2, vs2, d2, ds2, p2, q2, rfl, rfl, rfl, h2, t2⟩ := trodAll_cons t1
 obtain ⟨rfl, rfl, rfl⟩ := trodAll_nil t2
 obtain rfl : args = #[v0, v1, v2] := by rw [← Array.toList_inj]; exact hargs
 have hlt := fun x hx => hW'.lt x hx
 simp only [List.append_nil] at hW'
 rw [List.append_nil] at hsz
 obtain ⟨a0, ok0, r0⟩ := opn_ca5.argS Try.underlying24 (hval 0 24 v0 rfl rfl) h0 (weigh hsz 0 (t := 24) (d := d0) rfl rfl)
 obtain ⟨a1, ok1, r1⟩ := opn_ints.argC (cells_slice Try.underlying22 (hval 1 22 v1 rfl rfl)) h1 (weigh hsz 1 (t := 22) (d := d1) rfl rfl)
 obtain ⟨a2, ok2, r2⟩ := opn_q4r.argA Try.underlying73 (hval 2 73 v2 rfl rfl) h2 (weigh hsz 2 (t := 73) (d := d2) rfl rfl)
 refine ((ECalls.of (ProofSafe_A a0 ok0 a1 ok1.1 a2)) O0 W [_, _, _] (fun b h => h.elim) ⟨r0, r1, r2, trivial⟩).mono fun e W' ⟨v, r, he, hr, hv, hE⟩ => ?_
 subst hr
 obtain rfl : v = .bool true := hv.2
 subst he
 exact ⟨_, rfl, post_below (pv := []) hW' (fun _ _ _ => trodAll_cons_mk (shut_bool Try.underlying4 _) trodAll_mk0)
  (fun sp hsp => trodAll_below laidOut hE (by rw [Try.params8]; intro t ht; simp only [List.mem_cons, List.not_mem_nil, or_false] at ht; rcases ht with rfl | rfl | rfl <;> exact ⟨by kernel_rfl, of_decide_eq_true (by kernel_rfl)⟩) hAk (fun x hx => hlt x (by rw [List.append_nil]; exact hx)) sp (fun x hx => hsp x (by simpa only [List.append_nil] using hx)))
  (fun _ _ => rfl) (by simp) hE (ok_one (by kernel_rfl) rfl (okWide_bool_mk Try.underlying4 _))⟩
theorem own : ownKnob Try.prog.godebug = none := by kernel_rfl
set_option maxRecDepth 100000 in
theorem lifted (os : Os) (started : os.Started) (H : Type) (enc : TypeId × Value → H) :
 ReturnsInHanded {} Try.checked os 8 .any (Rows.proofSafeSpec.pre6 enc Try.prog Try.f8 Rows.proofSafeRow.domain false) (Rows.proofSafeSpec.post enc Try.prog Try.f8 false true false false) := by
 refine returnsInHanded_of_change_sized (C := Try.checked) own started (by kernel_rfl) Try.func8
  (ChangeSpec.witness6 (enc := enc) (C := Try.checked) false ⟨#[], #[.agg #[.slice none 0 0, .slice none 0 0, .slice none 0 0, .slice none 0 0], .slice none 0 0, .agg #[.int .i64 0, .int .i64 0, .int .i64 0, .int .i64 0]], []⟩ 8 (by kernel_rfl) (by kernel_rfl) (by kernel_rfl) (by kernel_rfl)) ?_
 intro W base args ds gs before hval hW _ hsz _
 exact contract H enc W base args ds gs before hval hW hsz
theorem said : Rows.ProofSafeSaid :=
 OpenClaim.holds_of_wide 8 Try.f8 rfl rfl rfl rfl rfl rfl rfl ⟨rfl, rfl, rfl, rfl, rfl⟩ rfl rfl rfl rfl rfl (by kernel_rfl) Try.func8 (by kernel_rfl)
  (of_decide_eq_true (by kernel_rfl)) (by unfold Func.isWrapper; first | (rw [if_pos (by decide +kernel)]; kernel_rfl) | (rw [if_neg (by decide +kernel)]; exact ⟨rfl, rfl⟩))
  (fun os started H enc _ => lifted os started H enc)
end Go.Proofs.Ytekkldgmjdllbaa.proofSafe
end
