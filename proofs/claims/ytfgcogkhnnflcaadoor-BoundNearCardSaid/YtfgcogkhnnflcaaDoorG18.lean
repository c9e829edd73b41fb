/- Parts of the proof: AMemD, A24n, A24m, A24p, A24t, A24tp, BdBelP. -/
import Derived.Test.YtfgcogkhnnflcaaDoorG12
import Derived.Test.YtfgcogkhnnflcaaDoorG11
import Derived.Laws.Cover3
import Derived.Test.YtfgcogkhnnflcaaDoorG17
import Derived.Test.YtfgcogkhnnflcaaDoorG16
import Derived.Test.YtfgcogkhnnflcaaDoorG10
import Derived.Scope
import Derived.Test.YtfgcogkhnnflcaaDoorG03
import Derived.Test.YtfgcogkhnnflcaaDoorG07
set_option linter.unusedSimpArgs false
set_option linter.unusedVariables false
section
namespace Go.AV
open Go Go.RowKit Go.Flow
section
variable {P : Program}
/-- The caller's cell and the callee's. -/
def LentC (ids : List Nat) (x y : CV) : Prop := (x = y ∧ immC y = true) ∨ ∃ id i, x = .ow id ∧ posOf ids id = some i ∧ y = .ow (1000 + i)
def LendOk2 (S : St) (all : List Nat) : List Nat → List AB → Prop
  | [], [] => True
  | id :: ids, B :: bs => (∃ F, S.h id = some ⟨B.row, B.n, B.sz, B.ty, F⟩ ∧ (B.row = true → 0 < B.n) ∧ ∀ k, k < B.n → ∀ j, j < B.sz → LentC all (F k j) (B.F k j)) ∧ LendOk2 S all ids bs
  | _, _ => False
def BackOk (all : List Nat) : List AB → List AB → Prop
  | [], [] => True
  | A :: l, B :: m => (∃ G, A = ⟨B.row, B.n, B.sz, B.ty, G⟩ ∧ ∀ k, k < B.n → ∀ j, j < B.sz → LentC all (B.F k j) (G k j)) ∧ BackOk all l m
  | _, _ => False
section ops
variable {ops : Array Oper} {rest : List Oper} {acc : List (List Nat × List Nat)} {S : St} {Q : List (List Nat × List Nat) → St → Prop} {dst : Option Tmp} {ty : TypeId} {pos : String} {after : Array Edge} {guard : Option (Nat × Bool)}
end ops
theorem LentC.ow {all : List Nat} {id q : Nat} (h : (posOf all id).map (fun p => 1000 + p) = some q) : LentC all (.ow id) (.ow q) := by
  obtain ⟨i, h1, rfl⟩ := Option.map_eq_some_iff.1 h
  exact .inr ⟨id, i, rfl, h1, rfl⟩
theorem LendOk2.row {S : St} {all : List Nat} {id n sz : Nat} {ty : TypeId} {F G : Nat → Nat → CV} {ids : List Nat} {bs : List AB} (hh : S.h id = some ⟨true, n, sz, ty, F⟩) (hn : 0 < n) (hc : ∀ k, k < n → ∀ j, j < sz → F k j = G k j ∧ immC (G k j) = true) (hr : LendOk2 S all ids bs) : LendOk2 S all (id :: ids) (⟨true, n, sz, ty, G⟩ :: bs) :=
  ⟨⟨F, hh, fun _ => hn, fun k hk j hj => .inl (hc k hk j hj)⟩, hr⟩
theorem BackOk.row {all : List Nat} {n sz : Nat} {ty : TypeId} {G : Nat → Nat → CV} {bs0 bs : List AB} (hi : ∀ k, k < n → ∀ j, j < sz → immC (G k j) = true) (hr : BackOk all bs0 bs) : BackOk all (⟨true, n, sz, ty, G⟩ :: bs0) (⟨true, n, sz, ty, G⟩ :: bs) :=
  ⟨⟨G, rfl, fun k hk j hj => .inl ⟨rfl, hi k hk j hj⟩⟩, hr⟩
section arr
variable {tab : List (TypeId × TD)} {ops : Array Oper} {rest : List Oper} {acc : List (List Nat × List Nat)} {S : St} {Q : List (List Nat × List Nat) → St → Prop} {dst : Option Tmp} {ty : TypeId} {pos : String} {after : Array Edge} {guard : Option (Nat × Bool)} {x y : Operand}
end arr
end
end Go.AV
end

section
namespace Go.Proofs.YtfgcogkhnnflcaaDoor
open Go.RowKit Go.Flow Go.AV Go.Plain
theorem sum_one (x : Int) (q : Prop) [Decidable q] (fr : Int) : ∀ t : Nat, sumTo (fun k => if fr + (k : Int) = x ∧ q then (1 : Int) else 0) t = if fr ≤ x ∧ x < fr + t ∧ q then 1 else 0
  | 0 => by
    rw [if_neg (fun h => by have := h.1; have := h.2.1; omega)]
    rfl
  | t + 1 => by
    show sumTo _ t + (if fr + (t : Int) = x ∧ q then (1 : Int) else 0) = _
    rw [sum_one x q fr t]
    by_cases hq : q
    · by_cases h1 : fr + (t : Int) = x
      · rw [if_neg (fun h => by have := h.2.1; omega), if_pos ⟨h1, hq⟩, if_pos ⟨by omega, by omega, hq⟩]; rfl
      · rw [if_neg (show ¬ (fr + (t : Int) = x ∧ q) from fun h => h1 h.1)]
        by_cases h2 : fr ≤ x ∧ x < fr + t ∧ q
        · rw [if_pos h2, if_pos ⟨h2.1, by have := h2.2.1; omega, hq⟩]; rfl
        · rw [if_neg h2, if_neg (fun h => h2 ⟨h.1, by have := h.2.1; omega, hq⟩)]; rfl
    · rw [if_neg (fun h => hq h.2.2), if_neg (fun h => hq h.2), if_neg (fun h => hq h.2.2)]; rfl
theorem sum_eq {f g : Nat → Int} (h : ∀ k, f k = g k) (t : Nat) : sumTo f t = sumTo g t := by rw [show f = g from funext h]
theorem sum_zero : ∀ t : Nat, sumTo (fun _ => (0 : Int)) t = 0
  | 0 => rfl
  | t + 1 => by show sumTo _ t + 0 = 0; rw [sum_zero t]; rfl
def inW (b : Nat → Bool) (fr : Int) (t x : Nat) : Bool := b x && (decide (fr ≤ (x : Int)) && decide ((x : Int) < fr + t))
theorem cnt_win (b : Nat → Bool) (fr : Int) (t : Nat) : ∀ W : Nat, sumTo (fun k => if 0 ≤ fr + (k : Int) ∧ fr + (k : Int) < W ∧ b (fr + (k : Int)).toNat = true then (1 : Int) else 0) t = cnt (inW b fr t) W
  | 0 => by
    rw [cnt_zero, sum_eq (g := fun _ => 0) (fun k => if_neg (fun h => by have := h.1; have := h.2.1; omega)), sum_zero]
  | W + 1 => by
    rw [cnt_succ, ← cnt_win b fr t W]
    rw [sum_eq (g := fun k => (if 0 ≤ fr + (k : Int) ∧ fr + (k : Int) < W ∧ b (fr + (k : Int)).toNat = true then (1 : Int) else 0) + (if fr + (k : Int) = (W : Int) ∧ b W = true then (1 : Int) else 0)) (fun k => ?_), sumTo_add, sum_one]
    · congr 1
      by_cases h : fr ≤ (W : Int) ∧ (W : Int) < fr + t ∧ b W = true
      · rw [if_pos h, if_pos (by unfold inW; rw [h.2.2, decide_eq_true h.1, decide_eq_true h.2.1]; rfl)]
      · rw [if_neg h, if_neg (fun h2 => h (by unfold inW at h2; simp only [Bool.and_eq_true, decide_eq_true_eq] at h2; exact ⟨h2.2.1, h2.2.2, h2.1⟩))]
    · by_cases h1 : fr + (k : Int) = (W : Int)
      · have e : (fr + (k : Int)).toNat = W := by omega
        rw [e]
        rw [if_neg (show ¬ (0 ≤ fr + (k : Int) ∧ fr + (k : Int) < (W : Int) ∧ b W = true) from fun h => by have := h.2.1; omega)]
        by_cases hb : b W = true
        · rw [if_pos ⟨by omega, by omega, hb⟩, if_pos ⟨h1, hb⟩]; rfl
        · rw [if_neg (fun h => hb h.2.2), if_neg (fun h => hb h.2)]; rfl
      · rw [if_neg (show ¬ (fr + (k : Int) = (W : Int) ∧ b W = true) from fun h => h1 h.1), Int.add_zero]
        by_cases h2 : 0 ≤ fr + (k : Int) ∧ fr + (k : Int) < W ∧ b (fr + (k : Int)).toNat = true
        · rw [if_pos h2, if_pos ⟨h2.1, by have := h2.2.1; omega, h2.2.2⟩]
        · rw [if_neg h2, if_neg (fun h => h2 ⟨h.1, by have := h.2.1; omega, h.2.2⟩)]
end Go.Proofs.YtfgcogkhnnflcaaDoor
end

section
namespace Go.Proofs.YtfgcogkhnnflcaaDoor
open Go.RowKit Go.Flow Go.AV Go.Plain
theorem Wk.trans {A B C : St} (h1 : Wk A B) (h2 : Wk B C) : Wk A C := fun b0 a w h => h2 b0 a w (h1 b0 a w h)
end Go.Proofs.YtfgcogkhnnflcaaDoor
end

section
namespace Go.Proofs.YtfgcogkhnnflcaaDoor
open Go.RowKit Go.Flow Go.AV Go.Plain
instance (a b : Bp) : Decidable (cmpOk a b) := by unfold cmpOk; infer_instance
/-- The least excess. -/
def lsN (f : Cl → Int) (L : List Cl) (z : Int) : Int := L.foldl (fun m c => min m (f c)) z
def slkV (a b : Bp) (x y : Bg) : Int × Bool := if cmpOk a b then (lsN (xsV a b x y) (alL a.W x y) ((a.n : Int) + 1), true) else (0, false)
/-- Bounds of an excess. -/
theorem onlyN_nn (a b : Bp) (dx dy fr ti : Int) (Wn Hn : Nat) (hW : a.W = Wn) (hH : a.H = Hn) : onlyN a b dx dy fr ti ≤ ((Wn * Hn : Nat) : Int) := by
  unfold onlyN
  rw [hW, hH, Int.toNat_natCast, Int.toNat_natCast]
  have : ∀ m : Nat, sumTo (fun j => cnt (onB a b dx dy fr ti j) Wn) m ≤ ((Wn * m : Nat) : Int) := fun m => by
    induction m with
    | zero => exact Int.le_refl _
    | succ m ih =>
      have h2 := cnt_le (onB a b dx dy fr ti m) Wn
      show sumTo _ m + cnt _ Wn ≤ _
      rw [Nat.mul_succ]
      omega
  exact this Hn
theorem xsV_bd (a b : Bp) (x y : Bg) (c : Cl) (h : cmpOk a b) : -10000 ≤ xsV a b x y c ∧ xsV a b x y c ≤ (a.n : Int) := by
  obtain ⟨ha, hb, hW, hH⟩ := h
  obtain ⟨q0, q1, q2, q3, q4⟩ := okB ha
  obtain ⟨Wn, hWn⟩ := Int.eq_ofNat_of_zero_le q0
  obtain ⟨Hn, hHn⟩ := Int.eq_ofNat_of_zero_le q2
  have b1 := lim_bds x
  have b2 := lim_bds y
  have e1 := onlyN_bd a b c.dx c.dy c.col (c.col + stN a.W x y) ha
  have e2 := onlyN_bd b a (-c.dx) (-c.dy) (c.col - c.dx) (c.col - c.dx + stN a.W x y) hb
  have f1 := onlyN_nn a b c.dx c.dy c.col (c.col + stN a.W x y) Wn Hn hWn hHn
  have f2 := onlyN_nn b a (-c.dx) (-c.dy) (c.col - c.dx) (c.col - c.dx + stN a.W x y) Wn Hn (by rw [← hW]; exact hWn) (by rw [← hH]; exact hHn)
  have hn : (a.n : Int) = ((Wn * Hn : Nat) : Int) := by rw [q4, hWn, hHn]; simp
  unfold xsV ovN
  omega
end Go.Proofs.YtfgcogkhnnflcaaDoor
end

section
namespace Go.Proofs.YtfgcogkhnnflcaaDoor
open Go.RowKit Go.Flow Go.AV Go.Plain
theorem mem_al {w : Int} {x y : Bg} {c : Cl} : c ∈ alL w x y ↔ (c.dx, c.dy) ∈ shL (shN x y) ∧ ∃ i, i < alM w x y ∧ c.col = (i : Int) - 4 := by
  unfold alL alK alI
  simp only [List.mem_flatMap, List.mem_map, List.mem_range]
  constructor
  · rintro ⟨d, hd, i, hi, rfl⟩
    exact ⟨hd, i, hi, rfl⟩
  · rintro ⟨hd, i, hi, e⟩
    refine ⟨_, hd, i, hi, ?_⟩
    rw [← e]
end Go.Proofs.YtfgcogkhnnflcaaDoor
end

section
namespace Go.Proofs.YtfgcogkhnnflcaaDoor
open Go.RowKit Go.Flow Go.AV Go.Plain
theorem lsN_le {f : Cl → Int} {v : Int} : ∀ {L : List Cl} {z : Int}, lsN f L z ≤ v ↔ z ≤ v ∨ ∃ c, c ∈ L ∧ f c ≤ v
  | [], z => ⟨.inl, fun h => h.elim id fun ⟨_, h, _⟩ => by cases h⟩
  | c :: L, z => by
    show lsN f L (min z (f c)) ≤ v ↔ _
    rw [lsN_le]
    constructor
    · rintro (h | ⟨d, h1, h2⟩)
      · by_cases hz : z ≤ v
        · exact .inl hz
        · exact .inr ⟨c, by simp, by omega⟩
      · exact .inr ⟨d, by simp [h1], h2⟩
    · rintro (h | ⟨d, h1, h2⟩)
      · exact .inl (by omega)
      · rcases List.mem_cons.1 h1 with rfl | h1
        · exact .inl (by omega)
        · exact .inr ⟨d, h1, h2⟩
def sh5 : Bool := (List.range 5).all fun m => (List.range (2 * m + 1)).all fun i => (List.range (2 * m + 1)).all fun j => decide ((((i : Int) - m, (j : Int) - m) : Int × Int) ∈ shL m)
theorem sh5_ok : sh5 = true := by decide +kernel
theorem sh5_mem {m : Nat} (hm : m ≤ 4) {d : Int × Int} : d ∈ shL m ↔ (-(m : Int) ≤ d.1 ∧ d.1 ≤ m) ∧ -(m : Int) ≤ d.2 ∧ d.2 ≤ m := by
  constructor
  · intro h
    obtain ⟨j, hj, rfl⟩ := List.getElem_of_mem h
    have := sh_bd hj
    rwa [List.getD_eq_getElem?_getD, List.getElem?_eq_getElem hj] at this
  · rintro ⟨⟨h1, h2⟩, h3, h4⟩
    have h := sh5_ok
    unfold sh5 at h
    have h := List.all_eq_true.1 (List.all_eq_true.1 (List.all_eq_true.1 h m (List.mem_range.2 (by omega))) (d.1 + m).toNat (List.mem_range.2 (by omega))) (d.2 + m).toNat (List.mem_range.2 (by omega))
    have h := of_decide_eq_true h
    rwa [show (((d.1 + m).toNat : Nat) : Int) - m = d.1 by omega, show (((d.2 + m).toNat : Nat) : Int) - m = d.2 by omega] at h
theorem al_mem2 {w : Int} {x y : Bg} {c : Cl} (hw : 0 ≤ w) : c ∈ alL w x y ↔ ((-(shN x y : Int) ≤ c.dx ∧ c.dx ≤ shN x y) ∧ -(shN x y : Int) ≤ c.dy ∧ c.dy ≤ shN x y) ∧ -4 ≤ c.col ∧ c.col ≤ w + 4 - stN w x y := by
  rw [mem_al, sh5_mem (shN_eq x y).2]
  have ht := stN_bd x y hw
  have hM : ((alM w x y : Nat) : Int) = w + 9 - stN w x y := by unfold alM; omega
  constructor
  · rintro ⟨h, i, hi, e⟩
    exact ⟨h, by omega, by omega⟩
  · rintro ⟨h, h1, h2⟩
    exact ⟨h, (c.col + 4).toNat, by omega, by omega⟩
/-- Every component of a budget is at most that of another one. -/
def Bg.le (x y : Bg) : Prop := x.lo ≤ y.lo ∧ x.bl ≤ y.bl ∧ x.sh ≤ y.sh ∧ x.st ≤ y.st
end Go.Proofs.YtfgcogkhnnflcaaDoor
end

section
namespace Go.Proofs.YtfgcogkhnnflcaaDoor
open Go.RowKit Go.Flow Go.AV Go.Plain
theorem leastOf_le {m : Nat} {most st : Int} {g : Int × Int → Int} (h0 : 0 ≤ most) (hst : st ≤ (m : Int) + 8) {p q : Int} (h1 : -most ≤ p ∧ p ≤ most) (h2 : -4 ≤ q ∧ q ≤ (m : Int) + 4 - st) : leastOf m most st g ≤ g (p, q) :=
  (leastOf_isMin h0 hst).2 (p, q) ⟨h1.1, h1.2, h2.1, h2.2⟩
theorem hasB_rng {W H : Nat} {d : Nat → Bool} {x y : Int} (h : hasB W H d x y = true) : (0 ≤ x ∧ x < W) ∧ 0 ≤ y ∧ y < H := by
  unfold hasB at h
  by_cases hb : 0 ≤ x ∧ x < (W : Int) ∧ 0 ≤ y ∧ y < (H : Int)
  · omega
  · rw [if_neg hb] at h; cases h
/-- Sums of counts, the other way around. -/
theorem cnt_swap (q : Nat → Nat → Bool) (W H : Nat) : sumTo (fun j => cnt (q j) W) H = sumTo (fun i => cnt (fun j => q j i) H) W := by
  unfold cnt
  rw [sumTo_swap]
/-- Dots of a column. -/
theorem col_has (a : Bp) (W H : Nat) (hW : a.W = W) (hH : a.H = H) (hn : a.n = W * H) (k : Nat) (hk : k < W) : colF a.W a.n a.d k = cnt (fun j => hasB a.W a.H a.d k j) H := by
  unfold colF
  rw [hW, hH, hn, col_part W a.d k hk H]
  refine cnt_congr fun j hj => ?_
  rw [hasB_in (by omega) (by omega) (by omega) (by omega)]
  rfl
theorem row_has (a : Bp) (W H : Nat) (hW : a.W = W) (hH : a.H = H) (hn : a.n = W * H) (k : Nat) (hk : k < H) : rowBd a.W a.n a.d k = cnt (fun i => hasB a.W a.H a.d i k) W := by
  unfold rowBd
  rcases Nat.eq_zero_or_pos W with h0 | h0
  · subst h0
    rw [hn, Nat.zero_mul]
    rfl
  · rw [hW, hH, hn, show H = k + 1 + (H - (k + 1)) by omega, row_part W h0 a.d k _]
    refine cnt_congr fun j hj => ?_
    rw [hasB_in (by omega) (by omega) (by omega) (by omega)]
    rfl
/-- What lies within is at most what lies anywhere. -/
theorem cnt_shift_le (g : Int → Bool) (c : Int) (H : Nat) (hg : ∀ y, g y = true → 0 ≤ y ∧ y < H) : ∀ n : Nat, cnt (fun j => g ((j : Int) - c)) n ≤ cnt (fun j => g j) H := fun n => by
  have h1 : cnt (fun j => g ((j : Int) - c)) n ≤ cnt (fun y => g y && (decide (-c ≤ (y : Int)) && decide ((y : Int) < -c + n))) H := by
    have h := cnt_win (fun y => g y) (-c) n H
    unfold inW at h
    rw [← h]
    refine sumTo_le fun j hj => ?_
    by_cases hv : g ((j : Int) - c) = true
    · have := hg _ hv
      have e : ((-c + (j : Int)).toNat : Int) = (j : Int) - c := by omega
      rw [if_pos hv, if_pos ⟨by omega, by omega, by rw [e]; exact hv⟩]
      exact Int.le_refl _
    · rw [if_neg hv]
      split <;> omega
  refine Int.le_trans h1 (cnt_mono fun y hy h => ?_)
  rw [Bool.and_eq_true] at h
  exact h.1
theorem cnt_and_not (p q : Nat → Bool) (n : Nat) : cnt p n - cnt q n ≤ cnt (fun k => p k && !q k) n := by
  have : cnt p n ≤ cnt q n + cnt (fun k => p k && !q k) n := by
    unfold cnt
    rw [← sumTo_add]
    refine sumTo_le fun k _ => ?_
    show (if p k = true then (1 : Int) else 0) ≤ (if q k = true then (1 : Int) else 0) + (if (p k && !q k) = true then (1 : Int) else 0)
    cases p k <;> cases q k <;> decide
  omega
theorem exc_le (a b : Bp) (dx dy fr ti : Int) (W H : Nat) (hW : a.W = W) (hH : a.H = H) (hn : a.n = W * H) (hWb : b.W = W) (hHb : b.H = H) (hnb : b.n = W * H) :
    excS W (colF a.W a.n a.d) W (colF b.W b.n b.d) dx fr ti ≤ onlyN a b dx dy fr ti := by
  unfold onlyN excS
  rw [hW, hH, Int.toNat_natCast, Int.toNat_natCast, cnt_swap (fun j i => onB a b dx dy fr ti j i) W H, ← hW]
  refine sumTo_le fun k hk => ?_
  unfold excT
  by_cases ho : (k : Int) < fr ∨ ti ≤ (k : Int)
  · rw [if_pos ho, col_has a W H hW hH hn k hk]
    have e1 : cnt (fun j => onB a b dx dy fr ti j k) H = cnt (fun j => hasB a.W a.H a.d k j && !hasB b.W b.H b.d ((k : Int) - dx) ((j : Int) - dy)) H := cnt_congr fun j _ => by
      unfold onB
      have : (decide ((k : Int) < fr) || decide (ti ≤ (k : Int))) = true := by
        rw [Bool.or_eq_true, decide_eq_true_eq, decide_eq_true_eq]; exact ho
      rw [this, Bool.and_true]
    rw [e1]
    have h1 := cnt_and_not (fun j => hasB a.W a.H a.d k j) (fun j => hasB b.W b.H b.d ((k : Int) - dx) ((j : Int) - dy)) H
    have h2 : cnt (fun j => hasB b.W b.H b.d ((k : Int) - dx) ((j : Int) - dy)) H ≤ extB W (colF b.W b.n b.d) ((k : Int) - dx) := by
      unfold extB
      split
      · have hk2 : ((k : Int) - dx).toNat < W := by omega
        rw [col_has b W H hWb hHb hnb _ hk2, show ((((k : Int) - dx).toNat : Nat) : Int) = (k : Int) - dx by omega]
        exact cnt_shift_le (fun y => hasB b.W b.H b.d ((k : Int) - dx) y) dy H (fun y hy => by rw [hWb, hHb] at hy; exact (hasB_rng hy).2) H
      · have : cnt (fun j => hasB b.W b.H b.d ((k : Int) - dx) ((j : Int) - dy)) H = 0 := cnt_false fun j _ => by
          cases hv : hasB b.W b.H b.d ((k : Int) - dx) ((j : Int) - dy) with
          | false => rfl
          | true =>
            rw [hWb, hHb] at hv
            have := (hasB_rng hv).1
            omega
        omega
    have h3 := Go.Plain.cnt_nonneg (fun j => hasB a.W a.H a.d k j && !hasB b.W b.H b.d ((k : Int) - dx) ((j : Int) - dy)) H
    omega
  · rw [if_neg ho]
    exact Go.Plain.cnt_nonneg _ _
theorem exr_le (a b : Bp) (dx dy e fr ti : Int) (W H : Nat) (hW : a.W = W) (hH : a.H = H) (hn : a.n = W * H) (hWb : b.W = W) (hHb : b.H = H) (hnb : b.n = W * H) :
    excS H (rowBd a.W a.n a.d) H (rowBd b.W b.n b.d) dy fr ti ≤ onlyN a b dx dy e e := by
  unfold onlyN excS
  rw [hH, Int.toNat_natCast, hW, Int.toNat_natCast, ← hW]
  refine sumTo_le fun j hj => ?_
  have e1 : cnt (onB a b dx dy e e j) W = cnt (fun i => hasB a.W a.H a.d i j && !hasB b.W b.H b.d ((i : Int) - dx) ((j : Int) - dy)) W := cnt_congr fun i _ => by
    unfold onB
    have : (decide ((i : Int) < e) || decide (e ≤ (i : Int))) = true := by
      rw [Bool.or_eq_true, decide_eq_true_eq, decide_eq_true_eq]; omega
    rw [this, Bool.and_true]
  rw [e1]
  have h3 := Go.Plain.cnt_nonneg (fun i => hasB a.W a.H a.d i j && !hasB b.W b.H b.d ((i : Int) - dx) ((j : Int) - dy)) W
  unfold excT
  by_cases ho : (j : Int) < fr ∨ ti ≤ (j : Int)
  · rw [if_pos ho, row_has a W H hW hH hn j hj]
    have h1 := cnt_and_not (fun i => hasB a.W a.H a.d i j) (fun i => hasB b.W b.H b.d ((i : Int) - dx) ((j : Int) - dy)) W
    have h2 : cnt (fun i => hasB b.W b.H b.d ((i : Int) - dx) ((j : Int) - dy)) W ≤ extB H (rowBd b.W b.n b.d) ((j : Int) - dy) := by
      unfold extB
      split
      · have hk2 : ((j : Int) - dy).toNat < H := by omega
        rw [row_has b W H hWb hHb hnb _ hk2, show ((((j : Int) - dy).toNat : Nat) : Int) = (j : Int) - dy by omega]
        exact cnt_shift_le (fun x => hasB b.W b.H b.d x ((j : Int) - dy)) dx W (fun x hx => by rw [hWb, hHb] at hx; exact (hasB_rng hx).1) W
      · have : cnt (fun i => hasB b.W b.H b.d ((i : Int) - dx) ((j : Int) - dy)) W = 0 := cnt_false fun i _ => by
          cases hv : hasB b.W b.H b.d ((i : Int) - dx) ((j : Int) - dy) with
          | false => rfl
          | true =>
            rw [hWb, hHb] at hv
            have := (hasB_rng hv).2
            omega
        omega
    omega
  · rw [if_neg ho]
    exact h3
/-- Least is at most Slack. -/
theorem least_below (a b : Bp) (x y : Bg) (h : cmpOk a b) : leastN a.W a.H a.n a.d b.W b.H b.n b.d x.lo x.bl x.sh x.st y.lo y.bl y.sh y.st ≤ (slkV a b x y).1 := by
  have hok := h
  obtain ⟨ha, hb, hWb, hHb⟩ := h
  obtain ⟨q0, q1, q2, q3, q4⟩ := okB ha
  obtain ⟨-, -, -, -, r4⟩ := okB hb
  obtain ⟨W, hW⟩ := Int.eq_ofNat_of_zero_le q0
  obtain ⟨H, hH⟩ := Int.eq_ofNat_of_zero_le q2
  have hn : a.n = W * H := by rw [hW, hH] at q4; exact_mod_cast q4
  have hnb : b.n = W * H := by rw [← hWb, ← hHb, hW, hH] at r4; exact_mod_cast r4
  have b1 := lim_bds x
  have b2 := lim_bds y
  have hm := shN_eq x y
  have ht := stN_bd x y q0
  have hkey : ∀ c, c ∈ alL a.W x y → leastN a.W a.H a.n a.d b.W b.H b.n b.d x.lo x.bl x.sh x.st y.lo y.bl y.sh y.st ≤ xsV a b x y c := fun c hc => by
    rw [al_mem2 q0] at hc
    obtain ⟨⟨⟨c1, c2⟩, c3, c4⟩, c5, c6⟩ := hc
    unfold leastN
    have hoN : okN a.W a.H a.n b.W b.H b.n = true := decide_eq_true ⟨ha, hb, hWb, hHb⟩
    rw [if_pos hoN]
    have hst : stripOf a.W (lim x.st 16) (lim y.st 16) = stN a.W x y := rfl
    unfold leastC
    dsimp only
    rw [hst]
    have l1 : leastOf a.W.toNat (lim x.sh 2 + lim y.sh 2) (stN a.W x y) (lG a.W.toNat (colF a.W a.n a.d) (colF a.W a.n b.d) (stN a.W x y) (lim x.lo 200 + lim y.bl 200) (lim y.lo 200 + lim x.bl 200)) ≤ xsV a b x y c := by
      refine Int.le_trans (leastOf_le (p := c.dx) (q := c.col) (show 0 ≤ (lim4 x).sh + (lim4 y).sh by omega) (by omega) (show -((lim4 x).sh + (lim4 y).sh) ≤ c.dx ∧ c.dx ≤ (lim4 x).sh + (lim4 y).sh by omega) (by omega)) ?_
      unfold lG xsV ovN
      dsimp only
      have k1 := exc_le a b c.dx c.dy c.col (c.col + stN a.W x y) W H hW hH hn (by omega) (by omega) hnb
      have k2 := exc_le b a (-c.dx) (-c.dy) (c.col - c.dx) (c.col - c.dx + stN a.W x y) W H (by omega) (by omega) hnb hW hH hn
      rw [hnb, ← hn, ← hWb] at k1 k2
      rw [show a.W.toNat = W by omega]
      show max (_ - ((lim4 x).lo + (lim4 y).bl)) (_ - ((lim4 y).lo + (lim4 x).bl)) ≤ _
      omega
    split
    · exact l1
    · rename_i hz
      have hz0 : stN a.W x y = 0 := by omega
      have l2 : leastOf a.H.toNat (lim x.sh 2 + lim y.sh 2) (stN a.W x y) (lG a.H.toNat (rowBd a.W a.n a.d) (rowBd a.W a.n b.d) (stN a.W x y) (lim x.lo 200 + lim y.bl 200) (lim y.lo 200 + lim x.bl 200)) ≤ xsV a b x y c := by
        refine Int.le_trans (leastOf_le (p := c.dy) (q := -4) (show 0 ≤ (lim4 x).sh + (lim4 y).sh by omega) (by omega) (show -((lim4 x).sh + (lim4 y).sh) ≤ c.dy ∧ c.dy ≤ (lim4 x).sh + (lim4 y).sh by omega) (by omega)) ?_
        unfold lG xsV ovN
        dsimp only
        rw [hz0, Int.add_zero, Int.add_zero, Int.add_zero, Int.add_zero]
        have k1 := exr_le a b c.dx c.dy c.col (-4) (-4) W H hW hH hn (by omega) (by omega) hnb
        have k2 := exr_le b a (-c.dx) (-c.dy) (c.col - c.dx) (-4 - c.dy) (-4 - c.dy) W H (by omega) (by omega) hnb hW hH hn
        rw [hnb, ← hn, ← hWb] at k1 k2
        rw [show a.H.toNat = H by omega]
        show max (_ - ((lim4 x).lo + (lim4 y).bl)) (_ - ((lim4 y).lo + (lim4 x).bl)) ≤ _
        omega
      omega
  unfold slkV
  rw [if_pos hok]
  show _ ≤ lsN (xsV a b x y) (alL a.W x y) ((a.n : Int) + 1)
  have h1 : lsN (xsV a b x y) (alL a.W x y) ((a.n : Int) + 1) ≤ lsN (xsV a b x y) (alL a.W x y) ((a.n : Int) + 1) := Int.le_refl _
  rcases lsN_le.1 h1 with h1 | ⟨c, hc, h1⟩
  · have hc0 : (⟨0, 0, -4⟩ : Cl) ∈ alL a.W x y := (al_mem2 q0).2 ⟨by dsimp only; omega, by dsimp only; omega⟩
    have := hkey _ hc0
    have := (xsV_bd a b x y ⟨0, 0, -4⟩ hok).2
    omega
  · have := hkey c hc
    omega
end Go.Proofs.YtfgcogkhnnflcaaDoor
end
