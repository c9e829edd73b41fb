/- Parts of the proof: A24tp, A24gp, A24sp, A24sh. -/
import Derived.Test.YtijaioiojclooaaG25
import Derived.Test.YtijaioiojclooaaG24
import Derived.Test.YtijaioiojclooaaG23
import Derived.Test.YtijaioiojclooaaG18
import Derived.Test.YtijaioiojclooaaHA24shr03
import Derived.Test.YtijaioiojclooaaHA24shr02
import Derived.Test.YtijaioiojclooaaG04
import Derived.Scope
import Derived.Test.YtijaioiojclooaaG21
import Derived.Test.YtijaioiojclooaaG22
import Derived.Test.YtijaioiojclooaaG09
import Derived.Test.YtijaioiojclooaaG03
import Derived.RangeFuncLeaves
import Derived.RangeFuncRecord
import Derived.Shelf.Abstract
import Derived.Test.YtijaioiojclooaaG02
import Derived.Test.YtijaioiojclooaaG08
import Derived.Test.YtijaioiojclooaaG01
import Derived.Test.YtijaioiojclooaaG20
import Derived.RangeFuncNested
import Derived.Deep.AppendLies
import Derived.OrdersIn
import Derived.TacticsIn
import Derived.RangeFuncCalls
import Derived.Test.YtijaioiojclooaaG17
import Derived.Test.YtijaioiojclooaaHA24shr01
import Derived.Maps.AppendAt
import Derived.OwnWalk
import Derived.Test.YtijaioiojclooaaG19
import Derived.Test.YtijaioiojclooaaProg
import Derived.Test.YtijaioiojclooaaG11
import Derived.Laws.Cover3
import Derived.StillTail
import Derived.Below
import Derived.Deep.Draws
import Derived.WalkKit
import Derived.KernelRfl
import Derived.Test.YtijaioiojclooaaG14
import Derived.Test.YtijaioiojclooaaG16
import Derived.Lib.Hide
import Derived.Deep.QuietTactic
import Derived.BigQuiet
import Derived.Deep.DrawnRows
import Derived.Test.YtijaioiojclooaaG07
import Derived.Laws.StructEq
import Derived.Test.YtijaioiojclooaaG13
import Derived.Test.YtijaioiojclooaaG10
import Derived.Test.YtijaioiojclooaaG12
import Derived.Test.YtijaioiojclooaaG06
import Derived.Test.YtijaioiojclooaaG05
import Derived.Great.BuildSlice
import Derived.Test.YtijaioiojclooaaG15
import Derived.Test.YtijaioiojclooaaG32
import Derived.Test.YtijaioiojclooaaG30
import Derived.Test.YtijaioiojclooaaG29
import Derived.Test.YtijaioiojclooaaG26
import Derived.Test.YtijaioiojclooaaG27
import Derived.Test.YtijaioiojclooaaG28
set_option linter.unusedSimpArgs false
set_option linter.unusedVariables false
section
namespace Go.Proofs.Ytijaioiojclooaa
open Go.RowKit Go.Flow Go.AV Go.Plain
def sh5 : Bool := (List.range 5).all fun m => (List.range (2 * m + 1)).all fun i => (List.range (2 * m + 1)).all fun j => decide ((((i : Int) - m, (j : Int) - m) : Int × Int) ∈ shL m)
theorem sh5_ok : sh5 = true := by decide +kernel
theorem sh5_mem {m : Nat} (hm : m ≤ 4) {d : Int × Int} : d ∈ shL m ↔ (-(m : Int) ≤ d.1 ∧ d.1 ≤ m) ∧ -(m : Int) ≤ d.2 ∧ d.2 ≤ m := by
  constructor
  · intro h
    obtain ⟨j, hj, rfl⟩ := List.getElem_of_mem h
    have := sh_bd hj
    rwa [List.getD_eq_getElem?_getD, List.getElem?_eq_getElem hj] at this
  · rintro ⟨⟨h1, h2⟩, h3, h4⟩
    have h := sh5_ok
    unfold sh5 at h
    have h := List.all_eq_true.1 (List.all_eq_true.1 (List.all_eq_true.1 h m (List.mem_range.2 (by omega))) (d.1 + m).toNat (List.mem_range.2 (by omega))) (d.2 + m).toNat (List.mem_range.2 (by omega))
    have h := of_decide_eq_true h
    rwa [show (((d.1 + m).toNat : Nat) : Int) - m = d.1 by omega, show (((d.2 + m).toNat : Nat) : Int) - m = d.2 by omega] at h
theorem al_mem2 {w : Int} {x y : Bg} {c : Cl} (hw : 0 ≤ w) : c ∈ alL w x y ↔ ((-(shN x y : Int) ≤ c.dx ∧ c.dx ≤ shN x y) ∧ -(shN x y : Int) ≤ c.dy ∧ c.dy ≤ shN x y) ∧ -4 ≤ c.col ∧ c.col ≤ w + 4 - stN w x y := by
  rw [mem_al, sh5_mem (shN_eq x y).2]
  have ht := stN_bd x y hw
  have hM : ((alM w x y : Nat) : Int) = w + 9 - stN w x y := by unfold alM; omega
  constructor
  · rintro ⟨h, i, hi, e⟩
    exact ⟨h, by omega, by omega⟩
  · rintro ⟨h, h1, h2⟩
    exact ⟨h, (c.col + 4).toNat, by omega, by omega⟩
/-- Every component of a budget is at most that of another one. -/
def Bg.le (x y : Bg) : Prop := x.lo ≤ y.lo ∧ x.bl ≤ y.bl ∧ x.sh ≤ y.sh ∧ x.st ≤ y.st
end Go.Proofs.Ytijaioiojclooaa
end

section
namespace Go.Proofs.Ytijaioiojclooaa
open Go.RowKit Go.Flow Go.AV Go.Plain
theorem sum_shift (f : Int → Int) (n c : Nat) (hc : c ≤ 4) (h0 : ∀ y, y < 0 → f y = 0) (h1 : ∀ y : Int, (n : Int) ≤ y → f y = 0) : sumTo (fun j => f ((j : Int) - c)) (n + 4) = sumTo (fun j => f j) n := by
  rw [show n + 4 = c + (n + (4 - c)) by omega, sumTo_split, sumTo_split]
  have e1 : sumTo (fun j => f ((j : Int) - c)) c = 0 := by
    rw [sumTo_congr (g := fun _ => 0) fun k hk => h0 _ (by omega)]
    exact sum_zero c
  have e2 : sumTo (fun k => f (((c + (n + k) : Nat) : Int) - c)) (4 - c) = 0 := by
    rw [sumTo_congr (g := fun _ => 0) fun k hk => h1 _ (by omega)]
    exact sum_zero _
  have e3 : sumTo (fun k => f (((c + k : Nat) : Int) - c)) n = sumTo (fun j => f j) n := sumTo_congr fun k hk => by
    rw [show ((c + k : Nat) : Int) - c = k by omega]
  rw [e1, e3]
  show 0 + (_ + sumTo (fun k => f (((c + (n + k) : Nat) : Int) - c)) (4 - c)) = _
  rw [e2]
  omega
theorem cnt_none24 {q : Nat → Bool} {n : Nat} (h : ∀ k, k < n → q k = false) : cnt q n = 0 := by
  unfold cnt
  rw [sumTo_congr (g := fun _ => 0) fun k hk => if_neg (by rw [h k hk]; decide)]
  exact sum_zero n
theorem cnt_grid (p : Nat → Bool) (W : Nat) : ∀ H : Nat, cnt p (H * W) = sumTo (fun j => cnt (fun i => p (j * W + i)) W) H
  | 0 => by rw [Nat.zero_mul]; rfl
  | H + 1 => by
    rw [Nat.succ_mul]
    show sumTo _ (H * W + W) = _
    rw [sumTo_split]
    show cnt p (H * W) + _ = _
    rw [cnt_grid p W H]
    rfl
/-- Dots of a bitmap, counted over the pixels of an image that shows it at a shift. -/
theorem img_cnt (g : Int → Int → Bool) (W H : Nat) (r s : Int) (hr : -2 ≤ r ∧ r ≤ 2) (hs : -2 ≤ s ∧ s ≤ 2) (hg : ∀ x y, g x y = true → (0 ≤ x ∧ x < W) ∧ 0 ≤ y ∧ y < H) :
    cnt (fun k => g ((k : Int) % ((W : Int) + 4) - 2 - r) ((k : Int) / ((W : Int) + 4) - 2 - s)) ((H + 4) * (W + 4)) = sumTo (fun j => cnt (fun i => g i j) W) H := by
  rw [cnt_grid]
  obtain ⟨c, hc⟩ := Int.eq_ofNat_of_zero_le (show 0 ≤ 2 + r by omega)
  obtain ⟨d, hd⟩ := Int.eq_ofNat_of_zero_le (show 0 ≤ 2 + s by omega)
  have e1 : ∀ j i : Nat, i < W + 4 → g (((j * (W + 4) + i : Nat) : Int) % ((W : Int) + 4) - 2 - r) (((j * (W + 4) + i : Nat) : Int) / ((W : Int) + 4) - 2 - s) = g ((i : Int) - c) ((j : Int) - d) := fun j i hi => by
    have e : ((j * (W + 4) + i : Nat) : Int) = (i : Int) + ((W : Int) + 4) * j := by
      rw [Int.natCast_add, Int.natCast_mul, Int.natCast_add, Int.mul_comm]
      exact Int.add_comm _ _
    rw [e, Int.add_mul_emod_self_left, Int.add_mul_ediv_left _ _ (by omega), Int.emod_eq_of_lt (by omega) (by omega), Int.ediv_eq_zero_of_lt (by omega) (by omega)]
    rw [show (i : Int) - 2 - r = (i : Int) - c by omega, show 0 + (j : Int) - 2 - s = (j : Int) - d by omega]
  have e2 : ∀ j : Nat, cnt (fun i => g (((j * (W + 4) + i : Nat) : Int) % ((W : Int) + 4) - 2 - r) (((j * (W + 4) + i : Nat) : Int) / ((W : Int) + 4) - 2 - s)) (W + 4) = cnt (fun i => g i ((j : Int) - d)) W := fun j => by
    rw [cnt_congr (q := fun i => g ((i : Int) - c) ((j : Int) - d)) fun i hi => e1 j i hi]
    refine sum_shift (fun x => if g x ((j : Int) - d) = true then 1 else 0) W c (by omega) (fun y hy => if_neg fun h => ?_) (fun y hy => if_neg fun h => ?_)
    · have := (hg _ _ h).1; omega
    · have := (hg _ _ h).1; omega
  rw [sum_eq e2]
  refine sum_shift (fun y => cnt (fun i => g i y) W) H d (by omega) (fun y hy => ?_) (fun y hy => ?_)
  · refine cnt_none24 fun i hi => ?_
    cases hgv : g i y with
    | false => rfl
    | true => have := (hg _ _ hgv).2; omega
  · refine cnt_none24 fun i hi => ?_
    cases hgv : g i y with
    | false => rfl
    | true => have := (hg _ _ hgv).2; omega
def onG (a b : Bp) (dx dy fr ti : Int) (x y : Int) : Bool := hasB a.W a.H a.d x y && (decide (x < fr) || decide (ti ≤ x)) && !hasB b.W b.H b.d (x - dx) (y - dy)
theorem only_img (a b : Bp) (dx dy fr ti r s : Int) (W H : Nat) (hW : a.W = W) (hH : a.H = H) (hr : -2 ≤ r ∧ r ≤ 2) (hs : -2 ≤ s ∧ s ≤ 2) :
    onlyN a b dx dy fr ti = cnt (fun k => onG a b dx dy fr ti ((k : Int) % (a.W + 4) - 2 - r) ((k : Int) / (a.W + 4) - 2 - s)) ((H + 4) * (W + 4)) := by
  have := img_cnt (onG a b dx dy fr ti) W H r s hr hs (fun x y h => by
    unfold onG hasB at h
    rw [hW, hH] at h
    by_cases hb : 0 ≤ x ∧ x < (W : Int) ∧ 0 ≤ y ∧ y < (H : Int)
    · omega
    · rw [if_neg hb] at h
      simp at h)
  rw [hW, this]
  unfold onlyN
  rw [hW, hH, Int.toNat_natCast, Int.toNat_natCast]
  rfl
end Go.Proofs.Ytijaioiojclooaa
end

section
namespace Go.Proofs.Ytijaioiojclooaa
open Go.RowKit Go.Flow Go.AV Go.Plain
theorem cm_next {ia ib u : Nat → Bool} {l : Int × Int} {k : Nat} {v : Int} {l' : Int × Int} (h : cmQ (ia k) (ib k) (u k) (cmL ia ib u l k) = (v, l')) : cmP ia ib u l k = v ∧ cmL ia ib u l (k + 1) = l' := by
  refine ⟨?_, ?_⟩
  · show (cmQ _ _ _ _).1 = v
    rw [h]
  · show (cmQ _ _ _ _).2 = l'
    rw [h]
/-- How many pixels are lost, and how many are blots. -/
structure CmI (ia ib u : Nat → Bool) (l : Int × Int) (k : Nat) : Prop where
  a1 : (cmL ia ib u l k).1 = max 0 (l.1 - cnt (fun k => ia k && !ib k && !u k) k)
  b1 : (cmL ia ib u l k).2 = max 0 (l.2 - cnt (fun k => ib k && !ia k && !u k) k)
  a2 : cnt (fun k => decide (cmP ia ib u l k = 0) && ia k) k = l.1 - (cmL ia ib u l k).1
  b2 : cnt (fun k => decide (cmP ia ib u l k = 0) && ib k) k = l.2 - (cmL ia ib u l k).2
  a3 : cnt (fun k => decide (cmP ia ib u l k = 1) && !ia k) k = max 0 (cnt (fun k => ib k && !ia k && !u k) k - l.2)
  b3 : cnt (fun k => decide (cmP ia ib u l k = 1) && !ib k) k = max 0 (cnt (fun k => ia k && !ib k && !u k) k - l.1)
theorem cm_inv (ia ib u : Nat → Bool) (l : Int × Int) (h : 0 ≤ l.1 ∧ 0 ≤ l.2) : ∀ k, CmI ia ib u l k
  | 0 => by
    constructor
    all_goals
      simp only [cnt_zero]
      show _ = _
      first | (show l.1 = _; omega) | (show l.2 = _; omega) | (show (0 : Int) = l.1 - l.1; omega) | (show (0 : Int) = l.2 - l.2; omega) | omega
  | k + 1 => by
    obtain ⟨i1, i2, i3, i4, i5, i6⟩ := cm_inv ia ib u l h k
    have n1 := Go.Plain.cnt_nonneg (fun k => ia k && !ib k && !u k) k
    have n2 := Go.Plain.cnt_nonneg (fun k => ib k && !ia k && !u k) k
    cases hu : u k with
    | true =>
      cases hia : ia k <;> cases hib : ib k
      all_goals
        obtain ⟨e1, e2⟩ := cm_next (ia := ia) (ib := ib) (u := u) (l := l) (k := k) (v := 2) (l' := cmL ia ib u l k) (by rw [hu, hia, hib]; exact rfl)
        constructor
        all_goals
          simp only [cnt_succ, e1, e2, hu, hia, hib]
          simp
          omega
    | false =>
      cases hia : ia k with
      | true =>
        cases hib : ib k with
        | true =>
          obtain ⟨e1, e2⟩ := cm_next (ia := ia) (ib := ib) (u := u) (l := l) (k := k) (v := 1) (l' := cmL ia ib u l k) (by rw [hu, hia, hib]; exact rfl)
          constructor
          all_goals
            simp only [cnt_succ, e1, e2, hu, hia, hib]
            simp
            omega
        | false =>
          by_cases h0 : (cmL ia ib u l k).1 = 0
          · obtain ⟨e1, e2⟩ := cm_next (ia := ia) (ib := ib) (u := u) (l := l) (k := k) (v := 1) (l' := cmL ia ib u l k) (by rw [hu, hia, hib]; exact if_pos h0)
            constructor
            all_goals
              simp only [cnt_succ, e1, e2, hu, hia, hib]
              simp
              omega
          · obtain ⟨e1, e2⟩ := cm_next (ia := ia) (ib := ib) (u := u) (l := l) (k := k) (v := 0) (l' := ((cmL ia ib u l k).1 - 1, (cmL ia ib u l k).2)) (by rw [hu, hia, hib]; exact if_neg h0)
            constructor
            all_goals
              simp only [cnt_succ, e1, e2, hu, hia, hib]
              simp
              omega
      | false =>
        cases hib : ib k with
        | true =>
          by_cases h0 : (cmL ia ib u l k).2 = 0
          · obtain ⟨e1, e2⟩ := cm_next (ia := ia) (ib := ib) (u := u) (l := l) (k := k) (v := 1) (l' := cmL ia ib u l k) (by rw [hu, hia, hib]; exact if_pos h0)
            constructor
            all_goals
              simp only [cnt_succ, e1, e2, hu, hia, hib]
              simp
              omega
          · obtain ⟨e1, e2⟩ := cm_next (ia := ia) (ib := ib) (u := u) (l := l) (k := k) (v := 0) (l' := ((cmL ia ib u l k).1, (cmL ia ib u l k).2 - 1)) (by rw [hu, hia, hib]; exact if_neg h0)
            constructor
            all_goals
              simp only [cnt_succ, e1, e2, hu, hia, hib]
              simp
              omega
        | false =>
          obtain ⟨e1, e2⟩ := cm_next (ia := ia) (ib := ib) (u := u) (l := l) (k := k) (v := 0) (l' := cmL ia ib u l k) (by rw [hu, hia, hib]; exact rfl)
          constructor
          all_goals
            simp only [cnt_succ, e1, e2, hu, hia, hib]
            simp
            omega
theorem cmP_bd (ia ib u : Nat → Bool) (l : Int × Int) (k : Nat) : 0 ≤ cmP ia ib u l k ∧ cmP ia ib u l k ≤ 2 := by
  unfold cmP cmQ
  repeat' split
  all_goals (dsimp only; omega)
theorem cmP_two {ia ib u : Nat → Bool} {l : Int × Int} {k : Nat} (h : cmP ia ib u l k = 2) : u k = true := by
  unfold cmP cmQ at h
  cases hu : u k with
  | true => rfl
  | false =>
    rw [hu] at h
    rw [if_neg (by decide)] at h
    revert h
    repeat' split
    all_goals (intro h; dsimp only at h; omega)
theorem both01 {f g : Nat → Int} {ia : Nat → Bool} (hg : ∀ k, g k = if ia k = true then 1 else 0) (n : Nat) : cnt (bothB 0 1 f g) n = cnt (fun k => decide (f k = 0) && ia k) n := cnt_congr fun k _ => by
  unfold bothB
  rw [hg k, Bool.eq_iff_iff]
  cases ia k <;> simp
theorem both10 {f g : Nat → Int} {ia : Nat → Bool} (hg : ∀ k, g k = if ia k = true then 1 else 0) (n : Nat) : cnt (bothB 1 0 f g) n = cnt (fun k => decide (f k = 1) && !ia k) n := cnt_congr fun k _ => by
  unfold bothB
  rw [hg k, Bool.eq_iff_iff]
  cases ia k <;> simp
theorem win_b {F t i c r : Int} (h : F = c + 2 + r) : (!(decide (F ≤ i) && decide (i < F + t))) = (decide (i - 2 - r < c) || decide (c + t ≤ i - 2 - r)) := by
  by_cases h1 : F ≤ i
  · by_cases h2 : i < F + t
    · rw [decide_eq_true h1, decide_eq_true h2, decide_eq_false (by omega), decide_eq_false (by omega)]; rfl
    · rw [decide_eq_true h1, decide_eq_false h2, decide_eq_true (show c + t ≤ i - 2 - r by omega)]; simp
  · rw [decide_eq_false h1, decide_eq_true (show i - 2 - r < c by omega)]; rfl
theorem cm_fit {a b : Bp} {x y : Bg} {c : Cl} {p : Bp} {r s : Int} (h : cmpOk a b) (hp : chk p.W p.H p.n = 0 ∧ a.W = p.W ∧ a.H = p.H) (hr : -2 ≤ r ∧ r ≤ 2) (hs : -2 ≤ s ∧ s ≤ 2) : fitOk (cmImg a b x y c) p r s := by
  obtain ⟨q0, q1, q2, q3, q4⟩ := okB h.1
  have hN0 : 0 ≤ (a.W + 4) * (a.H + 4) := Int.mul_nonneg (by omega) (by omega)
  refine ⟨?_, ?_, ?_, ?_⟩
  · unfold putE
    rw [if_pos hp.1, if_pos (shiftB_iff.2 ⟨hr.1, hr.2, hs.1, hs.2⟩)]
  · rw [chkI_ok]
    exact ⟨⟨by show 0 ≤ a.W + 4; omega, by show a.W + 4 ≤ 100; omega, by show 0 ≤ a.H + 4; omega, by show a.H + 4 ≤ 100; omega, by show (((((a.W + 4) * (a.H + 4)).toNat : Nat)) : Int) = (a.W + 4) * (a.H + 4); omega⟩, fun k _ => cmP_bd _ _ _ _ _⟩
  · show a.W + 4 = p.W + 4; omega
  · show a.H + 4 = p.H + 4; omega
theorem cm_explains (a b : Bp) (x y : Bg) (c : Cl) (h : cmpOk a b) (hc : c ∈ alL a.W x y) (hx : xsV a b x y c ≤ 0) : (exV (cmImg a b x y c) a x).2 = true ∧ (exV (cmImg a b x y c) b y).2 = true := by
  have hok := h
  obtain ⟨ha, hb, hWb, hHb⟩ := h
  obtain ⟨q0, q1, q2, q3, q4⟩ := okB ha
  obtain ⟨W, hW⟩ := Int.eq_ofNat_of_zero_le q0
  obtain ⟨H, hH⟩ := Int.eq_ofNat_of_zero_le q2
  have b1 := lim_bds x
  have b2 := lim_bds y
  have hm := shN_eq x y
  have hcb := (al_mem2 q0).1 hc
  obtain ⟨⟨⟨c1, c2⟩, c3, c4⟩, c5, c6⟩ := hcb
  obtain ⟨p, hp⟩ : ∃ p, cmp1 y c.dx = p := ⟨_, rfl⟩
  obtain ⟨q, hq⟩ : ∃ q, cmp1 y c.dy = q := ⟨_, rfl⟩
  have hp1 : (-(lim4 y).sh ≤ p ∧ p ≤ (lim4 y).sh) ∧ -(lim4 x).sh ≤ p - c.dx ∧ p - c.dx ≤ (lim4 x).sh := by
    rw [← hp]; unfold cmp1; omega
  have hq1 : (-(lim4 y).sh ≤ q ∧ q ≤ (lim4 y).sh) ∧ -(lim4 x).sh ≤ q - c.dy ∧ q - c.dy ≤ (lim4 x).sh := by
    rw [← hq]; unfold cmp1; omega
  obtain ⟨t, ht⟩ : ∃ t, stN a.W x y = t := ⟨_, rfl⟩
  obtain ⟨ia, hia⟩ : ∃ f, cmIn a a.W (p - c.dx) (q - c.dy) = f := ⟨_, rfl⟩
  obtain ⟨ib, hib⟩ : ∃ f, cmIn b a.W p q = f := ⟨_, rfl⟩
  obtain ⟨u, hu⟩ : ∃ f, cmU a.W (c.col + 2 + (p - c.dx)) (c.col + 2 + (p - c.dx) + t) = f := ⟨_, rfl⟩
  have hf : (cmImg a b x y c).f = cmP ia ib u ((lim4 x).lo, (lim4 y).lo) := by
    show cmPx a b x y c = _
    unfold cmPx
    rw [hp, hq, ht, hia, hib, hu]
  have hn : (cmImg a b x y c).n = (H + 4) * (W + 4) := by
    show ((a.W + 4) * (a.H + 4)).toNat = _
    rw [hW, hH, show ((W : Int) + 4) * ((H : Int) + 4) = (((H + 4) * (W + 4) : Nat) : Int) by rw [Int.natCast_mul, Int.mul_comm]; rfl, Int.toNat_natCast]
  have hI := cm_inv ia ib u ((lim4 x).lo, (lim4 y).lo) ⟨b1.1.1, b2.1.1⟩ ((H + 4) * (W + 4))
  obtain ⟨i1, i2, i3, i4, i5, i6⟩ := hI
  dsimp only at i1 i2 i3 i4 i5 i6
  have o1 : cnt (fun k => ia k && !ib k && !u k) ((H + 4) * (W + 4)) = onlyN a b c.dx c.dy c.col (c.col + t) := by
    rw [only_img a b c.dx c.dy c.col (c.col + t) (p - c.dx) (q - c.dy) W H hW hH (by omega) (by omega)]
    refine cnt_congr fun k _ => ?_
    rw [← hia, ← hib, ← hu]
    unfold onG cmIn cmU
    rw [show (k : Int) % (a.W + 4) - 2 - (p - c.dx) - c.dx = (k : Int) % (a.W + 4) - 2 - p by omega, show (k : Int) / (a.W + 4) - 2 - (q - c.dy) - c.dy = (k : Int) / (a.W + 4) - 2 - q by omega]
    generalize (k : Int) % (a.W + 4) = i
    generalize hasB a.W a.H a.d _ _ = v1
    generalize hasB b.W b.H b.d _ _ = v2
    rw [win_b (r := p - c.dx) (c := c.col) (by omega)]
    cases v1 <;> cases v2 <;> simp
  have o2 : cnt (fun k => ib k && !ia k && !u k) ((H + 4) * (W + 4)) = onlyN b a (-c.dx) (-c.dy) (c.col - c.dx) (c.col - c.dx + t) := by
    rw [only_img b a (-c.dx) (-c.dy) (c.col - c.dx) (c.col - c.dx + t) p q W H (by omega) (by omega) (by omega) (by omega)]
    refine cnt_congr fun k _ => ?_
    rw [← hia, ← hib, ← hu, ← hWb]
    unfold onG cmIn cmU
    rw [show (k : Int) % (a.W + 4) - 2 - p - -c.dx = (k : Int) % (a.W + 4) - 2 - (p - c.dx) by omega, show (k : Int) / (a.W + 4) - 2 - q - -c.dy = (k : Int) / (a.W + 4) - 2 - (q - c.dy) by omega, ← hWb]
    generalize (k : Int) % (a.W + 4) = i
    generalize hasB a.W a.H a.d _ _ = v1
    generalize hasB a.W b.H b.d _ _ = v2
    rw [win_b (r := p) (c := c.col - c.dx) (by omega)]
    cases v1 <;> cases v2 <;> simp
  unfold xsV ovN at hx
  rw [ht, ← o1, ← o2] at hx
  have n1 := Go.Plain.cnt_nonneg (fun k => ia k && !ib k && !u k) ((H + 4) * (W + 4))
  have n2 := Go.Plain.cnt_nonneg (fun k => ib k && !ia k && !u k) ((H + 4) * (W + 4))
  have hga : ∀ k, bpF a (p - c.dx) (q - c.dy) k = if ia k = true then 1 else 0 := fun k => by rw [← hia]; rfl
  have hgb : ∀ k, bpF b p q k = if ib k = true then 1 else 0 := fun k => by rw [← hib]; unfold cmIn bpF putF; rw [hWb]
  refine ⟨ex_iff.2 ⟨(p - c.dx, q - c.dy), ?_, decide_eq_true ⟨cm_fit hok ⟨ha, rfl, rfl⟩ (by omega) (by omega), ?_, ?_⟩⟩, ex_iff.2 ⟨(p, q), ?_, decide_eq_true ⟨cm_fit hok ⟨hb, hWb, hHb⟩ (by omega) (by omega), ?_, ?_⟩⟩⟩
  · exact (sh5_mem (by omega)).2 (by dsimp only; omega)
  · unfold fitN
    rw [if_pos (cm_fit hok ⟨ha, rfl, rfl⟩ (by omega) (by omega)), hf, hn, both01 hga]
    omega
  · unfold fitN
    rw [if_pos (cm_fit hok ⟨ha, rfl, rfl⟩ (by omega) (by omega)), hf, hn, both10 hga]
    omega
  · exact (sh5_mem (by omega)).2 (by dsimp only; omega)
  · unfold fitN
    rw [if_pos (cm_fit hok ⟨hb, hWb, hHb⟩ (by omega) (by omega)), hf, hn, both01 hgb]
    omega
  · unfold fitN
    rw [if_pos (cm_fit hok ⟨hb, hWb, hHb⟩ (by omega) (by omega)), hf, hn, both10 hgb]
    omega
/-- How many columns have unknown pixels. -/
def tornS (p : Ip) (i : Nat) : Nat → Bool
  | 0 => false
  | j + 1 => tornS p i j || (decide ((i : Int) + (j : Int) * p.W < p.n) && decide (p.f ((i : Int) + (j : Int) * p.W).toNat = 2))
def tornN (p : Ip) : Int := cnt (fun i => tornS p i p.H.toNat) p.W.toNat
theorem cnt_few (F : Int) (t n : Nat) : cnt (fun i => decide (F ≤ (i : Int)) && decide ((i : Int) < F + t)) n ≤ t := by
  have h := cnt_win (fun _ => true) F t n
  have e : cnt (inW (fun _ => true) F t) n = cnt (fun i => decide (F ≤ (i : Int)) && decide ((i : Int) < F + t)) n := cnt_congr fun i _ => by unfold inW; rw [Bool.true_and]
  rw [e.symm.trans h.symm]
  refine Int.le_trans (sumTo_le (g := fun _ => 1) fun k _ => ?_) ?_
  · split <;> omega
  · rw [sumTo_const]
    omega
theorem torn_cm (a b : Bp) (x y : Bg) (c : Cl) (h : chk a.W a.H a.n = 0) : tornN (cmImg a b x y c) ≤ stN a.W x y := by
  obtain ⟨q0, q1, q2, q3, q4⟩ := okB h
  obtain ⟨t, ht⟩ := Int.eq_ofNat_of_zero_le (stN_bd x y q0).1
  obtain ⟨W, hW⟩ := Int.eq_ofNat_of_zero_le q0
  rw [ht]
  obtain ⟨F, hF⟩ : ∃ F, c.col + 2 + (cmp1 y c.dx - c.dx) = F := ⟨_, rfl⟩
  refine Int.le_trans (cnt_mono (q := fun i => decide (F ≤ (i : Int)) && decide ((i : Int) < F + t)) fun i hi h1 => ?_) (cnt_few F t _)
  have hi2 : i < W + 4 := by
    have : (cmImg a b x y c).W.toNat = W + 4 := by show (a.W + 4).toNat = _; omega
    omega
  have key : ∀ m, tornS (cmImg a b x y c) i m = true → F ≤ (i : Int) ∧ (i : Int) < F + t := fun m => by
    induction m with
    | zero => intro h; cases h
    | succ j ih =>
      intro h
      unfold tornS at h
      rw [Bool.or_eq_true, Bool.and_eq_true] at h
      rcases h with h | ⟨-, h⟩
      · exact ih h
      · have h2 := cmP_two (of_decide_eq_true h)
        unfold cmU at h2
        rw [hF, ht, Bool.and_eq_true] at h2
        have e : (((i : Int) + (j : Int) * (a.W + 4)).toNat : Int) % (a.W + 4) = i := by
          have hp : 0 ≤ (j : Int) * (a.W + 4) := Int.mul_nonneg (by omega) (by omega)
          rw [Int.toNat_of_nonneg (by omega), Int.add_mul_emod_self_right, Int.emod_eq_of_lt (by omega) (by omega)]
        rw [show (cmImg a b x y c).W = a.W + 4 from rfl, e] at h2
        exact ⟨of_decide_eq_true h2.1, of_decide_eq_true h2.2⟩
  obtain ⟨k1, k2⟩ := key _ h1
  rw [Bool.and_eq_true]
  exact ⟨decide_eq_true k1, decide_eq_true k2⟩
end Go.Proofs.Ytijaioiojclooaa
end

section
namespace Go.Proofs.Ytijaioiojclooaa
open Go.RowKit Go.Flow Go.AV Go.Plain
theorem cnt_one24 (p : Nat → Bool) (i : Nat) : cnt p (i + 1) = if p i = true then cnt p i + 1 else cnt p i := by
  rw [cnt_succ]
  split <;> omega
set_option maxHeartbeats 1000000 in
set_option maxRecDepth 100000 in
theorem torn_A (p : Ip) (Wn Hn : Nat) (hW : p.W = Wn) (hH : p.H = Hn) (hWb : Wn ≤ 100) (hHb : Hn ≤ 100) (hn : p.n ≤ 100000) : ACalls Try.prog 23 [.ag (ipC p)] (.c (iC (tornN p))) := by
  have hT : tornN p = cnt (fun i => tornS p i Hn) Wn := by unfold tornN; rw [hW, hH, Int.toNat_natCast, Int.toNat_natCast]
  rw [hT]
  have hcb : ∀ i : Nat, i ≤ 100 → 0 ≤ cnt (fun i => tornS p i Hn) i ∧ cnt (fun i => tornS p i Hn) i ≤ 100 := fun i hi => by
    have h1 := Go.Plain.cnt_nonneg (fun i => tornS p i Hn) i
    have h2 := cnt_le (fun i => tornS p i Hn) i
    omega
  refine acalls_at Try.func23 rfl rfl Try.ntmps23 rfl ?_
  repeat (first
    | refine AWp.seq ?_
    | refine thenA_n ?_
    | refine AWp.block ?_
    | (refine AWp.region (id := 0) ?_; refine AList.box rfl rfl rfl rfl rfl ?_; refine AList.assign rfl rfl rfl ?_; refine AList.nil ?_)
    | (refine AWp.region (id := 1) ?_; refine AList.assign rfl rfl rfl ?_; refine AList.nil ?_)
    | (refine AWp.region (id := 2) ?_; refine AList.assign rfl rfl rfl ?_; refine AList.nil ?_))
  refine AWp.round (fun i : Nat => mkSt 49 [(1, .c (.pt 1 3 0 0)), (3, .c (iC (cnt (fun i => tornS p i Hn) i))), (4, .c (iC i))] [(1, ⟨false, 1, 3, 52, lF (ipC p)⟩)] [1])
    (fun i => i ≤ Wn) (fun i => Wn - i) 0 (Nat.zero_le _) ?_ (fun i hi => ?_)
  · refine Wk.mk [(1, some 1)] rfl rfl rfl ?_ ?_
    · repeat (first | exact trivial | refine ⟨⟨_, rfl, by first | exact LeA.c (LeC.refl _ rfl) | exact LeA.c (LeC.ow _ _ rfl) | exact LeA.c (LeC.pt _ _ _ _ _ rfl) | exact LeA.c (LeC.nil _ rfl) | exact LeA.c (LeC.nils _ _) | (refine LeA.int ?_; omega) | (refine LeA.int ?_; dsimp only; omega) | exact LeA.c (LeC.fz rfl rfl (by first | rfl | omega) (fun i _ j _ => ⟨rfl, by first | rfl | exact rowN_imm (fun _ => rfl) _ i j | exact rowF_imm (fun _ => rfl) _ i j⟩))⟩, ?_⟩)
    · repeat (first | exact trivial | refine ⟨by first | exact HeapOk.same rfl rfl rfl rfl | exact HeapOk.lent rfl rfl rfl rfl | exact HeapOk.nil rfl rfl | exact HeapOk.row rfl rfl (by first | rfl | omega) (fun i _ j _ => ⟨rfl, by first | rfl | exact rowN_imm (fun _ => rfl) _ i j | exact rowF_imm (fun _ => rfl) _ i j⟩) | exact HeapOk.box rfl rfl (by repeat (first | exact trivial | refine ⟨by first | exact LeC.refl _ rfl | exact LeC.ow _ _ rfl | exact LeC.nil _ rfl | exact LeC.nils _ _ | exact LeC.fz rfl rfl (by first | rfl | omega) (fun i _ j _ => ⟨rfl, by first | rfl | exact rowN_imm (fun _ => rfl) _ i j | exact rowF_imm (fun _ => rfl) _ i j⟩) | exact LeC.int (by omega), ?_⟩)) rfl, ?_⟩)
  · by_cases hiW : i < Wn
    · have hci := hcb i (by omega)
      have hsu := cnt_one24 (fun i => tornS p i Hn) i
      generalize cnt (fun i => tornS p i Hn) i = ci at *
      repeat (first
        | refine AWp.seq ?_
        | refine thenA_n ?_
        | refine AWp.block ?_
        | refine AWp.skip ?_
        | refine AWp.condT rfl (by first | rfl | assumption | exact cmT) ?_
        | (refine AWp.region (id := 3) ?_; refine AList.move rfl rfl rfl ?_; refine AList.fieldPt tyOk rfl rfl rfl rfl rfl rfl rfl ?_; refine AList.load1 tyOk rfl rfl rfl rfl rfl rfl rfl oM oM ?_; refine AList.cmpT rfl rfl rfl rfl rfl cmT ?_; refine AList.nil ?_)
        | (refine AWp.region (id := 5) ?_; refine AList.assign rfl rfl rfl ?_; refine AList.nil ?_)
        | (refine AWp.region (id := 6) ?_; refine AList.assign rfl rfl rfl ?_; refine AList.nil ?_))
      refine AWp.round (fun j : Nat => mkSt 49 [(1, .c (.pt 1 3 0 0)), (3, .c (iC ci)), (4, .c (iC i)), (5, .c (bC (tornS p i j))), (6, .c (iC j))] [(1, ⟨false, 1, 3, 52, lF (ipC p)⟩)] [1])
        (fun j => j ≤ Hn) (fun j => Hn - j) 0 (Nat.zero_le _) ?_ (fun j hj => ?_)
      · refine Wk.mk [(1, some 1)] rfl rfl rfl ?_ ?_
        · repeat (first | exact trivial | refine ⟨⟨_, rfl, by first | exact LeA.c (LeC.refl _ rfl) | exact LeA.c (LeC.ow _ _ rfl) | exact LeA.c (LeC.pt _ _ _ _ _ rfl) | exact LeA.c (LeC.nil _ rfl) | exact LeA.c (LeC.nils _ _) | (refine LeA.int ?_; omega) | (refine LeA.int ?_; dsimp only; omega) | exact LeA.c (LeC.fz rfl rfl (by first | rfl | omega) (fun i _ j _ => ⟨rfl, by first | rfl | exact rowN_imm (fun _ => rfl) _ i j | exact rowF_imm (fun _ => rfl) _ i j⟩))⟩, ?_⟩)
        · repeat (first | exact trivial | refine ⟨by first | exact HeapOk.same rfl rfl rfl rfl | exact HeapOk.lent rfl rfl rfl rfl | exact HeapOk.nil rfl rfl | exact HeapOk.row rfl rfl (by first | rfl | omega) (fun i _ j _ => ⟨rfl, by first | rfl | exact rowN_imm (fun _ => rfl) _ i j | exact rowF_imm (fun _ => rfl) _ i j⟩) | exact HeapOk.box rfl rfl (by repeat (first | exact trivial | refine ⟨by first | exact LeC.refl _ rfl | exact LeC.ow _ _ rfl | exact LeC.nil _ rfl | exact LeC.nils _ _ | exact LeC.fz rfl rfl (by first | rfl | omega) (fun i _ j _ => ⟨rfl, by first | rfl | exact rowN_imm (fun _ => rfl) _ i j | exact rowF_imm (fun _ => rfl) _ i j⟩) | exact LeC.int (by omega), ?_⟩)) rfl, ?_⟩)
      · by_cases hjH : j < Hn
        · have hs1 : tornS p i (j + 1) = (tornS p i j || (decide ((i : Int) + (j : Int) * p.W < p.n) && decide (p.f ((i : Int) + (j : Int) * p.W).toNat = 2))) := rfl
          have hmb : (j : Int) * p.W ≤ 100 * 100 := Int.mul_le_mul (by omega) (by omega) (by omega) (by omega)
          have hm0 : 0 ≤ (j : Int) * p.W := Int.mul_nonneg (by omega) (by omega)
          cases ht : tornS p i j with
          | true =>
            rw [ht, Bool.true_or] at hs1
            repeat (first
              | refine AWp.seq ?_
              | refine thenA_n ?_
              | refine AWp.block ?_
              | refine AWp.skip ?_
              | refine inBlk_n ?_
              | refine AWp.condT rfl (by first | rfl | assumption | exact cmT) ?_
              | (refine AWp.region (id := 7) ?_; refine AList.move rfl rfl rfl ?_; refine AList.fieldPt tyOk rfl rfl rfl rfl rfl rfl rfl ?_; refine AList.load1 tyOk rfl rfl rfl rfl rfl rfl rfl oM oM ?_; refine AList.cmpT rfl rfl rfl rfl rfl cmT ?_; refine AList.nil ?_)
              | (refine AWp.region (id := 8) ?_; refine AList.move rfl rfl rfl ?_; refine AList.add rfl rfl rfl rfl (by omega) (by omega) ?_; refine AList.assign rfl rfl rfl ?_; refine AList.nil ?_)
              | (refine AWp.region (id := 9) ?_; refine AList.move rfl rfl rfl ?_; refine AList.move rfl rfl rfl ?_; refine AList.skip rfl rfl ?_; refine AList.skip rfl rfl ?_; refine AList.skip rfl rfl ?_; refine AList.skip rfl rfl ?_; refine AList.skip rfl rfl ?_; refine AList.skip rfl rfl ?_; refine AList.skip rfl rfl ?_; refine AList.skip rfl rfl ?_; refine AList.skip rfl rfl ?_; refine AList.skip rfl rfl ?_; refine AList.skip rfl rfl ?_; refine AList.skip rfl rfl ?_; refine AList.skip rfl rfl ?_; refine AList.skip rfl rfl ?_; refine AList.skip rfl rfl ?_; refine AList.skip rfl rfl ?_; refine AList.skip rfl rfl ?_; refine AList.skip rfl rfl ?_; refine AList.skip rfl rfl ?_; refine AList.skip rfl rfl ?_; refine AList.skip rfl rfl ?_; refine AList.skip rfl rfl ?_; refine AList.skip rfl rfl ?_; refine AList.pickT rfl rfl rfl rfl ?_; refine AList.assign rfl rfl rfl ?_; refine AList.nil ?_))
            refine ⟨j + 1, hjH, Wk.mk [(1, some 1)] rfl rfl rfl ?_ ?_, by omega⟩
            · rw [hs1]
              repeat (first | exact trivial | refine ⟨⟨_, rfl, by first | exact LeA.c (LeC.refl _ rfl) | exact LeA.c (LeC.ow _ _ rfl) | exact LeA.c (LeC.pt _ _ _ _ _ rfl) | exact LeA.c (LeC.nil _ rfl) | exact LeA.c (LeC.nils _ _) | (refine LeA.int ?_; omega) | (refine LeA.int ?_; dsimp only; omega) | exact LeA.c (LeC.fz rfl rfl (by first | rfl | omega) (fun i _ j _ => ⟨rfl, by first | rfl | exact rowN_imm (fun _ => rfl) _ i j | exact rowF_imm (fun _ => rfl) _ i j⟩))⟩, ?_⟩)
            · repeat (first | exact trivial | refine ⟨by first | exact HeapOk.same rfl rfl rfl rfl | exact HeapOk.lent rfl rfl rfl rfl | exact HeapOk.nil rfl rfl | exact HeapOk.row rfl rfl (by first | rfl | omega) (fun i _ j _ => ⟨rfl, by first | rfl | exact rowN_imm (fun _ => rfl) _ i j | exact rowF_imm (fun _ => rfl) _ i j⟩) | exact HeapOk.box rfl rfl (by repeat (first | exact trivial | refine ⟨by first | exact LeC.refl _ rfl | exact LeC.ow _ _ rfl | exact LeC.nil _ rfl | exact LeC.nils _ _ | exact LeC.fz rfl rfl (by first | rfl | omega) (fun i _ j _ => ⟨rfl, by first | rfl | exact rowN_imm (fun _ => rfl) _ i j | exact rowF_imm (fun _ => rfl) _ i j⟩) | exact LeC.int (by omega), ?_⟩)) rfl, ?_⟩)
          | false =>
            rw [ht, Bool.false_or] at hs1
            obtain ⟨k, hk⟩ := Int.eq_ofNat_of_zero_le (show 0 ≤ (i : Int) + (j : Int) * p.W by omega)
            rw [hk, Int.toNat_natCast] at hs1
            by_cases h1 : (k : Int) < p.n
            · rw [decide_eq_true h1, Bool.true_and] at hs1
              by_cases h2 : p.f k = 2
              · rw [decide_eq_true h2] at hs1
                repeat (first
                  | refine AWp.seq ?_
                  | refine thenA_n ?_
                  | refine AWp.block ?_
                  | refine AWp.skip ?_
                  | refine inBlk_n ?_
                  | refine AWp.condT rfl (by first | rfl | assumption | exact cmT) ?_
                  | (refine AWp.region (id := 7) ?_; refine AList.move rfl rfl rfl ?_; refine AList.fieldPt tyOk rfl rfl rfl rfl rfl rfl rfl ?_; refine AList.load1 tyOk rfl rfl rfl rfl rfl rfl rfl oM oM ?_; refine AList.cmpT rfl rfl rfl rfl rfl cmT ?_; refine AList.nil ?_)
                  | (refine AWp.region (id := 8) ?_; refine AList.move rfl rfl rfl ?_; refine AList.add rfl rfl rfl rfl (by omega) (by omega) ?_; refine AList.assign rfl rfl rfl ?_; refine AList.nil ?_)
                  | (refine AWp.region (id := 9) ?_; refine AList.move rfl rfl rfl ?_; refine AList.move rfl rfl rfl ?_; refine AList.move rfl rfl rfl ?_; refine AList.move rfl rfl rfl ?_; refine AList.fieldPt tyOk rfl rfl rfl rfl rfl rfl rfl ?_; refine AList.load1 tyOk rfl rfl rfl rfl rfl rfl rfl oM oM ?_; refine AList.mul rfl rfl rfl rfl (by omega) (by omega) ?_; refine AList.add rfl rfl rfl rfl (by omega) (by omega) ?_; refine AList.fieldPt tyOk rfl rfl rfl rfl rfl rfl rfl ?_; refine AList.load1 tyOk rfl rfl rfl rfl rfl rfl rfl oM oM ?_; refine AList.lenLs tyOk rfl rfl rfl rfl rfl ?_; refine AList.cmpT rfl rfl rfl rfl rfl cmT ?_; refine AList.move rfl rfl rfl ?_; refine AList.fieldPt tyOk rfl rfl rfl rfl rfl rfl rfl ?_; refine AList.load1 tyOk rfl rfl rfl rfl rfl rfl rfl oM oM ?_; refine AList.move rfl rfl rfl ?_; refine AList.move rfl rfl rfl ?_; refine AList.fieldPt tyOk rfl rfl rfl rfl rfl rfl rfl ?_; refine AList.load1 tyOk rfl rfl rfl rfl rfl rfl rfl oM oM ?_; refine AList.mul rfl rfl rfl rfl (by omega) (by omega) ?_; refine AList.add rfl rfl rfl rfl (by omega) (by omega) ?_; refine AList.idx (k := k) tyOk rfl rfl rfl rfl rfl rfl rfl rfl (by first | rfl | omega) oM oM ?_; refine AList.load1l tyOk rfl rfl rfl rfl rfl oM ?_; refine AList.cmpT rfl rfl rfl rfl rfl cmT ?_; refine AList.pickT rfl rfl rfl rfl ?_; refine AList.pickF rfl rfl rfl rfl ?_; refine AList.assign rfl rfl rfl ?_; refine AList.nil ?_))
                refine ⟨j + 1, hjH, Wk.mk [(1, some 1)] rfl rfl rfl ?_ ?_, by omega⟩
                · rw [hs1]
                  repeat (first | exact trivial | refine ⟨⟨_, rfl, by first | exact LeA.c (LeC.refl _ rfl) | exact LeA.c (LeC.ow _ _ rfl) | exact LeA.c (LeC.pt _ _ _ _ _ rfl) | exact LeA.c (LeC.nil _ rfl) | exact LeA.c (LeC.nils _ _) | (refine LeA.int ?_; omega) | (refine LeA.int ?_; dsimp only; omega) | exact LeA.c (LeC.fz rfl rfl (by first | rfl | omega) (fun i _ j _ => ⟨rfl, by first | rfl | exact rowN_imm (fun _ => rfl) _ i j | exact rowF_imm (fun _ => rfl) _ i j⟩))⟩, ?_⟩)
                · repeat (first | exact trivial | refine ⟨by first | exact HeapOk.same rfl rfl rfl rfl | exact HeapOk.lent rfl rfl rfl rfl | exact HeapOk.nil rfl rfl | exact HeapOk.row rfl rfl (by first | rfl | omega) (fun i _ j _ => ⟨rfl, by first | rfl | exact rowN_imm (fun _ => rfl) _ i j | exact rowF_imm (fun _ => rfl) _ i j⟩) | exact HeapOk.box rfl rfl (by repeat (first | exact trivial | refine ⟨by first | exact LeC.refl _ rfl | exact LeC.ow _ _ rfl | exact LeC.nil _ rfl | exact LeC.nils _ _ | exact LeC.fz rfl rfl (by first | rfl | omega) (fun i _ j _ => ⟨rfl, by first | rfl | exact rowN_imm (fun _ => rfl) _ i j | exact rowF_imm (fun _ => rfl) _ i j⟩) | exact LeC.int (by omega), ?_⟩)) rfl, ?_⟩)
              · rw [decide_eq_false h2] at hs1
                repeat (first
                  | refine AWp.seq ?_
                  | refine thenA_n ?_
                  | refine AWp.block ?_
                  | refine AWp.skip ?_
                  | refine inBlk_n ?_
                  | refine AWp.condT rfl (by first | rfl | assumption | exact cmT) ?_
                  | (refine AWp.region (id := 7) ?_; refine AList.move rfl rfl rfl ?_; refine AList.fieldPt tyOk rfl rfl rfl rfl rfl rfl rfl ?_; refine AList.load1 tyOk rfl rfl rfl rfl rfl rfl rfl oM oM ?_; refine AList.cmpT rfl rfl rfl rfl rfl cmT ?_; refine AList.nil ?_)
                  | (refine AWp.region (id := 8) ?_; refine AList.move rfl rfl rfl ?_; refine AList.add rfl rfl rfl rfl (by omega) (by omega) ?_; refine AList.assign rfl rfl rfl ?_; refine AList.nil ?_)
                  | (refine AWp.region (id := 9) ?_; refine AList.move rfl rfl rfl ?_; refine AList.move rfl rfl rfl ?_; refine AList.move rfl rfl rfl ?_; refine AList.move rfl rfl rfl ?_; refine AList.fieldPt tyOk rfl rfl rfl rfl rfl rfl rfl ?_; refine AList.load1 tyOk rfl rfl rfl rfl rfl rfl rfl oM oM ?_; refine AList.mul rfl rfl rfl rfl (by omega) (by omega) ?_; refine AList.add rfl rfl rfl rfl (by omega) (by omega) ?_; refine AList.fieldPt tyOk rfl rfl rfl rfl rfl rfl rfl ?_; refine AList.load1 tyOk rfl rfl rfl rfl rfl rfl rfl oM oM ?_; refine AList.lenLs tyOk rfl rfl rfl rfl rfl ?_; refine AList.cmpT rfl rfl rfl rfl rfl cmT ?_; refine AList.move rfl rfl rfl ?_; refine AList.fieldPt tyOk rfl rfl rfl rfl rfl rfl rfl ?_; refine AList.load1 tyOk rfl rfl rfl rfl rfl rfl rfl oM oM ?_; refine AList.move rfl rfl rfl ?_; refine AList.move rfl rfl rfl ?_; refine AList.fieldPt tyOk rfl rfl rfl rfl rfl rfl rfl ?_; refine AList.load1 tyOk rfl rfl rfl rfl rfl rfl rfl oM oM ?_; refine AList.mul rfl rfl rfl rfl (by omega) (by omega) ?_; refine AList.add rfl rfl rfl rfl (by omega) (by omega) ?_; refine AList.idx (k := k) tyOk rfl rfl rfl rfl rfl rfl rfl rfl (by first | rfl | omega) oM oM ?_; refine AList.load1l tyOk rfl rfl rfl rfl rfl oM ?_; refine AList.cmpF rfl rfl rfl rfl rfl cmF ?_; refine AList.pickT rfl rfl rfl rfl ?_; refine AList.pickF rfl rfl rfl rfl ?_; refine AList.assign rfl rfl rfl ?_; refine AList.nil ?_))
                refine ⟨j + 1, hjH, Wk.mk [(1, some 1)] rfl rfl rfl ?_ ?_, by omega⟩
                · rw [hs1]
                  repeat (first | exact trivial | refine ⟨⟨_, rfl, by first | exact LeA.c (LeC.refl _ rfl) | exact LeA.c (LeC.ow _ _ rfl) | exact LeA.c (LeC.pt _ _ _ _ _ rfl) | exact LeA.c (LeC.nil _ rfl) | exact LeA.c (LeC.nils _ _) | (refine LeA.int ?_; omega) | (refine LeA.int ?_; dsimp only; omega) | exact LeA.c (LeC.fz rfl rfl (by first | rfl | omega) (fun i _ j _ => ⟨rfl, by first | rfl | exact rowN_imm (fun _ => rfl) _ i j | exact rowF_imm (fun _ => rfl) _ i j⟩))⟩, ?_⟩)
                · repeat (first | exact trivial | refine ⟨by first | exact HeapOk.same rfl rfl rfl rfl | exact HeapOk.lent rfl rfl rfl rfl | exact HeapOk.nil rfl rfl | exact HeapOk.row rfl rfl (by first | rfl | omega) (fun i _ j _ => ⟨rfl, by first | rfl | exact rowN_imm (fun _ => rfl) _ i j | exact rowF_imm (fun _ => rfl) _ i j⟩) | exact HeapOk.box rfl rfl (by repeat (first | exact trivial | refine ⟨by first | exact LeC.refl _ rfl | exact LeC.ow _ _ rfl | exact LeC.nil _ rfl | exact LeC.nils _ _ | exact LeC.fz rfl rfl (by first | rfl | omega) (fun i _ j _ => ⟨rfl, by first | rfl | exact rowN_imm (fun _ => rfl) _ i j | exact rowF_imm (fun _ => rfl) _ i j⟩) | exact LeC.int (by omega), ?_⟩)) rfl, ?_⟩)
            · rw [decide_eq_false h1, Bool.false_and] at hs1
              repeat (first
                | refine AWp.seq ?_
                | refine thenA_n ?_
                | refine AWp.block ?_
                | refine AWp.skip ?_
                | refine inBlk_n ?_
                | refine AWp.condT rfl (by first | rfl | assumption | exact cmT) ?_
                | (refine AWp.region (id := 7) ?_; refine AList.move rfl rfl rfl ?_; refine AList.fieldPt tyOk rfl rfl rfl rfl rfl rfl rfl ?_; refine AList.load1 tyOk rfl rfl rfl rfl rfl rfl rfl oM oM ?_; refine AList.cmpT rfl rfl rfl rfl rfl cmT ?_; refine AList.nil ?_)
                | (refine AWp.region (id := 8) ?_; refine AList.move rfl rfl rfl ?_; refine AList.add rfl rfl rfl rfl (by omega) (by omega) ?_; refine AList.assign rfl rfl rfl ?_; refine AList.nil ?_)
                | (refine AWp.region (id := 9) ?_; refine AList.move rfl rfl rfl ?_; refine AList.move rfl rfl rfl ?_; refine AList.move rfl rfl rfl ?_; refine AList.move rfl rfl rfl ?_; refine AList.fieldPt tyOk rfl rfl rfl rfl rfl rfl rfl ?_; refine AList.load1 tyOk rfl rfl rfl rfl rfl rfl rfl oM oM ?_; refine AList.mul rfl rfl rfl rfl (by omega) (by omega) ?_; refine AList.add rfl rfl rfl rfl (by omega) (by omega) ?_; refine AList.fieldPt tyOk rfl rfl rfl rfl rfl rfl rfl ?_; refine AList.load1 tyOk rfl rfl rfl rfl rfl rfl rfl oM oM ?_; refine AList.lenLs tyOk rfl rfl rfl rfl rfl ?_; refine AList.cmpF rfl rfl rfl rfl rfl cmF ?_; refine AList.move rfl rfl rfl ?_; refine AList.skip rfl rfl ?_; refine AList.skip rfl rfl ?_; refine AList.skip rfl rfl ?_; refine AList.skip rfl rfl ?_; refine AList.skip rfl rfl ?_; refine AList.skip rfl rfl ?_; refine AList.skip rfl rfl ?_; refine AList.skip rfl rfl ?_; refine AList.skip rfl rfl ?_; refine AList.skip rfl rfl ?_; refine AList.skip rfl rfl ?_; refine AList.pickF rfl rfl rfl rfl ?_; refine AList.pickF rfl rfl rfl rfl ?_; refine AList.assign rfl rfl rfl ?_; refine AList.nil ?_))
              refine ⟨j + 1, hjH, Wk.mk [(1, some 1)] rfl rfl rfl ?_ ?_, by omega⟩
              · rw [hs1]
                repeat (first | exact trivial | refine ⟨⟨_, rfl, by first | exact LeA.c (LeC.refl _ rfl) | exact LeA.c (LeC.ow _ _ rfl) | exact LeA.c (LeC.pt _ _ _ _ _ rfl) | exact LeA.c (LeC.nil _ rfl) | exact LeA.c (LeC.nils _ _) | (refine LeA.int ?_; omega) | (refine LeA.int ?_; dsimp only; omega) | exact LeA.c (LeC.fz rfl rfl (by first | rfl | omega) (fun i _ j _ => ⟨rfl, by first | rfl | exact rowN_imm (fun _ => rfl) _ i j | exact rowF_imm (fun _ => rfl) _ i j⟩))⟩, ?_⟩)
              · repeat (first | exact trivial | refine ⟨by first | exact HeapOk.same rfl rfl rfl rfl | exact HeapOk.lent rfl rfl rfl rfl | exact HeapOk.nil rfl rfl | exact HeapOk.row rfl rfl (by first | rfl | omega) (fun i _ j _ => ⟨rfl, by first | rfl | exact rowN_imm (fun _ => rfl) _ i j | exact rowF_imm (fun _ => rfl) _ i j⟩) | exact HeapOk.box rfl rfl (by repeat (first | exact trivial | refine ⟨by first | exact LeC.refl _ rfl | exact LeC.ow _ _ rfl | exact LeC.nil _ rfl | exact LeC.nils _ _ | exact LeC.fz rfl rfl (by first | rfl | omega) (fun i _ j _ => ⟨rfl, by first | rfl | exact rowN_imm (fun _ => rfl) _ i j | exact rowF_imm (fun _ => rfl) _ i j⟩) | exact LeC.int (by omega), ?_⟩)) rfl, ?_⟩)
        · obtain rfl : j = Hn := by omega
          cases ht : tornS p i j with
          | true =>
            rw [if_pos ht] at hsu
            repeat (first
              | refine AWp.seq ?_
              | refine thenA_n ?_
              | refine AWp.exit ?_
              | refine inBlk_n ?_
              | refine AWp.condT rfl (by first | rfl | assumption | exact cmT) ?_
              | refine AWp.condF rfl (by first | rfl | assumption | exact cmF) ?_
              | (refine AWp.region (id := 4) ?_; refine AList.move rfl rfl rfl ?_; refine AList.add rfl rfl rfl rfl (by omega) (by omega) ?_; refine AList.assign rfl rfl rfl ?_; refine AList.nil ?_)
              | (refine AWp.region (id := 7) ?_; refine AList.move rfl rfl rfl ?_; refine AList.fieldPt tyOk rfl rfl rfl rfl rfl rfl rfl ?_; refine AList.load1 tyOk rfl rfl rfl rfl rfl rfl rfl oM oM ?_; refine AList.cmpF rfl rfl rfl rfl rfl cmF ?_; refine AList.nil ?_)
              | (refine AWp.region (id := 10) ?_; refine AList.move rfl rfl rfl ?_; refine AList.nil ?_)
              | (refine AWp.region (id := 11) ?_; refine AList.move rfl rfl rfl ?_; refine AList.add rfl rfl rfl rfl (by omega) (by omega) ?_; refine AList.assign rfl rfl rfl ?_; refine AList.nil ?_))
            refine ⟨i + 1, hiW, Wk.mk [(1, some 1)] rfl rfl rfl ?_ ?_, by omega⟩
            · rw [hsu]
              repeat (first | exact trivial | refine ⟨⟨_, rfl, by first | exact LeA.c (LeC.refl _ rfl) | exact LeA.c (LeC.ow _ _ rfl) | exact LeA.c (LeC.pt _ _ _ _ _ rfl) | exact LeA.c (LeC.nil _ rfl) | exact LeA.c (LeC.nils _ _) | (refine LeA.int ?_; omega) | (refine LeA.int ?_; dsimp only; omega) | exact LeA.c (LeC.fz rfl rfl (by first | rfl | omega) (fun i _ j _ => ⟨rfl, by first | rfl | exact rowN_imm (fun _ => rfl) _ i j | exact rowF_imm (fun _ => rfl) _ i j⟩))⟩, ?_⟩)
            · repeat (first | exact trivial | refine ⟨by first | exact HeapOk.same rfl rfl rfl rfl | exact HeapOk.lent rfl rfl rfl rfl | exact HeapOk.nil rfl rfl | exact HeapOk.row rfl rfl (by first | rfl | omega) (fun i _ j _ => ⟨rfl, by first | rfl | exact rowN_imm (fun _ => rfl) _ i j | exact rowF_imm (fun _ => rfl) _ i j⟩) | exact HeapOk.box rfl rfl (by repeat (first | exact trivial | refine ⟨by first | exact LeC.refl _ rfl | exact LeC.ow _ _ rfl | exact LeC.nil _ rfl | exact LeC.nils _ _ | exact LeC.fz rfl rfl (by first | rfl | omega) (fun i _ j _ => ⟨rfl, by first | rfl | exact rowN_imm (fun _ => rfl) _ i j | exact rowF_imm (fun _ => rfl) _ i j⟩) | exact LeC.int (by omega), ?_⟩)) rfl, ?_⟩)
          | false =>
            rw [if_neg (by rw [ht]; decide)] at hsu
            repeat (first
              | refine AWp.seq ?_
              | refine thenA_n ?_
              | refine AWp.skip ?_
              | refine AWp.exit ?_
              | refine inBlk_n ?_
              | refine AWp.condF rfl (by first | rfl | assumption | exact cmF) ?_
              | (refine AWp.region (id := 4) ?_; refine AList.move rfl rfl rfl ?_; refine AList.add rfl rfl rfl rfl (by omega) (by omega) ?_; refine AList.assign rfl rfl rfl ?_; refine AList.nil ?_)
              | (refine AWp.region (id := 7) ?_; refine AList.move rfl rfl rfl ?_; refine AList.fieldPt tyOk rfl rfl rfl rfl rfl rfl rfl ?_; refine AList.load1 tyOk rfl rfl rfl rfl rfl rfl rfl oM oM ?_; refine AList.cmpF rfl rfl rfl rfl rfl cmF ?_; refine AList.nil ?_)
              | (refine AWp.region (id := 10) ?_; refine AList.move rfl rfl rfl ?_; refine AList.nil ?_))
            refine ⟨i + 1, hiW, Wk.mk [(1, some 1)] rfl rfl rfl ?_ ?_, by omega⟩
            · rw [hsu]
              repeat (first | exact trivial | refine ⟨⟨_, rfl, by first | exact LeA.c (LeC.refl _ rfl) | exact LeA.c (LeC.ow _ _ rfl) | exact LeA.c (LeC.pt _ _ _ _ _ rfl) | exact LeA.c (LeC.nil _ rfl) | exact LeA.c (LeC.nils _ _) | (refine LeA.int ?_; omega) | (refine LeA.int ?_; dsimp only; omega) | exact LeA.c (LeC.fz rfl rfl (by first | rfl | omega) (fun i _ j _ => ⟨rfl, by first | rfl | exact rowN_imm (fun _ => rfl) _ i j | exact rowF_imm (fun _ => rfl) _ i j⟩))⟩, ?_⟩)
            · repeat (first | exact trivial | refine ⟨by first | exact HeapOk.same rfl rfl rfl rfl | exact HeapOk.lent rfl rfl rfl rfl | exact HeapOk.nil rfl rfl | exact HeapOk.row rfl rfl (by first | rfl | omega) (fun i _ j _ => ⟨rfl, by first | rfl | exact rowN_imm (fun _ => rfl) _ i j | exact rowF_imm (fun _ => rfl) _ i j⟩) | exact HeapOk.box rfl rfl (by repeat (first | exact trivial | refine ⟨by first | exact LeC.refl _ rfl | exact LeC.ow _ _ rfl | exact LeC.nil _ rfl | exact LeC.nils _ _ | exact LeC.fz rfl rfl (by first | rfl | omega) (fun i _ j _ => ⟨rfl, by first | rfl | exact rowN_imm (fun _ => rfl) _ i j | exact rowF_imm (fun _ => rfl) _ i j⟩) | exact LeC.int (by omega), ?_⟩)) rfl, ?_⟩)
    · obtain rfl : i = Wn := by omega
      repeat (first
        | refine AWp.seq ?_
        | refine thenA_n ?_
        | refine AWp.exit ?_
        | refine AWp.ret ?_
        | refine AWp.condF rfl (by first | rfl | assumption | exact cmF) ?_
        | (refine AWp.region (id := 3) ?_; refine AList.move rfl rfl rfl ?_; refine AList.fieldPt tyOk rfl rfl rfl rfl rfl rfl rfl ?_; refine AList.load1 tyOk rfl rfl rfl rfl rfl rfl rfl oM oM ?_; refine AList.cmpF rfl rfl rfl rfl rfl cmF ?_; refine AList.nil ?_)
        | (refine AWp.region (id := 12) ?_; refine AList.move rfl rfl rfl ?_; refine AList.assign rfl rfl rfl ?_; refine AList.nil ?_))
      refine ⟨mkSt 49 [(2, .c (iC (cnt (fun k => tornS p k Hn) i)))] [] [], [], Wk.mk [] rfl rfl rfl ?_ trivial, rfl, rfl, ARets.one (x := .c _) (ARes.tmp rfl rfl)⟩
      repeat (first | exact trivial | refine ⟨⟨_, rfl, by first | exact LeA.c (LeC.refl _ rfl) | exact LeA.c (LeC.ow _ _ rfl) | exact LeA.c (LeC.pt _ _ _ _ _ rfl) | exact LeA.c (LeC.nil _ rfl) | exact LeA.c (LeC.nils _ _) | (refine LeA.int ?_; omega) | (refine LeA.int ?_; dsimp only; omega) | exact LeA.c (LeC.fz rfl rfl (by first | rfl | omega) (fun i _ j _ => ⟨rfl, by first | rfl | exact rowN_imm (fun _ => rfl) _ i j | exact rowF_imm (fun _ => rfl) _ i j⟩))⟩, ?_⟩)
theorem cnf_in {a b : Bp} {x y : Bg} {c : Cl} (h : cnfV a b x y = (c, true)) : cmpOk a b ∧ c ∈ alL a.W x y ∧ xsV a b x y c ≤ 0 := by
  unfold cnfV at h
  by_cases hok : cmpOk a b
  · rw [if_pos hok] at h
    unfold cnfR at h
    cases hf : (alL a.W x y).find? (hitC a b x y) with
    | none => rw [hf] at h; cases h
    | some d =>
      rw [hf] at h
      obtain rfl : d = c := (Prod.mk.inj h).1
      exact ⟨hok, List.mem_of_find?_eq_some hf, of_decide_eq_true (show decide (xsV a b x y d ≤ 0) = true from (show hitC a b x y d = true from List.find?_some hf))⟩
  · rw [if_neg hok] at h
    cases h
theorem cnf_out {a b : Bp} {x y : Bg} {c : Cl} (h : cnfV a b x y = (c, false)) : c = clZ := by
  unfold cnfV at h
  by_cases hok : cmpOk a b
  · rw [if_pos hok] at h
    unfold cnfR at h
    cases hf : (alL a.W x y).find? (hitC a b x y) with
    | none => rw [hf] at h; exact (Prod.mk.inj h).1.symm
    | some d => rw [hf] at h; cases h
  · rw [if_neg hok] at h
    exact (Prod.mk.inj h).1.symm
theorem cmV_hit {a b : Bp} {x y : Bg} {c : Cl} (h : cmpOk a b) (hc : c ∈ alL a.W x y) (hx : xsV a b x y c ≤ 0) : cmV a b x y c = (cmImg a b x y c, 0) := by
  have hi : isB a b x y c = true := by unfold isB; rw [decide_eq_true hc, decide_eq_true hx]; rfl
  unfold cmV
  rw [if_neg (fun g => g h.1), if_neg (fun g => g h.2.1), if_neg (fun g => g h), if_pos hi]
set_option maxHeartbeats 2000000 in
set_option maxRecDepth 100000 in
theorem ApartShares_A (c : Ca) (hc : c.ok) : ECalls Try.prog 7 [.ag (caC c)] (fun v => v = .c (bC true)) := by
  have hM := made24_A c hc
  have hb := ma_cmp c
  have hab := ma_bd c
  have hxb := bgN_bd c.nX c.fX
  have hyb := bgN_bd c.nY c.fY
  rw [show bgN c.nX c.fX = maX c from rfl] at hxb
  rw [show bgN c.nY c.fY = maY c from rfl] at hyb
  generalize maA c = a at *
  generalize maB c = b at *
  generalize maX c = x at *
  generalize maY c = y at *
  have hC := Confused_A a b x y
  obtain ⟨V, hV⟩ : ∃ V, cnfV a b x y = V := ⟨_, rfl⟩
  rw [hV] at hC
  obtain ⟨d, is⟩ := V
  have hK := Common_A a b x y d
  refine ecalls_at Try.func7 rfl rfl Try.ntmps7 rfl ?_
  cases is with
  | false =>
    obtain rfl := cnf_out hV
    have qc : ∀ w, (Go.binOp .eql 40 _ _).run Try.prog w = .ok (.bool true) w := fun w => (cl_eq clZ clZ w).trans (by rw [decide_eq_true rfl])
    generalize cmV a b x y clZ = im at *
    repeat (first
      | refine AWp.seq ?_
      | refine thenA_n ?_
      | refine AWp.ret ?_
      | refine thenA_r ?_
      | refine AWp.condT rfl (by first | rfl | assumption | exact cmT) ?_
      | (refine AWp.region (id := 0) ?_; refine AList.box rfl rfl rfl rfl rfl ?_; refine AList.assign rfl rfl rfl ?_; refine AList.nil ?_)
      | (refine AWp.region (id := 1) ?_; refine AList.call rfl rfl rfl rfl Try.func9 rfl (by kernel_rfl) (sanity24_A) ?_; refine AList.assign rfl rfl rfl ?_; refine AList.nil ?_)
      | (refine AWp.region (id := 2) ?_; refine AList.loadA tyOk rfl rfl rfl rfl rfl rfl rfl oM oM ?_; refine AList.call rfl rfl rfl rfl Try.func10 rfl (by kernel_rfl) (hM) ?_; refine AList.move rfl rfl rfl ?_; refine AList.extract rfl rfl rfl rfl ?_; refine AList.extract rfl rfl rfl rfl ?_; refine AList.extract rfl rfl rfl rfl ?_; refine AList.extract rfl rfl rfl rfl ?_; refine AList.alloc tyOk rfl rfl rfl rfl rfl ?_; refine AList.alloc tyOk rfl rfl rfl rfl rfl ?_; refine AList.alloc tyOk rfl rfl rfl rfl rfl ?_; refine AList.alloc tyOk rfl rfl rfl rfl rfl ?_; refine AList.store tyOk rfl rfl rfl rfl rfl rfl rfl rfl oM oM ?_; refine AList.store tyOk rfl rfl rfl rfl rfl rfl rfl rfl oM oM ?_; refine AList.store tyOk rfl rfl rfl rfl rfl rfl rfl rfl oM oM ?_; refine AList.store tyOk rfl rfl rfl rfl rfl rfl rfl rfl oM oM ?_; refine AList.nil ?_)
      | (refine AWp.region (id := 3) ?_; refine AList.loadA tyOk rfl rfl rfl rfl rfl rfl rfl oM oM ?_; refine AList.loadA tyOk rfl rfl rfl rfl rfl rfl rfl oM oM ?_; refine AList.loadA tyOk rfl rfl rfl rfl rfl rfl rfl oM oM ?_; refine AList.loadA tyOk rfl rfl rfl rfl rfl rfl rfl oM oM ?_; refine AList.call rfl rfl rfl rfl Try.func13 rfl (by kernel_rfl) (hC) ?_; refine AList.move rfl rfl rfl ?_; refine AList.extract rfl rfl rfl rfl ?_; refine AList.extract rfl rfl rfl rfl ?_; refine AList.alloc tyOk rfl rfl rfl rfl rfl ?_; refine AList.store tyOk rfl rfl rfl rfl rfl rfl rfl rfl oM oM ?_; refine AList.assign rfl rfl rfl ?_; refine AList.nil ?_)
      | (refine AWp.region (id := 4) ?_; refine AList.loadA tyOk rfl rfl rfl rfl rfl rfl rfl oM oM ?_; refine AList.loadA tyOk rfl rfl rfl rfl rfl rfl rfl oM oM ?_; refine AList.loadA tyOk rfl rfl rfl rfl rfl rfl rfl oM oM ?_; refine AList.loadA tyOk rfl rfl rfl rfl rfl rfl rfl oM oM ?_; refine AList.loadA tyOk rfl rfl rfl rfl rfl rfl rfl oM oM ?_; refine AList.call rfl rfl rfl rfl Try.func19 rfl (by kernel_rfl) (hK) ?_; refine AList.move rfl rfl rfl ?_; refine AList.extract rfl rfl rfl rfl ?_; refine AList.extract rfl rfl rfl rfl ?_; refine AList.alloc tyOk rfl rfl rfl rfl rfl ?_; refine AList.store tyOk rfl rfl rfl rfl rfl rfl rfl rfl oM oM ?_; refine AList.assign rfl rfl rfl ?_; refine AList.nil ?_)
      | (refine AWp.region (id := 5) ?_; refine AList.move rfl rfl rfl ?_; refine AList.notB rfl rfl rfl ?_; refine AList.nil ?_)
      | (refine AWp.region (id := 6) ?_; refine AList.move rfl rfl rfl ?_; refine AList.move rfl rfl rfl ?_; refine AList.loadA tyOk rfl rfl rfl rfl rfl rfl rfl oM oM ?_; refine AList.buildSt tyOk rfl rfl rfl rfl rfl rfl rfl rfl ?_; refine AList.binAg rfl rfl rfl rfl rfl rfl (by kernel_rfl) (qc) ?_; refine AList.pickT rfl rfl rfl rfl ?_; refine AList.assign rfl rfl rfl ?_; refine AList.nil ?_))
    refine ⟨_, rfl, ?_⟩
    refine ⟨mkSt 84 [(2, .c (bC true))] [] [], [], Wk.mk [] rfl rfl rfl ?_ trivial, rfl, rfl, ARets.one (x := .c _) (ARes.tmp rfl rfl)⟩
    repeat (first | exact trivial | refine ⟨⟨_, rfl, by first | exact LeA.c (LeC.refl _ rfl) | exact LeA.c (LeC.ow _ _ rfl) | exact LeA.c (LeC.pt _ _ _ _ _ rfl) | exact LeA.c (LeC.nil _ rfl) | exact LeA.c (LeC.nils _ _) | (refine LeA.int ?_; omega) | (refine LeA.int ?_; dsimp only; omega) | exact LeA.c (LeC.fz rfl rfl (by first | rfl | omega) (fun i _ j _ => ⟨rfl, by first | rfl | exact rowN_imm (fun _ => rfl) _ i j | exact rowF_imm (fun _ => rfl) _ i j⟩))⟩, ?_⟩)
  | true =>
    obtain ⟨hok, hcm, hx⟩ := cnf_in hV
    rw [cmV_hit hok hcm hx] at hK
    obtain ⟨q0, q1, q2, q3, q4⟩ := okB hok.1
    have hn0 : (cmImg a b x y d).n ≤ 100000 := by
      show ((a.W + 4) * (a.H + 4)).toNat ≤ 100000
      have := Int.mul_le_mul (show a.W + 4 ≤ 100 by omega) (show a.H + 4 ≤ 100 by omega) (by omega) (by omega)
      omega
    obtain ⟨e1, e2⟩ := cm_explains a b x y d hok hcm hx
    have ht := torn_cm a b x y d hok.1
    have hst : stN a.W x y ≤ max x.st y.st := by unfold stN lim4 lim1; dsimp only; omega
    obtain ⟨Wn, hWn⟩ := Int.eq_ofNat_of_zero_le (show 0 ≤ a.W + 4 by omega)
    obtain ⟨Hn, hHn⟩ := Int.eq_ofNat_of_zero_le (show 0 ≤ a.H + 4 by omega)
    have hTo := torn_A (cmImg a b x y d) Wn Hn hWn hHn (by omega) (by omega) hn0
    have hE1 := pExplains_A (cmImg a b x y d) a x (by omega)
    have hE2 := pExplains_A (cmImg a b x y d) b y (by omega)
    rw [e1] at hE1
    rw [e2] at hE2
    have htn : 0 ≤ tornN (cmImg a b x y d) := Go.Plain.cnt_nonneg _ _
    generalize (exV (cmImg a b x y d) a x).1 = v1 at *
    generalize (exV (cmImg a b x y d) b y).1 = v2 at *
    have hle : tornN (cmImg a b x y d) ≤ max x.st y.st := by omega
    generalize tornN (cmImg a b x y d) = tn at *
    generalize cmImg a b x y d = im at *
    repeat (first
      | refine AWp.seq ?_
      | refine thenA_n ?_
      | refine AWp.skip ?_
      | refine AWp.ret ?_
      | refine AWp.condF rfl (by first | rfl | assumption | exact cmF) ?_
      | (refine AWp.region (id := 0) ?_; refine AList.box rfl rfl rfl rfl rfl ?_; refine AList.assign rfl rfl rfl ?_; refine AList.nil ?_)
      | (refine AWp.region (id := 1) ?_; refine AList.call rfl rfl rfl rfl Try.func9 rfl (by kernel_rfl) (sanity24_A) ?_; refine AList.assign rfl rfl rfl ?_; refine AList.nil ?_)
      | (refine AWp.region (id := 2) ?_; refine AList.loadA tyOk rfl rfl rfl rfl rfl rfl rfl oM oM ?_; refine AList.call rfl rfl rfl rfl Try.func10 rfl (by kernel_rfl) (hM) ?_; refine AList.move rfl rfl rfl ?_; refine AList.extract rfl rfl rfl rfl ?_; refine AList.extract rfl rfl rfl rfl ?_; refine AList.extract rfl rfl rfl rfl ?_; refine AList.extract rfl rfl rfl rfl ?_; refine AList.alloc tyOk rfl rfl rfl rfl rfl ?_; refine AList.alloc tyOk rfl rfl rfl rfl rfl ?_; refine AList.alloc tyOk rfl rfl rfl rfl rfl ?_; refine AList.alloc tyOk rfl rfl rfl rfl rfl ?_; refine AList.store tyOk rfl rfl rfl rfl rfl rfl rfl rfl oM oM ?_; refine AList.store tyOk rfl rfl rfl rfl rfl rfl rfl rfl oM oM ?_; refine AList.store tyOk rfl rfl rfl rfl rfl rfl rfl rfl oM oM ?_; refine AList.store tyOk rfl rfl rfl rfl rfl rfl rfl rfl oM oM ?_; refine AList.nil ?_)
      | (refine AWp.region (id := 3) ?_; refine AList.loadA tyOk rfl rfl rfl rfl rfl rfl rfl oM oM ?_; refine AList.loadA tyOk rfl rfl rfl rfl rfl rfl rfl oM oM ?_; refine AList.loadA tyOk rfl rfl rfl rfl rfl rfl rfl oM oM ?_; refine AList.loadA tyOk rfl rfl rfl rfl rfl rfl rfl oM oM ?_; refine AList.call rfl rfl rfl rfl Try.func13 rfl (by kernel_rfl) (hC) ?_; refine AList.move rfl rfl rfl ?_; refine AList.extract rfl rfl rfl rfl ?_; refine AList.extract rfl rfl rfl rfl ?_; refine AList.alloc tyOk rfl rfl rfl rfl rfl ?_; refine AList.store tyOk rfl rfl rfl rfl rfl rfl rfl rfl oM oM ?_; refine AList.assign rfl rfl rfl ?_; refine AList.nil ?_)
      | (refine AWp.region (id := 4) ?_; refine AList.loadA tyOk rfl rfl rfl rfl rfl rfl rfl oM oM ?_; refine AList.loadA tyOk rfl rfl rfl rfl rfl rfl rfl oM oM ?_; refine AList.loadA tyOk rfl rfl rfl rfl rfl rfl rfl oM oM ?_; refine AList.loadA tyOk rfl rfl rfl rfl rfl rfl rfl oM oM ?_; refine AList.loadA tyOk rfl rfl rfl rfl rfl rfl rfl oM oM ?_; refine AList.call rfl rfl rfl rfl Try.func19 rfl (by kernel_rfl) (hK) ?_; refine AList.move rfl rfl rfl ?_; refine AList.extract rfl rfl rfl rfl ?_; refine AList.extract rfl rfl rfl rfl ?_; refine AList.alloc tyOk rfl rfl rfl rfl rfl ?_; refine AList.store tyOk rfl rfl rfl rfl rfl rfl rfl rfl oM oM ?_; refine AList.assign rfl rfl rfl ?_; refine AList.nil ?_)
      | (refine AWp.region (id := 5) ?_; refine AList.move rfl rfl rfl ?_; refine AList.notB rfl rfl rfl ?_; refine AList.nil ?_)
      | (refine AWp.region (id := 7) ?_; refine AList.loadA tyOk rfl rfl rfl rfl rfl rfl rfl oM oM ?_; refine AList.loadA tyOk rfl rfl rfl rfl rfl rfl rfl oM oM ?_; refine AList.loadA tyOk rfl rfl rfl rfl rfl rfl rfl oM oM ?_; refine AList.call rfl rfl rfl rfl Try.func22 rfl (by kernel_rfl) (hE1) ?_; refine AList.move rfl rfl rfl ?_; refine AList.extract rfl rfl rfl rfl ?_; refine AList.extract rfl rfl rfl rfl ?_; refine AList.alloc tyOk rfl rfl rfl rfl rfl ?_; refine AList.store tyOk rfl rfl rfl rfl rfl rfl rfl rfl oM oM ?_; refine AList.assign rfl rfl rfl ?_; refine AList.nil ?_)
      | (refine AWp.region (id := 8) ?_; refine AList.loadA tyOk rfl rfl rfl rfl rfl rfl rfl oM oM ?_; refine AList.loadA tyOk rfl rfl rfl rfl rfl rfl rfl oM oM ?_; refine AList.loadA tyOk rfl rfl rfl rfl rfl rfl rfl oM oM ?_; refine AList.call rfl rfl rfl rfl Try.func22 rfl (by kernel_rfl) (hE2) ?_; refine AList.move rfl rfl rfl ?_; refine AList.extract rfl rfl rfl rfl ?_; refine AList.extract rfl rfl rfl rfl ?_; refine AList.alloc tyOk rfl rfl rfl rfl rfl ?_; refine AList.store tyOk rfl rfl rfl rfl rfl rfl rfl rfl oM oM ?_; refine AList.assign rfl rfl rfl ?_; refine AList.nil ?_)
      | (refine AWp.draw (id := 9) mixed ?_; refine AList.move rfl rfl rfl ?_; refine AList.move rfl rfl rfl ?_; refine AList.move rfl rfl rfl ?_; refine AList.cmpT rfl rfl rfl rfl rfl (by simp only [cmpP, eq_self, decide_true]) ?_; refine AList.pickT rfl rfl rfl rfl ?_; refine AList.move rfl rfl rfl ?_; refine AList.move rfl rfl rfl ?_; refine AList.pickT rfl rfl rfl rfl ?_; refine AList.move rfl rfl rfl ?_; refine AList.move rfl rfl rfl ?_; refine AList.pickT rfl rfl rfl rfl ?_; refine AList.move rfl rfl rfl ?_; refine AList.loadA tyOk rfl rfl rfl rfl rfl rfl rfl oM oM ?_; refine AList.call rfl rfl rfl rfl Try.func23 rfl (by kernel_rfl) (hTo) ?_; refine AList.fieldPt tyOk rfl rfl rfl rfl rfl rfl rfl ?_; refine AList.load1 tyOk rfl rfl rfl rfl rfl rfl rfl oM oM ?_; refine AList.fieldPt tyOk rfl rfl rfl rfl rfl rfl rfl ?_; refine AList.load1 tyOk rfl rfl rfl rfl rfl rfl rfl oM oM ?_; refine AList.maxI rfl rfl rfl rfl ?_; refine AList.cmpT rfl rfl rfl rfl rfl cmT ?_; refine AList.pickT rfl rfl rfl rfl ?_; refine AList.assign rfl rfl rfl ?_; refine AList.nil ⟨by kernel_rfl, ?_⟩))
    refine ⟨_, rfl, ?_⟩
    refine ⟨mkSt 84 [(2, .c (bC true))] [] [], [], Wk.mk [] rfl rfl rfl ?_ trivial, rfl, rfl, ARets.one (x := .c _) (ARes.tmp rfl rfl)⟩
    repeat (first | exact trivial | refine ⟨⟨_, rfl, by first | exact LeA.c (LeC.refl _ rfl) | exact LeA.c (LeC.ow _ _ rfl) | exact LeA.c (LeC.pt _ _ _ _ _ rfl) | exact LeA.c (LeC.nil _ rfl) | exact LeA.c (LeC.nils _ _) | (refine LeA.int ?_; omega) | (refine LeA.int ?_; dsimp only; omega) | exact LeA.c (LeC.fz rfl rfl (by first | rfl | omega) (fun i _ j _ => ⟨rfl, by first | rfl | exact rowN_imm (fun _ => rfl) _ i j | exact rowF_imm (fun _ => rfl) _ i j⟩))⟩, ?_⟩)
end Go.Proofs.Ytijaioiojclooaa
end
