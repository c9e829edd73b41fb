/- Parts of the proof: A23y, A23wa. -/
import Derived.Test.YtclaanggpcjnbaaG26
import Derived.Test.YtclaanggpcjnbaaG32
import Derived.Test.YtclaanggpcjnbaaG33
set_option linter.unusedSimpArgs false
set_option linter.unusedVariables false
section
/- Chapter 23: the plain laws behind DamageTheorem and DamageGrows. No condition. -/
namespace Go.Proofs.Ytclaanggpcjnbaa
open Go.RowKit Go.Flow Go.AV Go.Plain
theorem cnt_nonneg (q : Nat → Bool) (n : Nat) : 0 ≤ cnt q n := sumTo_nonneg fun k _ => by split <;> omega
theorem cnt_none {q : Nat → Bool} {n : Nat} (h : ∀ k, k < n → q k = false) : cnt q n = 0 := by
  induction n with
  | zero => rfl
  | succ n ih => rw [cnt_succ, ih fun k hk => h k (by omega), h n (by omega)]; rfl
/-- One index more. -/
theorem cnt_but (q : Nat → Bool) (a : Nat) : ∀ n, cnt q n ≤ cnt (fun p => q p && !(Nat.beq p a)) n + (if a < n then 1 else 0)
  | 0 => by simp [cnt, sumTo]
  | n + 1 => by
    rw [cnt_succ, cnt_succ]
    have ih := cnt_but q a n
    by_cases h : n = a
    · subst h
      rw [if_pos (by omega : n < n + 1)]
      rw [if_neg (by omega : ¬ n < n)] at ih
      rw [show Nat.beq n n = true from Nat.beq_refl n]
      cases q n <;> simp <;> omega
    · rw [show Nat.beq n a = false from Bool.eq_false_iff.2 fun e => h (Nat.eq_of_beq_eq_true e)]
      have : (if a < n + 1 then (1 : Int) else 0) = if a < n then 1 else 0 := by split <;> split <;> omega
      rw [this]
      cases q n <;> simp <;> omega
/-- What holds at N indices at most. -/
theorem cnt_idx : ∀ (N : Nat) (q : Nat → Bool) (g : Nat → Nat) (n : Nat), (∀ p, p < n → q p = true → ∃ i, i < N ∧ g i = p) → cnt q n ≤ N
  | 0, q, g, n, h => by
    rw [cnt_none fun k hk => by
      cases hq : q k with
      | false => rfl
      | true => obtain ⟨i, hi, _⟩ := h k hk hq; omega]
    exact Int.le_refl _
  | N + 1, q, g, n, h => by
    have h1 := cnt_but q (g N) n
    have h2 := cnt_idx N (fun p => q p && !(Nat.beq p (g N))) g n fun p hp hq => by
      rw [Bool.and_eq_true, Bool.not_eq_true'] at hq
      obtain ⟨i, hi, rfl⟩ := h p hp hq.1
      refine ⟨i, ?_, rfl⟩
      by_cases e : i = N
      · subst e
        rw [show Nat.beq (g i) (g i) = true from Nat.beq_refl _] at hq
        cases hq.2
      · omega
    have : (if g N < n then (1 : Int) else 0) ≤ 1 := by split <;> omega
    have : ((N + 1 : Nat) : Int) = (N : Int) + 1 := by omega
    omega
theorem setL_in {px l : Nat → Int} {v : Int} {p : Nat} : ∀ {N : Nat}, setL px l v N p ≠ px p → ∃ i, i < N ∧ (l i).toNat = p
  | 0, h => absurd rfl h
  | N + 1, h => by
    by_cases e : p = (l N).toNat
    · exact ⟨N, by omega, e.symm⟩
    · have h' : setL px l v N p ≠ px p := by
        have : setL px l v (N + 1) p = setL px l v N p := if_neg e
        rw [this] at h
        exact h
      obtain ⟨i, hi, h2⟩ := setL_in h'
      exact ⟨i, by omega, h2⟩
theorem setL_val {px l : Nat → Int} {v : Int} {p : Nat} : ∀ {N : Nat}, setL px l v N p = px p ∨ setL px l v N p = v
  | 0 => .inl rfl
  | N + 1 => by
    by_cases e : p = (l N).toNat
    · exact .inr (if_pos e)
    · have : setL px l v (N + 1) p = setL px l v N p := if_neg e
      rw [this]
      exact setL_val
/-- The image of damage that fits. -/
abbrev apP (b : Bp) (h : Ht) : Ip := ⟨b.W + 4, b.H + 4, bpm b, apF b h⟩
theorem ap_fit {b : Bp} {h : Ht} (he : apE b h = 0) : fitOk (apP b h) b h.dx h.dy := by
  obtain ⟨h1, -, h3, h4⟩ := apE_ok he
  have hc : chk b.W b.H b.n = 0 := by
    unfold putE at h1
    split at h1
    · assumption
    · rename_i h; exact absurd h1 h
  obtain ⟨k1, k2, k3, k4, -⟩ := okB hc
  refine ⟨h1, chkI_ok.2 ⟨?_, ?_⟩, rfl, rfl⟩
  · have hm : 0 ≤ (b.W + 4) * (b.H + 4) := Int.mul_nonneg (by omega) (by omega)
    refine ⟨?_, ?_, ?_, ?_, ?_⟩
    all_goals first | (show (0 : Int) ≤ b.W + 4; omega) | (show b.W + 4 ≤ 100; omega) | (show (0 : Int) ≤ b.H + 4; omega) | (show b.H + 4 ≤ 100; omega) | (show ((bpm b : Nat) : Int) = (b.W + 4) * (b.H + 4); exact Int.toNat_of_nonneg hm)
  · intro k _
    have := setL_bd (px := setL (bpx b h) h.lo 0 h.N) (l := h.bl) (v := 1) (by omega) (setL_bd (l := h.lo) (v := 0) (by omega) (putF_bd b.W b.H b.d h.dx h.dy) h.N) h.M k
    show 0 ≤ hideF _ _ _ _ k ∧ hideF _ _ _ _ k ≤ 2
    unfold hideF
    split <;> omega
theorem ap_lost {b : Bp} {h : Ht} (he : apE b h = 0) : fitN (apP b h) b h.dx h.dy 0 1 ≤ h.N := by
  unfold fitN
  rw [if_pos (ap_fit he)]
  refine cnt_idx h.N _ (fun i => (h.lo i).toNat) _ fun p _ hq => ?_
  unfold bothB at hq
  rw [Bool.and_eq_true, beq_iff_eq, beq_iff_eq] at hq
  obtain ⟨q1, q2⟩ := hq
  have q1' : hideF (b.W + 4) (setL (setL (bpx b h) h.lo 0 h.N) h.bl 1 h.M) h.fr h.ti p = 0 := q1
  have q2' : bpx b h p = 1 := q2
  unfold hideF at q1'
  split at q1'
  · omega
  · refine setL_in (px := bpx b h) (v := 0) fun e => ?_
    rcases setL_val (px := setL (bpx b h) h.lo 0 h.N) (l := h.bl) (v := 1) (N := h.M) (p := p) with h1 | h1
    · rw [q1', e, q2'] at h1; omega
    · rw [q1'] at h1; omega
theorem ap_blot {b : Bp} {h : Ht} (he : apE b h = 0) : fitN (apP b h) b h.dx h.dy 1 0 ≤ h.M := by
  unfold fitN
  rw [if_pos (ap_fit he)]
  refine cnt_idx h.M _ (fun i => (h.bl i).toNat) _ fun p _ hq => ?_
  unfold bothB at hq
  rw [Bool.and_eq_true, beq_iff_eq, beq_iff_eq] at hq
  obtain ⟨q1, q2⟩ := hq
  have q1' : hideF (b.W + 4) (setL (setL (bpx b h) h.lo 0 h.N) h.bl 1 h.M) h.fr h.ti p = 1 := q1
  have q2' : bpx b h p = 0 := q2
  unfold hideF at q1'
  split at q1'
  · omega
  · refine setL_in (px := setL (bpx b h) h.lo 0 h.N) (v := 1) fun e => ?_
    rcases setL_val (px := bpx b h) (l := h.lo) (v := 0) (N := h.N) (p := p) with h1 | h1
    · rw [← e, q1', q2'] at h1; omega
    · rw [← e, q1'] at h1; omega
/-- All shifts are there. -/
def shAll (m : Nat) : Bool := (List.range 5).all fun i => (List.range 5).all fun j => decide (((i : Int) - 2 ≤ m ∧ -((i : Int) - 2) ≤ m ∧ (j : Int) - 2 ≤ m ∧ -((j : Int) - 2) ≤ m) → ((i : Int) - 2, (j : Int) - 2) ∈ shL m)
theorem shAll_ok (m : Nat) (hm : m ≤ 2) : shAll m = true := by
  obtain rfl | rfl | rfl : m = 0 ∨ m = 1 ∨ m = 2 := by omega
  all_goals decide +kernel
theorem sh_mem {m : Nat} (hm : m ≤ 2) {dx dy : Int} (h1 : dx ≤ m) (h2 : -dx ≤ m) (h3 : dy ≤ m) (h4 : -dy ≤ m) : (dx, dy) ∈ shL m := by
  have h := List.all_eq_true.1 (List.all_eq_true.1 (shAll_ok m hm) (dx + 2).toNat (List.mem_range.2 (by omega))) (dy + 2).toNat (List.mem_range.2 (by omega))
  have e1 : (((dx + 2).toNat : Nat) : Int) - 2 = dx := by omega
  have e2 : (((dy + 2).toNat : Nat) : Int) - 2 = dy := by omega
  rw [e1, e2] at h
  exact of_decide_eq_true h ⟨h1, h2, h3, h4⟩
def shSub (m k : Nat) : Bool := (shL m).all fun p => decide (p ∈ shL k)
theorem sh_sub {m k : Nat} (hk : k ≤ 2) (hm : m ≤ k) {p : Int × Int} (hp : p ∈ shL m) : p ∈ shL k := by
  have h : shSub m k = true := by
    have hc : (m = 0 ∧ k = 0) ∨ (m = 0 ∧ k = 1) ∨ (m = 0 ∧ k = 2) ∨ (m = 1 ∧ k = 1) ∨ (m = 1 ∧ k = 2) ∨ (m = 2 ∧ k = 2) := by omega
    rcases hc with ⟨rfl, rfl⟩ | ⟨rfl, rfl⟩ | ⟨rfl, rfl⟩ | ⟨rfl, rfl⟩ | ⟨rfl, rfl⟩ | ⟨rfl, rfl⟩ <;> decide +kernel
  exact of_decide_eq_true (List.all_eq_true.1 h p hp)
theorem ex_iff {x : Ip} {b : Bp} {y : Bg} : (exV x b y).2 = true ↔ ∃ p ∈ exL x b y, exB x b (lim4 y) p = true := by
  unfold exV
  cases hf : (exL x b y).find? (exB x b (lim4 y)) with
  | none =>
    rw [List.find?_eq_none] at hf
    exact ⟨fun h => (by cases h), fun ⟨p, hp, h⟩ => absurd h (hf p hp)⟩
  | some p => exact ⟨fun _ => ⟨p, List.mem_of_find?_eq_some hf, List.find?_some hf⟩, fun _ => rfl⟩
theorem lim_bds (y : Bg) : (0 ≤ (lim4 y).lo ∧ (lim4 y).lo ≤ 200) ∧ (0 ≤ (lim4 y).bl ∧ (lim4 y).bl ≤ 200) ∧ (0 ≤ (lim4 y).sh ∧ (lim4 y).sh ≤ 2) ∧ 0 ≤ (lim4 y).st ∧ (lim4 y).st ≤ 16 := lim_bd (lim_idem y).symm
/-- **What is damaged within a budget is explained by it.** -/
theorem wi_explains {b : Bp} {h : Ht} {x : Bg} (hw : wiB b h x = true) : (exV (apP b h) b x).2 = true := by
  obtain ⟨he, h1, h2, h3, -⟩ := of_decide_eq_true hw
  obtain ⟨-, -, hs, -⟩ := lim_bds x
  refine ex_iff.2 ⟨(h.dx, h.dy), sh_mem (by omega) (by omega) (by omega) (by omega) (by omega), decide_eq_true ⟨ap_fit he, ?_, ?_⟩⟩
  · have := ap_lost he
    show fitN _ _ h.dx h.dy 0 1 ≤ _
    omega
  · have := ap_blot he
    show fitN _ _ h.dx h.dy 1 0 ≤ _
    omega
/-- **A label with torn columns alone is explained by the zero budget, at no shift.** -/
theorem torn_explains {b : Bp} {fr ti : Int} (he : apE b ⟨0, 0, 0, fun _ => 0, 0, fun _ => 0, fr, ti⟩ = 0) : exV (apP b ⟨0, 0, 0, fun _ => 0, 0, fun _ => 0, fr, ti⟩) b bgZ = (⟨0, 0, 0, 0⟩, true) := by
  have h1 := ap_lost he
  have h2 := ap_blot he
  have h3 : ∀ i j, 0 ≤ fitN (apP b ⟨0, 0, 0, fun _ => 0, 0, fun _ => 0, fr, ti⟩) b 0 0 i j := fun i j => by
    unfold fitN
    split
    · exact cnt_nonneg _ _
    · exact Int.le_refl _
  have e1 : fitN (apP b ⟨0, 0, 0, fun _ => 0, 0, fun _ => 0, fr, ti⟩) b 0 0 0 1 = 0 := by
    have h4 := h3 0 1
    have h1' : fitN (apP b ⟨0, 0, 0, fun _ => 0, 0, fun _ => 0, fr, ti⟩) b 0 0 0 1 ≤ ((0 : Nat) : Int) := h1
    omega
  have e2 : fitN (apP b ⟨0, 0, 0, fun _ => 0, 0, fun _ => 0, fr, ti⟩) b 0 0 1 0 = 0 := by
    have h4 := h3 1 0
    have h2' : fitN (apP b ⟨0, 0, 0, fun _ => 0, 0, fun _ => 0, fr, ti⟩) b 0 0 1 0 ≤ ((0 : Nat) : Int) := h2
    omega
  have hh := exV_hit (x := apP b ⟨0, 0, 0, fun _ => 0, 0, fun _ => 0, fr, ti⟩) (b := b) (y := bgZ) (k := 0) (show 0 < (shL 0).length by decide) (decide_eq_true ⟨ap_fit he, by
    show fitN _ _ 0 0 0 1 ≤ 0
    rw [e1]; exact Int.le_refl _, by
    show fitN _ _ 0 0 1 0 ≤ 0
    rw [e2]; exact Int.le_refl _⟩) (fun i hi => absurd hi (Nat.not_lt_zero _))
  rw [hh]
  show ((⟨0, 0, fitN _ _ 0 0 0 1, fitN _ _ 0 0 1 0⟩ : Mc), true) = _
  rw [e1, e2]
/-- **A greater budget explains what a smaller one does.** -/
theorem ex_mono {x : Ip} {b : Bp} {y z : Bg} (h1 : (lim4 y).lo ≤ (lim4 z).lo) (h2 : (lim4 y).bl ≤ (lim4 z).bl) (h3 : (lim4 y).sh ≤ (lim4 z).sh) (h : (exV x b y).2 = true) : (exV x b z).2 = true := by
  obtain ⟨p, hp, hq⟩ := ex_iff.1 h
  obtain ⟨g1, g2, g3⟩ := of_decide_eq_true hq
  obtain ⟨-, -, hs, -⟩ := lim_bds z
  exact ex_iff.2 ⟨p, sh_sub (by omega) (by omega) hp, decide_eq_true ⟨g1, by omega, by omega⟩⟩
end Go.Proofs.Ytclaanggpcjnbaa
end

section
/- Chapter 23: what the laws share. -/
namespace Go.Proofs.Ytclaanggpcjnbaa
open Go.RowKit Go.Flow Go.AV Go.Plain
/-- A bitmap that numbers make. -/
def Bp.ok (b : Bp) : Prop := chk b.W b.H b.n = 0 ∧ 0 ≤ b.W ∧ b.W ≤ 16 ∧ 0 ≤ b.H ∧ b.H ≤ 12
theorem Made_B (N : Nat) (f : Nat → Int) (hN : N ≤ 4611686018427387904) : ECalls Try.prog 16 [.c (.ls N 1 (iF f))] (fun v => ∃ b : Bp, b.ok ∧ v = .ag (bpC b)) := fun O w vals hO h =>
  ((Made_E N f hN) O w vals hO h).mono fun e w' ⟨v, r, g1, ⟨W, H, n, d, h1, h2, h3, h4⟩, g3, g4⟩ => ⟨v, r, g1, ⟨⟨W, H, n, d⟩, ⟨by
    show chk (W : Int) (H : Int) n = 0
    unfold chk sideB
    subst h3
    rw [if_pos, if_pos (by omega)]
    simp only [Bool.and_eq_true, decide_eq_true_eq]
    omega, by show (0 : Int) ≤ (W : Int); omega, by show (W : Int) ≤ 16; omega, by show (0 : Int) ≤ (H : Int); omega, by show (H : Int) ≤ 12; omega⟩, h4⟩, g3, g4⟩
theorem Bp.ok.n_le {b : Bp} (h : b.ok) : bpm b ≤ 1000 := by
  obtain ⟨-, h1, h2, h3, h4⟩ := h
  have := Int.mul_le_mul (show b.W + 4 ≤ 20 by omega) (show b.H + 4 ≤ 16 by omega) (by omega) (by omega)
  show ((b.W + 4) * (b.H + 4)).toNat ≤ 1000
  omega
theorem wi_ok {b : Bp} {h : Ht} {x : Bg} (hw : wiB b h x = true) : apE b h = 0 := (of_decide_eq_true hw).1


abbrev bZ : Bp := ⟨2, 2, 0, fun _ => false⟩
abbrev bZC : List CV := [iC 2, iC 2, nilC]
theorem bZ_cv : LeL Cv bZC (bpC bZ) := ⟨Cv.refl _, Cv.refl _, Cv.nil, trivial⟩
theorem bp_cv (b : Bp) : LeL Cv (bpC b) (bpC b) := ⟨Cv.refl _, Cv.refl _, Cv.refl _, trivial⟩
/-- The budgets that are tried. -/
abbrev bs4 (x s r : Bg) : List CV := bgC x ++ bgC s ++ bgC r ++ bgC bgZ
end Go.Proofs.Ytclaanggpcjnbaa
end
