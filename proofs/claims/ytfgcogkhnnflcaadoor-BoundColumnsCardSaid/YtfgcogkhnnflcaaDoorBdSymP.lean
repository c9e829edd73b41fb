/- Least does not depend on the order of the bitmaps: the plain law. No program in sight. -/
import Derived.Test.YtfgcogkhnnflcaaDoorProg
import Derived.Test.YtfgcogkhnnflcaaDoorBdVal
namespace Go.Proofs.YtfgcogkhnnflcaaDoor
open Go.RowKit Go.Flow Go.Plain
open Go.Proofs

/-- Where a strip covers more, the excess is less. -/
theorem excS_mono {m m2 : Nat} {f1 f2 : Nat → Int} {s a b a' b' : Int} (h : ∀ k : Nat, k < m → (a ≤ (k : Int) ∧ (k : Int) < b) → (a' ≤ (k : Int) ∧ (k : Int) < b')) : excS m f1 m2 f2 s a' b' ≤ excS m f1 m2 f2 s a b :=
  sumTo_le' fun k hk => by
    unfold excT
    have := h k hk
    split <;> split <;> omega
where sumTo_le' {f g : Nat → Int} : ∀ {n : Nat}, (∀ k, k < n → f k ≤ g k) → sumTo f n ≤ sumTo g n := sumTo_le
theorem lG_swap {m : Nat} {f1 f2 : Nat → Int} {most st L1 L2 : Int} (hmo : most ≤ 4) (p : Int × Int) (hp : lS m most st p) :
    ∃ q, lS m most st q ∧ lG m f2 f1 st L2 L1 q ≤ lG m f1 f2 st L1 L2 p := by
  obtain ⟨s, c⟩ := p
  obtain ⟨h1, h2, h3, h4⟩ := hp
  simp only at h1 h2 h3 h4
  obtain ⟨d, hd, hd1, hd2, hA, hB⟩ : ∃ d : Int, True ∧ -4 ≤ d ∧ d ≤ (m : Int) + 4 - st ∧ (∀ k : Nat, k < m → (c - s ≤ (k : Int) ∧ (k : Int) < c - s + st) → (d ≤ (k : Int) ∧ (k : Int) < d + st)) ∧
      (∀ k : Nat, k < m → (c ≤ (k : Int) ∧ (k : Int) < c + st) → (d - -s ≤ (k : Int) ∧ (k : Int) < d - -s + st)) := by
    by_cases e1 : c - s < -4
    · exact ⟨-4, trivial, by omega, by omega, fun k hk h => by omega, fun k hk h => by omega⟩
    · by_cases e2 : c - s ≤ (m : Int) + 4 - st
      · exact ⟨c - s, trivial, by omega, by omega, fun k hk h => by omega, fun k hk h => by omega⟩
      · exact ⟨(m : Int) + 4 - st, trivial, by omega, by omega, fun k hk h => by omega, fun k hk h => by omega⟩
  refine ⟨(-s, d), ⟨by simp only; omega, by simp only; omega, hd1, hd2⟩, ?_⟩
  have a1 := excS_mono (f1 := f2) (m2 := m) (f2 := f1) (s := -s) hA
  have a2 := excS_mono (f1 := f1) (m2 := m) (f2 := f2) (s := s) hB
  unfold lG
  simp only [Int.neg_neg]
  omega
theorem isMin_swap {m : Nat} {f1 f2 : Nat → Int} {most st L1 L2 b b' : Int} (hmo : most ≤ 4) (h : IsMin (lS m most st) (lG m f1 f2 st L1 L2) b) (h' : IsMin (lS m most st) (lG m f2 f1 st L2 L1) b') : b = b' := by
  obtain ⟨⟨p, hp, e⟩, hm⟩ := h
  obtain ⟨⟨q, hq, e'⟩, hm'⟩ := h'
  obtain ⟨p', hp', l1⟩ := lG_swap (f1 := f1) (f2 := f2) (L1 := L1) (L2 := L2) hmo p hp
  obtain ⟨q', hq', l2⟩ := lG_swap (f1 := f2) (f2 := f1) (L1 := L2) (L2 := L1) hmo q hq
  have := hm q' hq'
  have := hm' p' hp'
  omega
theorem LeastV.swap {W H : Int} {n : Nat} {dot dot' : Nat → Bool} {x0 x1 x2 x3 y0 y1 y2 y3 v v' : Int} (h0 : 0 ≤ stripOf W x3 y3) (hmo : x2 + y2 ≤ 4) (h : LeastV W H n dot dot' x0 x1 x2 x3 y0 y1 y2 y3 v)
    (h' : LeastV W H n dot' dot y0 y1 y2 y3 x0 x1 x2 x3 v') : v = v' := by
  have hs : stripOf W y3 x3 = stripOf W x3 y3 := by unfold stripOf; omega
  unfold LeastV at h'
  rw [hs, show y2 + x2 = x2 + y2 by omega] at h'
  obtain ⟨b, hb, h1, h2⟩ := h
  obtain ⟨b', hb', h1', h2'⟩ := h'
  have e := isMin_swap hmo hb hb'
  by_cases hz : 0 < stripOf W x3 y3
  · rw [h1 hz, h1' hz, e]
  · have hz' : stripOf W x3 y3 = 0 := by omega
    obtain ⟨r, hr, e1⟩ := h2 hz'
    obtain ⟨r', hr', e2⟩ := h2' hz'
    rw [e1, e2, e, isMin_swap hmo hr hr']

theorem okN_swap (W H : Int) (n : Nat) (W' H' : Int) (n' : Nat) : okN W H n W' H' n' = okN W' H' n' W H n := by
  unfold okN bothOk
  congr 1
  exact propext ⟨fun ⟨a, b, c, d⟩ => ⟨b, a, c.symm, d.symm⟩, fun ⟨a, b, c, d⟩ => ⟨b, a, c.symm, d.symm⟩⟩
theorem leastN_V {W H : Int} {n : Nat} (hok : chk W H n = 0) (dot dot' : Nat → Bool) (x0 x1 x2 x3 y0 y1 y2 y3 : Int) :
    LeastV W H n dot dot' (lim x0 200) (lim x1 200) (lim x2 2) (lim x3 16) (lim y0 200) (lim y1 200) (lim y2 2) (lim y3 16) (leastN W H n dot W H n dot' x0 x1 x2 x3 y0 y1 y2 y3) := by
  have hk := okB hok
  have ho : okN W H n W H n = true := decide_eq_true ⟨hok, hok, rfl, rfl⟩
  unfold leastN
  rw [ho, if_pos rfl]
  exact leastC_V hk.1 hk.2.2.1 (lim_bd x2 2 (by omega)).1 (lim_bd y2 2 (by omega)).1 (lim_bd x3 16 (by omega)).1
theorem leastN_swap (W H : Int) (n : Nat) (dot : Nat → Bool) (W' H' : Int) (n' : Nat) (dot' : Nat → Bool) (x0 x1 x2 x3 y0 y1 y2 y3 : Int) :
    leastN W H n dot W' H' n' dot' x0 x1 x2 x3 y0 y1 y2 y3 = leastN W' H' n' dot' W H n dot y0 y1 y2 y3 x0 x1 x2 x3 := by
  by_cases h : bothOk W H n W' H' n'
  · obtain ⟨h1, h2, rfl, rfl⟩ := h
    obtain rfl := chk_len h1 h2
    have l2 := lim_bd x2 2 (by omega)
    have l2' := lim_bd y2 2 (by omega)
    have l3 := lim_bd x3 16 (by omega)
    have hk := okB h1
    exact (leastN_V h1 dot dot' x0 x1 x2 x3 y0 y1 y2 y3).swap (by unfold stripOf; omega) (by omega) (leastN_V h1 dot' dot y0 y1 y2 y3 x0 x1 x2 x3)
  · rw [leastN_bad h, leastN_bad fun ⟨a, b, c, d⟩ => h ⟨b, a, c.symm, d.symm⟩]

/-- A list of counts and itself, without a shift. -/
theorem excS_self (m : Nat) (f : Nat → Int) (a b : Int) : excS m f m f 0 a b = 0 := by
  unfold excS
  rw [sumTo_congr (g := fun _ => 0) fun k hk => ?_]
  · rw [sumTo_const]; omega
  · unfold excT extB
    rw [if_pos (show 0 ≤ (k : Int) - 0 ∧ (k : Int) - 0 < m by omega), show ((k : Int) - 0).toNat = k by omega]
    split <;> omega
theorem excS_nonneg (m : Nat) (f1 : Nat → Int) (m2 : Nat) (f2 : Nat → Int) (s a b : Int) : 0 ≤ excS m f1 m2 f2 s a b := sumTo_nonneg fun k _ => by unfold excT; split <;> omega
theorem isMin_self {m : Nat} {f : Nat → Int} {most st L1 L2 b : Int} (hmo : 0 ≤ most) (hst : st ≤ (m : Int) + 8) (h : IsMin (lS m most st) (lG m f f st L1 L2) b) : b = max (-L1) (-L2) := by
  obtain ⟨⟨p, _, e⟩, hm⟩ := h
  have h0 := hm (0, -4) ⟨by simp only; omega, by simp only; omega, by simp only; omega, by simp only; omega⟩
  have a1 := excS_self m f (-4) (-4 + st)
  have a2 := excS_self m f (-4 - 0) (-4 - 0 + st)
  have a3 := excS_nonneg m f m f p.1 p.2 (p.2 + st)
  have a4 := excS_nonneg m f m f (-p.1) (p.2 - p.1) (p.2 - p.1 + st)
  unfold lG at h0 e
  simp only [Int.neg_zero] at h0
  omega
theorem leastN_self {W H : Int} {n : Nat} (hok : chk W H n = 0) (dot : Nat → Bool) (x0 x1 x2 x3 y0 y1 y2 y3 : Int) (hx0 : 0 ≤ x0 ∧ x0 ≤ 200) (hx1 : 0 ≤ x1 ∧ x1 ≤ 200) (hy0 : 0 ≤ y0 ∧ y0 ≤ 200) (hy1 : 0 ≤ y1 ∧ y1 ≤ 200) :
    leastN W H n dot W H n dot x0 x1 x2 x3 y0 y1 y2 y3 = max (-x0 - y1) (-y0 - x1) := by
  obtain ⟨b, hb, h1, h2⟩ := leastN_V hok dot dot x0 x1 x2 x3 y0 y1 y2 y3
  have hk := okB hok
  have l2 := lim_bd x2 2 (by omega)
  have l2' := lim_bd y2 2 (by omega)
  have l3 := lim_bd x3 16 (by omega)
  have hs0 : 0 ≤ stripOf W (lim x3 16) (lim y3 16) := by unfold stripOf; omega
  have hs1 : stripOf W (lim x3 16) (lim y3 16) ≤ ((W.toNat : Nat) : Int) + 8 := by unfold stripOf; omega
  have e := isMin_self (by omega) hs1 hb
  have k0 : lim x0 200 = x0 := by unfold lim; omega
  have k1 : lim x1 200 = x1 := by unfold lim; omega
  have k2 : lim y0 200 = y0 := by unfold lim; omega
  have k3 : lim y1 200 = y1 := by unfold lim; omega
  rw [k0, k1, k2, k3] at e
  by_cases hz : 0 < stripOf W (lim x3 16) (lim y3 16)
  · rw [h1 hz]; omega
  · obtain ⟨r, hr, e1⟩ := h2 (by omega)
    have e' := isMin_self (by omega) (by omega) hr
    rw [k0, k1, k2, k3] at e'
    omega
end Go.Proofs.YtfgcogkhnnflcaaDoor
