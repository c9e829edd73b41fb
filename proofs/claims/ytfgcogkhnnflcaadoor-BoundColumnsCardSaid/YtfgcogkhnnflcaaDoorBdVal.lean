/- What Least computes, as a number. No condition but those that each states. -/
import Derived.Test.YtfgcogkhnnflcaaDoorProg
import Derived.Test.YtfgcogkhnnflcaaDoorBdRef4
namespace Go.Proofs.YtfgcogkhnnflcaaDoor
open Go.RowKit Go.Flow Go.Plain
open Go.Proofs

def minTo (f : Nat → Int) : Nat → Int
  | 0 => f 0
  | n + 1 => min (minTo f n) (f (n + 1))
theorem minTo_le (f : Nat → Int) : ∀ (n k : Nat), k ≤ n → minTo f n ≤ f k
  | 0, k, h => by obtain rfl : k = 0 := by omega
                  exact Int.le_refl _
  | n + 1, k, h => by
    unfold minTo
    by_cases e : k = n + 1
    · subst e; omega
    · have := minTo_le f n k (by omega); omega
theorem minTo_mem (f : Nat → Int) : ∀ n : Nat, ∃ k, k ≤ n ∧ f k = minTo f n
  | 0 => ⟨0, Nat.le_refl _, rfl⟩
  | n + 1 => by
    obtain ⟨k, hk, he⟩ := minTo_mem f n
    unfold minTo
    by_cases h : minTo f n ≤ f (n + 1)
    · exact ⟨k, by omega, by omega⟩
    · exact ⟨n + 1, Nat.le_refl _, by omega⟩
/-- The least over all shifts and strips. -/
def leastOf (m : Nat) (most st : Int) (g : Int × Int → Int) : Int := minTo (fun i => minTo (fun j => g (-most + (i : Int), -4 + (j : Int))) ((m : Int) + 8 - st).toNat) (2 * most).toNat
theorem leastOf_isMin {m : Nat} {most st : Int} {g : Int × Int → Int} (h0 : 0 ≤ most) (hst : st ≤ (m : Int) + 8) : IsMin (lS m most st) g (leastOf m most st g) := by
  constructor
  · obtain ⟨i, hi, he⟩ := minTo_mem (fun i => minTo (fun j => g (-most + (i : Int), -4 + (j : Int))) ((m : Int) + 8 - st).toNat) (2 * most).toNat
    obtain ⟨j, hj, he'⟩ := minTo_mem (fun j => g (-most + (i : Int), -4 + (j : Int))) ((m : Int) + 8 - st).toNat
    refine ⟨(-most + (i : Int), -4 + (j : Int)), ⟨by simp only; omega, by simp only; omega, by simp only; omega, by simp only; omega⟩, ?_⟩
    unfold leastOf
    rw [← he]
    exact he'
  · rintro ⟨p, q⟩ ⟨h1, h2, h3, h4⟩
    simp only at h1 h2 h3 h4
    have a1 := minTo_le (fun i => minTo (fun j => g (-most + (i : Int), -4 + (j : Int))) ((m : Int) + 8 - st).toNat) (2 * most).toNat (p + most).toNat (by omega)
    have a2 := minTo_le (fun j => g (-most + (((p + most).toNat : Nat) : Int), -4 + (j : Int))) ((m : Int) + 8 - st).toNat (q + 4).toNat (by omega)
    rw [show -most + (((p + most).toNat : Nat) : Int) = p by omega] at a1 a2
    rw [show -4 + (((q + 4).toNat : Nat) : Int) = q by omega] at a2
    unfold leastOf
    omega

theorem LeastV.unique {W H : Int} {n : Nat} {dot dot' : Nat → Bool} {x0 x1 x2 x3 y0 y1 y2 y3 v v' : Int} (h0 : 0 ≤ stripOf W x3 y3) (h : LeastV W H n dot dot' x0 x1 x2 x3 y0 y1 y2 y3 v)
    (h' : LeastV W H n dot dot' x0 x1 x2 x3 y0 y1 y2 y3 v') : v = v' := by
  obtain ⟨b, hb, h1, h2⟩ := h
  obtain ⟨b', hb', h1', h2'⟩ := h'
  have e := hb.unique hb'
  by_cases hz : 0 < stripOf W x3 y3
  · rw [h1 hz, h1' hz, e]
  · have hz' : stripOf W x3 y3 = 0 := by omega
    obtain ⟨r, hr, e1⟩ := h2 hz'
    obtain ⟨r', hr', e2⟩ := h2' hz'
    rw [e1, e2, e, hr.unique hr']

def leastC (W H : Int) (n : Nat) (dot dot' : Nat → Bool) (x0 x1 x2 x3 y0 y1 y2 y3 : Int) : Int :=
  let c := leastOf W.toNat (x2 + y2) (stripOf W x3 y3) (lG W.toNat (colF W n dot) (colF W n dot') (stripOf W x3 y3) (x0 + y1) (y0 + x1))
  if 0 < stripOf W x3 y3 then c else max c (leastOf H.toNat (x2 + y2) (stripOf W x3 y3) (lG H.toNat (rowF W n dot) (rowF W n dot') (stripOf W x3 y3) (x0 + y1) (y0 + x1)))
theorem leastC_V {W H : Int} {n : Nat} {dot dot' : Nat → Bool} {x0 x1 x2 x3 y0 y1 y2 y3 : Int} (hW : 0 ≤ W) (hH : 0 ≤ H) (hx2 : 0 ≤ x2) (hy2 : 0 ≤ y2) (hx3 : 0 ≤ x3) :
    LeastV W H n dot dot' x0 x1 x2 x3 y0 y1 y2 y3 (leastC W H n dot dot' x0 x1 x2 x3 y0 y1 y2 y3) := by
  have hs0 : 0 ≤ stripOf W x3 y3 := by unfold stripOf; omega
  have hs1 : stripOf W x3 y3 ≤ ((W.toNat : Nat) : Int) + 8 := by unfold stripOf; omega
  refine ⟨_, leastOf_isMin (by omega) hs1, fun h => ?_, fun h => ⟨_, leastOf_isMin (by omega) (by omega), ?_⟩⟩
  · unfold leastC; simp only; rw [if_pos h]
  · unfold leastC; simp only; rw [if_neg (by omega)]

/-- Whether two bitmaps can be compared, and what Least returns. -/
def okN (W H : Int) (n : Nat) (W' H' : Int) (n' : Nat) : Bool := decide (bothOk W H n W' H' n')
def leastN (W H : Int) (n : Nat) (dot : Nat → Bool) (W' H' : Int) (n' : Nat) (dot' : Nat → Bool) (x0 x1 x2 x3 y0 y1 y2 y3 : Int) : Int :=
  if okN W H n W' H' n' then leastC W H n dot dot' (lim x0 200) (lim x1 200) (lim x2 2) (lim x3 16) (lim y0 200) (lim y1 200) (lim y2 2) (lim y3 16) else 0

theorem leastN_post {W H : Int} {n : Nat} {dot dot' : Nat → Bool} {x0 x1 x2 x3 y0 y1 y2 y3 : Int} {w : World} (hok : chk W H n = 0) {e : Ending} {w' : World}
    (h : LeastPost W H n dot dot' x0 x1 x2 x3 y0 y1 y2 y3 w e w') : e = .returned (.tuple #[.int .i64 (leastN W H n dot W H n dot' x0 x1 x2 x3 y0 y1 y2 y3), .bool (okN W H n W H n)]) ∧ Ext w w' := by
  obtain ⟨v, rfl, hv, hE⟩ := h
  have hk := okB hok
  have hb : bothOk W H n W H n := ⟨hok, hok, rfl, rfl⟩
  have ho : okN W H n W H n = true := by unfold okN; exact decide_eq_true hb
  have l2 := lim_bd x2 2 (by omega)
  have l2' := lim_bd y2 2 (by omega)
  have l3 := lim_bd x3 16 (by omega)
  have hs0 : 0 ≤ stripOf W (lim x3 16) (lim y3 16) := by unfold stripOf; omega
  have e1 : v = leastN W H n dot W H n dot' x0 x1 x2 x3 y0 y1 y2 y3 := by
    unfold leastN
    rw [ho, if_pos rfl]
    exact hv.unique hs0 (leastC_V hk.1 hk.2.2.1 l2.1 l2'.1 l3.1)
  exact ⟨by rw [e1, ho], hE⟩

theorem okN_false {W H : Int} {n : Nat} {W' H' : Int} {n' : Nat} (h : ¬ bothOk W H n W' H' n') : okN W H n W' H' n' = false := decide_eq_false h
theorem leastN_bad {W H : Int} {n : Nat} {dot : Nat → Bool} {W' H' : Int} {n' : Nat} {dot' : Nat → Bool} {x0 x1 x2 x3 y0 y1 y2 y3 : Int} (h : ¬ bothOk W H n W' H' n') :
    leastN W H n dot W' H' n' dot' x0 x1 x2 x3 y0 y1 y2 y3 = 0 := by unfold leastN; rw [okN_false h]; rfl
theorem chk_len {W H : Int} {n n' : Nat} (h : chk W H n = 0) (h' : chk W H n' = 0) : n = n' := by
  have := (okB h).2.2.2.2
  have := (okB h').2.2.2.2
  omega

/-- Least, whatever it is given. -/
theorem Least_any (W H : Int) (A : Option Addr) (n c : Nat) (dot : Nat → Bool) (W' H' : Int) (A' : Option Addr) (n' c' : Nat) (dot' : Nat → Bool) (x0 x1 x2 x3 y0 y1 y2 y3 : Int) (w : World)
    (hA : Bools w A n dot) (hA' : Bools w A' n' dot') (hS : Sides w) :
    Calls Tryd.prog 15 #[bmp W H A n c, bmp W' H' A' n' c', bud x0 x1 x2 x3, bud y0 y1 y2 y3] w fun e w' =>
      e = .returned (.tuple #[.int .i64 (leastN W H n dot W' H' n' dot' x0 x1 x2 x3 y0 y1 y2 y3), .bool (okN W H n W' H' n')]) ∧ Ext w w' := by
  by_cases h : bothOk W H n W' H' n'
  · obtain ⟨h1, h2, rfl, rfl⟩ := h
    obtain rfl := chk_len h1 h2
    exact (Least_ok W H A n c A' c' dot dot' x0 x1 x2 x3 y0 y1 y2 y3 w h1 hA hA' hS).mono fun e w' h => leastN_post h1 h
  · rw [leastN_bad h, okN_false h]
    exact Least_bad W H A n c W' H' A' n' c' x0 x1 x2 x3 y0 y1 y2 y3 w h
/-- The reference's. -/
theorem LeastR_any (W H : Int) (A : Option Addr) (n c : Nat) (dot : Nat → Bool) (W' H' : Int) (A' : Option Addr) (n' c' : Nat) (dot' : Nat → Bool) (x0 x1 x2 x3 y0 y1 y2 y3 : Int) (w : World)
    (hA : Bools w A n dot) (hA' : Bools w A' n' dot') :
    Calls Tryd.prog 16 #[bmp W H A n c, bmp W' H' A' n' c', bud x0 x1 x2 x3, bud y0 y1 y2 y3] w fun e w' =>
      e = .returned (.tuple #[.int .i64 (leastN W H n dot W' H' n' dot' x0 x1 x2 x3 y0 y1 y2 y3), .bool (okN W H n W' H' n')]) ∧ Ext w w' := by
  by_cases h : bothOk W H n W' H' n'
  · obtain ⟨h1, h2, rfl, rfl⟩ := h
    obtain rfl := chk_len h1 h2
    exact (LeastR_ok W H A n c A' c' dot dot' x0 x1 x2 x3 y0 y1 y2 y3 w h1 hA hA').mono fun e w' h => leastN_post h1 h
  · rw [leastN_bad h, okN_false h]
    exact LeastR_bad W H A n c W' H' A' n' c' x0 x1 x2 x3 y0 y1 y2 y3 w h
end Go.Proofs.YtfgcogkhnnflcaaDoor
