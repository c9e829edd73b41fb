/- Parts of the proof: ACv, A23t, A23v, A24j, A24k. -/
import Derived.Test.YtfgcogkhnnflcaaDoorG14
import Derived.Test.YtfgcogkhnnflcaaDoorG11
import Derived.Test.YtfgcogkhnnflcaaDoorG16
import Derived.Test.YtfgcogkhnnflcaaDoorG12
import Derived.Test.YtfgcogkhnnflcaaDoorProg
import Derived.Test.YtfgcogkhnnflcaaDoorG02
set_option linter.unusedSimpArgs false
set_option linter.unusedVariables false
section
namespace Go.AV
open Go Go.RowKit Go.Flow
section
variable {P : Program}
def Cv (x y : CV) : Prop := ∀ (σ : Nat → Option Value) (O : Nat → Prop) (w : World) (u : Value), RepC σ O w x u → RepC σ O w y u
theorem Cv.refl (x : CV) : Cv x x := fun _ _ _ _ h => h
theorem Cv.nil {sz : Nat} {F : Nat → Nat → CV} : Cv (.p (.slice none 0 0)) (.ls 0 sz F) := fun σ O w u hu => by
  obtain rfl : u = .slice none 0 0 := hu.2
  exact nil_rep
inductive CvV : V1 → V1 → Prop
  | c {x y : CV} (h : Cv x y) : CvV (.c x) (.c y)
  | ag {l m : List CV} (h : LeL Cv l m) : CvV (.ag l) (.ag m)
theorem CvV.rep {x y : V1} (h : CvV x y) {σ : Nat → Option Value} {O : Nat → Prop} {w : World} {u : Value} (hu : RepV σ O w x u) : RepV σ O w y u := by
  cases h with
  | c h => exact h _ _ _ _ hu
  | ag h =>
    obtain ⟨vs, e, hv⟩ := hu
    exact ⟨vs, e, h.get (fun _ _ _ h1 h2 => h1 _ _ _ _ h2) hv⟩
theorem CvL.rep : ∀ {l m : List V1}, LeL CvV l m → ∀ {σ : Nat → Option Value} {O : Nat → Prop} {w : World} {us : List Value}, RepL (RepV σ O w) l us → RepL (RepV σ O w) m us
  | [], [], _, _, _, _, [], _ => trivial
  | x :: l, y :: m, h, _, _, _, u :: us, hu => ⟨h.1.rep hu.1, CvL.rep h.2 hu.2⟩
  | [], _ :: _, h, _, _, _, _, _ => h.elim
  | _ :: _, [], h, _, _, _, _, _ => h.elim
  | [], [], _, _, _, _, _ :: _, hu => hu.elim
  | _ :: _, _ :: _, _, _, _, _, [], hu => hu.elim
end
end Go.AV
end

section
namespace Go.Proofs.YtfgcogkhnnflcaaDoor
open Go.RowKit Go.Flow Go.AV Go.Plain
instance : DecidableEq Mc := fun r s =>
  if h : r.dx = s.dx ∧ r.dy = s.dy ∧ r.lo = s.lo ∧ r.bl = s.bl then isTrue (by cases r; cases s; simp_all) else isFalse fun e => h (by subst e; exact ⟨rfl, rfl, rfl, rfl⟩)
end Go.Proofs.YtfgcogkhnnflcaaDoor
end

section
namespace Go.Proofs.YtfgcogkhnnflcaaDoor
open Go.RowKit Go.Flow Go.AV Go.Plain
def InvL (n : Nat) (px : Nat → Int) (kind : Int) (k : Nat) (L : List Int) : Prop := mkAll n px (fun i => L.getD i 0) kind L.length = true ∧ ∀ a ∈ L, a < (k : Int)
theorem InvL.nil {n : Nat} {px : Nat → Int} {kind : Int} {k : Nat} : InvL n px kind k [] := ⟨mkAll_iff.2 fun i hi => absurd hi (Nat.not_lt_zero _), fun a h => by simp at h⟩
theorem InvL.up {n : Nat} {px : Nat → Int} {kind : Int} {k : Nat} {L : List Int} (h : InvL n px kind k L) : InvL n px kind (k + 1) L := ⟨h.1, fun a ha => by have := h.2 a ha; omega⟩
end Go.Proofs.YtfgcogkhnnflcaaDoor
end

section
namespace Go.Proofs.YtfgcogkhnnflcaaDoor
open Go.RowKit Go.Flow Go.AV Go.Plain
def cmpOk (a b : Bp) : Prop := chk a.W a.H a.n = 0 ∧ chk b.W b.H b.n = 0 ∧ a.W = b.W ∧ a.H = b.H
instance (a b : Bp) : Decidable (cmpOk a b) := by unfold cmpOk; infer_instance
def onB (a b : Bp) (dx dy fr ti : Int) (j i : Nat) : Bool := hasB a.W a.H a.d i j && (decide ((i : Int) < fr) || decide (ti ≤ (i : Int))) && !hasB b.W b.H b.d ((i : Int) - dx) ((j : Int) - dy)
def onlyN (a b : Bp) (dx dy fr ti : Int) : Int := sumTo (fun j => cnt (onB a b dx dy fr ti j) a.W.toNat) a.H.toNat
end Go.Proofs.YtfgcogkhnnflcaaDoor
end

section
namespace Go.Proofs.YtfgcogkhnnflcaaDoor
open Go.RowKit Go.Flow Go.AV Go.Plain
structure Cl where
  dx : Int
  dy : Int
  col : Int
  deriving DecidableEq
/-- How many columns a strip has. -/
def stN (w : Int) (x y : Bg) : Int := min (w + 8) (max (lim4 x).st (lim4 y).st)
theorem stN_bd {w : Int} (x y : Bg) (h : 0 ≤ w) : 0 ≤ stN w x y ∧ stN w x y ≤ 16 ∧ stN w x y ≤ w + 8 := by
  have h1 := lim_bds x
  have h2 := lim_bds y
  unfold stN
  omega
/-- The excess of dots that each has alone. -/
def ovN (x y : Bg) (m n : Int) : Int := max (m - (lim4 x).lo - (lim4 y).bl) (n - (lim4 y).lo - (lim4 x).bl)
/-- The excess of a clash. -/
def xsV (a b : Bp) (x y : Bg) (c : Cl) : Int :=
  ovN x y (onlyN a b c.dx c.dy c.col (c.col + stN a.W x y)) (onlyN b a (-c.dx) (-c.dy) (c.col - c.dx) (c.col - c.dx + stN a.W x y))
theorem onlyN_bd (a b : Bp) (dx dy fr ti : Int) (ha : chk a.W a.H a.n = 0) : 0 ≤ onlyN a b dx dy fr ti ∧ onlyN a b dx dy fr ti ≤ 9216 := by
  obtain ⟨hw0, hw1, hh0, hh1, hn⟩ := okB ha
  unfold onlyN
  have : ∀ m : Nat, m ≤ 96 → 0 ≤ sumTo (fun j => cnt (onB a b dx dy fr ti j) a.W.toNat) m ∧ sumTo (fun j => cnt (onB a b dx dy fr ti j) a.W.toNat) m ≤ 96 * m := fun m hm => by
    refine ⟨sumTo_nonneg fun k _ => Go.Plain.cnt_nonneg _ _, ?_⟩
    induction m with
    | zero => exact Int.le_refl _
    | succ m ih =>
      have h1 := ih (by omega)
      have h2 := cnt_le (onB a b dx dy fr ti m) a.W.toNat
      show sumTo _ m + cnt _ a.W.toNat ≤ _
      omega
  have := this a.H.toNat (by omega)
  omega
/-- All shifts with all strips. -/
def alI (m : Nat) (d : Int × Int) (k : Nat) : List Cl := (List.range k).map fun (i : Nat) => ⟨d.1, d.2, (i : Int) - 4⟩
def alM (w : Int) (x y : Bg) : Nat := (w + 9 - stN w x y).toNat
def alK (w : Int) (x y : Bg) (L : List (Int × Int)) : List Cl := L.flatMap fun d => alI 0 d (alM w x y)
def alL (w : Int) (x y : Bg) : List Cl := alK w x y (shL (shN x y))
theorem sh_bd {m : Nat} {k : Nat} (hk : k < (shL m).length) : (-(m : Int) ≤ ((shL m).getD k mvZ).1 ∧ ((shL m).getD k mvZ).1 ≤ m) ∧ -(m : Int) ≤ ((shL m).getD k mvZ).2 ∧ ((shL m).getD k mvZ).2 ≤ m := by
  have : (shL m).getD k mvZ ∈ shL m := by
    rw [List.getD_eq_getElem?_getD, List.getElem?_eq_getElem hk]
    exact List.getElem_mem hk
  generalize (shL m).getD k mvZ = p at this
  unfold shL shS shM shJ at this
  simp only [List.mem_flatMap, List.mem_range] at this
  obtain ⟨s, hs, i, hi, j, hj, hp⟩ := this
  split at hp
  · obtain rfl : p = _ := by simpa using hp
    dsimp only
    omega
  · simp at hp
end Go.Proofs.YtfgcogkhnnflcaaDoor
end
