/- Parts of the proof: A23a, A23b, A23c, A23h, A23k, A23n, A23o, A23y, A24i. -/
import Derived.Test.YtfgcogkhnnflcaaDoorG11
import Derived.Laws.Cover3
import Derived.Test.YtfgcogkhnnflcaaDoorG14
import Derived.Test.YtfgcogkhnnflcaaDoorProg
import Derived.Test.YtfgcogkhnnflcaaDoorG13
import Derived.Test.YtfgcogkhnnflcaaDoorG02
import Derived.Test.YtfgcogkhnnflcaaDoorG01
import Derived.WalkKit
import Derived.Test.YtfgcogkhnnflcaaDoorG05
import Derived.Test.YtfgcogkhnnflcaaDoorG12
import Derived.Test.YtfgcogkhnnflcaaDoorG15
set_option linter.unusedSimpArgs false
set_option linter.unusedVariables false
section
namespace Go.Proofs.YtfgcogkhnnflcaaDoor
open Go.RowKit Go.Flow Go.AV Go.Plain
structure Bg where
  lo : Int
  bl : Int
  sh : Int
  st : Int
  deriving DecidableEq
abbrev bgC (x : Bg) : List CV := [iC x.lo, iC x.bl, iC x.sh, iC x.st]
abbrev lim1 (n m : Int) : Int := max 0 (min n m)
def lim4 (x : Bg) : Bg := ⟨lim1 x.lo 200, lim1 x.bl 200, lim1 x.sh 2, lim1 x.st 16⟩
end Go.Proofs.YtfgcogkhnnflcaaDoor
end

section
namespace Go.Proofs.YtfgcogkhnnflcaaDoor
open Go.RowKit Go.Flow Go.AV Go.Plain
theorem lim_bd {x : Bg} (h : x = lim4 x) : (0 ≤ x.lo ∧ x.lo ≤ 200) ∧ (0 ≤ x.bl ∧ x.bl ≤ 200) ∧ (0 ≤ x.sh ∧ x.sh ≤ 2) ∧ 0 ≤ x.st ∧ x.st ≤ 16 := by
  have e1 := congrArg Bg.lo h
  have e2 := congrArg Bg.bl h
  have e3 := congrArg Bg.sh h
  have e4 := congrArg Bg.st h
  simp only [lim4, lim1] at e1 e2 e3 e4
  omega
theorem lim_idem (x : Bg) : lim4 (lim4 x) = lim4 x := by
  simp only [lim4, lim1, Bg.mk.injEq]
  omega
end Go.Proofs.YtfgcogkhnnflcaaDoor
end

section
namespace Go.Proofs.YtfgcogkhnnflcaaDoor
open Go.RowKit Go.Flow Go.AV Go.Plain
/-- Numbers are increasing indices of pixels of a kind; the first k of them. -/
def mkOk (n : Nat) (px : Nat → Int) (l : Nat → Int) (kind : Int) (k : Nat) : Prop := 0 ≤ l k ∧ l k < n ∧ (0 < k → l (k - 1) < l k) ∧ px (l k).toNat = kind
instance (n : Nat) (px l : Nat → Int) (kind : Int) (k : Nat) : Decidable (mkOk n px l kind k) := by unfold mkOk; infer_instance
def mkAll (n : Nat) (px : Nat → Int) (l : Nat → Int) (kind : Int) (N : Nat) : Bool := (List.range N).all fun k => decide (mkOk n px l kind k)
theorem mkAll_iff {n N : Nat} {px l : Nat → Int} {kind : Int} : mkAll n px l kind N = true ↔ ∀ k, k < N → mkOk n px l kind k := by
  unfold mkAll
  rw [List.all_eq_true]
  simp only [List.mem_range, decide_eq_true_eq]
end Go.Proofs.YtfgcogkhnnflcaaDoor
end

section
namespace Go.Proofs.YtfgcogkhnnflcaaDoor
open Go.RowKit Go.Flow Go.AV Go.Plain
structure Bp where
  W : Int
  H : Int
  n : Nat
  d : Nat → Bool
abbrev bpC (b : Bp) : List CV := bmpV b.W b.H b.n b.d
end Go.Proofs.YtfgcogkhnnflcaaDoor
end

section
namespace Go.Proofs.YtfgcogkhnnflcaaDoor
open Go.RowKit Go.Flow Go.AV Go.Plain
structure Ip where
  W : Int
  H : Int
  n : Nat
  f : Nat → Int
def fitOk (x : Ip) (b : Bp) (dx dy : Int) : Prop := putE b.W b.H b.n dx dy = 0 ∧ chkI x.W x.H x.n x.f = 0 ∧ x.W = b.W + 4 ∧ x.H = b.H + 4
instance (x : Ip) (b : Bp) (dx dy : Int) : Decidable (fitOk x b dx dy) := by unfold fitOk; infer_instance
end Go.Proofs.YtfgcogkhnnflcaaDoor
end

section
namespace Go.Proofs.YtfgcogkhnnflcaaDoor
open Go.RowKit Go.Flow Go.AV Go.Plain
abbrev mvZ : Int × Int := (0, 0)
def shB (m s i j : Nat) : Bool := decide (max ((j : Int) - m) (-((j : Int) - m)) + max ((i : Int) - m) (-((i : Int) - m)) = (s : Int))
def shJ (m s i k : Nat) : List (Int × Int) := (List.range k).flatMap fun j => if shB m s i j then [((j : Int) - m, (i : Int) - m)] else []
def shM (m s k : Nat) : List (Int × Int) := (List.range k).flatMap fun i => shJ m s i (2 * m + 1)
def shS (m k : Nat) : List (Int × Int) := (List.range k).flatMap fun s => shM m s (2 * m + 1)
/-- All shifts up to m, in order. -/
def shL (m : Nat) : List (Int × Int) := shS m (2 * m + 1)
end Go.Proofs.YtfgcogkhnnflcaaDoor
end

section
namespace Go.Proofs.YtfgcogkhnnflcaaDoor
open Go.RowKit Go.Flow Go.AV Go.Plain
structure Mc where
  dx : Int
  dy : Int
  lo : Int
  bl : Int
end Go.Proofs.YtfgcogkhnnflcaaDoor
end

section
namespace Go.Proofs.YtfgcogkhnnflcaaDoor
open Go.RowKit Go.Flow Go.AV Go.Plain
theorem cnt_nonneg (q : Nat → Bool) (n : Nat) : 0 ≤ cnt q n := sumTo_nonneg fun k _ => by split <;> omega
theorem lim_bds (y : Bg) : (0 ≤ (lim4 y).lo ∧ (lim4 y).lo ≤ 200) ∧ (0 ≤ (lim4 y).bl ∧ (lim4 y).bl ≤ 200) ∧ (0 ≤ (lim4 y).sh ∧ (lim4 y).sh ≤ 2) ∧ 0 ≤ (lim4 y).st ∧ (lim4 y).st ≤ 16 := lim_bd (lim_idem y).symm
end Go.Proofs.YtfgcogkhnnflcaaDoor
end

section
namespace Go.Proofs.YtfgcogkhnnflcaaDoor
open Go.RowKit Go.Flow Go.AV Go.Plain Go.AV.Srt
/-- How far two labels may lie apart. -/
def shN (x y : Bg) : Nat := ((lim4 x).sh + (lim4 y).sh).toNat
theorem shN_eq (x y : Bg) : ((shN x y : Nat) : Int) = (lim4 x).sh + (lim4 y).sh ∧ shN x y ≤ 4 := by
  have h1 := lim_bds x
  have h2 := lim_bds y
  unfold shN
  omega
end Go.Proofs.YtfgcogkhnnflcaaDoor
end
