/- Parts of the proof: Sum, A23a, A23b, A23c, A23f, A23h, A23k. -/
import Derived.WalkKit
import Derived.Test.YtekkldgmjdllbaaG08
import Derived.Test.YtekkldgmjdllbaaG14
import Derived.Test.YtekkldgmjdllbaaProg
import Derived.Test.YtekkldgmjdllbaaG15
import Derived.Test.YtekkldgmjdllbaaG11
import Derived.Test.YtekkldgmjdllbaaG01
set_option linter.unusedSimpArgs false
set_option linter.unusedVariables false
section
namespace Go.Plain
def sumTo (f : Nat → Int) : Nat → Int
 | 0 => 0
 | n + 1 => sumTo f n + f n
def cnt (p : Nat → Bool) (n : Nat) : Int := sumTo (fun j => if p j then 1 else 0) n

theorem sumTo_nonneg {f : Nat → Int} : ∀ {n : Nat}, (∀ k, k < n → 0 ≤ f k) → 0 ≤ sumTo f n
 | 0, _ => by simp [sumTo]
 | n + 1, h => by have := sumTo_nonneg (n := n) fun k hk => h k (by omega); have := h n (by omega); simp only [sumTo]; omega
theorem sumTo_le {f g : Nat → Int} : ∀ {n : Nat}, (∀ k, k < n → f k ≤ g k) → sumTo f n ≤ sumTo g n
 | 0, _ => by simp [sumTo]
 | n + 1, h => by have := sumTo_le (n := n) fun k hk => h k (by omega); have := h n (by omega); simp only [sumTo]; omega
theorem sumTo_const (c : Int) : ∀ n : Nat, sumTo (fun _ => c) n = n * c
 | 0 => by simp [sumTo]
 | n + 1 => by simp only [sumTo, sumTo_const c n]; rw [Int.natCast_succ, Int.add_mul]; omega
theorem sumTo_add (f g : Nat → Int) : ∀ n : Nat, sumTo (fun k => f k + g k) n = sumTo f n + sumTo g n
 | 0 => rfl
 | n + 1 => by simp only [sumTo, sumTo_add f g n]; omega
theorem cnt_nonneg (p : Nat → Bool) (n : Nat) : 0 ≤ cnt p n := sumTo_nonneg fun k _ => by split <;> omega
theorem cnt_le (p : Nat → Bool) (n : Nat) : cnt p n ≤ n := by
 have := sumTo_le (f := fun j => if p j then 1 else 0) (g := fun _ => 1) (n := n) fun k _ => by split <;> omega
 rw [sumTo_const] at this
 unfold cnt
 omega
theorem cnt_zero (p : Nat → Bool) : cnt p 0 = 0 := rfl
theorem cnt_succ (p : Nat → Bool) (n : Nat) : cnt p (n + 1) = cnt p n + if p n then 1 else 0 := rfl
end Go.Plain
end
section
namespace Go.Proofs.Ytekkldgmjdllbaa
open Go.RowKit Go.Flow Go.AV Go.Plain
structure Bg where
 lo : Int
 bl : Int
 sh : Int
 st : Int
 deriving DecidableEq
abbrev bgC (x : Bg) : List CV := [iC x.lo, iC x.bl, iC x.sh, iC x.st]
abbrev lim1 (n m : Int) : Int := max 0 (min n m)
def lim4 (x : Bg) : Bg := ⟨lim1 x.lo 200, lim1 x.bl 200, lim1 x.sh 2, lim1 x.st 16⟩
theorem lim_bd {x : Bg} (h : x = lim4 x) : (0 ≤ x.lo ∧ x.lo ≤ 200) ∧ (0 ≤ x.bl ∧ x.bl ≤ 200) ∧ (0 ≤ x.sh ∧ x.sh ≤ 2) ∧ 0 ≤ x.st ∧ x.st ≤ 16 := by
 have e1 := congrArg Bg.lo h
 have e2 := congrArg Bg.bl h
 have e3 := congrArg Bg.sh h
 have e4 := congrArg Bg.st h
 simp only [lim4, lim1] at e1 e2 e3 e4
 omega
theorem lim_idem (x : Bg) : lim4 (lim4 x) = lim4 x := by
 simp only [lim4, lim1, Bg.mk.injEq]
 omega
def mkOk (n : Nat) (px : Nat → Int) (l : Nat → Int) (kind : Int) (k : Nat) : Prop := 0 ≤ l k ∧ l k < n ∧ (0 < k → l (k - 1) < l k) ∧ px (l k).toNat = kind
instance (n : Nat) (px l : Nat → Int) (kind : Int) (k : Nat) : Decidable (mkOk n px l kind k) := by unfold mkOk; infer_instance
def mkAll (n : Nat) (px : Nat → Int) (l : Nat → Int) (kind : Int) (N : Nat) : Bool := (List.range N).all fun k => decide (mkOk n px l kind k)
theorem mkAll_iff {n N : Nat} {px l : Nat → Int} {kind : Int} : mkAll n px l kind N = true ↔ ∀ k, k < N → mkOk n px l kind k := by
 unfold mkAll
 rw [List.all_eq_true]
 simp only [List.mem_range, decide_eq_true_eq]
theorem bCheck_A (W H : Int) (n : Nat) (dot : Nat → Bool) : ACalls Try.prog 64 [.ag (bmpV W H n dot)] (.c (iC (chk W H n))) :=
 ACalls.old rfl fun O w vals h => by
  obtain ⟨x, rfl, h1⟩ := args1 h
  obtain ⟨A, c, rfl, -, hA⟩ := rep_bmp h1
  exact Check2_any W H A n c w
structure Bp where
 W : Int
 H : Int
 n : Nat
 d : Nat → Bool
abbrev bpC (b : Bp) : List CV := bmpV b.W b.H b.n b.d
structure Ip where
 W : Int
 H : Int
 n : Nat
 f : Nat → Int
def fitOk (x : Ip) (b : Bp) (dx dy : Int) : Prop := putE b.W b.H b.n dx dy = 0 ∧ chkI x.W x.H x.n x.f = 0 ∧ x.W = b.W + 4 ∧ x.H = b.H + 4
instance (x : Ip) (b : Bp) (dx dy : Int) : Decidable (fitOk x b dx dy) := by unfold fitOk; infer_instance
end Go.Proofs.Ytekkldgmjdllbaa
end
