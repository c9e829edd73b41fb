/- Parts of the proof: Sum, A23a, A23b, A23c, A23g, A23h, A23k. -/
import Derived.WalkKit
import Derived.Test.YtekkldgmjdllbaaG07
import Derived.Laws.Cover3
import Derived.Test.YtekkldgmjdllbaaG12
import Derived.Test.YtekkldgmjdllbaaProg
import Derived.Test.YtekkldgmjdllbaaG13
import Derived.Test.YtekkldgmjdllbaaG10
import Derived.Test.YtekkldgmjdllbaaG01
set_option linter.unusedSimpArgs false
set_option linter.unusedVariables false
section
namespace Go.Plain
def sumTo (f : Nat → Int) : Nat → Int
 | 0 => 0
 | n + 1 => sumTo f n + f n
def cnt (p : Nat → Bool) (n : Nat) : Int := sumTo (fun j => if p j then 1 else 0) n

theorem sumTo_nonneg {f : Nat → Int} : ∀ {n : Nat}, (∀ k, k < n → 0 ≤ f k) → 0 ≤ sumTo f n
 | 0, _ => by simp [sumTo]
 | n + 1, h => by have := sumTo_nonneg (n := n) fun k hk => h k (by omega); have := h n (by omega); simp only [sumTo]; omega
theorem sumTo_le {f g : Nat → Int} : ∀ {n : Nat}, (∀ k, k < n → f k ≤ g k) → sumTo f n ≤ sumTo g n
 | 0, _ => by simp [sumTo]
 | n + 1, h => by have := sumTo_le (n := n) fun k hk => h k (by omega); have := h n (by omega); simp only [sumTo]; omega
theorem sumTo_const (c : Int) : ∀ n : Nat, sumTo (fun _ => c) n = n * c
 | 0 => by simp [sumTo]
 | n + 1 => by simp only [sumTo, sumTo_const c n]; rw [Int.natCast_succ, Int.add_mul]; omega
theorem cnt_nonneg (p : Nat → Bool) (n : Nat) : 0 ≤ cnt p n := sumTo_nonneg fun k _ => by split <;> omega
theorem cnt_le (p : Nat → Bool) (n : Nat) : cnt p n ≤ n := by
 have := sumTo_le (f := fun j => if p j then 1 else 0) (g := fun _ => 1) (n := n) fun k _ => by split <;> omega
 rw [sumTo_const] at this
 unfold cnt
 omega
theorem cnt_zero (p : Nat → Bool) : cnt p 0 = 0 := rfl
theorem cnt_succ (p : Nat → Bool) (n : Nat) : cnt p (n + 1) = cnt p n + if p n then 1 else 0 := rfl
end Go.Plain
end
section
namespace Go.Proofs.Ytekkldgmjdllbaa
open Go.RowKit Go.Flow Go.AV Go.Plain
structure Bg where
 lo : Int
 bl : Int
 sh : Int
 st : Int
 deriving DecidableEq
abbrev bgC (x : Bg) : List CV := [iC x.lo, iC x.bl, iC x.sh, iC x.st]
abbrev lim1 (n m : Int) : Int := max 0 (min n m)
def lim4 (x : Bg) : Bg := ⟨lim1 x.lo 200, lim1 x.bl 200, lim1 x.sh 2, lim1 x.st 16⟩
theorem rlim1_A (n m : Int) : ACalls Try.prog 126 [.c (iC n), .c (iC m)] (.c (iC (lim1 n m))) := by
 refine acalls_at Try.func126 rfl rfl Try.ntmps126 rfl ?_
 repeat (first
  | refine uA ?_
  | refine uB ?_
  | refine uC ?_
  | refine uG ?_
  | refine uH ?_
  | refine AWp.ret ?_
  | refine thenA_e ?_
  | refine thenA_r ?_
  | refine uD ?_
  | refine uE ?_
  | refine uF ?_
  | refine inBlk_miss rfl ?_
  | refine kT ?_
  | refine kU ?_
  | refine AWp.scope (fun _ _ h => h) ?_
  | refine AWp.label ?_
  | (refine rG 0 ?_
     refine kC ?_
     refine aB ?_)
  | (refine rG 1 ?_
     (iterate 2 refine kA ?_)
     refine qr4 AList.minI ?_
     refine qr4 AList.maxI ?_
     refine kC ?_
     refine aB ?_))
 refine ⟨mkSt 9 [(4, .c (iC (lim1 n m)))] [] [], [], Wk.mk [] rfl rfl rfl ?_ trivial, rfl, rfl, aR1⟩
 exact allT
set_option maxRecDepth 100000 in
theorem rlim_A (x : Bg) : ACalls Try.prog 86 [.ag (bgC x)] (.ag (bgC (lim4 x))) := by
 refine acalls_at Try.func86 rfl rfl Try.ntmps86 rfl ?_
 repeat (first
  | refine uA ?_
  | refine uB ?_
  | refine uC ?_
  | refine uG ?_
  | refine uH ?_
  | refine AWp.ret ?_
  | refine thenA_e ?_
  | refine thenA_r ?_
  | refine uD ?_
  | refine uE ?_
  | refine uF ?_
  | refine inBlk_miss rfl ?_
  | refine kT ?_
  | refine kU ?_
  | refine AWp.scope (fun _ _ h => h) ?_
  | refine AWp.label ?_
  | (refine rG 0 ?_
     refine qr5 aQ ?_
     refine qr5 (aM tyOk) ?_
     refine aB ?_)
  | (refine AWp.draw (id := 1) mixed ?_; (first | refine kD ?_ | refine qr7 (AList.fieldPl tyOk) ?_); (first | refine kE ?_ | refine qr5o (aV tyOk) ?_); refine aH rfl rfl rfl rfl Try.func126 rfl (by kernel_rfl) (rlim1_A _ _) ?_; (first | refine kD ?_ | refine qr7 (AList.fieldPl tyOk) ?_); (first | refine kE ?_ | refine qr5o (aV tyOk) ?_); refine aH rfl rfl rfl rfl Try.func126 rfl (by kernel_rfl) (rlim1_A _ _) ?_; (first | refine kD ?_ | refine qr7 (AList.fieldPl tyOk) ?_); (first | refine kE ?_ | refine qr5o (aV tyOk) ?_); refine aH rfl rfl rfl rfl Try.func126 rfl (by kernel_rfl) (rlim1_A _ _) ?_; (first | refine kD ?_ | refine qr7 (AList.fieldPl tyOk) ?_); (first | refine kE ?_ | refine qr5o (aV tyOk) ?_); refine aH rfl rfl rfl rfl Try.func126 rfl (by kernel_rfl) (rlim1_A _ _) ?_; (first | refine qr8 (aX tyOk) ?_ | refine qr8 (AList.buildArr tyOk) ?_); refine kI ?_; refine aB ⟨by kernel_rfl, ?_⟩))
 refine ⟨mkSt 16 [(2, .c (.pt 2 4 0 0))] [(2, ⟨false, 1, 4, 33, lF (bgC (lim4 x))⟩)] [2], [(2, ⟨false, 1, 4, 33, lF (bgC (lim4 x))⟩)], Wk.mk [(2, some 2)] rfl rfl rfl ?_ ?_, rfl, rfl, ARets.one (x := .ag _) (ARes.box tyOk rfl rfl rfl rfl rfl rfl rfl)⟩
 ·exact allT
 ·exact allH
theorem lim_bd {x : Bg} (h : x = lim4 x) : (0 ≤ x.lo ∧ x.lo ≤ 200) ∧ (0 ≤ x.bl ∧ x.bl ≤ 200) ∧ (0 ≤ x.sh ∧ x.sh ≤ 2) ∧ 0 ≤ x.st ∧ x.st ≤ 16 := by
 have e1 := congrArg Bg.lo h
 have e2 := congrArg Bg.bl h
 have e3 := congrArg Bg.sh h
 have e4 := congrArg Bg.st h
 simp only [lim4, lim1] at e1 e2 e3 e4
 omega
theorem lim_idem (x : Bg) : lim4 (lim4 x) = lim4 x := by
 simp only [lim4, lim1, Bg.mk.injEq]
 omega
def mkOk (n : Nat) (px : Nat → Int) (l : Nat → Int) (kind : Int) (k : Nat) : Prop := 0 ≤ l k ∧ l k < n ∧ (0 < k → l (k - 1) < l k) ∧ px (l k).toNat = kind
instance (n : Nat) (px l : Nat → Int) (kind : Int) (k : Nat) : Decidable (mkOk n px l kind k) := by unfold mkOk; infer_instance
def mkAll (n : Nat) (px : Nat → Int) (l : Nat → Int) (kind : Int) (N : Nat) : Bool := (List.range N).all fun k => decide (mkOk n px l kind k)
theorem mkAll_iff {n N : Nat} {px l : Nat → Int} {kind : Int} : mkAll n px l kind N = true ↔ ∀ k, k < N → mkOk n px l kind k := by
 unfold mkAll
 rw [List.all_eq_true]
 simp only [List.mem_range, decide_eq_true_eq]
theorem rbCheck_A (W H : Int) (n : Nat) (dot : Nat → Bool) : ACalls Try.prog 94 [.ag (bmpV W H n dot)] (.c (iC (chk W H n))) :=
 ACalls.old rfl fun O w vals h => by
  obtain ⟨x, rfl, h1⟩ := args1 h
  obtain ⟨A, c, rfl, -, hA⟩ := rep_bmp h1
  exact Check_any W H A n c w
theorem Get_A (W H : Int) (n : Nat) (dot : Nat → Bool) (x y : Int) (hok : chk W H n = 0) : ACalls Try.prog 100 [.ag (bmpV W H n dot), .c (iC x), .c (iC y)] (.c (bC (hasB W H dot x y))) :=
 ACalls.old rfl fun O w vals h => by
  obtain ⟨b, x1, y1, rfl, h1, h2, h3⟩ := args3 h
  obtain ⟨A, c, rfl, -, hA⟩ := rep_bmp h1
  cases rep_c h2
  cases rep_c h3
  exact Get_any W H A n c dot x y w hok hA
structure Bp where
 W : Int
 H : Int
 n : Nat
 d : Nat → Bool
abbrev bpC (b : Bp) : List CV := bmpV b.W b.H b.n b.d
structure Ip where
 W : Int
 H : Int
 n : Nat
 f : Nat → Int
def fitOk (x : Ip) (b : Bp) (dx dy : Int) : Prop := putE b.W b.H b.n dx dy = 0 ∧ chkI x.W x.H x.n x.f = 0 ∧ x.W = b.W + 4 ∧ x.H = b.H + 4
instance (x : Ip) (b : Bp) (dx dy : Int) : Decidable (fitOk x b dx dy) := by unfold fitOk; infer_instance
end Go.Proofs.Ytekkldgmjdllbaa
end
