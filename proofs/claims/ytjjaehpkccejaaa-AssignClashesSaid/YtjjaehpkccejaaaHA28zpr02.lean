/- Parts of the proof: Sum, A23a, A23g. -/
import Derived.Test.YtjjaehpkccejaaaG13
import Derived.WalkKit
import Derived.Test.YtjjaehpkccejaaaG07
import Derived.Test.YtjjaehpkccejaaaHA28zpr01
import Derived.Laws.Cover3
import Derived.Test.YtjjaehpkccejaaaG10
import Derived.Test.YtjjaehpkccejaaaProg
import Derived.Test.YtjjaehpkccejaaaG01
import Derived.Test.YtjjaehpkccejaaaG06
import Derived.Laws.StructEq
import Derived.Test.YtjjaehpkccejaaaG09
import Derived.Lib.Hide
import Derived.Deep.QuietTactic
import Derived.BigQuiet
import Derived.Deep.DrawnRows
import Derived.Deep.AppendLies
import Derived.Maps.AppendAt
import Derived.OwnWalk
import Derived.StillTail
import Derived.Below
import Derived.Deep.Draws
import Derived.KernelRfl
import Derived.Test.YtjjaehpkccejaaaG05
import Derived.Test.YtjjaehpkccejaaaG04
import Derived.Great.BuildSlice
import Derived.Test.YtjjaehpkccejaaaG03
import Derived.Test.YtjjaehpkccejaaaG02
import Derived.RangeFuncLeaves
import Derived.RangeFuncRecord
import Derived.OrdersIn
import Derived.TacticsIn
import Derived.RangeFuncCalls
set_option linter.unusedSimpArgs false
set_option linter.unusedVariables false
section
namespace Go.Plain

theorem sumTo_swap (f : Nat → Nat → Int) (m : Nat) : ∀ n : Nat, sumTo (fun i => sumTo (fun j => f i j) m) n = sumTo (fun j => sumTo (fun i => f i j) n) m
 | 0 => by
   simp only [sumTo]
   have h0 : ∀ m : Nat, sumTo (fun _ => 0) m = 0 := fun m => by rw [sumTo_const]; omega
   exact (h0 m).symm
 | n + 1 => by simp only [sumTo, sumTo_swap f m n, sumTo_add]
theorem cnt_mono {p q : Nat → Bool} {n : Nat} (h : ∀ k, k < n → p k = true → q k = true) : cnt p n ≤ cnt q n := sumTo_le fun k hk => by
 by_cases hp : p k = true
 ·simp [hp, h k hk hp]
 ·simp [hp]; split <;> omega

end Go.Plain
end

section
namespace Go.Proofs.Ytjjaehpkccejaaa
open Go.RowKit Go.Flow Go.AV Go.Plain
theorem rlim1_A (n m : Int) : ACalls Try.prog 94 [.c (iC n), .c (iC m)] (.c (iC (lim1 n m))) := by
 refine acalls_at Try.func94 rfl rfl Try.ntmps94 rfl ?_
 repeat (first
  | refine AWp.seq ?_
  | refine thenA_n ?_
  | refine AWp.ret ?_
  | (refine rG 0 ?_
     refine kC ?_
     refine aB ?_)
  | (refine rG 1 ?_
     (iterate 2 refine kA ?_)
     refine qr4 AList.minI ?_
     refine qr4 AList.maxI ?_
     refine kC ?_
     refine aB ?_))
 refine ⟨mkSt 9 [(4, .c (iC (lim1 n m)))] [] [], [], Wk.mk [] rfl rfl rfl ?_ trivial, rfl, rfl, ARets.one (x := .c _) (ARes.tmp rfl rfl)⟩
 exact allT
set_option maxRecDepth 100000 in
theorem rlim_A (x : Bg) : ACalls Try.prog 90 [.ag (bgC x)] (.ag (bgC (lim4 x))) := by
 refine acalls_at Try.func90 rfl rfl Try.ntmps90 rfl ?_
 repeat (first
  | refine AWp.seq ?_
  | refine thenA_n ?_
  | refine AWp.ret ?_
  | (refine rG 0 ?_
     refine qr5 aQ ?_
     refine qr5 (aM tyOk) ?_
     refine aB ?_)
  | (refine AWp.draw (id := 1) mixed ?_; refine kD ?_; refine kE ?_; refine aH rfl rfl rfl rfl Try.func94 rfl (by kernel_rfl) (rlim1_A _ _) ?_; refine kD ?_; refine kE ?_; refine aH rfl rfl rfl rfl Try.func94 rfl (by kernel_rfl) (rlim1_A _ _) ?_; refine kD ?_; refine kE ?_; refine aH rfl rfl rfl rfl Try.func94 rfl (by kernel_rfl) (rlim1_A _ _) ?_; refine kD ?_; refine kE ?_; refine aH rfl rfl rfl rfl Try.func94 rfl (by kernel_rfl) (rlim1_A _ _) ?_; refine qr8 (aX tyOk) ?_; refine kI ?_; refine aB ⟨by kernel_rfl, ?_⟩))
 refine ⟨mkSt 16 [(2, .c (.pt 2 4 0 0))] [(2, ⟨false, 1, 4, 42, lF (bgC (lim4 x))⟩)] [2], [(2, ⟨false, 1, 4, 42, lF (bgC (lim4 x))⟩)], Wk.mk [(2, some 2)] rfl rfl rfl ?_ ?_, rfl, rfl, ARets.one (x := .ag _) (ARes.box tyOk rfl rfl rfl rfl rfl rfl rfl)⟩
 ·exact allT
 ·exact allH
end Go.Proofs.Ytjjaehpkccejaaa
end

section
namespace Go.Proofs.Ytjjaehpkccejaaa
open Go.RowKit Go.Flow Go.AV Go.Plain
theorem rbCheck_A (W H : Int) (n : Nat) (dot : Nat → Bool) : ACalls Try.prog 44 [.ag (bmpV W H n dot)] (.c (iC (chk W H n))) :=
 ACalls.old rfl fun O w vals h => by
  obtain ⟨x, rfl, h1⟩ := args1 h
  obtain ⟨A, c, rfl, -, hA⟩ := rep_bmp h1
  exact Check_any W H A n c w
theorem Get_A (W H : Int) (n : Nat) (dot : Nat → Bool) (x y : Int) (hok : chk W H n = 0) : ACalls Try.prog 61 [.ag (bmpV W H n dot), .c (iC x), .c (iC y)] (.c (bC (hasB W H dot x y))) :=
 ACalls.old rfl fun O w vals h => by
  obtain ⟨b, x1, y1, rfl, h1, h2, h3⟩ := args3 h
  obtain ⟨A, c, rfl, -, hA⟩ := rep_bmp h1
  cases rep_c h2
  cases rep_c h3
  exact Get_any W H A n c dot x y w hok hA
end Go.Proofs.Ytjjaehpkccejaaa
end
