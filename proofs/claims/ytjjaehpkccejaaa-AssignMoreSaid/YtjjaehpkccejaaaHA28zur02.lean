/- Parts of the proof: Sum, A23g. -/
import Derived.Test.YtjjaehpkccejaaaG13
import Derived.WalkKit
import Derived.Test.YtjjaehpkccejaaaG10
import Derived.Test.YtjjaehpkccejaaaHA28zur01
import Derived.Test.YtjjaehpkccejaaaG07
import Derived.Test.YtjjaehpkccejaaaG09
import Derived.Laws.Cover3
import Derived.Test.YtjjaehpkccejaaaProg
import Derived.Test.YtjjaehpkccejaaaG01
import Derived.Test.YtjjaehpkccejaaaG06
import Derived.Laws.StructEq
import Derived.Lib.Hide
import Derived.Deep.QuietTactic
import Derived.BigQuiet
import Derived.Deep.DrawnRows
import Derived.Deep.AppendLies
import Derived.Maps.AppendAt
import Derived.OwnWalk
import Derived.StillTail
import Derived.Below
import Derived.Deep.Draws
import Derived.KernelRfl
import Derived.Test.YtjjaehpkccejaaaG05
import Derived.Test.YtjjaehpkccejaaaG04
import Derived.Great.BuildSlice
import Derived.Test.YtjjaehpkccejaaaG03
import Derived.Test.YtjjaehpkccejaaaG02
import Derived.RangeFuncLeaves
import Derived.RangeFuncRecord
import Derived.OrdersIn
import Derived.TacticsIn
import Derived.RangeFuncCalls
set_option linter.unusedSimpArgs false
set_option linter.unusedVariables false
section
namespace Go.Plain

theorem cnt_mono {p q : Nat → Bool} {n : Nat} (h : ∀ k, k < n → p k = true → q k = true) : cnt p n ≤ cnt q n := sumTo_le fun k hk => by
 by_cases hp : p k = true
 ·simp [hp, h k hk hp]
 ·simp [hp]; split <;> omega

end Go.Plain
end

section
namespace Go.Proofs.Ytjjaehpkccejaaa
open Go.RowKit Go.Flow Go.AV Go.Plain
theorem rbCheck_A (W H : Int) (n : Nat) (dot : Nat → Bool) : ACalls Try.prog 44 [.ag (bmpV W H n dot)] (.c (iC (chk W H n))) :=
 ACalls.old rfl fun O w vals h => by
  obtain ⟨x, rfl, h1⟩ := args1 h
  obtain ⟨A, c, rfl, -, hA⟩ := rep_bmp h1
  exact Check_any W H A n c w
theorem Get_A (W H : Int) (n : Nat) (dot : Nat → Bool) (x y : Int) (hok : chk W H n = 0) : ACalls Try.prog 61 [.ag (bmpV W H n dot), .c (iC x), .c (iC y)] (.c (bC (hasB W H dot x y))) :=
 ACalls.old rfl fun O w vals h => by
  obtain ⟨b, x1, y1, rfl, h1, h2, h3⟩ := args3 h
  obtain ⟨A, c, rfl, -, hA⟩ := rep_bmp h1
  cases rep_c h2
  cases rep_c h3
  exact Get_any W H A n c dot x y w hok hA
end Go.Proofs.Ytjjaehpkccejaaa
end
