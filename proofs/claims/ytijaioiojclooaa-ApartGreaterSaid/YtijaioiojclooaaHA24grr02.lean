/- Parts of the proof: Sum, A23l. -/
import Derived.Test.YtijaioiojclooaaG17
import Derived.WalkKit
import Derived.Test.YtijaioiojclooaaG18
import Derived.Test.YtijaioiojclooaaProg
import Derived.Test.YtijaioiojclooaaG11
import Derived.Test.YtijaioiojclooaaG16
import Derived.Test.YtijaioiojclooaaG01
import Derived.Lib.Hide
import Derived.Deep.QuietTactic
import Derived.BigQuiet
import Derived.Deep.DrawnRows
import Derived.StillTail
import Derived.Below
import Derived.Deep.Draws
import Derived.KernelRfl
import Derived.Deep.AppendLies
import Derived.Maps.AppendAt
import Derived.OwnWalk
import Derived.Test.YtijaioiojclooaaG08
import Derived.Test.YtijaioiojclooaaG10
import Derived.Laws.Cover3
import Derived.Test.YtijaioiojclooaaHA24grr01
import Derived.Test.YtijaioiojclooaaG15
import Derived.Test.YtijaioiojclooaaG07
import Derived.Laws.StructEq
import Derived.Test.YtijaioiojclooaaG06
import Derived.Test.YtijaioiojclooaaG05
import Derived.Great.BuildSlice
import Derived.Test.YtijaioiojclooaaG04
import Derived.Test.YtijaioiojclooaaG03
import Derived.RangeFuncLeaves
import Derived.RangeFuncRecord
import Derived.Test.YtijaioiojclooaaG02
import Derived.OrdersIn
import Derived.TacticsIn
import Derived.RangeFuncCalls
set_option linter.unusedSimpArgs false
set_option linter.unusedVariables false
section
namespace Go.Plain

theorem cnt_mono {p q : Nat → Bool} {n : Nat} (h : ∀ k, k < n → p k = true → q k = true) : cnt p n ≤ cnt q n := sumTo_le fun k hk => by
  by_cases hp : p k = true
  · simp [hp, h k hk hp]
  · simp [hp]; split <;> omega

end Go.Plain
end

section
namespace Go.Proofs.Ytijaioiojclooaa
open Go.RowKit Go.Flow Go.AV Go.Plain
theorem bgN_bd (N : Nat) (f : Nat → Int) : (0 ≤ (bgN N f).lo ∧ (bgN N f).lo < 5) ∧ (0 ≤ (bgN N f).bl ∧ (bgN N f).bl < 4) ∧ (0 ≤ (bgN N f).sh ∧ (bgN N f).sh < 2) ∧ 0 ≤ (bgN N f).st ∧ (bgN N f).st < 4 :=
  ⟨dval_bd _ _ _ _ (by omega), dval_bd _ _ _ _ (by omega), dval_bd _ _ _ _ (by omega), dval_bd _ _ _ _ (by omega)⟩
end Go.Proofs.Ytijaioiojclooaa
end
