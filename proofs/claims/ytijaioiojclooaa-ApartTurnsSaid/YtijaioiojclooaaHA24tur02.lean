/- Parts of the proof: Sum. -/
import Derived.Test.YtijaioiojclooaaG17
import Derived.WalkKit
set_option linter.unusedSimpArgs false
set_option linter.unusedVariables false
section
namespace Go.Plain

theorem cnt_mono {p q : Nat → Bool} {n : Nat} (h : ∀ k, k < n → p k = true → q k = true) : cnt p n ≤ cnt q n := sumTo_le fun k hk => by
  by_cases hp : p k = true
  · simp [hp, h k hk hp]
  · simp [hp]; split <;> omega

end Go.Plain
end
