/- Parts of the proof: Sum. -/
import Derived.Test.YtekkldgmjdllbaaG16
import Derived.WalkKit
set_option linter.unusedSimpArgs false
set_option linter.unusedVariables false
section
namespace Go.Plain
theorem sumTo_congr {f g : Nat → Int} : ∀ {n : Nat}, (∀ k, k < n → f k = g k) → sumTo f n = sumTo g n
 | 0, _ => rfl
 | n + 1, h => by simp only [sumTo]; rw [sumTo_congr (n := n) fun k hk => h k (by omega), h n (by omega)]
theorem sumTo_split (f : Nat → Int) (a : Nat) : ∀ b : Nat, sumTo f (a + b) = sumTo f a + sumTo (fun k => f (a + k)) b
 | 0 => by simp [sumTo]
 | b + 1 => by rw [← Nat.add_assoc]; simp only [sumTo, sumTo_split f a b]; omega
theorem cnt_congr {p q : Nat → Bool} {n : Nat} (h : ∀ k, k < n → p k = q k) : cnt p n = cnt q n := sumTo_congr fun k hk => by rw [h k hk]
end Go.Plain
end
