/- Parts of the proof: Sum. -/
import Derived.Test.YtfgcogkhnnflcaaDoorG02
import Derived.WalkKit
set_option linter.unusedSimpArgs false
set_option linter.unusedVariables false
section
namespace Go.Plain

theorem sumTo_congr {f g : Nat → Int} : ∀ {n : Nat}, (∀ k, k < n → f k = g k) → sumTo f n = sumTo g n
  | 0, _ => rfl
  | n + 1, h => by simp only [sumTo]; rw [sumTo_congr (n := n) fun k hk => h k (by omega), h n (by omega)]
theorem sumTo_add (f g : Nat → Int) : ∀ n : Nat, sumTo (fun k => f k + g k) n = sumTo f n + sumTo g n
  | 0 => rfl
  | n + 1 => by simp only [sumTo, sumTo_add f g n]; omega
theorem sumTo_swap (f : Nat → Nat → Int) (m : Nat) : ∀ n : Nat, sumTo (fun i => sumTo (fun j => f i j) m) n = sumTo (fun j => sumTo (fun i => f i j) n) m
  | 0 => by
    simp only [sumTo]
    have h0 : ∀ m : Nat, sumTo (fun _ => 0) m = 0 := fun m => by rw [sumTo_const]; omega
    exact (h0 m).symm
  | n + 1 => by simp only [sumTo, sumTo_swap f m n, sumTo_add]
theorem sumTo_split (f : Nat → Int) (a : Nat) : ∀ b : Nat, sumTo f (a + b) = sumTo f a + sumTo (fun k => f (a + k)) b
  | 0 => by simp [sumTo]
  | b + 1 => by rw [← Nat.add_assoc]; simp only [sumTo, sumTo_split f a b]; omega
/-- Only one term is not 0. -/
theorem sumTo_one (v : Int) (i : Nat) : ∀ n : Nat, sumTo (fun k => if k = i then v else 0) n = if i < n then v else 0
  | 0 => by simp [sumTo]
  | n + 1 => by
    simp only [sumTo, sumTo_one v i n]
    by_cases h : n = i
    · subst h; simp
    · by_cases h2 : i < n
      · simp [h, h2, show i < n + 1 by omega]
      · simp [h, h2, show ¬ i < n + 1 by omega]
theorem cnt_congr {p q : Nat → Bool} {n : Nat} (h : ∀ k, k < n → p k = q k) : cnt p n = cnt q n := sumTo_congr fun k hk => by rw [h k hk]
end Go.Plain
end
