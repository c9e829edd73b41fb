/- Plain laws on sums and counts; no program. No condition. -/
import Derived.WalkKit
namespace Go.Plain

/-- f 0 + .. + f (n - 1). -/
def sumTo (f : Nat → Int) : Nat → Int
  | 0 => 0
  | n + 1 => sumTo f n + f n
/-- How many j < n there are with p j. -/
def cnt (p : Nat → Bool) (n : Nat) : Int := sumTo (fun j => if p j then 1 else 0) n

theorem sumTo_congr {f g : Nat → Int} : ∀ {n : Nat}, (∀ k, k < n → f k = g k) → sumTo f n = sumTo g n
  | 0, _ => rfl
  | n + 1, h => by simp only [sumTo]; rw [sumTo_congr (n := n) fun k hk => h k (by omega), h n (by omega)]
theorem sumTo_nonneg {f : Nat → Int} : ∀ {n : Nat}, (∀ k, k < n → 0 ≤ f k) → 0 ≤ sumTo f n
  | 0, _ => by simp [sumTo]
  | n + 1, h => by have := sumTo_nonneg (n := n) fun k hk => h k (by omega); have := h n (by omega); simp only [sumTo]; omega
theorem sumTo_le {f g : Nat → Int} : ∀ {n : Nat}, (∀ k, k < n → f k ≤ g k) → sumTo f n ≤ sumTo g n
  | 0, _ => by simp [sumTo]
  | n + 1, h => by have := sumTo_le (n := n) fun k hk => h k (by omega); have := h n (by omega); simp only [sumTo]; omega
theorem sumTo_const (c : Int) : ∀ n : Nat, sumTo (fun _ => c) n = n * c
  | 0 => by simp [sumTo]
  | n + 1 => by simp only [sumTo, sumTo_const c n]; rw [Int.natCast_succ, Int.add_mul]; omega
theorem sumTo_add (f g : Nat → Int) : ∀ n : Nat, sumTo (fun k => f k + g k) n = sumTo f n + sumTo g n
  | 0 => rfl
  | n + 1 => by simp only [sumTo, sumTo_add f g n]; omega
theorem sumTo_sub (f g : Nat → Int) : ∀ n : Nat, sumTo (fun k => f k - g k) n = sumTo f n - sumTo g n
  | 0 => rfl
  | n + 1 => by simp only [sumTo, sumTo_sub f g n]; omega
theorem sumTo_swap (f : Nat → Nat → Int) (m : Nat) : ∀ n : Nat, sumTo (fun i => sumTo (fun j => f i j) m) n = sumTo (fun j => sumTo (fun i => f i j) n) m
  | 0 => by
    simp only [sumTo]
    have h0 : ∀ m : Nat, sumTo (fun _ => 0) m = 0 := fun m => by rw [sumTo_const]; omega
    exact (h0 m).symm
  | n + 1 => by simp only [sumTo, sumTo_swap f m n, sumTo_add]
theorem sumTo_split (f : Nat → Int) (a : Nat) : ∀ b : Nat, sumTo f (a + b) = sumTo f a + sumTo (fun k => f (a + k)) b
  | 0 => by simp [sumTo]
  | b + 1 => by rw [← Nat.add_assoc]; simp only [sumTo, sumTo_split f a b]; omega
/-- Only one term is not 0. -/
theorem sumTo_one (v : Int) (i : Nat) : ∀ n : Nat, sumTo (fun k => if k = i then v else 0) n = if i < n then v else 0
  | 0 => by simp [sumTo]
  | n + 1 => by
    simp only [sumTo, sumTo_one v i n]
    by_cases h : n = i
    · subst h; simp
    · by_cases h2 : i < n
      · simp [h, h2, show i < n + 1 by omega]
      · simp [h, h2, show ¬ i < n + 1 by omega]
theorem cnt_nonneg (p : Nat → Bool) (n : Nat) : 0 ≤ cnt p n := sumTo_nonneg fun k _ => by split <;> omega
theorem cnt_le (p : Nat → Bool) (n : Nat) : cnt p n ≤ n := by
  have := sumTo_le (f := fun j => if p j then 1 else 0) (g := fun _ => 1) (n := n) fun k _ => by split <;> omega
  rw [sumTo_const] at this
  unfold cnt
  omega
theorem cnt_zero (p : Nat → Bool) : cnt p 0 = 0 := rfl
theorem cnt_succ (p : Nat → Bool) (n : Nat) : cnt p (n + 1) = cnt p n + if p n then 1 else 0 := rfl
theorem cnt_congr {p q : Nat → Bool} {n : Nat} (h : ∀ k, k < n → p k = q k) : cnt p n = cnt q n := sumTo_congr fun k hk => by rw [h k hk]
theorem cnt_mono {p q : Nat → Bool} {n : Nat} (h : ∀ k, k < n → p k = true → q k = true) : cnt p n ≤ cnt q n := sumTo_le fun k hk => by
  by_cases hp : p k = true
  · simp [hp, h k hk hp]
  · simp [hp]; split <;> omega

/-- v is the least of f on S. -/
def IsMin {α : Type} (S : α → Prop) (f : α → Int) (v : Int) : Prop := (∃ a, S a ∧ f a = v) ∧ ∀ a, S a → v ≤ f a
theorem IsMin.unique {α : Type} {S : α → Prop} {f : α → Int} {v v' : Int} (h : IsMin S f v) (h' : IsMin S f v') : v = v' := by
  obtain ⟨⟨a, ha, rfl⟩, h2⟩ := h
  obtain ⟨⟨b, hb, rfl⟩, h4⟩ := h'
  have := h2 b hb
  have := h4 a ha
  omega
end Go.Plain
