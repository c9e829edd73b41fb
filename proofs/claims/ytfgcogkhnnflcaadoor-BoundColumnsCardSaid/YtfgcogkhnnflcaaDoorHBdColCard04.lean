/- Parts of the proof: BdColP. -/
import Derived.Test.YtfgcogkhnnflcaaDoorProg
import Derived.Test.YtfgcogkhnnflcaaDoorG02
import Derived.Test.YtfgcogkhnnflcaaDoorG01
import Derived.Test.YtfgcogkhnnflcaaDoorHBdColCard01
import Derived.Test.YtfgcogkhnnflcaaDoorHBdColCard02
import Derived.WalkKit
import Derived.Lib.Hide
import Derived.Deep.QuietTactic
import Derived.BigQuiet
import Derived.Deep.DrawnRows
import Derived.StillTail
import Derived.Below
import Derived.Deep.Draws
import Derived.KernelRfl
set_option linter.unusedSimpArgs false
set_option linter.unusedVariables false
section
namespace Go.Proofs.YtfgcogkhnnflcaaDoor
open Go.RowKit Go.Flow Go.Plain
open Go.Proofs

theorem cnt_split (p : Nat → Bool) (a b : Nat) : cnt p (a + b) = cnt p a + cnt (fun k => p (a + k)) b := sumTo_split _ a b
theorem cnt_false {p : Nat → Bool} {n : Nat} (h : ∀ k, k < n → p k = false) : cnt p n = 0 := by
  have : cnt p n = sumTo (fun _ => 0) n := sumTo_congr fun k hk => by rw [h k hk]; rfl
  rw [this, sumTo_const]
  omega
/-- One column. -/
theorem col_part (W : Nat) (dot : Nat → Bool) (k : Nat) (hk : k < W) : ∀ H : Nat, cnt (fun j => dot j && decide ((j : Int) % (W : Int) = k)) (W * H) = cnt (fun j => dot (j * W + k)) H
  | 0 => rfl
  | H + 1 => by
    rw [Nat.mul_succ, cnt_split, col_part W dot k hk H, cnt_succ]
    congr 1
    have : cnt (fun i => dot (W * H + i) && decide ((((W * H + i : Nat)) : Int) % (W : Int) = k)) W = sumTo (fun i => if i = k then (if dot (H * W + k) then 1 else 0) else 0) W := sumTo_congr fun i hi => by
      have e : ((W * H + i : Nat) : Int) % (W : Int) = i := by
        rw [← Int.natCast_emod, Nat.mul_add_mod, Nat.mod_eq_of_lt hi]
      simp only [e]
      by_cases h : i = k
      · subst h; simp [Nat.mul_comm H W]
      · have : ¬ ((i : Int) = k) := by omega
        simp [h, this]
    rw [this, sumTo_one, if_pos hk]
/-- One row. -/
theorem row_part (W : Nat) (hW : 0 < W) (dot : Nat → Bool) (k r : Nat) : cnt (fun j => dot j && decide ((j : Int) / (W : Int) = k)) (W * (k + 1 + r)) = cnt (fun j => dot (k * W + j)) W := by
  have e : W * (k + 1 + r) = W * k + (W + W * r) := by rw [Nat.mul_add, Nat.mul_add]; omega
  have hdiv : ∀ j : Nat, (j : Int) / (W : Int) = ((j / W : Nat) : Int) := fun j => (Int.natCast_ediv j W).symm
  have h1 : cnt (fun j => dot j && decide ((j : Int) / (W : Int) = k)) (W * k) = 0 := cnt_false fun j hj => by
    have h2 : j / W < k := Nat.div_lt_of_lt_mul hj
    have h3 : ¬ (((j / W : Nat) : Int) = k) := by omega
    show (dot j && decide ((j : Int) / (W : Int) = k)) = false
    rw [hdiv, decide_eq_false h3, Bool.and_false]
  have h4 : cnt (fun i => dot (W * k + (W + i)) && decide (((W * k + (W + i) : Nat) : Int) / (W : Int) = k)) (W * r) = 0 := cnt_false fun i _ => by
    have h2 : (W * k + (W + i)) / W = k + (1 + i / W) := by rw [Nat.mul_add_div hW, Nat.add_div_left _ hW, Nat.add_comm 1 (i / W)]
    have h3 : ¬ (((k + (1 + i / W) : Nat) : Int) = k) := by generalize i / W = q; omega
    show (dot (W * k + (W + i)) && decide (((W * k + (W + i) : Nat) : Int) / (W : Int) = k)) = false
    rw [hdiv, h2, decide_eq_false h3, Bool.and_false]
  rw [e, cnt_split, h1, cnt_split, h4, Int.zero_add, Int.add_zero]
  refine cnt_congr fun i hi => ?_
  have h2 : (W * k + i) / W = k := by rw [Nat.mul_add_div hW, Nat.div_eq_of_lt hi]; rfl
  rw [hdiv, h2, Nat.mul_comm W k]
  simp
/-- All columns, and all rows. -/
theorem sum_parts (g : Nat → Nat) (m n : Nat) (dot : Nat → Bool) (hg : ∀ j, j < n → g j < m) : sumTo (fun k => cnt (fun j => dot j && decide (g j = k)) n) m = cnt dot n := by
  unfold cnt
  rw [sumTo_swap]
  refine sumTo_congr fun j hj => ?_
  have : sumTo (fun i => if (dot j && decide (g j = i)) = true then (1 : Int) else 0) m = sumTo (fun i => if i = g j then (if dot j then 1 else 0) else 0) m := sumTo_congr fun i _ => by
    by_cases h : i = g j
    · subst h; simp
    · have : ¬ g j = i := fun e => h e.symm
      simp [h, this]
  rw [this, sumTo_one, if_pos (hg j hj)]
theorem pos_of {j W H : Nat} (h : j < W * H) : 0 < W := by
  rcases Nat.eq_zero_or_pos W with h1 | h1
  · subst h1; omega
  · exact h1
theorem col_sum (W H : Nat) (dot : Nat → Bool) : sumTo (colF W (W * H) dot) W = cnt dot (W * H) := by
  rw [← sum_parts (fun j => j % W) W (W * H) dot fun j hj => Nat.mod_lt _ (pos_of hj)]
  refine sumTo_congr fun k _ => cnt_congr fun j _ => ?_
  congr 1
  rw [← Int.natCast_emod]
  exact decide_eq_decide.2 (by omega)
theorem row_sum (W H : Nat) (dot : Nat → Bool) : sumTo (rowBd W (W * H) dot) H = cnt dot (W * H) := by
  rw [← sum_parts (fun j => j / W) H (W * H) dot fun j hj => Nat.div_lt_of_lt_mul hj]
  refine sumTo_congr fun k _ => cnt_congr fun j _ => ?_
  congr 1
  rw [← Int.natCast_ediv]
  exact decide_eq_decide.2 (by omega)
end Go.Proofs.YtfgcogkhnnflcaaDoor
end
