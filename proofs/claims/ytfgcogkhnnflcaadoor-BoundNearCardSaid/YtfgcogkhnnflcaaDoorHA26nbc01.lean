/- Parts of the proof: Low, Made. -/
import Derived.Test.YtfgcogkhnnflcaaDoorG01
import Derived.Test.YtfgcogkhnnflcaaDoorProg
import Derived.Lib.Hide
import Derived.Deep.QuietTactic
import Derived.BigQuiet
import Derived.Deep.DrawnRows
import Derived.StillTail
import Derived.Below
import Derived.Deep.Draws
import Derived.WalkKit
import Derived.KernelRfl
import Derived.Test.YtfgcogkhnnflcaaDoorG05
set_option linter.unusedSimpArgs false
set_option linter.unusedVariables false
section
namespace Go.Proofs.YtfgcogkhnnflcaaDoor
open Go.RowKit Go.Flow
open Go.Proofs
attribute [local go_sem] block_add
attribute [local go_sem ↓] Go.wp_at_zero Go.wp_at_succ

theorem Mod_any (n m : Int) (hm : 0 < m) (hM : m ≤ 1000000) (w : World) :
    Calls Tryd.prog 42 #[.int .i64 n, .int .i64 m] w fun e w' => e = .returned (.int .i64 (n % m)) ∧ w = w' := by
  have h1 : -m < n.tmod m := by have := Int.lt_tmod_of_pos n hm; omega
  have h2 : n.tmod m < m := Int.tmod_lt_of_pos n hm
  have h3 : (n.tmod m + m) % m = n % m := by
    rw [Int.add_emod_right, Int.emod_def, Int.emod_def]
    have e1 := Int.mul_tdiv_add_tmod n m
    have e2 : n.tmod m = n - m * n.tdiv m := by omega
    rw [e2, show n - m * n.tdiv m = n + m * (- n.tdiv m) by rw [Int.mul_neg]; omega, Int.add_mul_ediv_left _ _ (by omega), Int.mul_add]
    omega
  replace h3 := Lib.hid h3
  go_enter Tryd.func42, Tryd.ntmps42
  go_wp2
  all_goals go_ret
  all_goals exact ⟨ret_int (by rw [← h3.out]; try simp), rfl⟩

/-- What a draw yields, and where it stands then. -/
def dval (N : Nat) (f : Nat → Int) (at_ : Nat) (m : Int) : Int := if at_ < N then f at_ % m else 0
def dat (N at_ : Nat) : Nat := if at_ < N then at_ + 1 else at_

end Go.Proofs.YtfgcogkhnnflcaaDoor
end

section
namespace Go.Proofs.YtfgcogkhnnflcaaDoor
open Go.RowKit Go.Flow
open Go.Proofs
attribute [local go_sem] block_add

section
variable {w wr w' : World} {gr gd go g : Nat} {A : Option Addr} {N c : Nat} {W H : Int} {n at_ : Nat}
theorem dat_le {N at_ : Nat} (h : at_ ≤ N) : dat N at_ ≤ N := by unfold dat; split <;> omega
theorem MI.next (h : MI w gr gd go g A N c W H n at_ wr) (h1 : w.heap.size ≤ gr) (h2 : gr < gd) (h3 : gd < g) (h4 : g < go) {b : Nat} (hb : b ≤ N)
    (hB : Blk w' gd 61 #[.slice A N c, .int .i64 (b : Int)]) (hO : Only wr w' gd) : MI w gr gd go g A N c W H n b w' :=
  ⟨hO.blk h.res (by omega), hB, hO.blk h.out (by omega), let ⟨F, hF⟩ := h.own; ⟨F, hO.own hF (by omega)⟩, hO.ext h.ext (by omega), hb⟩
end

theorem dval_bd (N : Nat) (f : Nat → Int) (at_ : Nat) (m : Int) (hm : 0 < m) : 0 ≤ dval N f at_ m ∧ dval N f at_ m < m := by
  unfold dval
  split
  · exact ⟨Int.emod_nonneg _ (by omega), Int.emod_lt_of_pos _ hm⟩
  · omega

end Go.Proofs.YtfgcogkhnnflcaaDoor
end
