/- Parts of the proof: Img. -/
import Derived.Test.YtfgcogkhnnflcaaDoorProg
import Derived.Test.YtfgcogkhnnflcaaDoorG01
import Derived.Test.YtfgcogkhnnflcaaDoorG06
set_option linter.unusedSimpArgs false
set_option linter.unusedVariables false
section
namespace Go.Proofs.YtfgcogkhnnflcaaDoor
open Go.RowKit Go.Flow
open Go.Proofs
attribute [local go_sem] block_add
attribute [local go_sem ↓] Go.wp_at_zero Go.wp_at_succ

def pxOk (n : Nat) (f : Nat → Int) : Prop := ∀ k, k < n → 0 ≤ f k ∧ f k ≤ 2
instance (n : Nat) (f : Nat → Int) : Decidable (pxOk n f) := by unfold pxOk; infer_instance
def shI (W H : Int) (n : Nat) : Prop := 0 ≤ W ∧ W ≤ 100 ∧ 0 ≤ H ∧ H ≤ 100 ∧ (n : Int) = W * H
instance (W H : Int) (n : Nat) : Decidable (shI W H n) := by unfold shI; infer_instance
/-- What Check returns. -/
def chkI (W H : Int) (n : Nat) (f : Nat → Int) : Int := if shI W H n then (if pxOk n f then 0 else 50) else 50
end Go.Proofs.YtfgcogkhnnflcaaDoor
end
