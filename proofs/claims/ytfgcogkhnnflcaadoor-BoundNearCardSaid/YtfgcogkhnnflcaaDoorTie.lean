/-
  DERIVED. GIVEN WITH THE SEED: THE PROGRAM's TIES (one call each: nine closed facts by the kernel) AND EACH ROW's TIE, after the 31st guide's Derived/Test/Toyas{Tie, Card}.lean. No idea stands in it: it is a product of the set-up. Laid BY PROGRAM, IN A SANDBOX (cutbox-door.mjs). By AI agents, Wed Nov 11 2026. No macro, syntax, notation, axiom, sorry.
-/
import Derived.Test.YtfgcogkhnnflcaaDoorRows
import Derived.LaidByTextLater
import Derived.SevenTiedAt
import Derived.LaidSub
import Derived.LaidOnce
namespace Go.Proofs.YtfgcogkhnnflcaaDoor
open Go
set_option maxRecDepth 100000
theorem seatTie1 : Tryd.prog.laidByTextLater [("indelible/bound.sides", Rows.laid_indelible_bound_sides)] [.funcs] true :=
  Program.laidByTextLater_by_one 16 8 2 (by kernel_rfl) (by kernel_rfl) (by kernel_rfl) (by kernel_rfl) (by kernel_rfl) (by kernel_rfl) (fun _ _ => by kernel_rfl)
theorem noOwnUnsafe : Tryd.pinned.checked.prog.headLifts.contains "ownunsafe" = false := by kernel_rfl
theorem tie : Tryd.prog.laidByTextLater [("indelible/bound.sides", Rows.laid_indelible_bound_sides)] [.funcs] true :=
  Program.laidByTextLater.sub seatTie1 ["indelible/bound.sides"] (by kernel_rfl) (by kernel_rfl)
theorem boundLeast_row_tie : Rows.boundLeastRow.laidByTextAt .later Tryd.pinned [.funcs] true :=
  OpenClaim.laidByTextAt_later rfl rfl tie noOwnUnsafe
theorem boundSymmetric_row_tie : Rows.boundSymmetricRow.laidByTextAt .later Tryd.pinned [.funcs] true :=
  OpenClaim.laidByTextAt_later rfl rfl tie noOwnUnsafe
theorem boundColumns_row_tie : Rows.boundColumnsRow.laidByTextAt .later Tryd.pinned [.funcs] true :=
  OpenClaim.laidByTextAt_later rfl rfl tie noOwnUnsafe
theorem boundBelow_row_tie : Rows.boundBelowRow.laidByTextAt .later Tryd.pinned [.funcs] true :=
  OpenClaim.laidByTextAt_later rfl rfl tie noOwnUnsafe
theorem boundNear_row_tie : Rows.boundNearRow.laidByTextAt .later Tryd.pinned [.funcs] true :=
  OpenClaim.laidByTextAt_later rfl rfl tie noOwnUnsafe
theorem boundLeastUpto_row_tie : Rows.boundLeastUptoRow.laidByTextAt .later Tryd.pinned [.funcs] true :=
  OpenClaim.laidByTextAt_later rfl rfl tie noOwnUnsafe
theorem boundSymmetricUpto_row_tie : Rows.boundSymmetricUptoRow.laidByTextAt .later Tryd.pinned [.funcs] true :=
  OpenClaim.laidByTextAt_later rfl rfl tie noOwnUnsafe
theorem boundColumnsUpto_row_tie : Rows.boundColumnsUptoRow.laidByTextAt .later Tryd.pinned [.funcs] true :=
  OpenClaim.laidByTextAt_later rfl rfl tie noOwnUnsafe
theorem boundBelowUpto_row_tie : Rows.boundBelowUptoRow.laidByTextAt .later Tryd.pinned [.funcs] true :=
  OpenClaim.laidByTextAt_later rfl rfl tie noOwnUnsafe
theorem boundNearUpto_row_tie : Rows.boundNearUptoRow.laidByTextAt .later Tryd.pinned [.funcs] true :=
  OpenClaim.laidByTextAt_later rfl rfl tie noOwnUnsafe
end Go.Proofs.YtfgcogkhnnflcaaDoor
