/-
  DERIVED. GIVEN WITH THE SEED: THE CARDS: each row of YtfgcogkhnnflcaaDoorRows.lean that lists a variable, with what it lists TIED to the program's text (the seventh form; the later family's looks); each row that meets fmt, with fmt's text TOLD by the authors' own Lean function (tested against real Go, not proved from fmt's source: count such statements apart). THE CARD IS WHAT COUNTS. Prove the row's statement (the work); the ties are given (YtfgcogkhnnflcaaDoorTie.lean); close each card by the builder's one call (the guide's Derived/Test/ToyasCard.lean, 'card_holds'). Laid BY PROGRAM, IN A SANDBOX (cutbox-door.mjs). By AI agents, Wed Nov 11 2026. No macro, syntax, notation, axiom, sorry.
-/
import Derived.Test.YtfgcogkhnnflcaaDoorRows
import GoSem.ClaimSeven
namespace Go.Proofs.YtfgcogkhnnflcaaDoor
namespace Rows

/-- THE TIED CARD OF 'indeliblelaw26.BoundLeast'. -/
def boundLeastCard : Claim7 := { stood := { row := boundLeastRow, standIns := [], harness := (true, "f89144a782ea9df2b217eaf345f771fcbfd8cd0201f27ba96947831cb7b66251"), looks := false }, kinds := [], alts := [], laidByText := true, laidKinds := [.funcs], laidTests := true, laidLooks := .later }
def BoundLeastCardSaid : Prop := Claim7.holds Tryd.pinned (.plain (OpenSpec.ofChange boundLeastSpec)) boundLeastCard

/-- THE TIED CARD OF 'indeliblelaw26.BoundSymmetric'. -/
def boundSymmetricCard : Claim7 := { stood := { row := boundSymmetricRow, standIns := [], harness := (true, "f89144a782ea9df2b217eaf345f771fcbfd8cd0201f27ba96947831cb7b66251"), looks := false }, kinds := [], alts := [], laidByText := true, laidKinds := [.funcs], laidTests := true, laidLooks := .later }
def BoundSymmetricCardSaid : Prop := Claim7.holds Tryd.pinned (.plain (OpenSpec.ofChange boundSymmetricSpec)) boundSymmetricCard

/-- THE TIED CARD OF 'indeliblelaw26.BoundColumns'. -/
def boundColumnsCard : Claim7 := { stood := { row := boundColumnsRow, standIns := [], harness := (true, "f89144a782ea9df2b217eaf345f771fcbfd8cd0201f27ba96947831cb7b66251"), looks := false }, kinds := [], alts := [], laidByText := true, laidKinds := [.funcs], laidTests := true, laidLooks := .later }
def BoundColumnsCardSaid : Prop := Claim7.holds Tryd.pinned (.plain (OpenSpec.ofChange boundColumnsSpec)) boundColumnsCard

/-- THE TIED CARD OF 'indeliblelaw26.BoundBelow'. -/
def boundBelowCard : Claim7 := { stood := { row := boundBelowRow, standIns := [], harness := (true, "f89144a782ea9df2b217eaf345f771fcbfd8cd0201f27ba96947831cb7b66251"), looks := false }, kinds := [], alts := [], laidByText := true, laidKinds := [.funcs], laidTests := true, laidLooks := .later }
def BoundBelowCardSaid : Prop := Claim7.holds Tryd.pinned (.plain (OpenSpec.ofChange boundBelowSpec)) boundBelowCard

/-- THE TIED CARD OF 'indeliblelaw26.BoundNear'. -/
def boundNearCard : Claim7 := { stood := { row := boundNearRow, standIns := [], harness := (true, "f89144a782ea9df2b217eaf345f771fcbfd8cd0201f27ba96947831cb7b66251"), looks := false }, kinds := [], alts := [], laidByText := true, laidKinds := [.funcs], laidTests := true, laidLooks := .later }
def BoundNearCardSaid : Prop := Claim7.holds Tryd.pinned (.plain (OpenSpec.ofChange boundNearSpec)) boundNearCard

/-- THE SECOND FORM's CARD OF 'indeliblelaw26.BoundLeast'. -/
def boundLeastUptoCard : Claim7 := { stood := { row := boundLeastUptoRow, standIns := [], harness := (true, "f89144a782ea9df2b217eaf345f771fcbfd8cd0201f27ba96947831cb7b66251"), looks := false }, kinds := [], alts := [], laidByText := true, laidKinds := [.funcs], laidTests := true, laidLooks := .later }
def BoundLeastUptoCardSaid : Prop := Claim7.holds Tryd.pinned (.plain (OpenSpec.upto boundLeastSpec)) boundLeastUptoCard

/-- THE SECOND FORM's CARD OF 'indeliblelaw26.BoundSymmetric'. -/
def boundSymmetricUptoCard : Claim7 := { stood := { row := boundSymmetricUptoRow, standIns := [], harness := (true, "f89144a782ea9df2b217eaf345f771fcbfd8cd0201f27ba96947831cb7b66251"), looks := false }, kinds := [], alts := [], laidByText := true, laidKinds := [.funcs], laidTests := true, laidLooks := .later }
def BoundSymmetricUptoCardSaid : Prop := Claim7.holds Tryd.pinned (.plain (OpenSpec.upto boundSymmetricSpec)) boundSymmetricUptoCard

/-- THE SECOND FORM's CARD OF 'indeliblelaw26.BoundColumns'. -/
def boundColumnsUptoCard : Claim7 := { stood := { row := boundColumnsUptoRow, standIns := [], harness := (true, "f89144a782ea9df2b217eaf345f771fcbfd8cd0201f27ba96947831cb7b66251"), looks := false }, kinds := [], alts := [], laidByText := true, laidKinds := [.funcs], laidTests := true, laidLooks := .later }
def BoundColumnsUptoCardSaid : Prop := Claim7.holds Tryd.pinned (.plain (OpenSpec.upto boundColumnsSpec)) boundColumnsUptoCard

/-- THE SECOND FORM's CARD OF 'indeliblelaw26.BoundBelow'. -/
def boundBelowUptoCard : Claim7 := { stood := { row := boundBelowUptoRow, standIns := [], harness := (true, "f89144a782ea9df2b217eaf345f771fcbfd8cd0201f27ba96947831cb7b66251"), looks := false }, kinds := [], alts := [], laidByText := true, laidKinds := [.funcs], laidTests := true, laidLooks := .later }
def BoundBelowUptoCardSaid : Prop := Claim7.holds Tryd.pinned (.plain (OpenSpec.upto boundBelowSpec)) boundBelowUptoCard

/-- THE SECOND FORM's CARD OF 'indeliblelaw26.BoundNear'. -/
def boundNearUptoCard : Claim7 := { stood := { row := boundNearUptoRow, standIns := [], harness := (true, "f89144a782ea9df2b217eaf345f771fcbfd8cd0201f27ba96947831cb7b66251"), looks := false }, kinds := [], alts := [], laidByText := true, laidKinds := [.funcs], laidTests := true, laidLooks := .later }
def BoundNearUptoCardSaid : Prop := Claim7.holds Tryd.pinned (.plain (OpenSpec.upto boundNearSpec)) boundNearUptoCard
end Rows
end Go.Proofs.YtfgcogkhnnflcaaDoor
