/-
  NARROWER THAN 'FOR EVERY INPUT', by the rows' own cells (each row's printed sentence says how): BoundLeast: laid · BoundSymmetric: laid · BoundColumns: laid · BoundBelow: laid · BoundNear: laid.
  DERIVED. THE GIVEN ROWS OF THIS SEAT. 5 by the template 'for every input the law returns true; each argument reads behind the call as it read before'; 0 by the template 'total and deterministic' (their statements: YtfgcogkhnnflcaaDoorTotals.lean).
  GIVEN WITH THE SEED: the statements are not yours to turn. If you find one false, say at which input.
  Laid BY PROGRAM, IN A SANDBOX (cutbox-rows.mjs): the forced cells as the released guide's own fill.sh prints them over the translation 18c35d26b76c2de2… (all of the seat's roots in one cut). By AI agents, Wed Nov 11 2026. No macro, syntax, notation, axiom, sorry.
-/
import Derived.Test.YtfgcogkhnnflcaaDoorChecked
import GoSem.Claim
import GoSem.ClaimJoined
import GoSem.ClaimMapViews
import Derived.JoinedTies
import Derived.KernelRfl
namespace Go.Proofs.YtfgcogkhnnflcaaDoor
/- THE CELL 'sum', in the pinned program and in every row, IS THE sha256 OF THE DUMP (.gsa) THAT YtfgcogkhnnflcaaDoorProg.lean LOADS. Nothing in Lean hashes anything: it is a label: what it is worth is what the hold of that sum in a sandbox is worth. -/
noncomputable def Tryd.pinned : Pinned := { name := "ytfgcogkhnnflcaadoor", sum := "18c35d26b76c2de261f570afd7c9faf2c5a149056b91093102461ce93f582594", checked := Tryd.checked }
namespace Rows
def none {H : Type} : Left H := { results := [], args := [] }

/- WHAT THE LISTED PACKAGE-LEVEL VARIABLES READ AS WHEN THE CALL BEGINS. Each datum BY PROGRAM (the guide's laid-datum.mjs) off the statement by which the dump's own 'gosem.cut.vars' lays the variable. In a bare row this is a premise. The card (YtfgcogkhnnflcaaDoorCards.lean) ties it to the program's text. -/
def laid_indelible_bound_sides {H : Type} : DataW H := .iface "func table" (.agg [.agg [.iface "func" (.lit (.string [105, 110, 100, 101, 108, 105, 98, 108, 101, 47, 98, 111, 117, 110, 100, 46, 115, 105, 100, 101, 115, 36, 49])), .iface "func" (.lit (.string [105, 110, 100, 101, 108, 105, 98, 108, 101, 47, 98, 111, 117, 110, 100, 46, 115, 105, 100, 101, 115, 36, 50])), .lit (.bool true)], .agg [.iface "func" (.lit (.string [105, 110, 100, 101, 108, 105, 98, 108, 101, 47, 98, 111, 117, 110, 100, 46, 115, 105, 100, 101, 115, 36, 51])), .iface "func" (.lit (.string [105, 110, 100, 101, 108, 105, 98, 108, 101, 47, 98, 111, 117, 110, 100, 46, 115, 105, 100, 101, 115, 36, 52])), .lit (.bool false)]])

/-- 'indeliblelaw26.BoundLeast': WHATEVER THE INPUT: true; the input reads as it did. -/
def boundLeastSpec : ChangeSpec := { name := "boundLeast", fn := fun _ => fun
  | [d1, d2, d3, d4, d5] => { results := [.lit (.bool true)], args := [d1, d2, d3, d4, d5] }
  | _ => none }
def boundLeastRow : OpenClaim := { program := "ytfgcogkhnnflcaadoor", sum := "18c35d26b76c2de261f570afd7c9faf2c5a149056b91093102461ce93f582594", func := "indelible/indeliblelaw26.BoundLeast", spec := "boundLeast", unfollowed := true, recurses := true, named := ["indelible/bound.sides"], apart := false, laid := [("indelible/bound.sides", laid_indelible_bound_sides)] }
def BoundLeastSaid : Prop := boundLeastRow.holds Tryd.pinned (OpenSpec.ofChange boundLeastSpec)

/-- ITS FALSE NEIGHBOUR: 'it returns false'. Refute it at one input. -/
def boundLeastWrong : ChangeSpec := { name := "boundLeast", fn := fun _ => fun
  | [d1, d2, d3, d4, d5] => { results := [.lit (.bool false)], args := [d1, d2, d3, d4, d5] }
  | _ => none }
def BoundLeastWrongFalsely : Prop := boundLeastRow.holds Tryd.pinned (OpenSpec.ofChange boundLeastWrong)

/-- 'indeliblelaw26.BoundSymmetric': WHATEVER THE INPUT: true; the input reads as it did. -/
def boundSymmetricSpec : ChangeSpec := { name := "boundSymmetric", fn := fun _ => fun
  | [d1, d2, d3] => { results := [.lit (.bool true)], args := [d1, d2, d3] }
  | _ => none }
def boundSymmetricRow : OpenClaim := { program := "ytfgcogkhnnflcaadoor", sum := "18c35d26b76c2de261f570afd7c9faf2c5a149056b91093102461ce93f582594", func := "indelible/indeliblelaw26.BoundSymmetric", spec := "boundSymmetric", unfollowed := true, recurses := true, named := ["indelible/bound.sides"], apart := false, laid := [("indelible/bound.sides", laid_indelible_bound_sides)] }
def BoundSymmetricSaid : Prop := boundSymmetricRow.holds Tryd.pinned (OpenSpec.ofChange boundSymmetricSpec)

/-- ITS FALSE NEIGHBOUR: 'it returns false'. Refute it at one input. -/
def boundSymmetricWrong : ChangeSpec := { name := "boundSymmetric", fn := fun _ => fun
  | [d1, d2, d3] => { results := [.lit (.bool false)], args := [d1, d2, d3] }
  | _ => none }
def BoundSymmetricWrongFalsely : Prop := boundSymmetricRow.holds Tryd.pinned (OpenSpec.ofChange boundSymmetricWrong)

/-- 'indeliblelaw26.BoundColumns': WHATEVER THE INPUT: true; the input reads as it did. -/
def boundColumnsSpec : ChangeSpec := { name := "boundColumns", fn := fun _ => fun
  | [d] => { results := [.lit (.bool true)], args := [d] }
  | _ => none }
def boundColumnsRow : OpenClaim := { program := "ytfgcogkhnnflcaadoor", sum := "18c35d26b76c2de261f570afd7c9faf2c5a149056b91093102461ce93f582594", func := "indelible/indeliblelaw26.BoundColumns", spec := "boundColumns", unfollowed := true, recurses := true, named := ["indelible/bound.sides"], apart := false, laid := [("indelible/bound.sides", laid_indelible_bound_sides)] }
def BoundColumnsSaid : Prop := boundColumnsRow.holds Tryd.pinned (OpenSpec.ofChange boundColumnsSpec)

/-- ITS FALSE NEIGHBOUR: 'it returns false'. Refute it at one input. -/
def boundColumnsWrong : ChangeSpec := { name := "boundColumns", fn := fun _ => fun
  | [d] => { results := [.lit (.bool false)], args := [d] }
  | _ => none }
def BoundColumnsWrongFalsely : Prop := boundColumnsRow.holds Tryd.pinned (OpenSpec.ofChange boundColumnsWrong)

/-- 'indeliblelaw26.BoundBelow': WHATEVER THE INPUT: true; the input reads as it did. -/
def boundBelowSpec : ChangeSpec := { name := "boundBelow", fn := fun _ => fun
  | [d1, d2, d3] => { results := [.lit (.bool true)], args := [d1, d2, d3] }
  | _ => none }
def boundBelowRow : OpenClaim := { program := "ytfgcogkhnnflcaadoor", sum := "18c35d26b76c2de261f570afd7c9faf2c5a149056b91093102461ce93f582594", func := "indelible/indeliblelaw26.BoundBelow", spec := "boundBelow", unfollowed := true, recurses := true, named := ["indelible/bound.sides"], apart := false, laid := [("indelible/bound.sides", laid_indelible_bound_sides)] }
def BoundBelowSaid : Prop := boundBelowRow.holds Tryd.pinned (OpenSpec.ofChange boundBelowSpec)

/-- ITS FALSE NEIGHBOUR: 'it returns false'. Refute it at one input. -/
def boundBelowWrong : ChangeSpec := { name := "boundBelow", fn := fun _ => fun
  | [d1, d2, d3] => { results := [.lit (.bool false)], args := [d1, d2, d3] }
  | _ => none }
def BoundBelowWrongFalsely : Prop := boundBelowRow.holds Tryd.pinned (OpenSpec.ofChange boundBelowWrong)

/-- 'indeliblelaw26.BoundNear': WHATEVER THE INPUT: true; the input reads as it did. -/
def boundNearSpec : ChangeSpec := { name := "boundNear", fn := fun _ => fun
  | [d1, d2, d3, d4] => { results := [.lit (.bool true)], args := [d1, d2, d3, d4] }
  | _ => none }
def boundNearRow : OpenClaim := { program := "ytfgcogkhnnflcaadoor", sum := "18c35d26b76c2de261f570afd7c9faf2c5a149056b91093102461ce93f582594", func := "indelible/indeliblelaw26.BoundNear", spec := "boundNear", unfollowed := true, recurses := true, named := ["indelible/bound.sides"], apart := false, laid := [("indelible/bound.sides", laid_indelible_bound_sides)] }
def BoundNearSaid : Prop := boundNearRow.holds Tryd.pinned (OpenSpec.ofChange boundNearSpec)

/-- ITS FALSE NEIGHBOUR: 'it returns false'. Refute it at one input. -/
def boundNearWrong : ChangeSpec := { name := "boundNear", fn := fun _ => fun
  | [d1, d2, d3, d4] => { results := [.lit (.bool false)], args := [d1, d2, d3, d4] }
  | _ => none }
def BoundNearWrongFalsely : Prop := boundNearRow.holds Tryd.pinned (OpenSpec.ofChange boundNearWrong)

/- THE SECOND FORM. 'bulk': how many values and letters a reading holds, each counted each time it is reached (what is shared counts as often as it is met; a slice's spare places count too). A statement '..UptoSaid' is the law's where the arguments, and the package variables that the reading takes, are together of bulk at most 1048576: NARROWER than '..Said'. Prove '..Said' where nothing that the law and all that it calls make is longer than what came in: it says more and counts as full. Else prove '..UptoSaid'. A law counts once. -/
mutual
def uptoBulk {H : Type} : DataW H → Nat
  | .lit (.string bytes) => bytes.length + 1
  | .lit _ => 1
  | .nil => 1
  | .ptr d => uptoBulk d + 1
  | .slice elems spare => uptoBulkAll elems + uptoBulkAll spare + 1
  | .agg parts => uptoBulkAll parts + 1
  | .iface _ d => uptoBulk d + 1
  | .map entries => uptoBulkEntries entries + 1
  | .held _ => 1
def uptoBulkAll {H : Type} : List (DataW H) → Nat
  | [] => 0
  | d :: r => uptoBulk d + uptoBulkAll r
def uptoBulkEntries {H : Type} : List (Lit × DataW H) → Nat
  | [] => 0
  | x :: r => uptoBulkEntry x + uptoBulkEntries r
def uptoBulkEntry {H : Type} : Lit × DataW H → Nat
  | (.string bytes, d) => bytes.length + uptoBulk d + 1
  | (_, d) => uptoBulk d + 1
 end
def uptoSmall : (H : Type) → List (DataW H) → Bool := fun _ ds => decide (uptoBulkAll ds ≤ 1048576)
def OpenSpec.upto (s : _root_.Go.ChangeSpec) : _root_.Go.OpenSpec := { _root_.Go.OpenSpec.ofChange s with cond := some uptoSmall }

/-- 'indeliblelaw26.BoundLeast', WHERE WHAT IT READS IS OF BULK AT MOST 1048576: true; the input reads as it did. -/
def boundLeastUptoRow : OpenClaim := { program := "ytfgcogkhnnflcaadoor", sum := "18c35d26b76c2de261f570afd7c9faf2c5a149056b91093102461ce93f582594", func := "indelible/indeliblelaw26.BoundLeast", spec := "boundLeast", unfollowed := true, recurses := true, named := ["indelible/bound.sides"], apart := false, laid := [("indelible/bound.sides", laid_indelible_bound_sides)], narrowed := true }
def BoundLeastUptoSaid : Prop := boundLeastUptoRow.holds Tryd.pinned (OpenSpec.upto boundLeastSpec)

/-- 'indeliblelaw26.BoundSymmetric', WHERE WHAT IT READS IS OF BULK AT MOST 1048576: true; the input reads as it did. -/
def boundSymmetricUptoRow : OpenClaim := { program := "ytfgcogkhnnflcaadoor", sum := "18c35d26b76c2de261f570afd7c9faf2c5a149056b91093102461ce93f582594", func := "indelible/indeliblelaw26.BoundSymmetric", spec := "boundSymmetric", unfollowed := true, recurses := true, named := ["indelible/bound.sides"], apart := false, laid := [("indelible/bound.sides", laid_indelible_bound_sides)], narrowed := true }
def BoundSymmetricUptoSaid : Prop := boundSymmetricUptoRow.holds Tryd.pinned (OpenSpec.upto boundSymmetricSpec)

/-- 'indeliblelaw26.BoundColumns', WHERE WHAT IT READS IS OF BULK AT MOST 1048576: true; the input reads as it did. -/
def boundColumnsUptoRow : OpenClaim := { program := "ytfgcogkhnnflcaadoor", sum := "18c35d26b76c2de261f570afd7c9faf2c5a149056b91093102461ce93f582594", func := "indelible/indeliblelaw26.BoundColumns", spec := "boundColumns", unfollowed := true, recurses := true, named := ["indelible/bound.sides"], apart := false, laid := [("indelible/bound.sides", laid_indelible_bound_sides)], narrowed := true }
def BoundColumnsUptoSaid : Prop := boundColumnsUptoRow.holds Tryd.pinned (OpenSpec.upto boundColumnsSpec)

/-- 'indeliblelaw26.BoundBelow', WHERE WHAT IT READS IS OF BULK AT MOST 1048576: true; the input reads as it did. -/
def boundBelowUptoRow : OpenClaim := { program := "ytfgcogkhnnflcaadoor", sum := "18c35d26b76c2de261f570afd7c9faf2c5a149056b91093102461ce93f582594", func := "indelible/indeliblelaw26.BoundBelow", spec := "boundBelow", unfollowed := true, recurses := true, named := ["indelible/bound.sides"], apart := false, laid := [("indelible/bound.sides", laid_indelible_bound_sides)], narrowed := true }
def BoundBelowUptoSaid : Prop := boundBelowUptoRow.holds Tryd.pinned (OpenSpec.upto boundBelowSpec)

/-- 'indeliblelaw26.BoundNear', WHERE WHAT IT READS IS OF BULK AT MOST 1048576: true; the input reads as it did. -/
def boundNearUptoRow : OpenClaim := { program := "ytfgcogkhnnflcaadoor", sum := "18c35d26b76c2de261f570afd7c9faf2c5a149056b91093102461ce93f582594", func := "indelible/indeliblelaw26.BoundNear", spec := "boundNear", unfollowed := true, recurses := true, named := ["indelible/bound.sides"], apart := false, laid := [("indelible/bound.sides", laid_indelible_bound_sides)], narrowed := true }
def BoundNearUptoSaid : Prop := boundNearUptoRow.holds Tryd.pinned (OpenSpec.upto boundNearSpec)

end Rows
end Go.Proofs.YtfgcogkhnnflcaaDoor
