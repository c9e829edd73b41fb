/-
  No cell of these rows narrows 'for every input' (looked for: loops, veiled, ifaces, maps, wideKeys, modest, calm, conditions, laid).
  DERIVED. THE GIVEN ROWS OF THIS SEAT. 6 by the template 'for every input the law returns true; each argument reads behind the call as it read before'; 0 by the template 'total and deterministic' (their statements: YtekkldgmjdllbaaTotals.lean).
  GIVEN WITH THE SEED: the statements are not yours to turn. If you find one false, say at which input.
  Laid BY PROGRAM, IN A SANDBOX (cutbox-rows.mjs): the forced cells as the released guide's own fill.sh prints them over the translation 37c47326903292da… (all of the seat's roots in one cut). By AI agents, Wed Nov 11 2026. No macro, syntax, notation, axiom, sorry.
-/
import Derived.Test.YtekkldgmjdllbaaChecked
import GoSem.Claim
import GoSem.ClaimJoined
import GoSem.ClaimMapViews
import Derived.JoinedTies
import Derived.KernelRfl
namespace Go.Proofs.Ytekkldgmjdllbaa
/- THE CELL 'sum', in the pinned program and in every row, IS THE sha256 OF THE DUMP (.gsa) THAT YtekkldgmjdllbaaProg.lean LOADS. Nothing in Lean hashes anything: it is a label: what it is worth is what the hold of that sum in a sandbox is worth. -/
noncomputable def Try.pinned : Pinned := { name := "ytekkldgmjdllbaa", sum := "37c47326903292da6e4dcc2662bc4d3b3fe61546e2194e1ef80dcd0248ae4990", checked := Try.checked }
namespace Rows
def none {H : Type} : Left H := { results := [], args := [] }

/-- 'indeliblelaw25.ProofChecks': WHATEVER THE INPUT: true; the input reads as it did. -/
def proofChecksSpec : ChangeSpec := { name := "proofChecks", fn := fun _ => fun
  | [d1, d2, d3] => { results := [.lit (.bool true)], args := [d1, d2, d3] }
  | _ => none }
def proofChecksRow : OpenClaim := { program := "ytekkldgmjdllbaa", sum := "37c47326903292da6e4dcc2662bc4d3b3fe61546e2194e1ef80dcd0248ae4990", func := "indelible/indeliblelaw25.ProofChecks", spec := "proofChecks", inPlace := ["internal/abi.NoEscape"], unfollowed := true, recurses := true, apart := false }
def ProofChecksSaid : Prop := proofChecksRow.holds Try.pinned (OpenSpec.ofChange proofChecksSpec)

/-- ITS FALSE NEIGHBOUR: 'it returns false'. Refute it at one input. -/
def proofChecksWrong : ChangeSpec := { name := "proofChecks", fn := fun _ => fun
  | [d1, d2, d3] => { results := [.lit (.bool false)], args := [d1, d2, d3] }
  | _ => none }
def ProofChecksWrongFalsely : Prop := proofChecksRow.holds Try.pinned (OpenSpec.ofChange proofChecksWrong)

/-- 'indeliblelaw25.ProofMakes': WHATEVER THE INPUT: true; the input reads as it did. -/
def proofMakesSpec : ChangeSpec := { name := "proofMakes", fn := fun _ => fun
  | [d1, d2, d3] => { results := [.lit (.bool true)], args := [d1, d2, d3] }
  | _ => none }
def proofMakesRow : OpenClaim := { program := "ytekkldgmjdllbaa", sum := "37c47326903292da6e4dcc2662bc4d3b3fe61546e2194e1ef80dcd0248ae4990", func := "indelible/indeliblelaw25.ProofMakes", spec := "proofMakes", inPlace := ["internal/abi.NoEscape"], unfollowed := true, recurses := true, apart := false }
def ProofMakesSaid : Prop := proofMakesRow.holds Try.pinned (OpenSpec.ofChange proofMakesSpec)

/-- ITS FALSE NEIGHBOUR: 'it returns false'. Refute it at one input. -/
def proofMakesWrong : ChangeSpec := { name := "proofMakes", fn := fun _ => fun
  | [d1, d2, d3] => { results := [.lit (.bool false)], args := [d1, d2, d3] }
  | _ => none }
def ProofMakesWrongFalsely : Prop := proofMakesRow.holds Try.pinned (OpenSpec.ofChange proofMakesWrong)

/-- 'indeliblelaw25.ProofTheorem': WHATEVER THE INPUT: true; the input reads as it did. -/
def proofTheoremSpec : ChangeSpec := { name := "proofTheorem", fn := fun _ => fun
  | [d1, d2, d3] => { results := [.lit (.bool true)], args := [d1, d2, d3] }
  | _ => none }
def proofTheoremRow : OpenClaim := { program := "ytekkldgmjdllbaa", sum := "37c47326903292da6e4dcc2662bc4d3b3fe61546e2194e1ef80dcd0248ae4990", func := "indelible/indeliblelaw25.ProofTheorem", spec := "proofTheorem", inPlace := ["internal/abi.NoEscape"], unfollowed := true, recurses := true, apart := false }
def ProofTheoremSaid : Prop := proofTheoremRow.holds Try.pinned (OpenSpec.ofChange proofTheoremSpec)

/-- ITS FALSE NEIGHBOUR: 'it returns false'. Refute it at one input. -/
def proofTheoremWrong : ChangeSpec := { name := "proofTheorem", fn := fun _ => fun
  | [d1, d2, d3] => { results := [.lit (.bool false)], args := [d1, d2, d3] }
  | _ => none }
def ProofTheoremWrongFalsely : Prop := proofTheoremRow.holds Try.pinned (OpenSpec.ofChange proofTheoremWrong)

/-- 'indeliblelaw25.ProofLeast': WHATEVER THE INPUT: true; the input reads as it did. -/
def proofLeastSpec : ChangeSpec := { name := "proofLeast", fn := fun _ => fun
  | [d1, d2, d3] => { results := [.lit (.bool true)], args := [d1, d2, d3] }
  | _ => none }
def proofLeastRow : OpenClaim := { program := "ytekkldgmjdllbaa", sum := "37c47326903292da6e4dcc2662bc4d3b3fe61546e2194e1ef80dcd0248ae4990", func := "indelible/indeliblelaw25.ProofLeast", spec := "proofLeast", inPlace := ["internal/abi.NoEscape"], unfollowed := true, recurses := true, apart := false }
def ProofLeastSaid : Prop := proofLeastRow.holds Try.pinned (OpenSpec.ofChange proofLeastSpec)

/-- ITS FALSE NEIGHBOUR: 'it returns false'. Refute it at one input. -/
def proofLeastWrong : ChangeSpec := { name := "proofLeast", fn := fun _ => fun
  | [d1, d2, d3] => { results := [.lit (.bool false)], args := [d1, d2, d3] }
  | _ => none }
def ProofLeastWrongFalsely : Prop := proofLeastRow.holds Try.pinned (OpenSpec.ofChange proofLeastWrong)

/-- 'indeliblelaw25.ProofBytes': WHATEVER THE INPUT: true; the input reads as it did. -/
def proofBytesSpec : ChangeSpec := { name := "proofBytes", fn := fun _ => fun
  | [d1, d2, d3] => { results := [.lit (.bool true)], args := [d1, d2, d3] }
  | _ => none }
def proofBytesRow : OpenClaim := { program := "ytekkldgmjdllbaa", sum := "37c47326903292da6e4dcc2662bc4d3b3fe61546e2194e1ef80dcd0248ae4990", func := "indelible/indeliblelaw25.ProofBytes", spec := "proofBytes", inPlace := ["internal/abi.NoEscape"], unfollowed := true, recurses := true, apart := false }
def ProofBytesSaid : Prop := proofBytesRow.holds Try.pinned (OpenSpec.ofChange proofBytesSpec)

/-- ITS FALSE NEIGHBOUR: 'it returns false'. Refute it at one input. -/
def proofBytesWrong : ChangeSpec := { name := "proofBytes", fn := fun _ => fun
  | [d1, d2, d3] => { results := [.lit (.bool false)], args := [d1, d2, d3] }
  | _ => none }
def ProofBytesWrongFalsely : Prop := proofBytesRow.holds Try.pinned (OpenSpec.ofChange proofBytesWrong)

/-- 'indeliblelaw25.ProofSafe': WHATEVER THE INPUT: true; the input reads as it did. -/
def proofSafeSpec : ChangeSpec := { name := "proofSafe", fn := fun _ => fun
  | [d1, d2, d3] => { results := [.lit (.bool true)], args := [d1, d2, d3] }
  | _ => none }
def proofSafeRow : OpenClaim := { program := "ytekkldgmjdllbaa", sum := "37c47326903292da6e4dcc2662bc4d3b3fe61546e2194e1ef80dcd0248ae4990", func := "indelible/indeliblelaw25.ProofSafe", spec := "proofSafe", inPlace := ["internal/abi.NoEscape"], unfollowed := true, recurses := true, apart := false }
def ProofSafeSaid : Prop := proofSafeRow.holds Try.pinned (OpenSpec.ofChange proofSafeSpec)

/-- ITS FALSE NEIGHBOUR: 'it returns false'. Refute it at one input. -/
def proofSafeWrong : ChangeSpec := { name := "proofSafe", fn := fun _ => fun
  | [d1, d2, d3] => { results := [.lit (.bool false)], args := [d1, d2, d3] }
  | _ => none }
def ProofSafeWrongFalsely : Prop := proofSafeRow.holds Try.pinned (OpenSpec.ofChange proofSafeWrong)

/- THE SECOND FORM. 'bulk': how many values and letters a reading holds, each counted each time it is reached (what is shared counts as often as it is met; a slice's spare places count too). A statement '..UptoSaid' is the law's where the arguments, and the package variables that the reading takes, are together of bulk at most 1048576: NARROWER than '..Said'. Prove '..Said' where nothing that the law and all that it calls make is longer than what came in: it says more and counts as full. Else prove '..UptoSaid'. A law counts once. -/
mutual
def uptoBulk {H : Type} : DataW H → Nat
  | .lit (.string bytes) => bytes.length + 1
  | .lit _ => 1
  | .nil => 1
  | .ptr d => uptoBulk d + 1
  | .slice elems spare => uptoBulkAll elems + uptoBulkAll spare + 1
  | .agg parts => uptoBulkAll parts + 1
  | .iface _ d => uptoBulk d + 1
  | .map entries => uptoBulkEntries entries + 1
  | .held _ => 1
def uptoBulkAll {H : Type} : List (DataW H) → Nat
  | [] => 0
  | d :: r => uptoBulk d + uptoBulkAll r
def uptoBulkEntries {H : Type} : List (Lit × DataW H) → Nat
  | [] => 0
  | x :: r => uptoBulkEntry x + uptoBulkEntries r
def uptoBulkEntry {H : Type} : Lit × DataW H → Nat
  | (.string bytes, d) => bytes.length + uptoBulk d + 1
  | (_, d) => uptoBulk d + 1
 end
def uptoSmall : (H : Type) → List (DataW H) → Bool := fun _ ds => decide (uptoBulkAll ds ≤ 1048576)
def OpenSpec.upto (s : _root_.Go.ChangeSpec) : _root_.Go.OpenSpec := { _root_.Go.OpenSpec.ofChange s with cond := some uptoSmall }

/-- 'indeliblelaw25.ProofChecks', WHERE WHAT IT READS IS OF BULK AT MOST 1048576: true; the input reads as it did. -/
def proofChecksUptoRow : OpenClaim := { program := "ytekkldgmjdllbaa", sum := "37c47326903292da6e4dcc2662bc4d3b3fe61546e2194e1ef80dcd0248ae4990", func := "indelible/indeliblelaw25.ProofChecks", spec := "proofChecks", inPlace := ["internal/abi.NoEscape"], unfollowed := true, recurses := true, apart := false, narrowed := true }
def ProofChecksUptoSaid : Prop := proofChecksUptoRow.holds Try.pinned (OpenSpec.upto proofChecksSpec)

/-- 'indeliblelaw25.ProofMakes', WHERE WHAT IT READS IS OF BULK AT MOST 1048576: true; the input reads as it did. -/
def proofMakesUptoRow : OpenClaim := { program := "ytekkldgmjdllbaa", sum := "37c47326903292da6e4dcc2662bc4d3b3fe61546e2194e1ef80dcd0248ae4990", func := "indelible/indeliblelaw25.ProofMakes", spec := "proofMakes", inPlace := ["internal/abi.NoEscape"], unfollowed := true, recurses := true, apart := false, narrowed := true }
def ProofMakesUptoSaid : Prop := proofMakesUptoRow.holds Try.pinned (OpenSpec.upto proofMakesSpec)

/-- 'indeliblelaw25.ProofTheorem', WHERE WHAT IT READS IS OF BULK AT MOST 1048576: true; the input reads as it did. -/
def proofTheoremUptoRow : OpenClaim := { program := "ytekkldgmjdllbaa", sum := "37c47326903292da6e4dcc2662bc4d3b3fe61546e2194e1ef80dcd0248ae4990", func := "indelible/indeliblelaw25.ProofTheorem", spec := "proofTheorem", inPlace := ["internal/abi.NoEscape"], unfollowed := true, recurses := true, apart := false, narrowed := true }
def ProofTheoremUptoSaid : Prop := proofTheoremUptoRow.holds Try.pinned (OpenSpec.upto proofTheoremSpec)

/-- 'indeliblelaw25.ProofLeast', WHERE WHAT IT READS IS OF BULK AT MOST 1048576: true; the input reads as it did. -/
def proofLeastUptoRow : OpenClaim := { program := "ytekkldgmjdllbaa", sum := "37c47326903292da6e4dcc2662bc4d3b3fe61546e2194e1ef80dcd0248ae4990", func := "indelible/indeliblelaw25.ProofLeast", spec := "proofLeast", inPlace := ["internal/abi.NoEscape"], unfollowed := true, recurses := true, apart := false, narrowed := true }
def ProofLeastUptoSaid : Prop := proofLeastUptoRow.holds Try.pinned (OpenSpec.upto proofLeastSpec)

/-- 'indeliblelaw25.ProofBytes', WHERE WHAT IT READS IS OF BULK AT MOST 1048576: true; the input reads as it did. -/
def proofBytesUptoRow : OpenClaim := { program := "ytekkldgmjdllbaa", sum := "37c47326903292da6e4dcc2662bc4d3b3fe61546e2194e1ef80dcd0248ae4990", func := "indelible/indeliblelaw25.ProofBytes", spec := "proofBytes", inPlace := ["internal/abi.NoEscape"], unfollowed := true, recurses := true, apart := false, narrowed := true }
def ProofBytesUptoSaid : Prop := proofBytesUptoRow.holds Try.pinned (OpenSpec.upto proofBytesSpec)

/-- 'indeliblelaw25.ProofSafe', WHERE WHAT IT READS IS OF BULK AT MOST 1048576: true; the input reads as it did. -/
def proofSafeUptoRow : OpenClaim := { program := "ytekkldgmjdllbaa", sum := "37c47326903292da6e4dcc2662bc4d3b3fe61546e2194e1ef80dcd0248ae4990", func := "indelible/indeliblelaw25.ProofSafe", spec := "proofSafe", inPlace := ["internal/abi.NoEscape"], unfollowed := true, recurses := true, apart := false, narrowed := true }
def ProofSafeUptoSaid : Prop := proofSafeUptoRow.holds Try.pinned (OpenSpec.upto proofSafeSpec)

end Rows
end Go.Proofs.Ytekkldgmjdllbaa
