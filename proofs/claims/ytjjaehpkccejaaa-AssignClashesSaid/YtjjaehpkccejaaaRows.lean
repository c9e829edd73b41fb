/-
  No cell of these rows narrows 'for every input' (looked for: loops, veiled, ifaces, maps, wideKeys, modest, calm, conditions, laid).
  DERIVED. THE GIVEN ROWS OF THIS SEAT. 6 by the template 'for every input the law returns true; each argument reads behind the call as it read before'; 0 by the template 'total and deterministic' (their statements: YtjjaehpkccejaaaTotals.lean).
  GIVEN WITH THE SEED: the statements are not yours to turn. If you find one false, say at which input.
  Laid BY PROGRAM, IN A SANDBOX (cutbox-rows.mjs): the forced cells as the released guide's own fill.sh prints them over the translation 3e20be347b4c5cee… (all of the seat's roots in one cut). By AI agents, Wed Nov 11 2026. No macro, syntax, notation, axiom, sorry.
-/
import Derived.Test.YtjjaehpkccejaaaChecked
import GoSem.Claim
import GoSem.ClaimJoined
import GoSem.ClaimMapViews
import Derived.JoinedTies
import Derived.KernelRfl
namespace Go.Proofs.Ytjjaehpkccejaaa
/- THE CELL 'sum', in the pinned program and in every row, IS THE sha256 OF THE DUMP (.gsa) THAT YtjjaehpkccejaaaProg.lean LOADS. Nothing in Lean hashes anything: it is a label: what it is worth is what the hold of that sum in a sandbox is worth. -/
noncomputable def Try.pinned : Pinned := { name := "ytjjaehpkccejaaa", sum := "3e20be347b4c5ceec05d044ca7aa0fc4f22884f685da8c668a00261a4b2a984e", checked := Try.checked }
namespace Rows
def none {H : Type} : Left H := { results := [], args := [] }

/-- 'indeliblelaw28.AssignChecks': WHATEVER THE INPUT: true; the input reads as it did. -/
def assignChecksSpec : ChangeSpec := { name := "assignChecks", fn := fun _ => fun
  | [d1, d2, d3] => { results := [.lit (.bool true)], args := [d1, d2, d3] }
  | _ => none }
def assignChecksRow : OpenClaim := { program := "ytjjaehpkccejaaa", sum := "3e20be347b4c5ceec05d044ca7aa0fc4f22884f685da8c668a00261a4b2a984e", func := "indelible/indeliblelaw28.AssignChecks", spec := "assignChecks", unfollowed := true, recurses := true, plainKeys := false, apart := false }
def AssignChecksSaid : Prop := assignChecksRow.holds Try.pinned (OpenSpec.ofChange assignChecksSpec)

/-- ITS FALSE NEIGHBOUR: 'it returns false'. Refute it at one input. -/
def assignChecksWrong : ChangeSpec := { name := "assignChecks", fn := fun _ => fun
  | [d1, d2, d3] => { results := [.lit (.bool false)], args := [d1, d2, d3] }
  | _ => none }
def AssignChecksWrongFalsely : Prop := assignChecksRow.holds Try.pinned (OpenSpec.ofChange assignChecksWrong)

/-- 'indeliblelaw28.AssignClashes': WHATEVER THE INPUT: true; the input reads as it did. -/
def assignClashesSpec : ChangeSpec := { name := "assignClashes", fn := fun _ => fun
  | [d1, d2, d3] => { results := [.lit (.bool true)], args := [d1, d2, d3] }
  | _ => none }
def assignClashesRow : OpenClaim := { program := "ytjjaehpkccejaaa", sum := "3e20be347b4c5ceec05d044ca7aa0fc4f22884f685da8c668a00261a4b2a984e", func := "indelible/indeliblelaw28.AssignClashes", spec := "assignClashes", unfollowed := true, recurses := true, plainKeys := false, apart := false }
def AssignClashesSaid : Prop := assignClashesRow.holds Try.pinned (OpenSpec.ofChange assignClashesSpec)

/-- ITS FALSE NEIGHBOUR: 'it returns false'. Refute it at one input. -/
def assignClashesWrong : ChangeSpec := { name := "assignClashes", fn := fun _ => fun
  | [d1, d2, d3] => { results := [.lit (.bool false)], args := [d1, d2, d3] }
  | _ => none }
def AssignClashesWrongFalsely : Prop := assignClashesRow.holds Try.pinned (OpenSpec.ofChange assignClashesWrong)

/-- 'indeliblelaw28.AssignSolves': WHATEVER THE INPUT: true; the input reads as it did. -/
def assignSolvesSpec : ChangeSpec := { name := "assignSolves", fn := fun _ => fun
  | [d1, d2] => { results := [.lit (.bool true)], args := [d1, d2] }
  | _ => none }
def assignSolvesRow : OpenClaim := { program := "ytjjaehpkccejaaa", sum := "3e20be347b4c5ceec05d044ca7aa0fc4f22884f685da8c668a00261a4b2a984e", func := "indelible/indeliblelaw28.AssignSolves", spec := "assignSolves", unfollowed := true, recurses := true, plainKeys := false, apart := false }
def AssignSolvesSaid : Prop := assignSolvesRow.holds Try.pinned (OpenSpec.ofChange assignSolvesSpec)

/-- ITS FALSE NEIGHBOUR: 'it returns false'. Refute it at one input. -/
def assignSolvesWrong : ChangeSpec := { name := "assignSolves", fn := fun _ => fun
  | [d1, d2] => { results := [.lit (.bool false)], args := [d1, d2] }
  | _ => none }
def AssignSolvesWrongFalsely : Prop := assignSolvesRow.holds Try.pinned (OpenSpec.ofChange assignSolvesWrong)

/-- 'indeliblelaw28.AssignLeast': WHATEVER THE INPUT: true; the input reads as it did. -/
def assignLeastSpec : ChangeSpec := { name := "assignLeast", fn := fun _ => fun
  | [d] => { results := [.lit (.bool true)], args := [d] }
  | _ => none }
def assignLeastRow : OpenClaim := { program := "ytjjaehpkccejaaa", sum := "3e20be347b4c5ceec05d044ca7aa0fc4f22884f685da8c668a00261a4b2a984e", func := "indelible/indeliblelaw28.AssignLeast", spec := "assignLeast", unfollowed := true, recurses := true, plainKeys := false, apart := false }
def AssignLeastSaid : Prop := assignLeastRow.holds Try.pinned (OpenSpec.ofChange assignLeastSpec)

/-- ITS FALSE NEIGHBOUR: 'it returns false'. Refute it at one input. -/
def assignLeastWrong : ChangeSpec := { name := "assignLeast", fn := fun _ => fun
  | [d] => { results := [.lit (.bool false)], args := [d] }
  | _ => none }
def AssignLeastWrongFalsely : Prop := assignLeastRow.holds Try.pinned (OpenSpec.ofChange assignLeastWrong)

/-- 'indeliblelaw28.AssignPairs': WHATEVER THE INPUT: true; the input reads as it did. -/
def assignPairsSpec : ChangeSpec := { name := "assignPairs", fn := fun _ => fun
  | [d1, d2] => { results := [.lit (.bool true)], args := [d1, d2] }
  | _ => none }
def assignPairsRow : OpenClaim := { program := "ytjjaehpkccejaaa", sum := "3e20be347b4c5ceec05d044ca7aa0fc4f22884f685da8c668a00261a4b2a984e", func := "indelible/indeliblelaw28.AssignPairs", spec := "assignPairs", unfollowed := true, recurses := true, plainKeys := false, apart := false }
def AssignPairsSaid : Prop := assignPairsRow.holds Try.pinned (OpenSpec.ofChange assignPairsSpec)

/-- ITS FALSE NEIGHBOUR: 'it returns false'. Refute it at one input. -/
def assignPairsWrong : ChangeSpec := { name := "assignPairs", fn := fun _ => fun
  | [d1, d2] => { results := [.lit (.bool false)], args := [d1, d2] }
  | _ => none }
def AssignPairsWrongFalsely : Prop := assignPairsRow.holds Try.pinned (OpenSpec.ofChange assignPairsWrong)

/-- 'indeliblelaw28.AssignMore': WHATEVER THE INPUT: true; the input reads as it did. -/
def assignMoreSpec : ChangeSpec := { name := "assignMore", fn := fun _ => fun
  | [d1, d2, d3] => { results := [.lit (.bool true)], args := [d1, d2, d3] }
  | _ => none }
def assignMoreRow : OpenClaim := { program := "ytjjaehpkccejaaa", sum := "3e20be347b4c5ceec05d044ca7aa0fc4f22884f685da8c668a00261a4b2a984e", func := "indelible/indeliblelaw28.AssignMore", spec := "assignMore", unfollowed := true, recurses := true, plainKeys := false, apart := false }
def AssignMoreSaid : Prop := assignMoreRow.holds Try.pinned (OpenSpec.ofChange assignMoreSpec)

/-- ITS FALSE NEIGHBOUR: 'it returns false'. Refute it at one input. -/
def assignMoreWrong : ChangeSpec := { name := "assignMore", fn := fun _ => fun
  | [d1, d2, d3] => { results := [.lit (.bool false)], args := [d1, d2, d3] }
  | _ => none }
def AssignMoreWrongFalsely : Prop := assignMoreRow.holds Try.pinned (OpenSpec.ofChange assignMoreWrong)

/- THE SECOND FORM. 'bulk': how many values and letters a reading holds, each counted each time it is reached (what is shared counts as often as it is met; a slice's spare places count too). A statement '..UptoSaid' is the law's where the arguments, and the package variables that the reading takes, are together of bulk at most 1048576: NARROWER than '..Said'. Prove '..Said' where nothing that the law and all that it calls make is longer than what came in: it says more and counts as full. Else prove '..UptoSaid'. A law counts once. -/
mutual
def uptoBulk {H : Type} : DataW H → Nat
  | .lit (.string bytes) => bytes.length + 1
  | .lit _ => 1
  | .nil => 1
  | .ptr d => uptoBulk d + 1
  | .slice elems spare => uptoBulkAll elems + uptoBulkAll spare + 1
  | .agg parts => uptoBulkAll parts + 1
  | .iface _ d => uptoBulk d + 1
  | .map entries => uptoBulkEntries entries + 1
  | .held _ => 1
def uptoBulkAll {H : Type} : List (DataW H) → Nat
  | [] => 0
  | d :: r => uptoBulk d + uptoBulkAll r
def uptoBulkEntries {H : Type} : List (Lit × DataW H) → Nat
  | [] => 0
  | x :: r => uptoBulkEntry x + uptoBulkEntries r
def uptoBulkEntry {H : Type} : Lit × DataW H → Nat
  | (.string bytes, d) => bytes.length + uptoBulk d + 1
  | (_, d) => uptoBulk d + 1
 end
def uptoSmall : (H : Type) → List (DataW H) → Bool := fun _ ds => decide (uptoBulkAll ds ≤ 1048576)
def OpenSpec.upto (s : _root_.Go.ChangeSpec) : _root_.Go.OpenSpec := { _root_.Go.OpenSpec.ofChange s with cond := some uptoSmall }

/-- 'indeliblelaw28.AssignChecks', WHERE WHAT IT READS IS OF BULK AT MOST 1048576: true; the input reads as it did. -/
def assignChecksUptoRow : OpenClaim := { program := "ytjjaehpkccejaaa", sum := "3e20be347b4c5ceec05d044ca7aa0fc4f22884f685da8c668a00261a4b2a984e", func := "indelible/indeliblelaw28.AssignChecks", spec := "assignChecks", unfollowed := true, recurses := true, plainKeys := false, apart := false, narrowed := true }
def AssignChecksUptoSaid : Prop := assignChecksUptoRow.holds Try.pinned (OpenSpec.upto assignChecksSpec)

/-- 'indeliblelaw28.AssignClashes', WHERE WHAT IT READS IS OF BULK AT MOST 1048576: true; the input reads as it did. -/
def assignClashesUptoRow : OpenClaim := { program := "ytjjaehpkccejaaa", sum := "3e20be347b4c5ceec05d044ca7aa0fc4f22884f685da8c668a00261a4b2a984e", func := "indelible/indeliblelaw28.AssignClashes", spec := "assignClashes", unfollowed := true, recurses := true, plainKeys := false, apart := false, narrowed := true }
def AssignClashesUptoSaid : Prop := assignClashesUptoRow.holds Try.pinned (OpenSpec.upto assignClashesSpec)

/-- 'indeliblelaw28.AssignSolves', WHERE WHAT IT READS IS OF BULK AT MOST 1048576: true; the input reads as it did. -/
def assignSolvesUptoRow : OpenClaim := { program := "ytjjaehpkccejaaa", sum := "3e20be347b4c5ceec05d044ca7aa0fc4f22884f685da8c668a00261a4b2a984e", func := "indelible/indeliblelaw28.AssignSolves", spec := "assignSolves", unfollowed := true, recurses := true, plainKeys := false, apart := false, narrowed := true }
def AssignSolvesUptoSaid : Prop := assignSolvesUptoRow.holds Try.pinned (OpenSpec.upto assignSolvesSpec)

/-- 'indeliblelaw28.AssignLeast', WHERE WHAT IT READS IS OF BULK AT MOST 1048576: true; the input reads as it did. -/
def assignLeastUptoRow : OpenClaim := { program := "ytjjaehpkccejaaa", sum := "3e20be347b4c5ceec05d044ca7aa0fc4f22884f685da8c668a00261a4b2a984e", func := "indelible/indeliblelaw28.AssignLeast", spec := "assignLeast", unfollowed := true, recurses := true, plainKeys := false, apart := false, narrowed := true }
def AssignLeastUptoSaid : Prop := assignLeastUptoRow.holds Try.pinned (OpenSpec.upto assignLeastSpec)

/-- 'indeliblelaw28.AssignPairs', WHERE WHAT IT READS IS OF BULK AT MOST 1048576: true; the input reads as it did. -/
def assignPairsUptoRow : OpenClaim := { program := "ytjjaehpkccejaaa", sum := "3e20be347b4c5ceec05d044ca7aa0fc4f22884f685da8c668a00261a4b2a984e", func := "indelible/indeliblelaw28.AssignPairs", spec := "assignPairs", unfollowed := true, recurses := true, plainKeys := false, apart := false, narrowed := true }
def AssignPairsUptoSaid : Prop := assignPairsUptoRow.holds Try.pinned (OpenSpec.upto assignPairsSpec)

/-- 'indeliblelaw28.AssignMore', WHERE WHAT IT READS IS OF BULK AT MOST 1048576: true; the input reads as it did. -/
def assignMoreUptoRow : OpenClaim := { program := "ytjjaehpkccejaaa", sum := "3e20be347b4c5ceec05d044ca7aa0fc4f22884f685da8c668a00261a4b2a984e", func := "indelible/indeliblelaw28.AssignMore", spec := "assignMore", unfollowed := true, recurses := true, plainKeys := false, apart := false, narrowed := true }
def AssignMoreUptoSaid : Prop := assignMoreUptoRow.holds Try.pinned (OpenSpec.upto assignMoreSpec)

end Rows
end Go.Proofs.Ytjjaehpkccejaaa
