/-
  No cell of these rows narrows 'for every input' (looked for: loops, veiled, ifaces, maps, wideKeys, modest, calm, conditions, laid).
  DERIVED. THE GIVEN ROWS OF THIS SEAT. 6 by the template 'for every input the law returns true; each argument reads behind the call as it read before'; 0 by the template 'total and deterministic' (their statements: YtcdnpnbjloaihaaTotals.lean).
  GIVEN WITH THE SEED: the statements are not yours to turn. If you find one false, say at which input.
  Laid BY PROGRAM, IN A SANDBOX (cutbox-rows.mjs): the forced cells as the released guide's own fill.sh prints them over the translation 79c7f162c5ccb91e… (all of the seat's roots in one cut). By AI agents, Wed Nov 11 2026. No macro, syntax, notation, axiom, sorry.
-/
import Derived.Test.YtcdnpnbjloaihaaChecked
import GoSem.Claim
import GoSem.ClaimJoined
import GoSem.ClaimMapViews
import Derived.JoinedTies
import Derived.KernelRfl
namespace Go.Proofs.Ytcdnpnbjloaihaa
/- THE CELL 'sum', in the pinned program and in every row, IS THE sha256 OF THE DUMP (.gsa) THAT YtcdnpnbjloaihaaProg.lean LOADS. Nothing in Lean hashes anything: it is a label: what it is worth is what the hold of that sum in a sandbox is worth. -/
noncomputable def Try.pinned : Pinned := { name := "ytcdnpnbjloaihaa", sum := "79c7f162c5ccb91e902ef9e8d9366d990fec1d2dfd680943148361a9405c0c62", checked := Try.checked }
namespace Rows
def none {H : Type} : Left H := { results := [], args := [] }

/-- 'indeliblelaw33.ProbeBlocks': WHATEVER THE INPUT: true; the input reads as it did. -/
def probeBlocksSpec : ChangeSpec := { name := "probeBlocks", fn := fun _ => fun
  | [d1, d2, d3, d4, d5] => { results := [.lit (.bool true)], args := [d1, d2, d3, d4, d5] }
  | _ => none }
def probeBlocksRow : OpenClaim := { program := "ytcdnpnbjloaihaa", sum := "79c7f162c5ccb91e902ef9e8d9366d990fec1d2dfd680943148361a9405c0c62", func := "indelible/indeliblelaw33.ProbeBlocks", spec := "probeBlocks", unfollowed := true, recurses := true, plainKeys := false, apart := false }
def ProbeBlocksSaid : Prop := probeBlocksRow.holds Try.pinned (OpenSpec.ofChange probeBlocksSpec)

/-- ITS FALSE NEIGHBOUR: 'it returns false'. Refute it at one input. -/
def probeBlocksWrong : ChangeSpec := { name := "probeBlocks", fn := fun _ => fun
  | [d1, d2, d3, d4, d5] => { results := [.lit (.bool false)], args := [d1, d2, d3, d4, d5] }
  | _ => none }
def ProbeBlocksWrongFalsely : Prop := probeBlocksRow.holds Try.pinned (OpenSpec.ofChange probeBlocksWrong)

/-- 'indeliblelaw33.ProbeNext': WHATEVER THE INPUT: true; the input reads as it did. -/
def probeNextSpec : ChangeSpec := { name := "probeNext", fn := fun _ => fun
  | [d1, d2, d3, d4, d5] => { results := [.lit (.bool true)], args := [d1, d2, d3, d4, d5] }
  | _ => none }
def probeNextRow : OpenClaim := { program := "ytcdnpnbjloaihaa", sum := "79c7f162c5ccb91e902ef9e8d9366d990fec1d2dfd680943148361a9405c0c62", func := "indelible/indeliblelaw33.ProbeNext", spec := "probeNext", unfollowed := true, recurses := true, plainKeys := false, apart := false }
def ProbeNextSaid : Prop := probeNextRow.holds Try.pinned (OpenSpec.ofChange probeNextSpec)

/-- ITS FALSE NEIGHBOUR: 'it returns false'. Refute it at one input. -/
def probeNextWrong : ChangeSpec := { name := "probeNext", fn := fun _ => fun
  | [d1, d2, d3, d4, d5] => { results := [.lit (.bool false)], args := [d1, d2, d3, d4, d5] }
  | _ => none }
def ProbeNextWrongFalsely : Prop := probeNextRow.holds Try.pinned (OpenSpec.ofChange probeNextWrong)

/-- 'indeliblelaw33.ProbeCovers': WHATEVER THE INPUT: true; the input reads as it did. -/
def probeCoversSpec : ChangeSpec := { name := "probeCovers", fn := fun _ => fun
  | [d] => { results := [.lit (.bool true)], args := [d] }
  | _ => none }
def probeCoversRow : OpenClaim := { program := "ytcdnpnbjloaihaa", sum := "79c7f162c5ccb91e902ef9e8d9366d990fec1d2dfd680943148361a9405c0c62", func := "indelible/indeliblelaw33.ProbeCovers", spec := "probeCovers", unfollowed := true, recurses := true, plainKeys := false, apart := false }
def ProbeCoversSaid : Prop := probeCoversRow.holds Try.pinned (OpenSpec.ofChange probeCoversSpec)

/-- ITS FALSE NEIGHBOUR: 'it returns false'. Refute it at one input. -/
def probeCoversWrong : ChangeSpec := { name := "probeCovers", fn := fun _ => fun
  | [d] => { results := [.lit (.bool false)], args := [d] }
  | _ => none }
def ProbeCoversWrongFalsely : Prop := probeCoversRow.holds Try.pinned (OpenSpec.ofChange probeCoversWrong)

/-- 'indeliblelaw33.ProbeFills': WHATEVER THE INPUT: true; the input reads as it did. -/
def probeFillsSpec : ChangeSpec := { name := "probeFills", fn := fun _ => fun
  | [d1, d2, d3] => { results := [.lit (.bool true)], args := [d1, d2, d3] }
  | _ => none }
def probeFillsRow : OpenClaim := { program := "ytcdnpnbjloaihaa", sum := "79c7f162c5ccb91e902ef9e8d9366d990fec1d2dfd680943148361a9405c0c62", func := "indelible/indeliblelaw33.ProbeFills", spec := "probeFills", unfollowed := true, recurses := true, plainKeys := false, apart := false }
def ProbeFillsSaid : Prop := probeFillsRow.holds Try.pinned (OpenSpec.ofChange probeFillsSpec)

/-- ITS FALSE NEIGHBOUR: 'it returns false'. Refute it at one input. -/
def probeFillsWrong : ChangeSpec := { name := "probeFills", fn := fun _ => fun
  | [d1, d2, d3] => { results := [.lit (.bool false)], args := [d1, d2, d3] }
  | _ => none }
def ProbeFillsWrongFalsely : Prop := probeFillsRow.holds Try.pinned (OpenSpec.ofChange probeFillsWrong)

/-- 'indeliblelaw33.ProbeEnds': WHATEVER THE INPUT: true; the input reads as it did. -/
def probeEndsSpec : ChangeSpec := { name := "probeEnds", fn := fun _ => fun
  | [d] => { results := [.lit (.bool true)], args := [d] }
  | _ => none }
def probeEndsRow : OpenClaim := { program := "ytcdnpnbjloaihaa", sum := "79c7f162c5ccb91e902ef9e8d9366d990fec1d2dfd680943148361a9405c0c62", func := "indelible/indeliblelaw33.ProbeEnds", spec := "probeEnds", unfollowed := true, recurses := true, plainKeys := false, apart := false }
def ProbeEndsSaid : Prop := probeEndsRow.holds Try.pinned (OpenSpec.ofChange probeEndsSpec)

/-- ITS FALSE NEIGHBOUR: 'it returns false'. Refute it at one input. -/
def probeEndsWrong : ChangeSpec := { name := "probeEnds", fn := fun _ => fun
  | [d] => { results := [.lit (.bool false)], args := [d] }
  | _ => none }
def ProbeEndsWrongFalsely : Prop := probeEndsRow.holds Try.pinned (OpenSpec.ofChange probeEndsWrong)

/-- 'indeliblelaw33.ProbeDivides': WHATEVER THE INPUT: true; the input reads as it did. -/
def probeDividesSpec : ChangeSpec := { name := "probeDivides", fn := fun _ => fun
  | [d] => { results := [.lit (.bool true)], args := [d] }
  | _ => none }
def probeDividesRow : OpenClaim := { program := "ytcdnpnbjloaihaa", sum := "79c7f162c5ccb91e902ef9e8d9366d990fec1d2dfd680943148361a9405c0c62", func := "indelible/indeliblelaw33.ProbeDivides", spec := "probeDivides", unfollowed := true, recurses := true, plainKeys := false, apart := false }
def ProbeDividesSaid : Prop := probeDividesRow.holds Try.pinned (OpenSpec.ofChange probeDividesSpec)

/-- ITS FALSE NEIGHBOUR: 'it returns false'. Refute it at one input. -/
def probeDividesWrong : ChangeSpec := { name := "probeDivides", fn := fun _ => fun
  | [d] => { results := [.lit (.bool false)], args := [d] }
  | _ => none }
def ProbeDividesWrongFalsely : Prop := probeDividesRow.holds Try.pinned (OpenSpec.ofChange probeDividesWrong)

/- THE SECOND FORM. 'bulk': how many values and letters a reading holds, each counted each time it is reached (what is shared counts as often as it is met; a slice's spare places count too). A statement '..UptoSaid' is the law's where the arguments, and the package variables that the reading takes, are together of bulk at most 1048576: NARROWER than '..Said'. Prove '..Said' where nothing that the law and all that it calls make is longer than what came in: it says more and counts as full. Else prove '..UptoSaid'. A law counts once. -/
mutual
def uptoBulk {H : Type} : DataW H → Nat
  | .lit (.string bytes) => bytes.length + 1
  | .lit _ => 1
  | .nil => 1
  | .ptr d => uptoBulk d + 1
  | .slice elems spare => uptoBulkAll elems + uptoBulkAll spare + 1
  | .agg parts => uptoBulkAll parts + 1
  | .iface _ d => uptoBulk d + 1
  | .map entries => uptoBulkEntries entries + 1
  | .held _ => 1
def uptoBulkAll {H : Type} : List (DataW H) → Nat
  | [] => 0
  | d :: r => uptoBulk d + uptoBulkAll r
def uptoBulkEntries {H : Type} : List (Lit × DataW H) → Nat
  | [] => 0
  | x :: r => uptoBulkEntry x + uptoBulkEntries r
def uptoBulkEntry {H : Type} : Lit × DataW H → Nat
  | (.string bytes, d) => bytes.length + uptoBulk d + 1
  | (_, d) => uptoBulk d + 1
 end
def uptoSmall : (H : Type) → List (DataW H) → Bool := fun _ ds => decide (uptoBulkAll ds ≤ 1048576)
def OpenSpec.upto (s : _root_.Go.ChangeSpec) : _root_.Go.OpenSpec := { _root_.Go.OpenSpec.ofChange s with cond := some uptoSmall }

/-- 'indeliblelaw33.ProbeBlocks', WHERE WHAT IT READS IS OF BULK AT MOST 1048576: true; the input reads as it did. -/
def probeBlocksUptoRow : OpenClaim := { program := "ytcdnpnbjloaihaa", sum := "79c7f162c5ccb91e902ef9e8d9366d990fec1d2dfd680943148361a9405c0c62", func := "indelible/indeliblelaw33.ProbeBlocks", spec := "probeBlocks", unfollowed := true, recurses := true, plainKeys := false, apart := false, narrowed := true }
def ProbeBlocksUptoSaid : Prop := probeBlocksUptoRow.holds Try.pinned (OpenSpec.upto probeBlocksSpec)

/-- 'indeliblelaw33.ProbeNext', WHERE WHAT IT READS IS OF BULK AT MOST 1048576: true; the input reads as it did. -/
def probeNextUptoRow : OpenClaim := { program := "ytcdnpnbjloaihaa", sum := "79c7f162c5ccb91e902ef9e8d9366d990fec1d2dfd680943148361a9405c0c62", func := "indelible/indeliblelaw33.ProbeNext", spec := "probeNext", unfollowed := true, recurses := true, plainKeys := false, apart := false, narrowed := true }
def ProbeNextUptoSaid : Prop := probeNextUptoRow.holds Try.pinned (OpenSpec.upto probeNextSpec)

/-- 'indeliblelaw33.ProbeCovers', WHERE WHAT IT READS IS OF BULK AT MOST 1048576: true; the input reads as it did. -/
def probeCoversUptoRow : OpenClaim := { program := "ytcdnpnbjloaihaa", sum := "79c7f162c5ccb91e902ef9e8d9366d990fec1d2dfd680943148361a9405c0c62", func := "indelible/indeliblelaw33.ProbeCovers", spec := "probeCovers", unfollowed := true, recurses := true, plainKeys := false, apart := false, narrowed := true }
def ProbeCoversUptoSaid : Prop := probeCoversUptoRow.holds Try.pinned (OpenSpec.upto probeCoversSpec)

/-- 'indeliblelaw33.ProbeFills', WHERE WHAT IT READS IS OF BULK AT MOST 1048576: true; the input reads as it did. -/
def probeFillsUptoRow : OpenClaim := { program := "ytcdnpnbjloaihaa", sum := "79c7f162c5ccb91e902ef9e8d9366d990fec1d2dfd680943148361a9405c0c62", func := "indelible/indeliblelaw33.ProbeFills", spec := "probeFills", unfollowed := true, recurses := true, plainKeys := false, apart := false, narrowed := true }
def ProbeFillsUptoSaid : Prop := probeFillsUptoRow.holds Try.pinned (OpenSpec.upto probeFillsSpec)

/-- 'indeliblelaw33.ProbeEnds', WHERE WHAT IT READS IS OF BULK AT MOST 1048576: true; the input reads as it did. -/
def probeEndsUptoRow : OpenClaim := { program := "ytcdnpnbjloaihaa", sum := "79c7f162c5ccb91e902ef9e8d9366d990fec1d2dfd680943148361a9405c0c62", func := "indelible/indeliblelaw33.ProbeEnds", spec := "probeEnds", unfollowed := true, recurses := true, plainKeys := false, apart := false, narrowed := true }
def ProbeEndsUptoSaid : Prop := probeEndsUptoRow.holds Try.pinned (OpenSpec.upto probeEndsSpec)

/-- 'indeliblelaw33.ProbeDivides', WHERE WHAT IT READS IS OF BULK AT MOST 1048576: true; the input reads as it did. -/
def probeDividesUptoRow : OpenClaim := { program := "ytcdnpnbjloaihaa", sum := "79c7f162c5ccb91e902ef9e8d9366d990fec1d2dfd680943148361a9405c0c62", func := "indelible/indeliblelaw33.ProbeDivides", spec := "probeDivides", unfollowed := true, recurses := true, plainKeys := false, apart := false, narrowed := true }
def ProbeDividesUptoSaid : Prop := probeDividesUptoRow.holds Try.pinned (OpenSpec.upto probeDividesSpec)

end Rows
end Go.Proofs.Ytcdnpnbjloaihaa
