/-
  No cell of these rows narrows 'for every input' (looked for: loops, veiled, ifaces, maps, wideKeys, modest, calm, conditions, laid).
  DERIVED. THE GIVEN ROWS OF THIS SEAT. 4 by the template 'for every input the law returns true; each argument reads behind the call as it read before'; 0 by the template 'total and deterministic' (their statements: YtbffmfeldkjkcaaTotals.lean).
  GIVEN WITH THE SEED: the statements are not yours to turn. If you find one false, say at which input.
  Laid BY PROGRAM, IN A SANDBOX (cutbox-rows.mjs): the forced cells as the released guide's own fill.sh prints them over the translation 5fec798009ad428a… (all of the seat's roots in one cut). By AI agents, Wed Nov 11 2026. No macro, syntax, notation, axiom, sorry.
-/
import Derived.Test.YtbffmfeldkjkcaaChecked
import GoSem.Claim
import GoSem.ClaimJoined
import GoSem.ClaimMapViews
import Derived.JoinedTies
import Derived.KernelRfl
namespace Go.Proofs.Ytbffmfeldkjkcaa
/- THE CELL 'sum', in the pinned program and in every row, IS THE sha256 OF THE DUMP (.gsa) THAT YtbffmfeldkjkcaaProg.lean LOADS. Nothing in Lean hashes anything: it is a label: what it is worth is what the hold of that sum in a sandbox is worth. -/
noncomputable def Try.pinned : Pinned := { name := "ytbffmfeldkjkcaa", sum := "5fec798009ad428a01a09995b233be66a35fe81d244614e3a793f3617fc32182", checked := Try.checked }
namespace Rows
def none {H : Type} : Left H := { results := [], args := [] }

/-- 'indeliblelaw30.ReprintWith': WHATEVER THE INPUT: true; the input reads as it did. -/
def reprintWithSpec : ChangeSpec := { name := "reprintWith", fn := fun _ => fun
  | [d1, d2] => { results := [.lit (.bool true)], args := [d1, d2] }
  | _ => none }
def reprintWithRow : OpenClaim := { program := "ytbffmfeldkjkcaa", sum := "5fec798009ad428a01a09995b233be66a35fe81d244614e3a793f3617fc32182", func := "indelible/indeliblelaw30.ReprintWith", spec := "reprintWith", unfollowed := true, recurses := true, plainKeys := false, apart := false }
def ReprintWithSaid : Prop := reprintWithRow.holds Try.pinned (OpenSpec.ofChange reprintWithSpec)

/-- ITS FALSE NEIGHBOUR: 'it returns false'. Refute it at one input. -/
def reprintWithWrong : ChangeSpec := { name := "reprintWith", fn := fun _ => fun
  | [d1, d2] => { results := [.lit (.bool false)], args := [d1, d2] }
  | _ => none }
def ReprintWithWrongFalsely : Prop := reprintWithRow.holds Try.pinned (OpenSpec.ofChange reprintWithWrong)

/-- 'indeliblelaw30.ReprintLeast': WHATEVER THE INPUT: true; the input reads as it did. -/
def reprintLeastSpec : ChangeSpec := { name := "reprintLeast", fn := fun _ => fun
  | [d] => { results := [.lit (.bool true)], args := [d] }
  | _ => none }
def reprintLeastRow : OpenClaim := { program := "ytbffmfeldkjkcaa", sum := "5fec798009ad428a01a09995b233be66a35fe81d244614e3a793f3617fc32182", func := "indelible/indeliblelaw30.ReprintLeast", spec := "reprintLeast", unfollowed := true, recurses := true, plainKeys := false, apart := false }
def ReprintLeastSaid : Prop := reprintLeastRow.holds Try.pinned (OpenSpec.ofChange reprintLeastSpec)

/-- ITS FALSE NEIGHBOUR: 'it returns false'. Refute it at one input. -/
def reprintLeastWrong : ChangeSpec := { name := "reprintLeast", fn := fun _ => fun
  | [d] => { results := [.lit (.bool false)], args := [d] }
  | _ => none }
def ReprintLeastWrongFalsely : Prop := reprintLeastRow.holds Try.pinned (OpenSpec.ofChange reprintLeastWrong)

/-- 'indeliblelaw30.ReprintSafe': WHATEVER THE INPUT: true; the input reads as it did. -/
def reprintSafeSpec : ChangeSpec := { name := "reprintSafe", fn := fun _ => fun
  | [d] => { results := [.lit (.bool true)], args := [d] }
  | _ => none }
def reprintSafeRow : OpenClaim := { program := "ytbffmfeldkjkcaa", sum := "5fec798009ad428a01a09995b233be66a35fe81d244614e3a793f3617fc32182", func := "indelible/indeliblelaw30.ReprintSafe", spec := "reprintSafe", unfollowed := true, recurses := true, plainKeys := false, apart := false }
def ReprintSafeSaid : Prop := reprintSafeRow.holds Try.pinned (OpenSpec.ofChange reprintSafeSpec)

/-- ITS FALSE NEIGHBOUR: 'it returns false'. Refute it at one input. -/
def reprintSafeWrong : ChangeSpec := { name := "reprintSafe", fn := fun _ => fun
  | [d] => { results := [.lit (.bool false)], args := [d] }
  | _ => none }
def ReprintSafeWrongFalsely : Prop := reprintSafeRow.holds Try.pinned (OpenSpec.ofChange reprintSafeWrong)

/-- 'indeliblelaw30.ReprintWhy': WHATEVER THE INPUT: true; the input reads as it did. -/
def reprintWhySpec : ChangeSpec := { name := "reprintWhy", fn := fun _ => fun
  | [d] => { results := [.lit (.bool true)], args := [d] }
  | _ => none }
def reprintWhyRow : OpenClaim := { program := "ytbffmfeldkjkcaa", sum := "5fec798009ad428a01a09995b233be66a35fe81d244614e3a793f3617fc32182", func := "indelible/indeliblelaw30.ReprintWhy", spec := "reprintWhy", unfollowed := true, recurses := true, plainKeys := false, apart := false }
def ReprintWhySaid : Prop := reprintWhyRow.holds Try.pinned (OpenSpec.ofChange reprintWhySpec)

/-- ITS FALSE NEIGHBOUR: 'it returns false'. Refute it at one input. -/
def reprintWhyWrong : ChangeSpec := { name := "reprintWhy", fn := fun _ => fun
  | [d] => { results := [.lit (.bool false)], args := [d] }
  | _ => none }
def ReprintWhyWrongFalsely : Prop := reprintWhyRow.holds Try.pinned (OpenSpec.ofChange reprintWhyWrong)

/- THE SECOND FORM. 'bulk': how many values and letters a reading holds, each counted each time it is reached (what is shared counts as often as it is met; a slice's spare places count too). A statement '..UptoSaid' is the law's where the arguments, and the package variables that the reading takes, are together of bulk at most 1048576: NARROWER than '..Said'. Prove '..Said' where nothing that the law and all that it calls make is longer than what came in: it says more and counts as full. Else prove '..UptoSaid'. A law counts once. -/
mutual
def uptoBulk {H : Type} : DataW H → Nat
  | .lit (.string bytes) => bytes.length + 1
  | .lit _ => 1
  | .nil => 1
  | .ptr d => uptoBulk d + 1
  | .slice elems spare => uptoBulkAll elems + uptoBulkAll spare + 1
  | .agg parts => uptoBulkAll parts + 1
  | .iface _ d => uptoBulk d + 1
  | .map entries => uptoBulkEntries entries + 1
  | .held _ => 1
def uptoBulkAll {H : Type} : List (DataW H) → Nat
  | [] => 0
  | d :: r => uptoBulk d + uptoBulkAll r
def uptoBulkEntries {H : Type} : List (Lit × DataW H) → Nat
  | [] => 0
  | x :: r => uptoBulkEntry x + uptoBulkEntries r
def uptoBulkEntry {H : Type} : Lit × DataW H → Nat
  | (.string bytes, d) => bytes.length + uptoBulk d + 1
  | (_, d) => uptoBulk d + 1
 end
def uptoSmall : (H : Type) → List (DataW H) → Bool := fun _ ds => decide (uptoBulkAll ds ≤ 1048576)
def OpenSpec.upto (s : _root_.Go.ChangeSpec) : _root_.Go.OpenSpec := { _root_.Go.OpenSpec.ofChange s with cond := some uptoSmall }

/-- 'indeliblelaw30.ReprintWith', WHERE WHAT IT READS IS OF BULK AT MOST 1048576: true; the input reads as it did. -/
def reprintWithUptoRow : OpenClaim := { program := "ytbffmfeldkjkcaa", sum := "5fec798009ad428a01a09995b233be66a35fe81d244614e3a793f3617fc32182", func := "indelible/indeliblelaw30.ReprintWith", spec := "reprintWith", unfollowed := true, recurses := true, plainKeys := false, apart := false, narrowed := true }
def ReprintWithUptoSaid : Prop := reprintWithUptoRow.holds Try.pinned (OpenSpec.upto reprintWithSpec)

/-- 'indeliblelaw30.ReprintLeast', WHERE WHAT IT READS IS OF BULK AT MOST 1048576: true; the input reads as it did. -/
def reprintLeastUptoRow : OpenClaim := { program := "ytbffmfeldkjkcaa", sum := "5fec798009ad428a01a09995b233be66a35fe81d244614e3a793f3617fc32182", func := "indelible/indeliblelaw30.ReprintLeast", spec := "reprintLeast", unfollowed := true, recurses := true, plainKeys := false, apart := false, narrowed := true }
def ReprintLeastUptoSaid : Prop := reprintLeastUptoRow.holds Try.pinned (OpenSpec.upto reprintLeastSpec)

/-- 'indeliblelaw30.ReprintSafe', WHERE WHAT IT READS IS OF BULK AT MOST 1048576: true; the input reads as it did. -/
def reprintSafeUptoRow : OpenClaim := { program := "ytbffmfeldkjkcaa", sum := "5fec798009ad428a01a09995b233be66a35fe81d244614e3a793f3617fc32182", func := "indelible/indeliblelaw30.ReprintSafe", spec := "reprintSafe", unfollowed := true, recurses := true, plainKeys := false, apart := false, narrowed := true }
def ReprintSafeUptoSaid : Prop := reprintSafeUptoRow.holds Try.pinned (OpenSpec.upto reprintSafeSpec)

/-- 'indeliblelaw30.ReprintWhy', WHERE WHAT IT READS IS OF BULK AT MOST 1048576: true; the input reads as it did. -/
def reprintWhyUptoRow : OpenClaim := { program := "ytbffmfeldkjkcaa", sum := "5fec798009ad428a01a09995b233be66a35fe81d244614e3a793f3617fc32182", func := "indelible/indeliblelaw30.ReprintWhy", spec := "reprintWhy", unfollowed := true, recurses := true, plainKeys := false, apart := false, narrowed := true }
def ReprintWhyUptoSaid : Prop := reprintWhyUptoRow.holds Try.pinned (OpenSpec.upto reprintWhySpec)

end Rows
end Go.Proofs.Ytbffmfeldkjkcaa
