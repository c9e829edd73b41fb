/-
  No cell of these rows narrows 'for every input' (looked for: loops, veiled, ifaces, maps, wideKeys, modest, calm, conditions, laid).
  DERIVED. THE GIVEN ROWS OF THIS SEAT. 4 by the template 'for every input the law returns true; each argument reads behind the call as it read before'; 0 by the template 'total and deterministic' (their statements: YtpefnljgalpllaaTotals.lean).
  GIVEN WITH THE SEED: the statements are not yours to turn. If you find one false, say at which input.
  Laid BY PROGRAM, IN A SANDBOX (cutbox-rows.mjs): the forced cells as the released guide's own fill.sh prints them over the translation d1a03fef2cee0bf4… (all of the seat's roots in one cut). By AI agents, Wed Nov 11 2026. No macro, syntax, notation, axiom, sorry.
-/
import Derived.Test.YtpefnljgalpllaaChecked
import GoSem.Claim
import GoSem.ClaimJoined
import GoSem.ClaimMapViews
import Derived.JoinedTies
import Derived.KernelRfl
namespace Go.Proofs.Ytpefnljgalpllaa
/- THE CELL 'sum', in the pinned program and in every row, IS THE sha256 OF THE DUMP (.gsa) THAT YtpefnljgalpllaaProg.lean LOADS. Nothing in Lean hashes anything: it is a label: what it is worth is what the hold of that sum in a sandbox is worth. -/
noncomputable def Try.pinned : Pinned := { name := "ytpefnljgalpllaa", sum := "d1a03fef2cee0bf430cd41ba8fb41196dccc2543e6d543a0a55ba88074b103e6", checked := Try.checked }
namespace Rows
def none {H : Type} : Left H := { results := [], args := [] }

/-- 'indeliblelaw29.CoreParts': WHATEVER THE INPUT: true; the input reads as it did. -/
def corePartsSpec : ChangeSpec := { name := "coreParts", fn := fun _ => fun
  | [d1, d2] => { results := [.lit (.bool true)], args := [d1, d2] }
  | _ => none }
def corePartsRow : OpenClaim := { program := "ytpefnljgalpllaa", sum := "d1a03fef2cee0bf430cd41ba8fb41196dccc2543e6d543a0a55ba88074b103e6", func := "indelible/indeliblelaw29.CoreParts", spec := "coreParts", unfollowed := true, recurses := true, plainKeys := false, apart := false }
def CorePartsSaid : Prop := corePartsRow.holds Try.pinned (OpenSpec.ofChange corePartsSpec)

/-- ITS FALSE NEIGHBOUR: 'it returns false'. Refute it at one input. -/
def corePartsWrong : ChangeSpec := { name := "coreParts", fn := fun _ => fun
  | [d1, d2] => { results := [.lit (.bool false)], args := [d1, d2] }
  | _ => none }
def CorePartsWrongFalsely : Prop := corePartsRow.holds Try.pinned (OpenSpec.ofChange corePartsWrong)

/-- 'indeliblelaw29.CoreMinimal': WHATEVER THE INPUT: true; the input reads as it did. -/
def coreMinimalSpec : ChangeSpec := { name := "coreMinimal", fn := fun _ => fun
  | [d] => { results := [.lit (.bool true)], args := [d] }
  | _ => none }
def coreMinimalRow : OpenClaim := { program := "ytpefnljgalpllaa", sum := "d1a03fef2cee0bf430cd41ba8fb41196dccc2543e6d543a0a55ba88074b103e6", func := "indelible/indeliblelaw29.CoreMinimal", spec := "coreMinimal", unfollowed := true, recurses := true, plainKeys := false, apart := false }
def CoreMinimalSaid : Prop := coreMinimalRow.holds Try.pinned (OpenSpec.ofChange coreMinimalSpec)

/-- ITS FALSE NEIGHBOUR: 'it returns false'. Refute it at one input. -/
def coreMinimalWrong : ChangeSpec := { name := "coreMinimal", fn := fun _ => fun
  | [d] => { results := [.lit (.bool false)], args := [d] }
  | _ => none }
def CoreMinimalWrongFalsely : Prop := coreMinimalRow.holds Try.pinned (OpenSpec.ofChange coreMinimalWrong)

/-- 'indeliblelaw29.CoreMonotone': WHATEVER THE INPUT: true; the input reads as it did. -/
def coreMonotoneSpec : ChangeSpec := { name := "coreMonotone", fn := fun _ => fun
  | [d1, d2, d3] => { results := [.lit (.bool true)], args := [d1, d2, d3] }
  | _ => none }
def coreMonotoneRow : OpenClaim := { program := "ytpefnljgalpllaa", sum := "d1a03fef2cee0bf430cd41ba8fb41196dccc2543e6d543a0a55ba88074b103e6", func := "indelible/indeliblelaw29.CoreMonotone", spec := "coreMonotone", unfollowed := true, recurses := true, plainKeys := false, apart := false }
def CoreMonotoneSaid : Prop := coreMonotoneRow.holds Try.pinned (OpenSpec.ofChange coreMonotoneSpec)

/-- ITS FALSE NEIGHBOUR: 'it returns false'. Refute it at one input. -/
def coreMonotoneWrong : ChangeSpec := { name := "coreMonotone", fn := fun _ => fun
  | [d1, d2, d3] => { results := [.lit (.bool false)], args := [d1, d2, d3] }
  | _ => none }
def CoreMonotoneWrongFalsely : Prop := coreMonotoneRow.holds Try.pinned (OpenSpec.ofChange coreMonotoneWrong)

/-- 'indeliblelaw29.CoreSound': WHATEVER THE INPUT: true; the input reads as it did. -/
def coreSoundSpec : ChangeSpec := { name := "coreSound", fn := fun _ => fun
  | [d1, d2] => { results := [.lit (.bool true)], args := [d1, d2] }
  | _ => none }
def coreSoundRow : OpenClaim := { program := "ytpefnljgalpllaa", sum := "d1a03fef2cee0bf430cd41ba8fb41196dccc2543e6d543a0a55ba88074b103e6", func := "indelible/indeliblelaw29.CoreSound", spec := "coreSound", unfollowed := true, recurses := true, plainKeys := false, apart := false }
def CoreSoundSaid : Prop := coreSoundRow.holds Try.pinned (OpenSpec.ofChange coreSoundSpec)

/-- ITS FALSE NEIGHBOUR: 'it returns false'. Refute it at one input. -/
def coreSoundWrong : ChangeSpec := { name := "coreSound", fn := fun _ => fun
  | [d1, d2] => { results := [.lit (.bool false)], args := [d1, d2] }
  | _ => none }
def CoreSoundWrongFalsely : Prop := coreSoundRow.holds Try.pinned (OpenSpec.ofChange coreSoundWrong)

/- THE SECOND FORM. 'bulk': how many values and letters a reading holds, each counted each time it is reached (what is shared counts as often as it is met; a slice's spare places count too). A statement '..UptoSaid' is the law's where the arguments, and the package variables that the reading takes, are together of bulk at most 1048576: NARROWER than '..Said'. Prove '..Said' where nothing that the law and all that it calls make is longer than what came in: it says more and counts as full. Else prove '..UptoSaid'. A law counts once. -/
mutual
def uptoBulk {H : Type} : DataW H → Nat
  | .lit (.string bytes) => bytes.length + 1
  | .lit _ => 1
  | .nil => 1
  | .ptr d => uptoBulk d + 1
  | .slice elems spare => uptoBulkAll elems + uptoBulkAll spare + 1
  | .agg parts => uptoBulkAll parts + 1
  | .iface _ d => uptoBulk d + 1
  | .map entries => uptoBulkEntries entries + 1
  | .held _ => 1
def uptoBulkAll {H : Type} : List (DataW H) → Nat
  | [] => 0
  | d :: r => uptoBulk d + uptoBulkAll r
def uptoBulkEntries {H : Type} : List (Lit × DataW H) → Nat
  | [] => 0
  | x :: r => uptoBulkEntry x + uptoBulkEntries r
def uptoBulkEntry {H : Type} : Lit × DataW H → Nat
  | (.string bytes, d) => bytes.length + uptoBulk d + 1
  | (_, d) => uptoBulk d + 1
 end
def uptoSmall : (H : Type) → List (DataW H) → Bool := fun _ ds => decide (uptoBulkAll ds ≤ 1048576)
def OpenSpec.upto (s : _root_.Go.ChangeSpec) : _root_.Go.OpenSpec := { _root_.Go.OpenSpec.ofChange s with cond := some uptoSmall }

/-- 'indeliblelaw29.CoreParts', WHERE WHAT IT READS IS OF BULK AT MOST 1048576: true; the input reads as it did. -/
def corePartsUptoRow : OpenClaim := { program := "ytpefnljgalpllaa", sum := "d1a03fef2cee0bf430cd41ba8fb41196dccc2543e6d543a0a55ba88074b103e6", func := "indelible/indeliblelaw29.CoreParts", spec := "coreParts", unfollowed := true, recurses := true, plainKeys := false, apart := false, narrowed := true }
def CorePartsUptoSaid : Prop := corePartsUptoRow.holds Try.pinned (OpenSpec.upto corePartsSpec)

/-- 'indeliblelaw29.CoreMinimal', WHERE WHAT IT READS IS OF BULK AT MOST 1048576: true; the input reads as it did. -/
def coreMinimalUptoRow : OpenClaim := { program := "ytpefnljgalpllaa", sum := "d1a03fef2cee0bf430cd41ba8fb41196dccc2543e6d543a0a55ba88074b103e6", func := "indelible/indeliblelaw29.CoreMinimal", spec := "coreMinimal", unfollowed := true, recurses := true, plainKeys := false, apart := false, narrowed := true }
def CoreMinimalUptoSaid : Prop := coreMinimalUptoRow.holds Try.pinned (OpenSpec.upto coreMinimalSpec)

/-- 'indeliblelaw29.CoreMonotone', WHERE WHAT IT READS IS OF BULK AT MOST 1048576: true; the input reads as it did. -/
def coreMonotoneUptoRow : OpenClaim := { program := "ytpefnljgalpllaa", sum := "d1a03fef2cee0bf430cd41ba8fb41196dccc2543e6d543a0a55ba88074b103e6", func := "indelible/indeliblelaw29.CoreMonotone", spec := "coreMonotone", unfollowed := true, recurses := true, plainKeys := false, apart := false, narrowed := true }
def CoreMonotoneUptoSaid : Prop := coreMonotoneUptoRow.holds Try.pinned (OpenSpec.upto coreMonotoneSpec)

/-- 'indeliblelaw29.CoreSound', WHERE WHAT IT READS IS OF BULK AT MOST 1048576: true; the input reads as it did. -/
def coreSoundUptoRow : OpenClaim := { program := "ytpefnljgalpllaa", sum := "d1a03fef2cee0bf430cd41ba8fb41196dccc2543e6d543a0a55ba88074b103e6", func := "indelible/indeliblelaw29.CoreSound", spec := "coreSound", unfollowed := true, recurses := true, plainKeys := false, apart := false, narrowed := true }
def CoreSoundUptoSaid : Prop := coreSoundUptoRow.holds Try.pinned (OpenSpec.upto coreSoundSpec)

end Rows
end Go.Proofs.Ytpefnljgalpllaa
