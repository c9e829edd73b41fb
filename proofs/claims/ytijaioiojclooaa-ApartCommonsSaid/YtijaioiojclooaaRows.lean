/-
  No cell of these rows narrows 'for every input' (looked for: loops, veiled, ifaces, maps, wideKeys, modest, calm, conditions, laid).
  DERIVED. THE GIVEN ROWS OF THIS SEAT. 6 by the template 'for every input the law returns true; each argument reads behind the call as it read before'; 0 by the template 'total and deterministic' (their statements: YtijaioiojclooaaTotals.lean).
  GIVEN WITH THE SEED: the statements are not yours to turn. If you find one false, say at which input.
  Laid BY PROGRAM, IN A SANDBOX (cutbox-rows.mjs): the forced cells as the released guide's own fill.sh prints them over the translation 1d35966f63fc0c3b… (all of the seat's roots in one cut). By AI agents, Wed Nov 11 2026. No macro, syntax, notation, axiom, sorry.
-/
import Derived.Test.YtijaioiojclooaaChecked
import GoSem.Claim
import GoSem.ClaimJoined
import GoSem.ClaimMapViews
import Derived.JoinedTies
import Derived.KernelRfl
namespace Go.Proofs.Ytijaioiojclooaa
/- THE CELL 'sum', in the pinned program and in every row, IS THE sha256 OF THE DUMP (.gsa) THAT YtijaioiojclooaaProg.lean LOADS. Nothing in Lean hashes anything: it is a label: what it is worth is what the hold of that sum in a sandbox is worth. -/
noncomputable def Try.pinned : Pinned := { name := "ytijaioiojclooaa", sum := "1d35966f63fc0c3bf54683fb4acd28ed4c41eb2794e3cddb3031efcee7a204ea", checked := Try.checked }
namespace Rows
def none {H : Type} : Left H := { results := [], args := [] }

/-- 'indeliblelaw24.ApartClashes': WHATEVER THE INPUT: true; the input reads as it did. -/
def apartClashesSpec : ChangeSpec := { name := "apartClashes", fn := fun _ => fun
  | [d1, d2, d3, d4] => { results := [.lit (.bool true)], args := [d1, d2, d3, d4] }
  | _ => none }
def apartClashesRow : OpenClaim := { program := "ytijaioiojclooaa", sum := "1d35966f63fc0c3bf54683fb4acd28ed4c41eb2794e3cddb3031efcee7a204ea", func := "indelible/indeliblelaw24.ApartClashes", spec := "apartClashes", unfollowed := true, recurses := true, apart := false }
def ApartClashesSaid : Prop := apartClashesRow.holds Try.pinned (OpenSpec.ofChange apartClashesSpec)

/-- ITS FALSE NEIGHBOUR: 'it returns false'. Refute it at one input. -/
def apartClashesWrong : ChangeSpec := { name := "apartClashes", fn := fun _ => fun
  | [d1, d2, d3, d4] => { results := [.lit (.bool false)], args := [d1, d2, d3, d4] }
  | _ => none }
def ApartClashesWrongFalsely : Prop := apartClashesRow.holds Try.pinned (OpenSpec.ofChange apartClashesWrong)

/-- 'indeliblelaw24.ApartCommons': WHATEVER THE INPUT: true; the input reads as it did. -/
def apartCommonsSpec : ChangeSpec := { name := "apartCommons", fn := fun _ => fun
  | [d1, d2, d3, d4] => { results := [.lit (.bool true)], args := [d1, d2, d3, d4] }
  | _ => none }
def apartCommonsRow : OpenClaim := { program := "ytijaioiojclooaa", sum := "1d35966f63fc0c3bf54683fb4acd28ed4c41eb2794e3cddb3031efcee7a204ea", func := "indelible/indeliblelaw24.ApartCommons", spec := "apartCommons", unfollowed := true, recurses := true, apart := false }
def ApartCommonsSaid : Prop := apartCommonsRow.holds Try.pinned (OpenSpec.ofChange apartCommonsSpec)

/-- ITS FALSE NEIGHBOUR: 'it returns false'. Refute it at one input. -/
def apartCommonsWrong : ChangeSpec := { name := "apartCommons", fn := fun _ => fun
  | [d1, d2, d3, d4] => { results := [.lit (.bool false)], args := [d1, d2, d3, d4] }
  | _ => none }
def ApartCommonsWrongFalsely : Prop := apartCommonsRow.holds Try.pinned (OpenSpec.ofChange apartCommonsWrong)

/-- 'indeliblelaw24.ApartTurns': WHATEVER THE INPUT: true; the input reads as it did. -/
def apartTurnsSpec : ChangeSpec := { name := "apartTurns", fn := fun _ => fun
  | [d] => { results := [.lit (.bool true)], args := [d] }
  | _ => none }
def apartTurnsRow : OpenClaim := { program := "ytijaioiojclooaa", sum := "1d35966f63fc0c3bf54683fb4acd28ed4c41eb2794e3cddb3031efcee7a204ea", func := "indelible/indeliblelaw24.ApartTurns", spec := "apartTurns", unfollowed := true, recurses := true, apart := false }
def ApartTurnsSaid : Prop := apartTurnsRow.holds Try.pinned (OpenSpec.ofChange apartTurnsSpec)

/-- ITS FALSE NEIGHBOUR: 'it returns false'. Refute it at one input. -/
def apartTurnsWrong : ChangeSpec := { name := "apartTurns", fn := fun _ => fun
  | [d] => { results := [.lit (.bool false)], args := [d] }
  | _ => none }
def ApartTurnsWrongFalsely : Prop := apartTurnsRow.holds Try.pinned (OpenSpec.ofChange apartTurnsWrong)

/-- 'indeliblelaw24.ApartGreater': WHATEVER THE INPUT: true; the input reads as it did. -/
def apartGreaterSpec : ChangeSpec := { name := "apartGreater", fn := fun _ => fun
  | [d1, d2] => { results := [.lit (.bool true)], args := [d1, d2] }
  | _ => none }
def apartGreaterRow : OpenClaim := { program := "ytijaioiojclooaa", sum := "1d35966f63fc0c3bf54683fb4acd28ed4c41eb2794e3cddb3031efcee7a204ea", func := "indelible/indeliblelaw24.ApartGreater", spec := "apartGreater", unfollowed := true, recurses := true, apart := false }
def ApartGreaterSaid : Prop := apartGreaterRow.holds Try.pinned (OpenSpec.ofChange apartGreaterSpec)

/-- ITS FALSE NEIGHBOUR: 'it returns false'. Refute it at one input. -/
def apartGreaterWrong : ChangeSpec := { name := "apartGreater", fn := fun _ => fun
  | [d1, d2] => { results := [.lit (.bool false)], args := [d1, d2] }
  | _ => none }
def ApartGreaterWrongFalsely : Prop := apartGreaterRow.holds Try.pinned (OpenSpec.ofChange apartGreaterWrong)

/-- 'indeliblelaw24.ApartShares': WHATEVER THE INPUT: true; the input reads as it did. -/
def apartSharesSpec : ChangeSpec := { name := "apartShares", fn := fun _ => fun
  | [d] => { results := [.lit (.bool true)], args := [d] }
  | _ => none }
def apartSharesRow : OpenClaim := { program := "ytijaioiojclooaa", sum := "1d35966f63fc0c3bf54683fb4acd28ed4c41eb2794e3cddb3031efcee7a204ea", func := "indelible/indeliblelaw24.ApartShares", spec := "apartShares", unfollowed := true, recurses := true, apart := false }
def ApartSharesSaid : Prop := apartSharesRow.holds Try.pinned (OpenSpec.ofChange apartSharesSpec)

/-- ITS FALSE NEIGHBOUR: 'it returns false'. Refute it at one input. -/
def apartSharesWrong : ChangeSpec := { name := "apartShares", fn := fun _ => fun
  | [d] => { results := [.lit (.bool false)], args := [d] }
  | _ => none }
def ApartSharesWrongFalsely : Prop := apartSharesRow.holds Try.pinned (OpenSpec.ofChange apartSharesWrong)

/-- 'indeliblelaw24.ApartSound': WHATEVER THE INPUT: true; the input reads as it did. -/
def apartSoundSpec : ChangeSpec := { name := "apartSound", fn := fun _ => fun
  | [d] => { results := [.lit (.bool true)], args := [d] }
  | _ => none }
def apartSoundRow : OpenClaim := { program := "ytijaioiojclooaa", sum := "1d35966f63fc0c3bf54683fb4acd28ed4c41eb2794e3cddb3031efcee7a204ea", func := "indelible/indeliblelaw24.ApartSound", spec := "apartSound", unfollowed := true, recurses := true, apart := false }
def ApartSoundSaid : Prop := apartSoundRow.holds Try.pinned (OpenSpec.ofChange apartSoundSpec)

/-- ITS FALSE NEIGHBOUR: 'it returns false'. Refute it at one input. -/
def apartSoundWrong : ChangeSpec := { name := "apartSound", fn := fun _ => fun
  | [d] => { results := [.lit (.bool false)], args := [d] }
  | _ => none }
def ApartSoundWrongFalsely : Prop := apartSoundRow.holds Try.pinned (OpenSpec.ofChange apartSoundWrong)

/- THE SECOND FORM. 'bulk': how many values and letters a reading holds, each counted each time it is reached (what is shared counts as often as it is met; a slice's spare places count too). A statement '..UptoSaid' is the law's where the arguments, and the package variables that the reading takes, are together of bulk at most 1048576: NARROWER than '..Said'. Prove '..Said' where nothing that the law and all that it calls make is longer than what came in: it says more and counts as full. Else prove '..UptoSaid'. A law counts once. -/
mutual
def uptoBulk {H : Type} : DataW H → Nat
  | .lit (.string bytes) => bytes.length + 1
  | .lit _ => 1
  | .nil => 1
  | .ptr d => uptoBulk d + 1
  | .slice elems spare => uptoBulkAll elems + uptoBulkAll spare + 1
  | .agg parts => uptoBulkAll parts + 1
  | .iface _ d => uptoBulk d + 1
  | .map entries => uptoBulkEntries entries + 1
  | .held _ => 1
def uptoBulkAll {H : Type} : List (DataW H) → Nat
  | [] => 0
  | d :: r => uptoBulk d + uptoBulkAll r
def uptoBulkEntries {H : Type} : List (Lit × DataW H) → Nat
  | [] => 0
  | x :: r => uptoBulkEntry x + uptoBulkEntries r
def uptoBulkEntry {H : Type} : Lit × DataW H → Nat
  | (.string bytes, d) => bytes.length + uptoBulk d + 1
  | (_, d) => uptoBulk d + 1
 end
def uptoSmall : (H : Type) → List (DataW H) → Bool := fun _ ds => decide (uptoBulkAll ds ≤ 1048576)
def OpenSpec.upto (s : _root_.Go.ChangeSpec) : _root_.Go.OpenSpec := { _root_.Go.OpenSpec.ofChange s with cond := some uptoSmall }

/-- 'indeliblelaw24.ApartClashes', WHERE WHAT IT READS IS OF BULK AT MOST 1048576: true; the input reads as it did. -/
def apartClashesUptoRow : OpenClaim := { program := "ytijaioiojclooaa", sum := "1d35966f63fc0c3bf54683fb4acd28ed4c41eb2794e3cddb3031efcee7a204ea", func := "indelible/indeliblelaw24.ApartClashes", spec := "apartClashes", unfollowed := true, recurses := true, apart := false, narrowed := true }
def ApartClashesUptoSaid : Prop := apartClashesUptoRow.holds Try.pinned (OpenSpec.upto apartClashesSpec)

/-- 'indeliblelaw24.ApartCommons', WHERE WHAT IT READS IS OF BULK AT MOST 1048576: true; the input reads as it did. -/
def apartCommonsUptoRow : OpenClaim := { program := "ytijaioiojclooaa", sum := "1d35966f63fc0c3bf54683fb4acd28ed4c41eb2794e3cddb3031efcee7a204ea", func := "indelible/indeliblelaw24.ApartCommons", spec := "apartCommons", unfollowed := true, recurses := true, apart := false, narrowed := true }
def ApartCommonsUptoSaid : Prop := apartCommonsUptoRow.holds Try.pinned (OpenSpec.upto apartCommonsSpec)

/-- 'indeliblelaw24.ApartTurns', WHERE WHAT IT READS IS OF BULK AT MOST 1048576: true; the input reads as it did. -/
def apartTurnsUptoRow : OpenClaim := { program := "ytijaioiojclooaa", sum := "1d35966f63fc0c3bf54683fb4acd28ed4c41eb2794e3cddb3031efcee7a204ea", func := "indelible/indeliblelaw24.ApartTurns", spec := "apartTurns", unfollowed := true, recurses := true, apart := false, narrowed := true }
def ApartTurnsUptoSaid : Prop := apartTurnsUptoRow.holds Try.pinned (OpenSpec.upto apartTurnsSpec)

/-- 'indeliblelaw24.ApartGreater', WHERE WHAT IT READS IS OF BULK AT MOST 1048576: true; the input reads as it did. -/
def apartGreaterUptoRow : OpenClaim := { program := "ytijaioiojclooaa", sum := "1d35966f63fc0c3bf54683fb4acd28ed4c41eb2794e3cddb3031efcee7a204ea", func := "indelible/indeliblelaw24.ApartGreater", spec := "apartGreater", unfollowed := true, recurses := true, apart := false, narrowed := true }
def ApartGreaterUptoSaid : Prop := apartGreaterUptoRow.holds Try.pinned (OpenSpec.upto apartGreaterSpec)

/-- 'indeliblelaw24.ApartShares', WHERE WHAT IT READS IS OF BULK AT MOST 1048576: true; the input reads as it did. -/
def apartSharesUptoRow : OpenClaim := { program := "ytijaioiojclooaa", sum := "1d35966f63fc0c3bf54683fb4acd28ed4c41eb2794e3cddb3031efcee7a204ea", func := "indelible/indeliblelaw24.ApartShares", spec := "apartShares", unfollowed := true, recurses := true, apart := false, narrowed := true }
def ApartSharesUptoSaid : Prop := apartSharesUptoRow.holds Try.pinned (OpenSpec.upto apartSharesSpec)

/-- 'indeliblelaw24.ApartSound', WHERE WHAT IT READS IS OF BULK AT MOST 1048576: true; the input reads as it did. -/
def apartSoundUptoRow : OpenClaim := { program := "ytijaioiojclooaa", sum := "1d35966f63fc0c3bf54683fb4acd28ed4c41eb2794e3cddb3031efcee7a204ea", func := "indelible/indeliblelaw24.ApartSound", spec := "apartSound", unfollowed := true, recurses := true, apart := false, narrowed := true }
def ApartSoundUptoSaid : Prop := apartSoundUptoRow.holds Try.pinned (OpenSpec.upto apartSoundSpec)

end Rows
end Go.Proofs.Ytijaioiojclooaa
