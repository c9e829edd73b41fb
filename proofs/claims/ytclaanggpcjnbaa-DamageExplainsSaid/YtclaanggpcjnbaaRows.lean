/-
  No cell of these rows narrows 'for every input' (looked for: loops, veiled, ifaces, maps, wideKeys, modest, calm, conditions, laid).
  DERIVED. THE GIVEN ROWS OF THIS SEAT. 6 by the template 'for every input the law returns true; each argument reads behind the call as it read before'; 0 by the template 'total and deterministic' (their statements: YtclaanggpcjnbaaTotals.lean).
  GIVEN WITH THE SEED: the statements are not yours to turn. If you find one false, say at which input.
  Laid BY PROGRAM, IN A SANDBOX (cutbox-rows.mjs): the forced cells as the released guide's own fill.sh prints them over the translation b8981ab2a7821598… (all of the seat's roots in one cut). By AI agents, Wed Nov 11 2026. No macro, syntax, notation, axiom, sorry.
-/
import Derived.Test.YtclaanggpcjnbaaChecked
import GoSem.Claim
import GoSem.ClaimJoined
import GoSem.ClaimMapViews
import Derived.JoinedTies
import Derived.KernelRfl
namespace Go.Proofs.Ytclaanggpcjnbaa
/- THE CELL 'sum', in the pinned program and in every row, IS THE sha256 OF THE DUMP (.gsa) THAT YtclaanggpcjnbaaProg.lean LOADS. Nothing in Lean hashes anything: it is a label: what it is worth is what the hold of that sum in a sandbox is worth. -/
noncomputable def Try.pinned : Pinned := { name := "ytclaanggpcjnbaa", sum := "b8981ab2a7821598bd317cf115c5317a611cebf5050bde6f3603f3bfb7031f2e", checked := Try.checked }
namespace Rows
def none {H : Type} : Left H := { results := [], args := [] }

/-- 'indeliblelaw23.DamageMaterials': WHATEVER THE INPUT: true; the input reads as it did. -/
def damageMaterialsSpec : ChangeSpec := { name := "damageMaterials", fn := fun _ => fun
  | [d1, d2, d3] => { results := [.lit (.bool true)], args := [d1, d2, d3] }
  | _ => none }
def damageMaterialsRow : OpenClaim := { program := "ytclaanggpcjnbaa", sum := "b8981ab2a7821598bd317cf115c5317a611cebf5050bde6f3603f3bfb7031f2e", func := "indelible/indeliblelaw23.DamageMaterials", spec := "damageMaterials", unfollowed := true, recurses := true, apart := false }
def DamageMaterialsSaid : Prop := damageMaterialsRow.holds Try.pinned (OpenSpec.ofChange damageMaterialsSpec)

/-- ITS FALSE NEIGHBOUR: 'it returns false'. Refute it at one input. -/
def damageMaterialsWrong : ChangeSpec := { name := "damageMaterials", fn := fun _ => fun
  | [d1, d2, d3] => { results := [.lit (.bool false)], args := [d1, d2, d3] }
  | _ => none }
def DamageMaterialsWrongFalsely : Prop := damageMaterialsRow.holds Try.pinned (OpenSpec.ofChange damageMaterialsWrong)

/-- 'indeliblelaw23.DamageExplains': WHATEVER THE INPUT: true; the input reads as it did. -/
def damageExplainsSpec : ChangeSpec := { name := "damageExplains", fn := fun _ => fun
  | [d1, d2, d3, d4, d5] => { results := [.lit (.bool true)], args := [d1, d2, d3, d4, d5] }
  | _ => none }
def damageExplainsRow : OpenClaim := { program := "ytclaanggpcjnbaa", sum := "b8981ab2a7821598bd317cf115c5317a611cebf5050bde6f3603f3bfb7031f2e", func := "indelible/indeliblelaw23.DamageExplains", spec := "damageExplains", unfollowed := true, recurses := true, apart := false }
def DamageExplainsSaid : Prop := damageExplainsRow.holds Try.pinned (OpenSpec.ofChange damageExplainsSpec)

/-- ITS FALSE NEIGHBOUR: 'it returns false'. Refute it at one input. -/
def damageExplainsWrong : ChangeSpec := { name := "damageExplains", fn := fun _ => fun
  | [d1, d2, d3, d4, d5] => { results := [.lit (.bool false)], args := [d1, d2, d3, d4, d5] }
  | _ => none }
def DamageExplainsWrongFalsely : Prop := damageExplainsRow.holds Try.pinned (OpenSpec.ofChange damageExplainsWrong)

/-- 'indeliblelaw23.DamageGrows': WHATEVER THE INPUT: true; the input reads as it did. -/
def damageGrowsSpec : ChangeSpec := { name := "damageGrows", fn := fun _ => fun
  | [d1, d2, d3, d4, d5] => { results := [.lit (.bool true)], args := [d1, d2, d3, d4, d5] }
  | _ => none }
def damageGrowsRow : OpenClaim := { program := "ytclaanggpcjnbaa", sum := "b8981ab2a7821598bd317cf115c5317a611cebf5050bde6f3603f3bfb7031f2e", func := "indelible/indeliblelaw23.DamageGrows", spec := "damageGrows", unfollowed := true, recurses := true, apart := false }
def DamageGrowsSaid : Prop := damageGrowsRow.holds Try.pinned (OpenSpec.ofChange damageGrowsSpec)

/-- ITS FALSE NEIGHBOUR: 'it returns false'. Refute it at one input. -/
def damageGrowsWrong : ChangeSpec := { name := "damageGrows", fn := fun _ => fun
  | [d1, d2, d3, d4, d5] => { results := [.lit (.bool false)], args := [d1, d2, d3, d4, d5] }
  | _ => none }
def DamageGrowsWrongFalsely : Prop := damageGrowsRow.holds Try.pinned (OpenSpec.ofChange damageGrowsWrong)

/-- 'indeliblelaw23.DamageFirst': WHATEVER THE INPUT: true; the input reads as it did. -/
def damageFirstSpec : ChangeSpec := { name := "damageFirst", fn := fun _ => fun
  | [d1, d2, d3, d4] => { results := [.lit (.bool true)], args := [d1, d2, d3, d4] }
  | _ => none }
def damageFirstRow : OpenClaim := { program := "ytclaanggpcjnbaa", sum := "b8981ab2a7821598bd317cf115c5317a611cebf5050bde6f3603f3bfb7031f2e", func := "indelible/indeliblelaw23.DamageFirst", spec := "damageFirst", unfollowed := true, recurses := true, apart := false }
def DamageFirstSaid : Prop := damageFirstRow.holds Try.pinned (OpenSpec.ofChange damageFirstSpec)

/-- ITS FALSE NEIGHBOUR: 'it returns false'. Refute it at one input. -/
def damageFirstWrong : ChangeSpec := { name := "damageFirst", fn := fun _ => fun
  | [d1, d2, d3, d4] => { results := [.lit (.bool false)], args := [d1, d2, d3, d4] }
  | _ => none }
def DamageFirstWrongFalsely : Prop := damageFirstRow.holds Try.pinned (OpenSpec.ofChange damageFirstWrong)

/-- 'indeliblelaw23.DamageApplies': WHATEVER THE INPUT: true; the input reads as it did. -/
def damageAppliesSpec : ChangeSpec := { name := "damageApplies", fn := fun _ => fun
  | [d1, d2, d3, d4, d5] => { results := [.lit (.bool true)], args := [d1, d2, d3, d4, d5] }
  | _ => none }
def damageAppliesRow : OpenClaim := { program := "ytclaanggpcjnbaa", sum := "b8981ab2a7821598bd317cf115c5317a611cebf5050bde6f3603f3bfb7031f2e", func := "indelible/indeliblelaw23.DamageApplies", spec := "damageApplies", unfollowed := true, recurses := true, apart := false }
def DamageAppliesSaid : Prop := damageAppliesRow.holds Try.pinned (OpenSpec.ofChange damageAppliesSpec)

/-- ITS FALSE NEIGHBOUR: 'it returns false'. Refute it at one input. -/
def damageAppliesWrong : ChangeSpec := { name := "damageApplies", fn := fun _ => fun
  | [d1, d2, d3, d4, d5] => { results := [.lit (.bool false)], args := [d1, d2, d3, d4, d5] }
  | _ => none }
def DamageAppliesWrongFalsely : Prop := damageAppliesRow.holds Try.pinned (OpenSpec.ofChange damageAppliesWrong)

/-- 'indeliblelaw23.DamageTheorem': WHATEVER THE INPUT: true; the input reads as it did. -/
def damageTheoremSpec : ChangeSpec := { name := "damageTheorem", fn := fun _ => fun
  | [d1, d2, d3, d4] => { results := [.lit (.bool true)], args := [d1, d2, d3, d4] }
  | _ => none }
def damageTheoremRow : OpenClaim := { program := "ytclaanggpcjnbaa", sum := "b8981ab2a7821598bd317cf115c5317a611cebf5050bde6f3603f3bfb7031f2e", func := "indelible/indeliblelaw23.DamageTheorem", spec := "damageTheorem", unfollowed := true, recurses := true, apart := false }
def DamageTheoremSaid : Prop := damageTheoremRow.holds Try.pinned (OpenSpec.ofChange damageTheoremSpec)

/-- ITS FALSE NEIGHBOUR: 'it returns false'. Refute it at one input. -/
def damageTheoremWrong : ChangeSpec := { name := "damageTheorem", fn := fun _ => fun
  | [d1, d2, d3, d4] => { results := [.lit (.bool false)], args := [d1, d2, d3, d4] }
  | _ => none }
def DamageTheoremWrongFalsely : Prop := damageTheoremRow.holds Try.pinned (OpenSpec.ofChange damageTheoremWrong)

/- THE SECOND FORM. 'bulk': how many values and letters a reading holds, each counted each time it is reached (what is shared counts as often as it is met; a slice's spare places count too). A statement '..UptoSaid' is the law's where the arguments, and the package variables that the reading takes, are together of bulk at most 1048576: NARROWER than '..Said'. Prove '..Said' where nothing that the law and all that it calls make is longer than what came in: it says more and counts as full. Else prove '..UptoSaid'. A law counts once. -/
mutual
def uptoBulk {H : Type} : DataW H → Nat
  | .lit (.string bytes) => bytes.length + 1
  | .lit _ => 1
  | .nil => 1
  | .ptr d => uptoBulk d + 1
  | .slice elems spare => uptoBulkAll elems + uptoBulkAll spare + 1
  | .agg parts => uptoBulkAll parts + 1
  | .iface _ d => uptoBulk d + 1
  | .map entries => uptoBulkEntries entries + 1
  | .held _ => 1
def uptoBulkAll {H : Type} : List (DataW H) → Nat
  | [] => 0
  | d :: r => uptoBulk d + uptoBulkAll r
def uptoBulkEntries {H : Type} : List (Lit × DataW H) → Nat
  | [] => 0
  | x :: r => uptoBulkEntry x + uptoBulkEntries r
def uptoBulkEntry {H : Type} : Lit × DataW H → Nat
  | (.string bytes, d) => bytes.length + uptoBulk d + 1
  | (_, d) => uptoBulk d + 1
 end
def uptoSmall : (H : Type) → List (DataW H) → Bool := fun _ ds => decide (uptoBulkAll ds ≤ 1048576)
def OpenSpec.upto (s : _root_.Go.ChangeSpec) : _root_.Go.OpenSpec := { _root_.Go.OpenSpec.ofChange s with cond := some uptoSmall }

/-- 'indeliblelaw23.DamageMaterials', WHERE WHAT IT READS IS OF BULK AT MOST 1048576: true; the input reads as it did. -/
def damageMaterialsUptoRow : OpenClaim := { program := "ytclaanggpcjnbaa", sum := "b8981ab2a7821598bd317cf115c5317a611cebf5050bde6f3603f3bfb7031f2e", func := "indelible/indeliblelaw23.DamageMaterials", spec := "damageMaterials", unfollowed := true, recurses := true, apart := false, narrowed := true }
def DamageMaterialsUptoSaid : Prop := damageMaterialsUptoRow.holds Try.pinned (OpenSpec.upto damageMaterialsSpec)

/-- 'indeliblelaw23.DamageExplains', WHERE WHAT IT READS IS OF BULK AT MOST 1048576: true; the input reads as it did. -/
def damageExplainsUptoRow : OpenClaim := { program := "ytclaanggpcjnbaa", sum := "b8981ab2a7821598bd317cf115c5317a611cebf5050bde6f3603f3bfb7031f2e", func := "indelible/indeliblelaw23.DamageExplains", spec := "damageExplains", unfollowed := true, recurses := true, apart := false, narrowed := true }
def DamageExplainsUptoSaid : Prop := damageExplainsUptoRow.holds Try.pinned (OpenSpec.upto damageExplainsSpec)

/-- 'indeliblelaw23.DamageGrows', WHERE WHAT IT READS IS OF BULK AT MOST 1048576: true; the input reads as it did. -/
def damageGrowsUptoRow : OpenClaim := { program := "ytclaanggpcjnbaa", sum := "b8981ab2a7821598bd317cf115c5317a611cebf5050bde6f3603f3bfb7031f2e", func := "indelible/indeliblelaw23.DamageGrows", spec := "damageGrows", unfollowed := true, recurses := true, apart := false, narrowed := true }
def DamageGrowsUptoSaid : Prop := damageGrowsUptoRow.holds Try.pinned (OpenSpec.upto damageGrowsSpec)

/-- 'indeliblelaw23.DamageFirst', WHERE WHAT IT READS IS OF BULK AT MOST 1048576: true; the input reads as it did. -/
def damageFirstUptoRow : OpenClaim := { program := "ytclaanggpcjnbaa", sum := "b8981ab2a7821598bd317cf115c5317a611cebf5050bde6f3603f3bfb7031f2e", func := "indelible/indeliblelaw23.DamageFirst", spec := "damageFirst", unfollowed := true, recurses := true, apart := false, narrowed := true }
def DamageFirstUptoSaid : Prop := damageFirstUptoRow.holds Try.pinned (OpenSpec.upto damageFirstSpec)

/-- 'indeliblelaw23.DamageApplies', WHERE WHAT IT READS IS OF BULK AT MOST 1048576: true; the input reads as it did. -/
def damageAppliesUptoRow : OpenClaim := { program := "ytclaanggpcjnbaa", sum := "b8981ab2a7821598bd317cf115c5317a611cebf5050bde6f3603f3bfb7031f2e", func := "indelible/indeliblelaw23.DamageApplies", spec := "damageApplies", unfollowed := true, recurses := true, apart := false, narrowed := true }
def DamageAppliesUptoSaid : Prop := damageAppliesUptoRow.holds Try.pinned (OpenSpec.upto damageAppliesSpec)

/-- 'indeliblelaw23.DamageTheorem', WHERE WHAT IT READS IS OF BULK AT MOST 1048576: true; the input reads as it did. -/
def damageTheoremUptoRow : OpenClaim := { program := "ytclaanggpcjnbaa", sum := "b8981ab2a7821598bd317cf115c5317a611cebf5050bde6f3603f3bfb7031f2e", func := "indelible/indeliblelaw23.DamageTheorem", spec := "damageTheorem", unfollowed := true, recurses := true, apart := false, narrowed := true }
def DamageTheoremUptoSaid : Prop := damageTheoremUptoRow.holds Try.pinned (OpenSpec.upto damageTheoremSpec)

end Rows
end Go.Proofs.Ytclaanggpcjnbaa
