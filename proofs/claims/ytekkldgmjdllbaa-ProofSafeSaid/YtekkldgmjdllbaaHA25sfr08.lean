/- Parts of the proof: AGen, A25v. -/
import Derived.Test.YtekkldgmjdllbaaG28
import Derived.Test.YtekkldgmjdllbaaG20
import Derived.Test.YtekkldgmjdllbaaG08
import Derived.Test.YtekkldgmjdllbaaHA25sfr01
import Derived.Test.YtekkldgmjdllbaaG09
import Derived.Shelf.Abstract
import Derived.Laws.Cover3
import Derived.RangeFuncNested
import Derived.Laws.StructEq
import Derived.Test.YtekkldgmjdllbaaG07
import Derived.Test.YtekkldgmjdllbaaG06
import Derived.Test.YtekkldgmjdllbaaG05
import Derived.Great.BuildSlice
import Derived.Test.YtekkldgmjdllbaaG04
import Derived.Test.YtekkldgmjdllbaaG03
import Derived.RangeFuncLeaves
import Derived.RangeFuncRecord
import Derived.Test.YtekkldgmjdllbaaG02
import Derived.Test.YtekkldgmjdllbaaG01
import Derived.Deep.AppendLies
import Derived.OrdersIn
import Derived.TacticsIn
import Derived.RangeFuncCalls
import Derived.Maps.AppendAt
import Derived.OwnWalk
import Derived.StillTail
import Derived.Below
import Derived.Deep.Draws
import Derived.WalkKit
import Derived.KernelRfl
import Derived.Test.YtekkldgmjdllbaaG39
import Derived.Test.YtekkldgmjdllbaaG37
import Derived.Test.YtekkldgmjdllbaaG25
import Derived.Test.YtekkldgmjdllbaaG38
import Derived.Test.YtekkldgmjdllbaaG23
import Derived.Test.YtekkldgmjdllbaaG17
import Derived.Test.YtekkldgmjdllbaaHA25sfr05
import Derived.Test.YtekkldgmjdllbaaG18
import Derived.Test.YtekkldgmjdllbaaG36
import Derived.Test.YtekkldgmjdllbaaG24
import Derived.Test.YtekkldgmjdllbaaProg
import Derived.Test.YtekkldgmjdllbaaG15
import Derived.Test.YtekkldgmjdllbaaHA25sfr02
import Derived.Test.YtekkldgmjdllbaaG11
import Derived.WideKeyMaps
import Derived.MapKept
import Derived.Carry
import Derived.Test.YtekkldgmjdllbaaG35
import Derived.Test.YtekkldgmjdllbaaG22
import Derived.Test.YtekkldgmjdllbaaG10
import Derived.Test.YtekkldgmjdllbaaG33
import Derived.Test.YtekkldgmjdllbaaG16
import Derived.Test.YtekkldgmjdllbaaHA25sfr03
import Derived.Test.YtekkldgmjdllbaaG31
import Derived.Lib.Builder
import Derived.Lib.UnsafeStr
import Derived.Laws.Externs
import Derived.Lib.BufferRead
import Derived.Test.YtekkldgmjdllbaaHA25sfr06
import Derived.Test.YtekkldgmjdllbaaHA25sfr04
import Derived.Lib.Hide
import Derived.Deep.QuietTactic
import Derived.BigQuiet
import Derived.Deep.DrawnRows
import Derived.Test.YtekkldgmjdllbaaG32
import Derived.Test.YtekkldgmjdllbaaG34
import Derived.Test.YtekkldgmjdllbaaG30
import Derived.Laws.Pointers
import Derived.Test.YtekkldgmjdllbaaG21
import Derived.Test.YtekkldgmjdllbaaG29
import Derived.Test.YtekkldgmjdllbaaG27
import Derived.Scope
import Derived.Test.YtekkldgmjdllbaaG19
import Derived.Test.YtekkldgmjdllbaaG13
import Derived.Test.YtekkldgmjdllbaaG14
import Derived.Test.YtekkldgmjdllbaaG12
set_option linter.unusedSimpArgs false
set_option linter.unusedVariables false
section
namespace Go.AV
open Go Go.RowKit Go.Flow
section
variable {P : Program}
def exB : Option (Nat × Value × AB) → List AB
 | none => []
 | some p => [p.2.2]
section ops
variable {ops : Array Oper} {rest : List Oper} {acc : List (List Nat × List Nat)} {S : St} {Q : List (List Nat × List Nat) → St → Prop} {dst : Option Tmp} {ty : TypeId} {pos : String} {after : Array Edge} {guard : Option (Nat × Bool)}
end ops
section txt
variable {ops : Array Oper} {rest : List Oper} {S : St} {Q : St → Prop} {dst : Option Tmp} {ty : TypeId} {pos : String} {after : Array Edge} {guard : Option (Nat × Bool)}
end txt
end
end Go.AV
end
section
namespace Go.Proofs.Ytekkldgmjdllbaa
open Go.RowKit Go.Flow Go.AV Go.Plain
theorem pc_cmp (c : Ca5) : cmpOk (pcA c) (pcB c) := by
 have := md_bd c.nA c.fA
 exact ⟨chk_nat _ _ (by omega) (by omega), chk_nat _ _ (by omega) (by omega), rfl, rfl⟩
theorem pc_bd (c : Ca5) : (0 ≤ (pcA c).W ∧ (pcA c).W ≤ 16) ∧ 0 ≤ (pcA c).H ∧ (pcA c).H ≤ 12 := by
 have := md_bd c.nA c.fA
 show (0 ≤ ((mdW c.nA c.fA : Nat) : Int) ∧ ((mdW c.nA c.fA : Nat) : Int) ≤ 16) ∧ 0 ≤ ((mdH c.nA c.fA : Nat) : Int) ∧ ((mdH c.nA c.fA : Nat) : Int) ≤ 12
 omega
end Go.Proofs.Ytekkldgmjdllbaa
end
