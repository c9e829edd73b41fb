/- Parts of the proof: AMem5, AMem9. -/
import Derived.Test.YtekkldgmjdllbaaG07
import Derived.Test.YtekkldgmjdllbaaG06
import Derived.Test.YtekkldgmjdllbaaG05
import Derived.Great.BuildSlice
import Derived.Test.YtekkldgmjdllbaaG04
import Derived.Test.YtekkldgmjdllbaaG03
import Derived.RangeFuncLeaves
import Derived.RangeFuncRecord
import Derived.Test.YtekkldgmjdllbaaG02
import Derived.Test.YtekkldgmjdllbaaG01
import Derived.Deep.AppendLies
import Derived.OrdersIn
import Derived.TacticsIn
import Derived.RangeFuncCalls
import Derived.Maps.AppendAt
import Derived.OwnWalk
import Derived.StillTail
import Derived.Below
import Derived.Deep.Draws
import Derived.WalkKit
import Derived.KernelRfl
import Derived.Test.YtekkldgmjdllbaaG08
import Derived.Laws.StructEq
set_option linter.unusedSimpArgs false
set_option linter.unusedVariables false
section
namespace Go.AV
open Go Go.RowKit Go.Flow
section
variable {P : Program} {tab : List (TypeId × TD)}
section ops
variable {ops : Array Oper} {rest : List Oper} {acc : List (List Nat × List Nat)} {S : St} {Q : List (List Nat × List Nat) → St → Prop} {dst : Option Tmp} {ty : TypeId} {pos : String} {after : Array Edge} {guard : Option (Nat × Bool)}
variable {x y : Operand} {xt yt : TypeId} {i j : Int}
end ops
section code
variable {next : St → Prop} {Q : Exit → St → Prop} {S : St} {id k : Nat}
theorem LeC.lz {h : Nat → Option AB} {ren : List (Nat × Option Nat)} {n n' sz : Nat} {F G : Nat → Nat → CV} (hn : n' = n) (hc : ∀ k, k < n → ∀ j, j < sz → F k j = G k j) : LeC h ren (.ls n sz F) (.ls n' sz G) := by
 subst hn
 exact .ls n' sz F G hc
end code
end
section
variable {P : Program}
section ops
variable {ops : Array Oper} {rest : List Oper} {acc : List (List Nat × List Nat)} {S : St} {Q : List (List Nat × List Nat) → St → Prop} {dst : Option Tmp} {ty xt yt : TypeId} {pos : String} {after : Array Edge} {guard : Option (Nat × Bool)} {x y : Operand} {tab : List (TypeId × TD)}
theorem AList.neB {p q : Bool} (hw : S.wants ops { dst, op := .binOp .neq xt x y yt, type := ty, pos, after, guard } = some true) (hd : dOk S.n dst = true) (hx : S.opd x = some (.c (.p (.bool p)))) (hy : S.opd y = some (.c (.p (.bool q)))) (hu : P.underlying xt = some .bool)
 (hn : AList P ops rest (([], []) :: acc) (S.eff dst ⟨.c (.p (.bool (!(p == q)))), [], []⟩) Q) : AList P ops ({ dst, op := .binOp .neq xt x y yt, type := ty, pos, after, guard } :: rest) acc S Q :=
 AList.bin hw hd hx hy rfl (fun w => by simp [binOp, run_equal_bool w xt p q hu]) rfl hn
end ops
section rows
variable {α : Type} {c : α → List CV} {z : α} {sz : Nat}
end rows
end
/- Short forms of what is printed often: proofs by default. -/
theorem qr4k {A0 A1 A2 A3 A4 N G : Prop} (f : A0 → A1 → A2 → A3 → A4 → N → G) (hn : N) (h0 : A0 := by exact rfl) (h1 : A1 := by exact rfl) (h2 : A2 := by exact rfl) (h3 : A3 := by exact rfl) (h4 : A4 := by kernel_rfl) : G := f h0 h1 h2 h3 h4 hn
theorem aY : type_of% @AWp.region := @AWp.region
end Go.AV
end
