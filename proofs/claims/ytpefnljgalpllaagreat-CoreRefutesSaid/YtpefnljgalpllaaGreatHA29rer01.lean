/- Parts of the proof: AMem9. -/
import Derived.Test.YtpefnljgalpllaaGreatG05
set_option linter.unusedSimpArgs false
set_option linter.unusedVariables false
set_option maxHeartbeats 0
section
namespace Go.AV
open Go Go.RowKit Go.Flow
section
variable{P:Program}
section ops
variable{ops:Array Oper}{rest:List Oper}{acc:List (List Nat×List Nat)}{S:St}{Q:List (List Nat×List Nat)→St→Prop}{dst:Option Tmp}{ty xt yt:TypeId}{pos:String}{after:Array Edge}{guard:Option (Nat×Bool)}{x y:Operand}{tab:List (TypeId×TD)}
end ops
section rows
variable{α:Type}{c:α→List CV}{z:α}{sz:Nat}
theorem zN3(L M:List α):∀i,∀j,zAh (zV c z L) L.length (zV c z M) i j=zV c z (L++M) i j:=fun i j=>by
 unfold zAh;by_cases h:i<L.length
 ·rw[Nat.blt_eq.mpr h]
  simp only[cond_true,zV,zE5,if_pos h]
 ·rw[show Nat.blt i L.length=false from Bool.eq_false_iff.2 fun h'=>h (Nat.blt_eq.mp h')]
  simp only[cond_false,zV,zE5,if_neg h]
end rows
end
/- Short forms of what is printed often: proofs by default. -/
theorem aY:type_of% @AWp.region:= @AWp.region
end Go.AV
end
