/- Parts of the proof: AMem9. -/
import Derived.Test.YtbffmfeldkjkcaaGreatG06
set_option linter.unusedSimpArgs false
set_option linter.unusedVariables false
set_option maxHeartbeats 0
section
namespace Go.AV
open Go Go.RowKit Go.Flow
section
variable{P:Program}
section ops
variable{ops:Array Oper}{rest:List Oper}{acc:List (List Nat×List Nat)}{S:St}{Q:List (List Nat×List Nat)→St→Prop}{dst:Option Tmp}{ty xt yt:TypeId}{pos:String}{after:Array Edge}{guard:Option (Nat×Bool)}{x y:Operand}{tab:List (TypeId×TD)}
end ops
section rows
variable{α:Type}{c:α→List CV}{z:α}{sz:Nat}
theorem zTq(L M:List α):∀i,∀j,zAj (zS c z L) L.length (zS c z M) i j=zS c z (L++M) i j:=fun i j=>by
 unfold zAj;by_cases h:i<L.length
 ·rw[Nat.blt_eq.mpr h]
  simp only[cond_true,zS,zGX,if_pos h]
 ·rw[show Nat.blt i L.length=false from Bool.eq_false_iff.2 fun h'=>h (Nat.blt_eq.mp h')]
  simp only[cond_false,zS,zGX,if_neg h]
end rows
end
/- Short forms of what is printed often: proofs by default. -/
theorem zAE{A0 A1 A2 A3 A4 A5 A6 A7 A8 N G:Prop}(f:A0→A1→A2→A3→A4→A5→A6→A7→A8→N→G)(hn:N)(h0:A0:=by exact rfl)(h1:A1:=by exact rfl)(h2:A2:=by exact rfl)(h3:A3:=by exact rfl)(h4:A4:=by exact rfl)(h5:A5:=by exact rfl)(h6:A6:=by exact rfl)(h7:A7:=by first|rfl|omega)(h8:A8:=by exact oM):G:=f h0 h1 h2 h3 h4 h5 h6 h7 h8 hn
theorem aY:type_of% @AWp.region:= @AWp.region
end Go.AV
end
