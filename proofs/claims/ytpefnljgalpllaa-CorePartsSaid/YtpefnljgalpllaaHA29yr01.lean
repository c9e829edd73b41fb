/- Parts of the proof: AMem5, AMem9. -/
import Derived.Test.YtpefnljgalpllaaG08
set_option linter.unusedSimpArgs false
set_option linter.unusedVariables false
set_option maxHeartbeats 0
section
namespace Go.AV
open Go Go.RowKit Go.Flow
section
variable{P:Program}{tab:List (TypeId×TD)}
section ops
variable{ops:Array Oper}{rest:List Oper}{acc:List (List Nat×List Nat)}{S:St}{Q:List (List Nat×List Nat)→St→Prop}{dst:Option Tmp}{ty:TypeId}{pos:String}{after:Array Edge}{guard:Option (Nat×Bool)}
variable{x y:Operand}{xt yt:TypeId}{i j:Int}
theorem AList.cmpT{op:BinOp}{k:IntKind}(hw:S.wants ops {dst,op:=.binOp op xt x y yt,type:=ty,pos,after,guard}=some true)(hd:dOk S.n dst=true)(ho:isCmp op=true)(hx:S.opd x=some (.c (.p (.int k i))))(hy:S.opd y=some (.c (.p (.int k j))))(hc:cmpP op i j=true)
 (hn:AList P ops rest (([],[])::acc) (S.eff dst ⟨.c (.p (.bool true)),[],[]⟩) Q):AList P ops ({dst,op:=.binOp op xt x y yt,type:=ty,pos,after,guard}::rest) acc S Q:=
 AList.cmp hw hd ho hx hy (by rw[hc];exact hn)
end ops
section code
variable{next:St→Prop}{Q:Exit→St→Prop}{S:St}{id k:Nat}
end code
end
section
variable{P:Program}
section ops
variable{ops:Array Oper}{rest:List Oper}{acc:List (List Nat×List Nat)}{S:St}{Q:List (List Nat×List Nat)→St→Prop}{dst:Option Tmp}{ty xt yt:TypeId}{pos:String}{after:Array Edge}{guard:Option (Nat×Bool)}{x y:Operand}{tab:List (TypeId×TD)}
end ops
section rows
variable{α:Type}{c:α→List CV}{z:α}{sz:Nat}
end rows
end
/- Short forms of what is printed often: proofs by default. -/
theorem qr5f{A0 A1 A2 A3 A4 A5 N G:Prop}(f:A0→A1→A2→A3→A4→A5→N→G)(hn:N)(h0:A0:=by exact rfl)(h1:A1:=by exact rfl)(h2:A2:=by exact rfl)(h3:A3:=by exact rfl)(h4:A4:=by exact rfl)(h5:A5:=by exact cmF):G:=f h0 h1 h2 h3 h4 h5 hn
theorem qr5t{A0 A1 A2 A3 A4 A5 N G:Prop}(f:A0→A1→A2→A3→A4→A5→N→G)(hn:N)(h0:A0:=by exact rfl)(h1:A1:=by exact rfl)(h2:A2:=by exact rfl)(h3:A3:=by exact rfl)(h4:A4:=by exact rfl)(h5:A5:=by exact cmT):G:=f h0 h1 h2 h3 h4 h5 hn
theorem aK:type_of% @AList.cmpT:= @AList.cmpT
theorem aW:type_of% @AList.cmp:= @AList.cmp
theorem aY:type_of% @AWp.region:= @AWp.region
end Go.AV
end
