/- Parts of the proof: AMem5. -/
import Derived.Test.YtpefnljgalpllaaG07
set_option linter.unusedSimpArgs false
set_option linter.unusedVariables false
set_option maxHeartbeats 0
section
namespace Go.AV
open Go Go.RowKit Go.Flow
section
variable{P:Program}{tab:List (TypeId×TD)}
section ops
variable{ops:Array Oper}{rest:List Oper}{acc:List (List Nat×List Nat)}{S:St}{Q:List (List Nat×List Nat)→St→Prop}{dst:Option Tmp}{ty:TypeId}{pos:String}{after:Array Edge}{guard:Option (Nat×Bool)}
variable{x y:Operand}{xt yt:TypeId}{i j:Int}
theorem AList.remZ(hw:S.wants ops {dst,op:=.binOp .rem xt x y yt,type:=ty,pos,after,guard}=some true)(hd:dOk S.n dst=true)(hx:S.opd x=some (.c (.p (.int .i64 i))))(hy:S.opd y=some (.c (.p (.int .i64 j))))(h3:0<j)
 (hn:AList P ops rest (([],[])::acc) (S.eff dst ⟨.c (.p (.int .i64 (i.tmod j))),[],[]⟩) Q):AList P ops ({dst,op:=.binOp .rem xt x y yt,type:=ty,pos,after,guard}::rest) acc S Q:=
 AList.bin hw hd hx hy rfl (fun w=>by
  have e3:¬j=0:=by omega
  simp[binOp,Op.intDiv,e3]) rfl hn
end ops
section code
variable{next:St→Prop}{Q:Exit→St→Prop}{S:St}{id k:Nat}
end code
end
end Go.AV
end
