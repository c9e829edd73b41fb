/- Parts of the proof: AStr. -/
import Derived.Test.YtbffmfeldkjkcaaGreatG05
set_option linter.unusedSimpArgs false
set_option linter.unusedVariables false
set_option maxHeartbeats 0
section
namespace Go.AV
open Go Go.RowKit Go.Flow
section
variable{P:Program}{ops:Array Oper}{rest:List Oper}{acc:List (List Nat×List Nat)}{S:St}{Q:List (List Nat×List Nat)→St→Prop}{dst:Option Tmp}{ty xt yt:TypeId}{pos:String}{after:Array Edge}{guard:Option (Nat×Bool)}{x y:Operand}
theorem zDF{s:ByteArray}{t1:TypeId}(n:Nat)(hs:s.size=n)(hu:P.underlying t1=some .string)(hw:S.wants ops {dst,op:=.call {callee:=.builtin .len,args:= #[x],argTypes:= #[t1]},type:=ty,pos,after,guard}=some true)(hd:dOk S.n dst=true)
 (hx:S.opd x=some (.c (.p (.string s))))
 (hn:AList P ops rest (([],[])::acc) (S.eff dst ⟨.c (.p (.int .i64 n)),[],[]⟩) Q):AList P ops ({dst,op:=.call {callee:=.builtin .len,args:= #[x],argTypes:= #[t1]},type:=ty,pos,after,guard}::rest) acc S Q:=
 AList.val [] _ hw hd (fun S1 h1 _ b0 σ a w R=>by
  have e:=zAU (zW R ((h1 x (by simp[Op.operands,Call.operands])).trans hx))
  refine⟨.int .i64 n,?_,zCb rfl⟩
  simp[execOp,resolve,invoke,builtin,Builtin.len_,e,run_underlying hu,goInt,hs]) hn
theorem zDq{s:ByteArray}(k:Nat)(b:UInt8)(c:Int)(hb:s[k]?=some b)(hc:((b.toNat:Nat):Int)=c)(hu:P.underlying xt=some .string)(hw:S.wants ops {dst,op:=.index xt x y,type:=ty,pos,after,guard}=some true)(hd:dOk S.n dst=true)
 (hx:S.opd x=some (.c (.p (.string s)))) (hy:S.opd y=some (.c (.p (.int .i64 k))))
 (hn:AList P ops rest (([],[])::acc) (S.eff dst ⟨.c (.p (.int .u8 c)),[],[]⟩) Q):AList P ops ({dst,op:=.index xt x y,type:=ty,pos,after,guard}::rest) acc S Q:=
 AList.val [] _ hw hd (fun S1 h1 _ b0 σ a w R=>by
  have e1:=zAU (zW R ((h1 x (by simp[Op.operands])).trans hx));have e2:=zAU (zW R ((h1 y (by simp[Op.operands])).trans hy))
  refine⟨.int .u8 c,?_,zCb rfl⟩
  have h0:(0:Int)≤(k:Int):=by omega
  simp[execOp,Instr.index,asIntOf,e1,e2,run_underlying hu,hb,hc]) hn
theorem zHF{s t:ByteArray}(r:ByteArray)(hs:s.size+t.size≤9223372036854775807)(hr:s++t=r)(hw:S.wants ops {dst,op:=.binOp .add xt x y yt,type:=ty,pos,after,guard}=some true)(hd:dOk S.n dst=true)
 (hx:S.opd x=some (.c (.p (.string s)))) (hy:S.opd y=some (.c (.p (.string t))))
 (hn:AList P ops rest (([],[])::acc) (S.eff dst ⟨.c (.p (.string r)),[],[]⟩) Q):AList P ops ({dst,op:=.binOp .add xt x y yt,type:=ty,pos,after,guard}::rest) acc S Q:=
 zCo hw hd hx hy rfl (fun w=>by
  simp[binOp,Op.stringOp,hr]
  omega) rfl hn
end
end Go.AV
end
