/- Parts of the proof: AMem9, AMemB, AMemC. -/
import Derived.Test.YtpefnljgalpllaaGreatG06
set_option linter.unusedSimpArgs false
set_option linter.unusedVariables false
set_option maxHeartbeats 0
section
namespace Go.AV
open Go Go.RowKit Go.Flow
section
variable{P:Program}
section ops
variable{ops:Array Oper}{rest:List Oper}{acc:List (List Nat×List Nat)}{S:St}{Q:List (List Nat×List Nat)→St→Prop}{dst:Option Tmp}{ty xt yt:TypeId}{pos:String}{after:Array Edge}{guard:Option (Nat×Bool)}{x y:Operand}{tab:List (TypeId×TD)}
end ops
section rows
variable{α:Type}{c:α→List CV}{z:α}{sz:Nat}
theorem zNV(L M:List α):∀i,∀j,zAh (zS c z L) L.length (zS c z M) i j=zS c z (L++M) i j:=fun i j=>by
 unfold zAh;by_cases h:i<L.length
 ·rw[Nat.blt_eq.mpr h]
  simp only[cond_true,zS,zE1,if_pos h]
 ·rw[show Nat.blt i L.length=false from Bool.eq_false_iff.2 fun h'=>h (Nat.blt_eq.mp h')]
  simp only[cond_false,zS,zE1,if_neg h]
theorem zSr(L:List α)(h:Nat):∀k,k<h→∀j,j<sz→zS c z L k j=zS c z (L.take h) k j:=fun k hk j _=>by
 simp only[zS,List.getD_eq_getElem?_getD,List.getElem?_take,if_pos hk]
end rows
end
/- Short forms of what is printed often: proofs by default. -/
section
variable{P:Program}
section ops
variable{ops:Array Oper}{rest:List Oper}{acc:List (List Nat×List Nat)}{S:St}{Q:List (List Nat×List Nat)→St→Prop}{dst:Option Tmp}{ty xt yt:TypeId}{pos:String}{after:Array Edge}{guard:Option (Nat×Bool)}{x y:Operand}
theorem zGm{i:Int}(hw:S.wants ops {dst,op:=.unOp .neg xt x,type:=ty,pos,after,guard}=some true)(hd:dOk S.n dst=true)(hx:S.opd x=some (.c (.p (.int .i64 i))))
 (hn:AList P ops rest (([],[])::acc) (S.eff dst ⟨.c (.p (.int .i64 (IntKind.i64.wrap (-i)))),[],[]⟩) Q):AList P ops ({dst,op:=.unOp .neg xt x,type:=ty,pos,after,guard}::rest) acc S Q:=
 zHZ hw hd hx (fun w=>by simp[Op.unary,Op.intArith]) rfl hn
end ops
end
section
variable{P:Program}
section ops
variable{ops:Array Oper}{rest:List Oper}{acc:List (List Nat×List Nat)}{S:St}{Q:List (List Nat×List Nat)→St→Prop}{ty:TypeId}{pos:String}{after:Array Edge}{guard:Option (Nat×Bool)}
theorem zD7{dst:Option Tmp}{x y z u:Operand}{i j l m:Int}{k:IntKind}{ats:Array TypeId}(hw:S.wants ops {dst,op:=.call {callee:=.builtin .max,args:= #[x,y,z,u],argTypes:=ats},type:=ty,pos,after,guard}=some true)(hd:dOk S.n dst=true)(hx:S.opd x=some (.c (.p (.int k i))))(hy:S.opd y=some (.c (.p (.int k j))))(hz:S.opd z=some (.c (.p (.int k l))))(hu:S.opd u=some (.c (.p (.int k m))))
 (hn:AList P ops rest (([],[])::acc) (S.eff dst ⟨.c (.p (.int k (max (max (max i j) l) m))),[],[]⟩) Q):AList P ops ({dst,op:=.call {callee:=.builtin .max,args:= #[x,y,z,u],argTypes:=ats},type:=ty,pos,after,guard}::rest) acc S Q:=
 AList.val [] _ hw hd (fun S1 h1 _ b0 σ a w R=>by
  have e1:=zA1 (zX R ((h1 x (by simp[Op.operands,Call.operands])).trans hx));have e2:=zA1 (zX R ((h1 y (by simp[Op.operands,Call.operands])).trans hy));have e3:=zA1 (zX R ((h1 z (by simp[Op.operands,Call.operands])).trans hz));have e4:=zA1 (zX R ((h1 u (by simp[Op.operands,Call.operands])).trans hu))
  refine⟨.int k (max (max (max i j) l) m),?_,zCi rfl⟩
  simp only[execOp,resolve,invoke,builtin,Sem.run_bind,Sem.run_pure,Result.andThen_ok,List.map_toArray,List.map_cons,List.map_nil,e1,e2,e3,e4,Builtin.max_,List.foldlM_cons,List.foldlM_nil,Builtin.max2]
  rw[show ∀a b:Int,(if b>a then b else a)=max a b from fun a b=>by split<;>omega,show ∀a b:Int,(if b>a then b else a)=max a b from fun a b=>by split<;>omega,show ∀a b:Int,(if b>a then b else a)=max a b from fun a b=>by split<;>omega]) hn
end ops
end
end Go.AV
end
