/- Parts of the proof: AMem9, AMemA, AMemB, ARange3. -/
import Derived.Test.YtbffmfeldkjkcaaGreatG07
set_option linter.unusedSimpArgs false
set_option linter.unusedVariables false
set_option maxHeartbeats 0
section
namespace Go.AV
open Go Go.RowKit Go.Flow
section
variable{P:Program}
section ops
variable{ops:Array Oper}{rest:List Oper}{acc:List (List Nat×List Nat)}{S:St}{Q:List (List Nat×List Nat)→St→Prop}{dst:Option Tmp}{ty xt yt:TypeId}{pos:String}{after:Array Edge}{guard:Option (Nat×Bool)}{x y:Operand}{tab:List (TypeId×TD)}
theorem zOq(T:zAq P tab=true){t:TypeId}{id sz k j:Nat}{B:AB}{d:TD}{l:List CV}(hl:zAD (B.F k) j d.size=l)(hw:S.wants ops {dst,op:=.load t x,type:=ty,pos,after,guard}=some true)(hd:dOk S.n dst=true)
 (hx:S.opd x=some (.c (.pt id sz k j))) (hh:S.h id=some B) (hs:B.sz=sz) (ht:zD tab t=some d) (hk:zCZ d.k=true) (hkn:k<B.n) (hj:j+d.size≤B.sz)
 (hn:AList P ops rest (([id],[])::acc) (S.eff dst ⟨.ag l,[],[]⟩) Q):AList P ops ({dst,op:=.load t x,type:=ty,pos,after,guard}::rest) acc S Q:=by
 subst hl;exact zKf T hw hd hx hh hs ht hk hkn hj hn
end ops
section rows
variable{α:Type}{c:α→List CV}{z:α}{sz:Nat}
end rows
end
/- Short forms of what is printed often: proofs by default. -/
theorem zAE{A0 A1 A2 A3 A4 A5 A6 A7 A8 N G:Prop}(f:A0→A1→A2→A3→A4→A5→A6→A7→A8→N→G)(hn:N)(h0:A0:=by exact rfl)(h1:A1:=by exact rfl)(h2:A2:=by exact rfl)(h3:A3:=by exact rfl)(h4:A4:=by exact rfl)(h5:A5:=by exact rfl)(h6:A6:=by exact rfl)(h7:A7:=by first|rfl|omega)(h8:A8:=by exact oM):G:=f h0 h1 h2 h3 h4 h5 h6 h7 h8 hn
section
variable{P:Program}
section ops
variable{ops:Array Oper}{rest:List Oper}{acc:List (List Nat×List Nat)}{S:St}{Q:List (List Nat×List Nat)→St→Prop}{dst:Option Tmp}{ty:TypeId}{pos:String}{after:Array Edge}{guard:Option (Nat×Bool)}
section
variable{tab:List (TypeId×TD)}
end
theorem zHI{tab:List (TypeId×TD)}(T:zAq P tab=true){t:TypeId}{x:Operand}{id sz k j:Nat}{B:AB}{d:TD}{l:List CV}(hw:S.wants ops {dst,op:=.load t x,type:=ty,pos,after,guard}=some true)(hd:dOk S.n dst=true)
 (hx:S.opd x=some (.c (.pt id sz k j))) (hh:S.h id=some B) (hs:B.sz=sz) (ht:zD tab t=some d) (hk:zCZ d.k=true) (hkn:k<B.n) (hj:j+d.size≤B.sz) (hl:zAD (B.F k) j d.size=l)
 (hn:AList P ops rest (([id],[])::acc) (S.eff dst ⟨.ag l,[],[]⟩) Q):AList P ops ({dst,op:=.load t x,type:=ty,pos,after,guard}::rest) acc S Q:=zOq T hl hw hd hx hh hs ht hk hkn hj hn
end ops
end
section
variable{P:Program}
section ops
variable{ops:Array Oper}{rest:List Oper}{acc:List (List Nat×List Nat)}{S:St}{Q:List (List Nat×List Nat)→St→Prop}{dst:Option Tmp}{ty xt yt:TypeId}{pos:String}{after:Array Edge}{guard:Option (Nat×Bool)}{x y:Operand}
theorem zOr{i:Int}(hw:S.wants ops {dst,op:=.unOp .neg xt x,type:=ty,pos,after,guard}=some true)(hd:dOk S.n dst=true)(hx:S.opd x=some (.c (.p (.int .i64 i))))
 (hn:AList P ops rest (([],[])::acc) (S.eff dst ⟨.c (.p (.int .i64 (IntKind.i64.wrap (-i)))),[],[]⟩) Q):AList P ops ({dst,op:=.unOp .neg xt x,type:=ty,pos,after,guard}::rest) acc S Q:=
 zHM hw hd hx (fun w=>by simp[Op.unary,Op.intArith]) rfl hn
end ops
end
section
variable{P:Program}
section ops
variable{ops:Array Oper}{rest:List Oper}{acc:List (List Nat×List Nat)}{S:St}{Q:List (List Nat×List Nat)→St→Prop}{dst:Option Tmp}{ty:TypeId}{pos:String}{after:Array Edge}{guard:Option (Nat×Bool)}
end ops
section
variable{ops:Array Oper}{rest:List Oper}{acc:List (List Nat×List Nat)}{S:St}{Q:List (List Nat×List Nat)→St→Prop}{dst:Option Tmp}{ty xt yt:TypeId}{pos:String}{after:Array Edge}{guard:Option (Nat×Bool)}{x y:Operand}{i j:Int}{k:IntKind}
theorem zHL(hw:S.wants ops {dst,op:=.binOp .rem xt x y yt,type:=ty,pos,after,guard}=some true)(hd:dOk S.n dst=true)(hx:S.opd x=some (.c (.p (.int k i))))(hy:S.opd y=some (.c (.p (.int k j))))(h1:0≤i)(h3:0<j)
 (hn:AList P ops rest (([],[])::acc) (S.eff dst ⟨.c (.p (.int k (i%j))),[],[]⟩) Q):AList P ops ({dst,op:=.binOp .rem xt x y yt,type:=ty,pos,after,guard}::rest) acc S Q:=
 zCo hw hd hx hy rfl (fun w=>by
  have e1:i.tmod j=i%j:=Int.tmod_eq_emod_of_nonneg h1;have e3:¬j=0:=by omega
  simp[binOp,Op.intDiv,e1,e3]) rfl hn
end
end
end Go.AV
end
