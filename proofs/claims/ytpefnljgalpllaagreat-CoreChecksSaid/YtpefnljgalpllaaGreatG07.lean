/- Parts of the proof: ARange3. -/
import Derived.Test.YtpefnljgalpllaaGreatG06
import Derived.Shelf.Abstract
set_option linter.unusedSimpArgs false
set_option linter.unusedVariables false
set_option maxHeartbeats 0
section
namespace Go.AV
open Go Go.RowKit Go.Flow
section
variable{P:Program}
def noFn:CV→Bool
 | .fn .. =>false
 |_=>true
def zGK:List V1→Option (List CV)
 | []=>some []
 | .c x::l=>bif noFn x then (zGK l).map (x::·)else none
 |_=>none
theorem zLx{σ:Nat→Option Value}{O:Nat→Prop}{w:World}:∀{l:List V1} {m:List CV} {us:List Value},zGK l=some m→RepL (RepV σ O w) l us→us.length=m.length∧∀(i:Nat),i<m.length→∃v,us[i]?=some v∧v.oneCell'=true∧RepB σ O w (m.getD i .any) v
 | [],_,[],h,_=>by cases h;exact⟨rfl,fun i hi=>absurd hi (Nat.not_lt_zero _)⟩
 | .c x::l,m,u::us,h,hr=>by
   unfold zGK at h
   cases hx:noFn x with
   |false=>rw[hx]at h;cases h
   | true=>
     rw[hx]at h
     obtain⟨m',h1,rfl⟩:=Option.map_eq_some_iff.1 h
     obtain⟨e1,e2⟩:=zLx h1 hr.2
     refine⟨by simp[e1],fun i hi=> ?_⟩
     cases i with
     | zero=>
       refine⟨u,rfl,hr.1.1,?_⟩
       have h2:=hr.1.2
       cases x<;>first|exact h2|cases hx
     |succ i=>simpa using e2 i (by simpa using hi)
 | .c _::_,_,[],_,hr=>hr.elim
 | .ag _::_,_,_,h,_=>by cases h
 | [],_,_::_,_,hr=>hr.elim
section ops
variable{ops:Array Oper}{rest:List Oper}{acc:List (List Nat×List Nat)}{S:St}{Q:List (List Nat×List Nat)→St→Prop}{dst:Option Tmp}{ty:TypeId}{pos:String}{after:Array Edge}{guard:Option (Nat×Bool)}
theorem zCQ{f:FuncId}{cs:Array Operand}{args:List V1}{m:List CV}(hw:S.wants ops {dst,op:=.makeFunc (.func f) #[] cs,type:=ty,pos,after,guard}=some true)(hd:dOk S.n dst=true)
 (ha:S.opds cs.toList=some args) (hc:zGK args=some m) (hm:Nat.beq m.length m.length=true)
 (hn:AList P ops rest (([],[])::acc) (S.eff dst ⟨.c (.fn f m.length fun i=>m.getD i .any),[],[]⟩) Q):AList P ops ({dst,op:=.makeFunc (.func f) #[] cs,type:=ty,pos,after,guard}::rest) acc S Q:=
 AList.val [] _ hw hd (fun S1 h1 _ b0 σ a w R=>by
  have h2:S1.opds cs.toList=some args:=(zCO fun x hx=>h1 x (by simp only[Op.operands];simp;exact by simpa using hx)).trans ha
  obtain⟨e1,e2⟩:=zLx hc (zBX R h2)
  refine⟨.func (.func f) #[] (cs.map a.eval),by simp[execOp,Instr.makeFunc],rfl,cs.toList.map a.eval,?_,by simpa using e1,fun i hi=>e2 i hi⟩
  rw[show(cs.toList.map a.eval).toArray=cs.map a.eval from Array.ext' (by simp)]) hn
end ops
theorem ARes.fn{S:St}{t:Tmp}{f:FuncId}{m:Nat}{C:Nat→CV}(ht:S.t t=some (.c (.fn f m C)))(hi:∀i,i<m→zK (C i)=true):ARes P S (.tmp t) (.c (.fn f m C)):=fun b0 σ a w R=>by
 obtain⟨h0,vs,h1,h2,h3⟩:=R.sl t _ ht
 refine⟨_,rfl,h0,vs,h1,h2,fun i hm=> ?_⟩
 obtain⟨v,e1,e2,e3⟩:=h3 i hm
 refine⟨v,e1,e2,?_⟩
 have:=hi i hm
 cases hC:C i<;>rw[hC]at this e3<;>first|exact e3|cases this
theorem zHd{F:Nat→Nat→CV}{l:List CV}{sz:Nat}(hc:zAT (F 0) 0 sz=l)(k:Nat)(hk:k<1)(j:Nat)(hj:j<sz):F k j=lF l k j:=by
 obtain rfl:k=0:=by omega
 have h1:=zDN (F 0) sz 0 j hj;rw[Nat.zero_add,hc]at h1;show F 0 j=lF l 0 j;unfold lF;rw[List.getD,h1]
 rfl
theorem zKY{S:St}{ids:List Nat}{id sz:Nat}{ty:TypeId}{F:Nat→Nat→CV}{l:List CV}(hr:zU ids id=none)(hh:S.h id=some ⟨false,1,sz,ty,F⟩)(hc:zAT (F 0) 0 sz=l)(hi:l.all zK=true):ViewC S ids (.pt id sz 0 0) (.pl 1 sz (lF l) 0 0):=
 ViewC.ro id 1 sz 0 0 false ty F (lF l) hr hh (by omega) (fun k hk j hj=>by rw[zHd hc k hk j hj];exact zCY hi k j) fun k hk j hj=>zHd hc k hk j hj
theorem PlainB.box{sz:Nat}{ty:TypeId}{l:List CV}(vs:List Value)(h:l=vs.map .p)(hl:Nat.beq vs.length sz=true):PlainB ⟨false,1,sz,ty,lF l⟩:=⟨rfl,fun k _ j hj=>by
 subst h;have:=Nat.eq_of_beq_eq_true hl
 refine⟨vs[j]'(by show j<vs.length;rw[this];exact hj),?_⟩
 show(vs.map CV.p).getD j .any=_
 rw[List.getD_eq_getElem?_getD,List.getElem?_map,List.getElem?_eq_getElem (by rw[this];exact hj)]
 rfl⟩
theorem zCp{tab:List (TypeId×TD)}(T:zAp P tab=true){S:St}{c:Tmp}{t:TypeId}{id:Nat}{bt:TypeId}{F:Nat→Nat→CV}{d:TD}{x:CV}(hc:S.t c=some (.c (.pt id 1 0 0)))(hh:S.h id=some ⟨false,1,1,bt,F⟩)(ht:zD tab t=some d)(hk:zDB d.k=true)
 (hl:F 0 0=x) (hi:zK x=true):ARes P S (.cell c t) (.c x):=fun b0 σ a w R=>by
 obtain⟨b,cap,cs,-,e1,-,e2,-,-,e3⟩:=zDK R (R.sl c _ hc) hh rfl (by simp:0<1)
 obtain⟨u,f1,f2⟩:=e3 0 (by simp) 0 (by simp)
 obtain⟨ud,g1,g2⟩:=zFi T ht hk
 subst hl
 refine⟨u,?_,zJQ (x:=.c _) hi f2⟩
 have hcl:w.cell? ⟨b,0*1+0,none⟩=some u:=(cell_of_row w b _ cs bt (0,0) e2).trans f1
 simp only[zBH,e1,asAddr,Sem.run_bind,Sem.run_pure,Result.andThen_ok,zF5 g1 g2 hcl]
section
variable{ops:Array Oper}{rest:List Oper}{acc:List (List Nat×List Nat)}{S:St}{Q:List (List Nat×List Nat)→St→Prop}{dst:Option Tmp}{ty xt yt:TypeId}{pos:String}{after:Array Edge}{guard:Option (Nat×Bool)}{x y:Operand}{i j:Int}{k:IntKind}
theorem zEM{tab:List (TypeId×TD)}(T:zAp P tab=true){f:Nat}{fs:Array Field}{fld:Field}{d:TD}{l:List CV}{c:CV}(hw:S.wants ops {dst,op:=.field xt x f,type:=ty,pos,after,guard}=some true)(hd:dOk S.n dst=true)(hx:S.opd x=some (.ag l))
 (hu:P.underlying xt=some (.struct fs)) (hf:fs[f]?=some fld) (he:zD tab fld.type=some d) (hk:zDB d.k=true) (hl:l[fld.offset]?=some c)
 (hn:AList P ops rest (([],[])::acc) (S.eff dst ⟨.c c,[],[]⟩) Q):AList P ops ({dst,op:=.field xt x f,type:=ty,pos,after,guard}::rest) acc S Q:=
 AList.val [] _ hw hd (fun S1 h1 _ b0 σ a w R=>by
  obtain⟨vs,e1,e2⟩:=zX R ((h1 x (by simp[Op.operands])).trans hx)
  obtain⟨ud,g2,g3⟩:=zFi T he hk
  have hag:∀w,(isAgg fld.type).run P w=.ok false w:=fun w=>by
   simp only[isAgg,Sem.run_bind,run_underlying g2,Result.andThen_ok]
   cases ud<;>first|rfl|cases g3
  obtain⟨v,k1,k2⟩:=e2.get hl
  refine⟨v,?_,k2⟩
  simp only[execOp,e1,Instr.field,run_underlying hu,Sem.run_bind,Sem.run_pure,Result.andThen_ok]
  simp[hf,asAgg,part,hag,k1]) hn
theorem zAt(hw:S.wants ops {dst,op:=.binOp .shr xt x y yt,type:=ty,pos,after,guard}=some true)(hd:dOk S.n dst=true)(hx:S.opd x=some (.c (.p (.int .u64 i))))(hy:S.opd y=some (.c (.p (.int .u64 1))))
 (hn:AList P ops rest (([],[])::acc) (S.eff dst ⟨.c (.p (.int .u64 (i/2))),[],[]⟩) Q):AList P ops ({dst,op:=.binOp .shr xt x y yt,type:=ty,pos,after,guard}::rest) acc S Q:=
 zDp hw hd hx hy rfl (fun w=>by
  have e:i.fdiv 2=i/2:=Int.fdiv_eq_ediv_of_nonneg i (by omega)
  simp[binOp,Op.shift,IntKind.bits,e]) rfl hn
end
end
end Go.AV
end
