/- Parts of the proof: ARangeM, ARangeN, AYld. -/
import Derived.Test.YtpefnljgalpllaaG40
import Derived.Test.YtpefnljgalpllaaG28
set_option linter.unusedSimpArgs false
set_option linter.unusedVariables false
set_option maxHeartbeats 0
section
namespace Go.AV
open Go Go.RowKit Go.Flow
section
variable{P:Program}
structure RM where
 nb:Nat
 ys:Nat→List V1
 hB:Nat→List AB
 hE:Nat→List AB
 mv:Nat→List AB
 la:Nat→List AB
def yCl(P:Program)(b:Base)(l i:Nat)(g:Bool):List Value→World→(Ending→World→Prop)→Prop:=fun vals W Q=>YieldAt Fence.wide 0 P l vals.toArray W fun e W'=>Q e W'∧b.J (i+1) (!g) W'
def yPre(b:Base)(i nb:Nat)(b2:Base):Prop:=b.J i false b2.w∧Keep (fun k=>b.Y k∨b.V false k) b.w b2.w∧(∀k,k<nb→b2.fix (1000+k)=b.fix (1000+k))∧(∀k,b2.X k∨b2.Y k→b.X k∨b.Y k∨b.w.heap.size≤k)∧∀k,b.V true k→b2.X k
def YOk(P:Program)(b:Base)(l:Nat)(A:RM)(N:Nat)(stop:Bool):Prop:=∀i,i<N→
 GMc (yCl P b l i (goesB N stop i)) (yPre b i A.nb) (b.V (!goesB N stop i)) (A.ys i) (A.hB i++A.la i) (A.mv i) (fun r a c=>r=.c (.p (.bool (goesB N stop i)))∧a=A.hE (i+1)++A.la i∧c=A.mv (i+1))
def VLoop(b:Base):Prop:=(∀k,b.V false k→b.V true k)∧∀i d W,b.J i d W→∀k,b.V true k→∃o:Loop,W.heap[k]?=some (.loop o)
def itM(P:Program)(l:Nat)(A:RM)(N:Nat)(stop:Bool)(b:Base):Prop:=b.rd=none∧VLoop b∧YOk P b l A N stop
def St.yieldedM(S:St)(dst:Option Tmp)(g:Bool)(hE:List (Nat×Option AB))(ni:List Nat):St:={S.eff dst ⟨.c (.p (.bool g)),hE,ni⟩with gs:=S.gs+1,dd:= !g}
theorem Rel0.yieldM{b0:Base}{σ σ':Nat→Option Value}{S:St}{a:Act}{w w':World}{dst:Option Tmp}{g:Bool}{hE:List (Nat×Option AB)}{ni:List Nat}(R:Rel0 b0 σ S a w)(hd:dOk S.n dst=true)(hdd:S.dd=false)(hV:∀k,b0.V false k→b0.V true k)
 (hVl:∀k,b0.V (!g) k→∃o:Loop,w.heap[k]?=some (.loop o)) (C:CoreR b0 σ S (b0.V (!g)) hE ni (.c (.p (.bool g))) (.bool g) w w' σ') (hJ:b0.J (S.gs+1) (!g) w'):Rel0 b0 σ' (S.yieldedM dst g hE ni) (a.put dst (.bool g)) w':=by
 have hVn:NoCells (b0.V (!g)) w:=fun b hb cs t p h=>by
  obtain⟨o,ho⟩:=hVl b hb
  rw[ho]at h
  cases h
 have hext:=R.ext
 unfold wild at hext
 rw[hdd]at hext
 have hKc:Keep (fun b=>out b0 σ S.h b∨b0.V (!g) b) w w':=C.keep.less fun b hb=>hb.imp .inl id
 have sl:∀{t x},S.t t=some x→RepA σ' (out b0 σ' (look hE S.h)) w' x (a.tmps.getD t undef):=fun h=>((R.sl _ _ h).more hVn).keep hKc (fun b hb=>(C.outs b hb).imp .inl id) C.up
 have hdf:Marks b0.w.heap.size a.defers w':=by
  refine R.df.keep C.keep fun D hD=> ?_
  rcases hD with h|h
  ·exact R.hp.nodef h
  ·intro e
   obtain⟨o,ho⟩:=hVl D h
   rw[ho]at e
   cases e
 refine⟨by rw[defers_put];exact hdf,size_put.trans R.sz,?_,C.hp,fun t x ht=> ?_,fun id hid=> ?_,R.le,R.gd,hJ⟩
 ·refine(hext.less (O':=wild b0 (S.yieldedM dst g hE ni)) fun b hb=> ?_).trans C.keep fun i h=> ?_
  ·refine hb.imp id fun h=> ?_
   show b0.V (!g) b
   cases g with
   |true=>exact h
   |false=>exact hV b h
  ·rcases h with h|h
   ·exact(R.hp.new i h).imp id .inl
   ·exact .inr (.inr h)
 ·replace ht:(S.eff dst ⟨.c (.p (.bool g)),hE,ni⟩).t t=some x:=ht
  cases dst with
  |none=>exact sl ht
  | some d=>
    have hlt:d<a.tmps.size:=by rw[R.sz];exact Nat.blt_eq.mp hd
    rw[getD_put hlt]
    simp only[St.eff]at ht
    by_cases e:t=d
    ·subst e
     rw[put_same]at ht
     cases ht
     rw[if_pos rfl]
     exact C.rep
    ·rw[put_ne _ _ e]at ht
     rw[if_neg e]
     exact sl ht
 ·replace hid:(S.fr id && !(ni.any (Nat.beq id)))=true:=hid
  rw[Bool.and_eq_true,Bool.not_eq_true']at hid
  refine⟨?_,(R.fr id hid.1).2⟩
  cases hc:σ' id with
  |none=>rfl
  | some v=>
    rcases C.dom id (by simp[hc])with h1|h1
    ·exact absurd (R.fr id hid.1).1 h1
    ·have h2:ni.any (Nat.beq id)=true:=List.any_eq_true.2 ⟨id,h1,Nat.beq_refl id⟩
     rw[h2]at hid
     cases hid.2
section ops
variable{ops:Array Oper}{rest:List Oper}{S:St}{Q:St→Prop}{dst:Option Tmp}{ty:TypeId}{pos:String}{after:Array Edge}{guard:Option (Nat×Bool)}
theorem AText.yieldM{l N i:Nat}{stop:Bool}{A:RM}{args:List V1}{z:Operand}{avs:Array Operand}{ats:Array TypeId}(g:Bool)(ids mids ni:List Nat)(bs' nw':List AB)(hw:S.wants ops {dst,op:=.call {callee:=.value z,args:=avs,argTypes:=ats},type:=ty,pos,after,guard}=some true)(hd:dOk S.n dst=true)
 (hz:S.opd z=some (.c (.p (yv l)))) (ha:S.opds avs.toList=some args) (hG:∀b,S.G b→itM P l A N stop b) (hgs:S.gs=i) (hdd:S.dd=false) (hi:i<N) (hg:goesB N stop i=g) (hids:∀k,k<A.nb→ids[k]?=some (1000+k))
 (hL:LendOkM S ids mids ids (A.hB i++A.la i)) (hM:MovOk S mids (A.mv i)) (hnd:(nodupB (ids++mids) && mids.all (fun m=>Nat.blt m 1000) && Nat.ble (A.mv i).length 100 && nodupB ni && ni.all (fun i=>S.fr i) && Nat.beq bs'.length (A.hB i++A.la i).length && Nat.beq nw'.length ni.length)=true) (hla:LeL (LentV ids mids) args (A.ys i))
 (hbk:BackBM ids ni (A.hE (i+1)++A.la i) bs') (hnw:BackB ids ni (A.mv (i+1)) nw')
 (hn:AText P ops rest (S.yieldedM dst g (zipW ids bs'++(zipW ni nw'++dropL mids)) ni) Q):AText P ops ({dst,op:=.call {callee:=.value z,args:=avs,argTypes:=ats},type:=ty,pos,after,guard}::rest) S Q:=⟨fun rd b0 a w K hR hK=>by
 obtain⟨σ,R0⟩:=hR
 obtain⟨_,⟨hV,hVJ⟩,hYo⟩:=hG b0 R0.gd
 simp only[Bool.and_eq_true]at hnd
 obtain⟨⟨⟨⟨⟨⟨n1,n2⟩,n3⟩,n4⟩,n5⟩,n6⟩,n7⟩:=hnd
 unfold wpListIn
 rw[if_pos (wants_rep R0 hw)]
 refine⟨fun _ _=>trivial,?_⟩
 have hzv:a.eval z=yv l:=(opd_rep R0 hz).2
 have hext:=R0.ext
 unfold wild at hext
 rw[hdd]at hext
 have hgh:=R0.gh
 rw[hgs,hdd]at hgh
 subst hg
 have hVt:∀k,b0.V (!goesB N stop i) k→b0.V true k:=fun k hk=>by
  cases hgo:goesB N stop i with
  |true=>rw[hgo]at hk;exact hV k hk
  |false=>rw[hgo]at hk;exact hk
 have hVl:∀k,b0.V (!goesB N stop i) k→∃o:Loop,w.heap[k]?=some (.loop o):=fun k hk=>hVJ _ _ _ hgh k (hVt k hk)
 have hcore:=GMc.core (ids:=ids) (mids:=mids) (ni:=ni) (Cl:=yCl P b0 l i (goesB N stop i)) (vals:=avs.toList.map a.eval) (fun vals W Q Q' hq ⟨fn,tmps,assign,body,e1,e2⟩=>⟨fn,tmps,assign,body,e1,e2.mono fun e W' h=>⟨hq _ _ h.1,h.2⟩⟩) (hYo i hi) hVl (fun b1 e1 e2 e3 e4 e5=>by
  refine⟨by rw[e1];exact hgh,by rw[e1];exact hext,fun k hk=> ?_,fun k hk=> ?_,fun k hk=> ?_⟩
  ·rw[e2 k _ (hids k hk)]
   cases hf:b0.fix (1000+k)with
   |none=>exact R0.hp.big _ (by omega) hf
   |some v=>exact(R0.hp.fx _ v hf).1
  ·rcases e3 k hk with (h|h)|h
   ·exact(R0.hp.new k h).elim (fun h=>.inr (.inr h)) fun h=>.inr (.inl h)
   ·exact .inl h
   ·exact .inl (b0.vx _ _ h)
  ·refine(e5 k (.inr (b0.vx _ _ hk))).resolve_right fun h=> ?_
   obtain⟨o,ho⟩:=hVJ _ _ _ hgh k hk
   exact R0.hp.noLoop ho (e4 k h)) R0 (opds_rep R0 ha) hla hL hM n1 n2 (Nat.ble_eq.mp n3) n4 (fun id hid=>List.all_eq_true.1 n5 id hid)
 obtain⟨fn,tmps,assign,body,e1,e2⟩:=hcore
 rw[Oper.semAt_eq _ _ _ (fun c hc=>by cases hc)]
 have hrun:(execOp a.eval {dst,op:=.call {callee:=.value z,args:=avs,argTypes:=ats},type:=ty,pos,after,guard}).run P w=.ok (.round l fn tmps assign body) w:=by
  have hm:avs.map a.eval=(avs.toList.map a.eval).toArray:=Array.ext' (by simp)
  simp only[execOp,resolve,hzv,hm,Deferred.ofValue,Sem.run_bind,Sem.run_pure,Result.andThen_ok]
  simp[invoke]at e1⊢
  exact e1
 rw[hrun,Oper.uponIn_round]
 refine⟨fun hd=>(by cases hd),RoundIn.mono (F:=fnc rd) e2 fun e w' ⟨⟨v,r,hs',nw,h1,⟨h2,h3,h4⟩,h5⟩,h6⟩=> ?_⟩
 subst h1 h2 h3 h4
 obtain⟨σ',C⟩:=h5 (.c (.p (.bool (goesB N stop i)))) bs' nw' (.c (.imm _ rfl)) hbk hnw (Nat.eq_of_beq_eq_true n6) (Nat.eq_of_beq_eq_true n7)
 obtain rfl:v=.bool (goesB N stop i):=C.rep.2
 exact hn.get rd b0 _ _ K ⟨σ',R0.yieldM hd hdd hV hVl C (by rw[hgs];exact h6)⟩ hK⟩
end ops
def ItM1(P:Program)(gf:FuncId)(cs:List V1)(A:RM)(M N:Nat)(stop:Bool):Prop:=
 ∀ (b0:Base) (σ:Nat→Option Value) (l:Nat) (vals:List Value),b0.rd=none→VLoop b0→HRel b0 σ (assoc (begL (A.mv 0) (A.hB 0))) b0.w→(∀i v,b0.fix i=some v→i<1000+A.nb)→(∀i v,σ i=some v→b0.fix i=some v∨(800≤i∧i<900))→(∀b,b0.Y b→own σ (assoc (begL (A.mv 0) (A.hB 0))) b)→
   (stop=true→0<N∧N≤M)→(stop=false→N=M)→YOk P b0 l A N stop→b0.J 0 false b0.w→RepL (RepV σ (out b0 σ (assoc (begL (A.mv 0) (A.hB 0)))) b0.w) cs vals→
   Calls P gf (yv l::vals).toArray b0.w fun e w'=>e=.returned (.tuple #[])∧b0.J N stop w'∧∃τ,HRel b0 τ (assoc (endL (A.mv N) (A.hE N))) w'∧Keep (fun b=>b0.Y b∨b0.V stop b) b0.w w'
def EndItM(A:RM)(N:Nat)(stop:Bool)(S:St):Prop:=(S.gs=N∧S.dd=stop)∧∃S' loc,Wk S S'∧S'.h=assoc (loc++endL (A.mv N) (A.hE N))∧loc.all (fun p=>Nat.blt p.1 900)=true
def RetItM(A:RM)(N:Nat)(stop:Bool):Exit→St→Prop
 | .ret,S=>EndItM A N stop S
 | .normal,S=>EndItM A N stop S
 |_,_=>False
def entryIM(G:Base→Prop)(n ln:Nat)(args:List V1)(hs:List (Nat×AB)):St:={entryM n ln args hs with G:=G}
theorem itm1_of{gf:FuncId}{fn:Func}{c:Code}{cs:List V1}{A:RM}{M N n:Nat}{stop:Bool}(hf:P.funcs[gf]?=some fn)(hb:fn.body=some c)(hr:fn.results= #[])(hn:fn.ntmps=n)(hl:Nat.ble (cs.length+1) n=true)(hmE:∀N,N≤M→(A.mv N).length≤100)(hhE:∀N,N≤M→(A.hE N).length=A.nb)
 (h:∀(l:Nat),(stop=true→0<N∧N≤M)→(stop=false→N=M)→AWp P c (RetItM A N stop) (entryIM (itM P l A N stop) n A.nb (.c (.p (yv l))::cs) (begL (A.mv 0) (A.hB 0)))):ItM1 P gf cs A M N stop:=fun b0 σ0 l vals hrd hV hH hle hσ hY h1 h2 hYo hJ hv=>by
 subst hn
 have hl':=hv.length
 have hNM:N≤M:=by cases stop with
  |true=>exact(h1 rfl).2
  |false=>exact Nat.le_of_eq (h2 rfl)
 refine calls_of_awp (b0:=b0) hf hb hrd (h l h1 h2) ⟨σ0,trivial,?_,⟨rfl,rfl,rfl,Nat.le_refl _,fun _ _ _=>rfl⟩,hH,fun t x hx=> ?_,fun id hid=> ?_,fun i v hi=>hle i v hi,⟨hrd,hV,hYo⟩,hJ⟩ (fun e S hQ=>by cases e<;>first|exact .inl rfl|exact .inr rfl|exact hQ.elim) fun e a w S hR hQ hd=> ?_
 ·have:=Nat.ble_eq.mp hl
  simp[entryIM,entryM,hl'];omega
 ·have hv':RepL (RepV σ0 (out b0 σ0 (assoc (begL (A.mv 0) (A.hB 0)))) b0.w) (.c (.p (yv l))::cs) (yv l::vals):=⟨⟨rfl,rfl⟩,hv⟩
  obtain⟨y,e1,rfl⟩:∃y,(V1.c (.p (yv l))::cs)[t]?=some y∧y.av=x:=by simpa[entryIM,entryM,Option.map_eq_some_iff]using hx
  obtain⟨v,e2,e3⟩:=hv'.get e1
  have ht:((yv l::vals).toArray++Array.replicate (fn.ntmps-(yv l::vals).toArray.size) undef).getD t undef=v:=by
   have hlt:=(List.getElem?_eq_some_iff.1 e2).1
   have:=(List.getElem?_eq_some_iff.1 e2).2
   simp only[Array.getD_eq_getD_getElem?,Array.getElem?_append,List.size_toArray,hlt,if_true,List.getElem?_toArray,e2,Option.getD_some]
  rw[ht]
  exact e3.av
 ·have hid':(Nat.blt id 800||(Nat.ble 900 id && Nat.blt id 1000))=true:=hid
  have h1:id<800∨(900≤id∧id<1000):=by
   rw[Bool.or_eq_true,Bool.and_eq_true]at hid'
   exact hid'.imp (fun h=>Nat.blt_eq.mp h) fun h=>⟨Nat.ble_eq.mp h.1,Nat.blt_eq.mp h.2⟩
  refine⟨?_,by omega⟩
  cases hc:σ0 id with
  |none=>rfl
  | some v=>
    rcases hσ id v hc with h|h
    ·have:=(b0.one id v h).1;omega
    ·omega
 ·obtain⟨⟨g1,g2⟩,S',loc,hw,hS',hlc⟩:EndItM A N stop S:=by cases e<;>first|exact hQ|exact hQ.elim
  have hR0:=hR
  obtain⟨σ,R⟩:=hR
  obtain⟨σ4,R1⟩:=hw b0 a w hR0
  have hext:=R.ext
  have hgh:=R.gh
  unfold wild at hext
  rw[g1,g2]at hgh
  rw[g2]at hext
  have hH0:=R1.hp
  rw[hS']at hH0
  have hl2:=hmE N hNM
  have hl3:=hhE N hNM
  have low:∀i B,assoc loc i=some B→i<900:=fun i B h=>Nat.blt_eq.mp (List.all_eq_true.1 hlc _ (assoc_mem h))
  have high:∀i,assoc (endL (A.mv N) (A.hE N)) i≠none→900≤i:=fun i hi=>by
   rw[endL_at hl2]at hi
   by_cases h1:1000≤i
   ·omega
   ·rw[if_neg h1]at hi
    by_cases h2:900≤i
    ·exact h2
    ·rw[if_neg h2]at hi;exact absurd rfl hi
  obtain⟨H',hsub⟩:=hH0.part (h':=assoc (endL (A.mv N) (A.hE N))) (fun i hi=>by
   rw[assoc_app]
   cases hc:assoc loc i with
   |none=>rfl
   | some B=>
     have:=low i B hc
     have:=high i hi
     omega) (fun i v hi=>by
   have h0:=(b0.one i v hi).1
   have h3:=hle i v hi
   rw[endL_at hl2,if_pos h0,List.getElem?_eq_getElem (by omega)]
   simp)
  exact⟨.tuple #[],by rw[results_eq,hr];simp,rfl,hgh,σ4,H',hext⟩
end
section
variable{P:Program}
inductive LentA(ids mids:List Nat):AV→AV→Prop
 |c {y x:CV} (h:LentM ids mids y x):LentA ids mids (.c y) (.c x)
 |ag {l m:List CV} (h:LeL (LentM ids mids) l m):LentA ids mids (.ag l) (.ag m)
def AllM(S:St)(ids mids:List Nat):List (Nat×AV)→Prop
 | []=>True
 |p::r=>(∃y,S.t p.1=some y∧LentA ids mids y p.2)∧AllM S ids mids r
theorem allM_mem{S:St}{ids mids:List Nat}:∀{ts:List (Nat×AV)},AllM S ids mids ts→∀p∈ts,∃y,S.t p.1=some y∧LentA ids mids y p.2
 | p::r,h,q,hq=>by
   rcases List.mem_cons.1 hq with rfl|hq
   ·exact h.1
   ·exact allM_mem h.2 q hq
def setVs:List Tmp→List V1→List (Nat×AV)
 |p::ps,v::vs=>(p,v.av)::setVs ps vs
 |_,_=> []
theorem foldset_out{t:Nat}:∀(ps:List Tmp) (vs:List Value) (tm:Array Value),t∉ps→((ps.zip vs).foldl (fun t (p,v)=>t.setIfInBounds p v) tm).getD t undef=tm.getD t undef
 | [],_,_,_=>rfl
 |_::_,[],_,_=>rfl
 | p::ps,v::vs,tm,h=>by
   simp only[List.mem_cons,not_or]at h
   show((ps.zip vs).foldl _ (tm.setIfInBounds p v)).getD t undef=_
   rw[foldset_out ps vs _ h.2]
   simp only[Array.getD_eq_getD_getElem?]
   rw[Array.getElem?_setIfInBounds_ne (Ne.symm h.1)]
theorem setVs_get{R:V1→Value→Prop}{t:Nat}{x:AV}:∀{ps:List Tmp} {vs:List V1} {us:List Value},nodupB ps=true→RepL R vs us→vs.length=ps.length→assoc (setVs ps vs) t=some x→∃y u,R y u∧x=y.av∧∀(tm:Array Value),(∀p∈ps,p<tm.size)→((ps.zip us).foldl (fun t (p,v)=>t.setIfInBounds p v) tm).getD t undef=u
 | [],_,_,_,_,_,h=>by cases h
 |p::ps,[],_,_,_,hl,_=>by cases hl
 |p::ps,v::vs,[],_,hr,_,_=>hr.elim
 | p ::ps,v::vs,u::us,hn,hr,hl,h=>by
   unfold nodupB at hn
   rw[Bool.and_eq_true,Bool.not_eq_true']at hn
   have hp:p∉ps:=fun hm=>by
    have:ps.any (Nat.beq p)=true:=List.any_eq_true.2 ⟨p,hm,Nat.beq_refl p⟩
    rw[this]at hn
    cases hn.1
   unfold setVs assoc at h
   cases hb:Nat.beq t p with
   | true=>
     have:=Nat.eq_of_beq_eq_true hb
     subst this
     rw[hb]at h
     cases h
     refine⟨v,u,hr.1,rfl,fun tm htm=> ?_⟩
     show((ps.zip us).foldl _ (tm.setIfInBounds t u)).getD t undef=u
     rw[foldset_out ps us _ hp,Array.getD_eq_getD_getElem?,Array.getElem?_setIfInBounds_self_of_lt (htm t (by simp))]
     rfl
   | false=>
     rw[hb]at h
     obtain⟨y,u',h1,h2,h3⟩:=setVs_get hn.2 hr.2 (by simpa using hl) h
     exact⟨y,u',h1,h2,fun tm htm=>h3 _ fun q hq=>by rw[Array.size_setIfInBounds];exact htm q (by simp[hq])⟩
theorem setVs_no{t:Nat}:∀{ps:List Tmp} {vs:List V1},vs.length=ps.length→assoc (setVs ps vs) t=none→t∉ps
 | [],_,_,_=>by simp
 |p::ps,[],hl,_=>by cases hl
 | p ::ps,v::vs,hl,h=>by
   unfold setVs assoc at h
   cases hb:Nat.beq t p with
   |true=>rw[hb]at h;cases h
   | false=>
     rw[hb]at h
     have:=setVs_no (ps:=ps) (vs:=vs) (by simpa using hl) h
     simp only[List.mem_cons,not_or]
     exact⟨fun e=>(by subst e;rw[Nat.beq_refl]at hb;cases hb),this⟩
def roundM(n ln:Nat)(ps:List Tmp)(vs:List V1)(ts:List (Nat×AV))(hs:List (Nat×AB)):St:={n,ln,t:=assoc (setVs ps vs++ts),h:=assoc hs,fr:=fun id=>Nat.blt id 800||(Nat.ble 900 id && Nat.blt id 1000),G:=fun _=>True,gs:=0,dd:=false}
def RetBM(g:Bool)(eS:Exit)(hE mv:List AB)(e:Exit)(S:St):Prop:=
 (bif g then e=.normal else e=eS)∧∃S' loc,Wk S S'∧S'.h=assoc (loc++endL mv hE)∧loc.all (fun p=>Nat.blt p.1 900)=true
theorem LentA.rep{ids mids:List Nat}{σ τ:Nat→Option Value}{O O':Nat→Prop}{w:World}(hO:∀b,O' b→O b)(h1:∀i id,posOf ids id=some i→∀u,σ id=some u→τ (1000+i)=some u)(h2:∀i id,posOf mids id=some i→∀u,σ id=some u→τ (800+i)=some u)
 {x y:AV} {u:Value} (h:LentA ids mids x y) (hu:RepA σ O w x u):RepA τ O' w y u:=by
 cases h with
 |c h=>exact h.rep hO h1 h2 hu
 |ag h=>obtain⟨vs,rfl,e⟩:=hu;exact⟨vs,rfl,LeL.get (fun x y v hxy hv=>hxy.rep hO h1 h2 hv) h e⟩
theorem AWp.rangeM{g:Operand}{ps:Array Tmp}{assign body:Code}{S:St}{Q:Exit→St→Prop}{gf m:Nat}{C:Nat→CV}{cs:List V1}{A:RM}{M N:Nat}{stop:Bool}{eS:Exit}{ts:List (Nat×AV)}(ids mids ni:List Nat)(bs' nw':List AB)
 (hg:S.opd g=some (.c (.fn gf m C))) (eg:∀args w,(callFunc gf args).run P w=.ok (.enter gf args) w) (hnf:∀i,i<m→∀f k D,C i≠ .fn f k D) (hcs:LeL (LentV ids mids) ((List.range m).map fun i=>V1.c (C i)) cs) (hit:ItM1 P gf cs A M N stop)
 (hrd:∀b,S.G b→b.rd=none) (hN1:stop=true→0<N∧N≤M) (hN2:stop=false→N=M) (hL:LendOkM S ids mids ids (A.hB 0)) (hMv:MovOk S mids (A.mv 0))
 (hnd:(nodupB (ids++mids) && mids.all (fun m=>Nat.blt m 1000) && nodupB ni && ni.all (fun i=>S.fr i) && Nat.beq nw'.length ni.length)=true)
 (hlb:∀i,i≤N→(A.hB i).length=A.nb∧(A.hE i).length=A.nb∧(A.mv i).length≤100) (hidl:ids.length=A.nb) (hbl':bs'.length=A.nb)
 (hts:AllM S ids [] ts) (hps:(nodupB ps.toList && ps.toList.all (fun p=>Nat.blt p S.n))=true) (hxl:∀i,i<N→(A.ys i).length=ps.size) (hj:eS=.ret∨∃id,eS=.exit id)
 (hround:∀i,i<N→AWp P assign (thenA (fun S'=>S'.dd=false∧AWp P body (RetBM (goesB N stop i) eS (A.hE (i+1)++A.la i) (A.mv (i+1))) S'.inBody) (fun _ _=>False)) (roundM S.n (A.hB i++A.la i).length ps.toList (A.ys i) ts (begL (A.mv i) (A.hB i++A.la i))))
 (hbk:BackBM ids ni (A.hE N) bs') (hnw:BackB ids ni (A.mv N) nw')
 (hq:Q (bif stop then eS else .normal) (S.eff none ⟨.tu [],zipW ids bs'++(zipW ni nw'++dropL mids),ni⟩)):AWp P (.rangeFunc g ps assign body) Q S:=⟨fun b0 a w hR=>by
 obtain⟨σ,R⟩:=hR
 have hrd0:=hrd b0 R.gd
 rw[hrd0]
 rw[Bool.and_eq_true]at hps
 simp only[Bool.and_eq_true]at hnd
 obtain⟨⟨⟨⟨n1,n2⟩,n4⟩,n5⟩,n7⟩:=hnd
 have hl0:=hlb 0 (Nat.zero_le _)
 obtain⟨hu1,vs,hgv,hvl,hvr⟩:=opd_rep R hg
 obtain⟨fn0,rec,hrec⟩:∃(fn0:FuncId→LoopState→Option Code→Loop) (_:Unit),fn0=fun fn st pe=>{state:=st,pending:=pe,fn,tmps:=a.tmps,params:=ps,assign,body,defers:=w.heap.size}:=⟨_,(),rfl⟩
 refine wpIn_rangeFunc ?_
 intro fn _
 obtain⟨W1,hW1⟩:∃W1,(w.alloc (.deferred (some []))).alloc (.loop (fn0 fn .ready none))=W1:=⟨_,rfl⟩
 have hW1s:W1.heap.size=w.heap.size+2:=by rw[←hW1];simp
 have hL1:W1.heap[w.heap.size+1]?=some (.loop (fn0 fn .ready none)):=by
  rw[←hW1];have:=World.alloc_heap_new (w.alloc (.deferred (some []))) (.loop (fn0 fn .ready none));rwa [World.size_alloc]at this
 have hK1:W1.heap[w.heap.size]?=some (.deferred (some [])):=by
  rw[←hW1];exact(Below.heap_alloc _ _ _ (by simp)).trans (World.alloc_heap_new w _)
 have hE1:Ext w W1:=by rw[←hW1];exact(((Ext.refl w).alloc _).alloc _)
 obtain⟨jc,hjc⟩:∃jc,jumpC eS=jc:=⟨_,rfl⟩
 obtain⟨l,hl⟩:∃l,l=w.heap.size+1:=⟨_,rfl⟩
 have R1:=R.drew hE1
 let J:Nat→Bool→World→Prop:=fun _ d W=>W.heap[l]?=some (.loop (if d then fn0 fn .done (some jc)else fn0 fn .ready none))
 have hvals:RepL (RepV σ (out b0 σ S.h) W1) ((List.range m).map fun i=>V1.c (C i)) vs:=RepL.of_get (by simp[hvl]) fun i x v q1 q2=>by
  have hi:i<m:=by have:=(List.getElem?_eq_some_iff.1 q1).1;simpa using this
  rw[List.getElem?_map,List.getElem?_range hi]at q1
  cases q1
  obtain⟨v',e1,e2,e3⟩:=hvr i hi
  rw[q2]at e1
  cases e1
  exact(repC_of (hnf i hi) e2 e3).keep (Keep.of_ext hE1) (fun b hb=>.inl hb) fun _ _ h=>h
 have hG :GMc (fun us W Q=>Calls P gf (yv l::us).toArray W fun e w'=>Q e w'∧J N stop w') (fun b1=>b1.w=W1∧(∀k id,ids[k]?=some id→b1.fix (1000+k)=σ id)∧∀b,b1.X b∨b1.Y b→out b0 σ S.h b∨b=l) (fun b=>b=l) cs (A.hB 0) (A.mv 0) (fun r a c=>r=.tu []∧a=A.hE N∧c=A.mv N):=fun b1 σ1 us ⟨hb1,hfx1,hXY⟩ hVX H1 hle hσ hY hv=>by
  have hlY:¬b1.Y l:=b1.dis l (hVX l rfl)
  let bI:Base:=⟨b1.w,b1.X,b1.Y,b1.fix,b1.lt,b1.ylt,b1.dis,b1.one,fun d b=>d=true∧b=l,J,none,fun d b hb=>hVX b hb.2,fun i d O A B h hK hO=>by
   refine(hK.block l (Array.getElem?_eq_some_iff.1 h).1 fun ho=>(hO l ho).elim (fun h=> ?_) hlY).trans h
   rw[hb1]at h
   omega⟩
  have up:∀{τ h w},HRel b1 τ h w→HRel bI τ h w:=fun H=>⟨H.blk,H.inj,H.new,H.fx,H.big⟩
  have dn:∀{τ h w},HRel bI τ h w→HRel b1 τ h w:=fun H=>⟨H.blk,H.inj,H.new,H.fx,H.big⟩
  have hYo:YOk P bI l A N stop:=fun i hi b2 σ2 us2 ⟨hJ2,hK2,hfx2,hXY2,hlX2⟩ hVX2 H2 hle2 hσ2 hY2 hv2=>by
   have hlX:b2.X l:=hlX2 l ⟨rfl,rfl⟩
   have hlY2:¬b2.Y l:=b2.dis l hlX
   have hJ2':b2.w.heap[l]?=some (.loop (fn0 fn .ready none)):=hJ2
   have hl2:l<b2.w.heap.size:=(Array.getElem?_eq_some_iff.1 hJ2').1
   have hlW':b2.w.heap[l]?=some (.loop {state:=.ready,pending:=none,fn,tmps:=a.tmps,params:=ps,assign,body,defers:=w.heap.size}):=by rw[hJ2',hrec]
   have hy:=run_yield (P:=P) (args:=us2.toArray) hlW' (by have:=hv2.length;have:=hxl i hi;simp;omega)
   refine⟨fn,_,assign,body,hy,?_⟩
   let bA:Base:=⟨b2.w,b2.X,b2.Y,b2.fix,b2.lt,b2.ylt,b2.dis,b2.one,fun _ b=>b=l,fun _ d W=>W.heap[l]?=some (.loop {fn0 fn .ready none with state:=if d then .busy else .ready}),some l,fun d b hb=>by subst hb;exact hlX,fun _ d O A B h hK hO=>by
    refine(hK.block _ (Array.getElem?_eq_some_iff.1 h).1 fun ho=> ?_).trans h
    rcases hO _ ho with h|h
    ·omega
    ·exact hlY2 h⟩
   have upA:∀{τ h w},HRel b2 τ h w→HRel bA τ h w:=fun H=>⟨H.blk,H.inj,H.new,H.fx,H.big⟩
   have dnA:∀{τ h w},HRel bA τ h w→HRel b2 τ h w:=fun H=>⟨H.blk,H.inj,H.new,H.fx,H.big⟩
   have hKw:Keep (fun b=>out b0 σ S.h b) w b2.w:=by
    have hK2':Keep (fun k=>b1.Y k∨(false=true∧k=l)) W1 b2.w:=hb1▸hK2
    refine⟨hK2'.os.trans hE1.os,hK2'.tape.trans hE1.tape,hK2'.output.trans hE1.output,Nat.le_trans hE1.size hK2'.size,fun k hk hno=>(hK2'.block k (Nat.lt_of_lt_of_le hk hE1.size) fun h=> ?_).trans (Below.block hE1 k hk)⟩
    rcases h with h|h
    ·rcases hXY k (.inr h)with h|h
     ·exact hno h
     ·omega
    ·exact absurd h.1 (by decide)
   have hfold:(ps.zip us2.toArray).foldl (fun tmps (t,a)=>tmps.setIfInBounds t a) a.tmps=(ps.toList.zip us2).foldl (fun t (p,v)=>t.setIfInBounds p v) a.tmps:=by
    rw[←Array.foldl_toList]
    simp
   have hin:∀p∈ps.toList,p<a.tmps.size:=fun p hp=>by rw[R.sz];exact Nat.blt_eq.mp (List.all_eq_true.1 hps.2 p hp)
   have hxl':(A.ys i).length=ps.toList.length:=by rw[hxl i hi];simp
   have hout:∀b,out bA σ2 (assoc (begL (A.mv i) (A.hB i++A.la i))) b→out b0 σ S.h b∨w.heap.size≤b:=fun b hb=>by
    have hXYb:b2.X b∨b2.Y b→out b0 σ S.h b∨w.heap.size≤b:=fun h=>by
     rcases hXY2 b h with h|h|h
     ·exact(hXY b (.inl h)).imp id fun h=>by omega
     ·exact(hXY b (.inr h)).imp id fun h=>by omega
     ·have:W1.heap.size≤b:=by rw[←hb1];exact h
      exact .inr (by omega)
    rcases hb with ⟨j,v,h1,h2,h3⟩|h
    ·rcases H2.new b ⟨j,v,h1,h2,h3⟩with h|h
     ·have:b2.w.heap.size≤b:=h
      have:=hKw.size
      exact .inr (by omega)
     ·exact hXYb (.inr h)
    ·exact hXYb (.inl h)
   have hRA:Rel bA (roundM S.n (A.hB i++A.la i).length ps.toList (A.ys i) ts (begL (A.mv i) (A.hB i++A.la i))) {tmps:=(ps.zip us2.toArray).foldl (fun tmps (t,a)=>tmps.setIfInBounds t a) a.tmps,defers:= []} b2.w:=by
    refine⟨σ2,trivial,?_,⟨rfl,rfl,rfl,Nat.le_refl _,fun _ _ _=>rfl⟩,upA H2,fun t x hx=> ?_,fun id hid=> ?_,fun j v hj=> ?_,trivial,?_⟩
    ·show Array.size _=S.n
     rw[hfold,size_foldset];exact R.sz
    ·show RepA _ _ b2.w x (Array.getD _ t undef)
     rw[hfold]
     replace hx:assoc (setVs ps.toList (A.ys i)++ts) t=some x:=hx
     rw[assoc_app]at hx
     cases hc:assoc (setVs ps.toList (A.ys i)) t with
     | some y=>
       rw[hc]at hx
       cases hx
       obtain⟨y,u,k1,k2,k3⟩:=setVs_get hps.1 hv2 hxl' hc
       rw[k3 a.tmps hin,k2]
       exact k1.av
     | none=>
       rw[hc]at hx
       rw[foldset_out _ _ _ (setVs_no hxl' hc)]
       obtain⟨y,q1,q2⟩:=allM_mem hts _ (assoc_mem hx)
       have h1:=(R.sl t y q1).keep (O':=fun b=>out b0 σ S.h b∨w.heap.size≤b) hKw (fun b hb=>hb) fun _ _ h=>h
       refine q2.rep (fun b hb=>hout b hb) (fun k id hp u hu=> ?_) (fun k id hp=>by cases hp) h1
       have hk:=posOf_at hp
       have hlt:=(List.getElem?_eq_some_iff.1 hk).1
       have hf:b2.fix (1000+k)=some u:=(hfx2 k (by omega)).trans ((hfx1 k id hk).trans hu)
       exact(H2.fx _ _ hf).1
    ·have hid':(Nat.blt id 800||(Nat.ble 900 id && Nat.blt id 1000))=true:=hid
     have h1:id<800∨(900≤id∧id<1000):=by
      rw[Bool.or_eq_true,Bool.and_eq_true]at hid'
      exact hid'.imp (fun h=>Nat.blt_eq.mp h) fun h=>⟨Nat.ble_eq.mp h.1,Nat.blt_eq.mp h.2⟩
     refine⟨?_,by omega⟩
     cases hc:σ2 id with
     |none=>rfl
     | some v=>
       rcases hσ2 id v hc with h|h
       ·have:=(b2.one id v h).1;omega
       ·omega
    ·exact hle2 j v hj
    ·show b2.w.heap[l]?=_
     rw[hJ2',hrec]
     rfl
   refine roundIn_of_wpIn (F:=Fence.wide) trivial ?_
   refine wpIn_mono ((hround i hi).get bA _ b2.w hRA) fun e a1 w1 ⟨S',⟨σ',R'⟩,h2⟩=> ?_
   cases e with
   | normal=>
     obtain⟨hdd,hB⟩:=h2
     have hl1:w1.heap[l]?=some (.loop {fn0 fn .ready none with state:=if S'.dd then .busy else .ready}):=R'.gh
     rw[hdd]at hl1
     have hnc:∀cs t p,w1.heap[l]?≠some (.cells cs t p):=fun cs t p h=>by rw[hl1]at h;cases h
     have hbr:=run_beginRound (P:=P) hl1 rfl
     refine⟨_,hbr,?_⟩
     obtain⟨w2,hw2⟩:∃w2,w1.putObj l (.loop {{fn0 fn .ready none with state:=if false=true then .busy else .ready}with state:=.busy})=w2:=⟨_,rfl⟩
     rw[hw2]
     have hoth:∀k,k≠l→w2.heap[k]?=w1.heap[k]?:=fun k hk=>by rw[←hw2];exact World.putObj_heap_other hk
     have hcc:∀a v,w1.cell? a=some v→w2.cell? a=some v:=by rw[←hw2];exact cell_turn hnc
     have hKp:Keep (fun k=>k=l) w1 w2:=by rw[←hw2];exact⟨rfl,rfl,rfl,by rw[World.putObj_size];exact Nat.le_refl _,fun k _ hk=>World.putObj_heap_other hk⟩
     have R2:Rel0 bA σ' S'.inBody a1 w2:=⟨R'.df.keep2 hKp fun D h=>by have h:D=l:=h;show D<b2.w.heap.size;omega,R'.sz,
      (R'.ext.less (O':=wild bA S'.inBody) fun b hb=>hb).trans hKp fun k hk=>.inr (.inr hk),R'.hp.turn hnc (fun o h=>by rw[hl1]at h;cases h;rfl) hoth hcc,fun t x hx=>(R'.sl t x hx).cells hcc,R'.fr,R'.le,R'.gd,by
        show w2.heap[l]?=_
        rw[←hw2,World.putObj_heap_same (Array.getElem?_eq_some_iff.1 hl1).1]
        rfl⟩
     refine wpIn_mono (hB.get bA a1 w2 ⟨σ',R2⟩) fun e a3 W3 ⟨S3,hR3,h3,S'',loc,hwk,hS'',hlc⟩=> ?_
     obtain⟨σ3,R3⟩:=hR3
     obtain⟨σ4,R4⟩:=hwk bA a3 W3 ⟨σ3,R3⟩
     have hl3:W3.heap[l]?=some (.loop {fn0 fn .ready none with state:=if S3.dd then .busy else .ready}):=R3.gh
     have hnc3:∀cs t p,W3.heap[l]?≠some (.cells cs t p):=fun cs t p h=>by rw[hl3]at h;cases h
     have hH0:=R4.hp
     rw[hS'']at hH0
     have hlbi:=hlb (i+1) hi
     have hlbi0:=hlb i (by omega)
     have low:∀i B,assoc loc i=some B→i<900:=fun i B h=>Nat.blt_eq.mp (List.all_eq_true.1 hlc _ (assoc_mem h))
     have high:∀j,assoc (endL (A.mv (i+1)) (A.hE (i+1)++A.la i)) j≠none→900≤j:=fun j hj=>by
      rw[endL_at hlbi.2.2]at hj
      by_cases h1:1000≤j
      ·omega
      ·rw[if_neg h1]at hj
       by_cases h2:900≤j
       ·exact h2
       ·rw[if_neg h2]at hj;exact absurd rfl hj
     obtain⟨H4,hsub⟩:=hH0.part (h':=assoc (endL (A.mv (i+1)) (A.hE (i+1)++A.la i))) (fun j hj=>by
      rw[assoc_app]
      cases hc:assoc loc j with
      |none=>rfl
      | some B=>
        have:=low j B hc
        have:=high j hj
        omega) (fun j v hj=>by
      have h0:=(b2.one j v hj).1
      have h3:=hle2 j v hj
      rw[List.length_append]at h3
      rw[endL_at hlbi.2.2,if_pos h0,List.getElem?_eq_getElem (by rw[List.length_append];omega)]
      simp)
     have fin:∀jump:Option Code,jump.isNone=goesB N stop i→(goesB N stop i=false→jump=some jc)→∃v w',(Instr.endRound l jump).run P W3=.ok v w'∧((∃u τ r hs' nw,Ending.returned v=.returned u∧(r=.c (.p (.bool (goesB N stop i)))∧hs'=A.hE (i+1)++A.la i∧nw=A.mv (i+1))∧hs'.length=(A.hB i++A.la i).length∧nw.length≤100∧HRel b2 τ (assoc (endL nw hs')) w'∧RepA τ (out b2 τ (assoc (endL nw hs'))) w' r u∧Keep (fun b=>b2.Y b∨bI.V (!goesB N stop i) b) b2.w w')∧bI.J (i+1) (!goesB N stop i) w'):=fun jump hjn hjc'=>by
      obtain⟨o,hrun,ho⟩:∃o,(Instr.endRound l jump).run P W3=.ok (.bool jump.isNone) (W3.putObj l (.loop o))∧o=fn0 fn (if jump.isNone then .ready else .done) jump:=⟨_,run_endRound (P:=P) jump hl3,by rw[hrec]⟩
      have hothE:∀k,k≠l→(W3.putObj l (.loop o)).heap[k]?=W3.heap[k]?:=fun k hk=>World.putObj_heap_other hk
      have hccE:∀a v,W3.cell? a=some v→(W3.putObj l (.loop o)).cell? a=some v:=cell_turn hnc3
      have H5:=H4.turn hnc3 (fun o h=>by rw[hl3]at h;cases h;rfl) hothE hccE
      have hle:(W3.putObj l (.loop o)).heap[l]?=some (.loop o):=World.putObj_heap_same (Array.getElem?_eq_some_iff.1 hl3).1
      refine⟨_,_,hrun,⟨_,σ4,_,_,_,rfl,⟨rfl,rfl,rfl⟩,?_,hlbi.2.2,dnA H5,⟨rfl,by rw[←hjn];rfl⟩,R4.ext.os,R4.ext.tape,R4.ext.output,by rw[World.putObj_size];exact R4.ext.size,fun k hk hno=> ?_⟩,?_⟩
      ·rw[List.length_append,List.length_append,hlbi.2.1,hlbi0.1]
      ·by_cases e:k=l
       ·subst e
        rw[hle,hJ2']
        cases hg0:goesB N stop i with
        |false=>rw[hg0]at hno;exact absurd (.inr ⟨rfl,rfl⟩) hno
        | true=>
          rw[hg0]at hjn
          cases jump with
          |none=>rw[ho];rfl
          |some c=>cases hjn
       ·exact(World.putObj_heap_other e).trans (R4.ext.block k hk fun h=>h.elim (fun h=>hno (.inl h)) e)
      ·show(W3.putObj l (.loop o)).heap[l]?=_
       rw[hle,ho]
       cases hg0:goesB N stop i with
       | false=>
         have:=hjc' hg0
         subst this
         rfl
       | true=>
         rw[hg0]at hjn
         cases jump with
         |none=>rfl
         |some c=>cases hjn
     cases hg0:goesB N stop i with
     | true=>
       rw[hg0]at h3
       obtain rfl:e=.normal:=h3
       have:=fin none (by rw[hg0];rfl) (by rw[hg0];intro h;cases h)
       rw[hg0]at this
       exact this
     | false=>
       rw[hg0]at h3
       obtain rfl:e=eS:=h3
       have:=fin (some jc) (by rw[hg0];rfl) (fun _=>rfl)
       rw[hg0]at this
       rcases hj with rfl|⟨id,rfl⟩
       ·subst hjc;exact this
       ·subst hjc;exact this
   |_=>exact h2.elim
  have hJ0:J 0 false b1.w:=by rw[hb1];show W1.heap[l]?=_;rw[hl];exact hL1
  refine(hit bI σ1 l us rfl ⟨fun k hk=>absurd hk.1 (by decide),fun i d W h k hk=> ?_⟩ (up H1) (fun i v hi=>by rw[←hl0.1];exact hle i v hi) hσ hY hN1 hN2 hYo hJ0 hv).mono fun e w' ⟨h1,h2,τ,h3,h4⟩=> ?_
  ·have h:W.heap[l]?=_:=h
   rw[hk.2]
   exact⟨_,h⟩
  ·subst h1
   have hN:=hlb N (Nat.le_refl _)
   refine⟨⟨_,τ,.tu [],A.hE N,A.mv N,rfl,⟨rfl,rfl,rfl⟩,hN.2.1.trans hl0.1.symm,hN.2.2,dn h3,⟨[],rfl,trivial⟩,h4.less fun b hb=>hb.imp id fun h=>h.2⟩,h2⟩
 have hcore:=GMc.core (ids:=ids) (mids:=mids) (ni:=ni) (vals:=vs) (fun us W Q Q' hq h=>h.mono fun e w' h=>⟨hq _ _ h.1,h.2⟩) hG (fun b hb=>⟨fn0 fn .ready none,by rw[show b=l from hb,hl];exact hL1⟩) (fun b1 e1 e2 e3 e4 e5=>⟨e1,e2,e3⟩) R1 hvals hcs hL hMv n1 n2 hl0.2.2 n4 (fun id hid=>List.all_eq_true.1 n5 id hid)
 refine⟨l,[{target:=.collected w.heap.size,args:= #[]}],W1,{target:=.fn (.func gf) vs.toArray,args:= #[yv l]},W1,gf,(yv l::vs).toArray,W1,?_,?_,fun _ _=>trivial,?_,fun hd=>(by cases hd),?_⟩
 ·rw[←hW1,hrec,hl];exact run_enterLoop_outer _ _ _ _ _
 ·simp only[resolve,hgv]
  simp[go_sem]
 ·simp[invoke,go_sem,eg]
 ·refine(wide_fnc none).calls (Calls.mono hcore ?_)
  rintro e w3 ⟨⟨v,r,hs',nw,rfl,⟨rfl,rfl,rfl⟩,g3⟩,hJ3⟩
  obtain⟨σ',C⟩:=g3 (.tu []) bs' nw' (.tu trivial) hbk hnw (hbl'.trans hl0.1.symm) (Nat.eq_of_beq_eq_true n7)
  obtain⟨st,pe,hl3,hne,hpe⟩:∃st pe,w3.heap[l]?=some (.loop (fn0 fn st pe))∧st≠ .busy∧pe=bif stop then some jc else none:=by
   cases stop with
   |false=>exact⟨_,_,hJ3,by simp,rfl⟩
   |true=>exact⟨_,_,hJ3,by simp,rfl⟩
  have hend:=run_endLoop (P:=P) hl3 (by rw[hrec];exact hne)
  obtain⟨w4,hw4⟩:∃w4,w3.putObj l (.loop {fn0 fn st pe with state:=.exhausted})=w4:=⟨_,rfl⟩
  rw[hw4,show(fn0 fn st pe).pending=pe by rw[hrec]]at hend
  have hoth:∀k,k≠l→w4.heap[k]?=w3.heap[k]?:=fun k hk=>by rw[←hw4];exact World.putObj_heap_other hk
  have hnc3:∀cs t p,w3.heap[l]?≠some (.cells cs t p):=fun cs t p h=>by rw[hl3]at h;cases h
  have hcc:∀a v,w3.cell? a=some v→w4.cell? a=some v:=by rw[←hw4];exact cell_turn hnc3
  have hsz:=C.keep.size
  have hK4:Keep (own σ S.h) w w4:=by
   refine⟨?_,?_,?_,?_,fun k hk hno=> ?_⟩
   ·rw[←hw4];exact C.keep.os.trans hE1.os
   ·rw[←hw4];exact C.keep.tape.trans hE1.tape
   ·rw[←hw4];exact C.keep.output.trans hE1.output
   ·rw[←hw4,World.putObj_size];omega
   ·exact(hoth k (by omega)).trans ((C.keep.block k (by omega) fun h=>h.elim hno fun h=>by have:k=l:=h;omega).trans (Below.block hE1 k hk))
  have hfin:Rel b0 (S.eff none ⟨.tu [],zipW ids bs'++(zipW ni nw'++dropL mids),ni⟩) {a with defers:={target:=.collected w.heap.size,args:= #[]}::a.defers} w4:=by
   refine⟨σ',⟨⟨_,rfl,R.ext.size,?_,fun d' hd'=> ?_⟩,R.df.keep hK4 fun D hD=>R.hp.nodef hD⟩,R.sz,(R.ext.trans hK4 fun k hk=>(R.hp.new k hk).imp id .inl),C.hp.turn hnc3 (fun o h=>by rw[hl3]at h;cases h;rfl) hoth hcc,fun t x hx=>(R.sl t x hx).keep hK4.out (fun b hb=>(C.outs b hb).imp id fun h=>by omega) C.up,fun id hid=> ?_,R.le,R.gd,b0.jk _ _ _ _ _ R.gh hK4 R.hp.new⟩
   ·rw[hoth _ (by omega)]
    refine(C.keep.block _ (by omega) fun h=>h.elim (fun h=> ?_) fun h=>by have:w.heap.size=l:=h;omega).trans hK1
    have:=R.hp.lt h
    omega
   ·have:∀{ds:List Deferred},Marks b0.w.heap.size ds w→∀d∈ds,d≠{target:=.collected w.heap.size,args:= #[]}:=fun {ds}=>by
     induction ds with
     |nil=>intro _ d hd;simp at hd
     | cons d0 ds ih=>
       rintro⟨⟨D,e1,_,e3,_⟩,hm⟩ d hd
       rcases List.mem_cons.1 hd with rfl|hd
       ·rw[e1]
        intro e
        have h1:=(Array.getElem?_eq_some_iff.1 e3).1
        have:D=w.heap.size:=by simpa using e
        omega
       ·exact ih hm d hd
    exact this R.df d' hd'
   ·replace hid:(S.fr id && !(ni.any (Nat.beq id)))=true:=hid
    rw[Bool.and_eq_true,Bool.not_eq_true']at hid
    refine⟨?_,(R.fr id hid.1).2⟩
    cases hc:σ' id with
    |none=>rfl
    | some v=>
      rcases C.dom id (by simp[hc])with h1|h1
      ·exact absurd (R.fr id hid.1).1 h1
      ·have h2:ni.any (Nat.beq id)=true:=List.any_eq_true.2 ⟨id,h1,Nat.beq_refl id⟩
       rw[h2]at hid
       cases hid.2
  refine⟨pe,w4,hend,?_⟩
  subst hpe
  cases stop with
  |false=>exact⟨_,hfin,hq⟩
  | true=>
    subst hjc
    rcases hj with rfl|⟨id,rfl⟩
    ·exact wpIn_ret ⟨_,hfin,hq⟩
    ·exact wpIn_exit ⟨_,hfin,hq⟩⟩
end
section
variable{P:Program}
abbrev fCl(P:Program)(b:Base)(f:FuncId)(g':Nat)(d':Bool):List Value→World→(Ending→World→Prop)→Prop:=fun vals W Q=>Calls P f vals.toArray W fun e W'=>Q e W'∧b.J g' d' W'
def fPre(b:Base)(g nb:Nat)(b2:Base):Prop:=yPre b g nb b2∧∀k,b2.Y k→b.Y k∨b.w.heap.size≤k
abbrev FY(P:Program)(f:FuncId)(l:Nat)(A:RM)(N:Nat)(stop:Bool)(g g':Nat)(d':Bool)(args:List V1)(hs mv:List AB)(r:AV)(hs' nw:List AB):Prop:=
 ∀b:Base,itM P l A N stop b→GMc (fCl P b f g' d') (fPre b g A.nb) (b.V d') args hs mv (GEq r hs' nw)
theorem GMc.less{Cl:List Value→World→(Ending→World→Prop)→Prop}{Pre Pre':Base→Prop}{V:Nat→Prop}{args:List V1}{hs mv:List AB}{R:AV→List AB→List AB→Prop}(h:GMc Cl Pre V args hs mv R)(hP:∀b,Pre' b→Pre b):GMc Cl Pre' V args hs mv R:=
 fun b0 σ vals h0 hV h1 h2 h3 h4 h5=>h b0 σ vals (hP b0 h0) hV h1 h2 h3 h4 h5
def entryY(G:Base→Prop)(g n ln:Nat)(args:List V1)(hs:List (Nat×AB)):St:={entryM n ln args hs with G:=G,gs:=g}
def RetY(P:Program)(rs:List ResultVar)(r:AV)(hs' nw:List AB)(m g':Nat)(d':Bool):Exit→St→Prop
 | .ret,S=>(S.gs=g'∧S.dd=d')∧GEnd P rs (GEq r hs' nw) m S
 | .normal,S=>(S.gs=g'∧S.dd=d')∧GEnd P rs (GEq r hs' nw) m S
 |_,_=>False
theorem yPre.trans{b b1 b3:Base}{g i nb:Nat}(h:fPre b g nb b1)(hJ:b.J i false b3.w)(h3:Keep (fun k=>b1.Y k∨b.V false k) b1.w b3.w)(h4:∀k,k<nb→b3.fix (1000+k)=b1.fix (1000+k))(h5:∀k,b3.X k∨b3.Y k→b1.X k∨b1.Y k∨b1.w.heap.size≤k)(h6:∀k,b.V true k→b3.X k):yPre b i nb b3:=by
 obtain⟨⟨a1,a2,a3,a4,a5⟩,a6⟩:=h
 refine⟨hJ,a2.trans h3 fun k hk=> ?_,fun k hk=>(h4 k hk).trans (a3 k hk),fun k hk=> ?_,h6⟩
 ·rcases hk with hk|hk
  ·rcases a6 k hk with h|h
   ·exact .inr (.inl h)
   ·exact .inl h
  ·exact .inr (.inr hk)
 ·rcases h5 k hk with h|h|h
  ·exact a4 k (.inl h)
  ·exact a4 k (.inr h)
  ·have:=a2.size;exact .inr (.inr (by omega))
theorem fy_of{f:FuncId}{fn:Func}{c:Code}{rs:List ResultVar}{l N g g':Nat}{stop d':Bool}{A:RM}{args:List V1}{hs mv:List AB}{r:AV}{hs' nw:List AB}(hf:P.funcs[f]?=some fn)(hb:fn.body=some c)(hr:fn.results=rs.toArray)(hn:args.length≤fn.ntmps)(hmv:mv.length≤100)
 (h:AWp P c (RetY P rs r hs' nw hs.length g' d') (entryY (itM P l A N stop) g fn.ntmps hs.length args (begL mv hs))):FY P f l A N stop g g' d' args hs mv r hs' nw:=fun b hG b1 σ0 vals hpre hVX hH hle hσ hY hv=>by
 have hl:=hv.length
 obtain⟨hrd,hVL,hYo⟩:=hG
 have hpre0:=hpre
 obtain⟨⟨a1,a2,a3,a4,a5⟩,a6⟩:=hpre
 let b2:Base:=⟨b1.w,b1.X,b1.Y,b1.fix,b1.lt,b1.ylt,b1.dis,b1.one,b.V,b.J,none,fun d k hk=>a5 k (by cases d with|true=>exact hk|false=>exact hVL.1 k hk),fun i d O u v hj hK hO=>b.jk i d O u v hj hK fun k hk=>by
  rcases hO k hk with h|h
  ·have:=a2.size;exact .inl (by omega)
  ·exact(a6 k h).symm⟩
 have hG2:itM P l A N stop b2:=⟨rfl,hVL,fun i hi=>(hYo i hi).less fun b3 ⟨q1,q2,q3,q4,q5⟩=>yPre.trans hpre0 q1 q2 q3 q4 q5⟩
 have up:∀{σ h w},HRel b1 σ h w→HRel b2 σ h w:=fun H=>⟨H.blk,H.inj,H.new,H.fx,H.big⟩
 have dn:∀{σ h w},HRel b2 σ h w→HRel b1 σ h w:=fun H=>⟨H.blk,H.inj,H.new,H.fx,H.big⟩
 refine calls_of_awp (b0:=b2) hf hb rfl h ⟨σ0,trivial,?_,⟨rfl,rfl,rfl,Nat.le_refl _,fun _ _ _=>rfl⟩,up hH,fun t x hx=> ?_,fun id hid=> ?_,fun i v hi=>hle i v hi,hG2,a1⟩ (fun e S hQ=>by cases e<;>first|exact .inl rfl|exact .inr rfl|exact hQ.elim) fun e a w S hR hQ hd=> ?_
 ·simp[entryY,entryM,hl];omega
 ·obtain⟨y,e1,rfl⟩:∃y,args[t]?=some y∧y.av=x:=by simpa[entryY,entryM,Option.map_eq_some_iff]using hx
  obtain⟨v,e2,e3⟩:=hv.get e1
  have ht:(vals.toArray++Array.replicate (fn.ntmps-vals.toArray.size) undef).getD t undef=v:=by
   have hlt:=(List.getElem?_eq_some_iff.1 e2).1
   have:=(List.getElem?_eq_some_iff.1 e2).2
   simp[Array.getD_eq_getD_getElem?,Array.getElem?_append,hlt,this]
  rw[ht]
  exact e3.av
 ·have hid':(Nat.blt id 800||(Nat.ble 900 id && Nat.blt id 1000))=true:=hid
  have h1:id<800∨(900≤id∧id<1000):=by
   rw[Bool.or_eq_true,Bool.and_eq_true]at hid'
   exact hid'.imp (fun h=>Nat.blt_eq.mp h) fun h=>⟨Nat.ble_eq.mp h.1,Nat.blt_eq.mp h.2⟩
  refine⟨?_,by omega⟩
  cases hc:σ0 id with
  |none=>rfl
  | some v=>
    rcases hσ id v hc with h|h
    ·have:=(b1.one id v h).1;omega
    ·omega
 ·obtain⟨⟨g1,g2⟩,S',loc,r1,hs1,nw1,⟨rfl,rfl,rfl⟩,hln,hw,hS',hlc,hS⟩:(S.gs=g'∧S.dd=d')∧GEnd P rs (GEq r hs' nw) hs.length S:=by cases e<;>first|exact hQ|exact hQ.elim
  rw[Bool.and_eq_true]at hln
  have hl1:=Nat.eq_of_beq_eq_true hln.1
  have hl2:=Nat.ble_eq.mp hln.2
  have hR0:=hR
  obtain⟨σ,R⟩:=hR
  have hgh:b.J S.gs S.dd w:=R.gh
  have hext:=R.ext
  unfold wild at hext
  rw[g1,g2]at hgh
  rw[g2]at hext
  obtain⟨σ,R1⟩:=hw b2 a w hR0
  obtain⟨v,h1,h2⟩:=hS.run hr R1
  have hH0:=R1.hp
  rw[hS']at hH0 h2
  have low:∀i B,assoc loc i=some B→i<900:=fun i B h=>Nat.blt_eq.mp (List.all_eq_true.1 hlc _ (assoc_mem h))
  have high:∀i,assoc (endL nw1 hs1) i≠none→900≤i:=fun i hi=>by
   rw[endL_at hl2]at hi
   by_cases h1:1000≤i
   ·omega
   ·rw[if_neg h1]at hi
    by_cases h2:900≤i
    ·exact h2
    ·rw[if_neg h2]at hi;exact absurd rfl hi
  obtain⟨H',hsub⟩:=hH0.part (h':=assoc (endL nw1 hs1)) (fun i hi=>by
   rw[assoc_app]
   cases hc:assoc loc i with
   |none=>rfl
   | some B=>
     have:=low i B hc
     have:=high i hi
     omega) (fun i v hi=>by
   have h0:=(b1.one i v hi).1
   have h3:=hle i v hi
   rw[endL_at hl2,if_pos h0,List.getElem?_eq_getElem (by omega)]
   simp)
  exact⟨v,h1,⟨v,σ,r1,hs1,nw1,rfl,⟨rfl,rfl,rfl⟩,hl1,hl2,dn H',h2.less fun b (hb:out b2 σ (assoc (endL nw1 hs1)) b)=>hb.imp (hsub b) fun h=>h,hext⟩,hgh⟩
theorem fy_at{f:FuncId}{fn:Func}{c:Code}{rs:List ResultVar}{l N g g':Nat}{stop d':Bool}{A:RM}{args:List V1}{hs mv:List AB}{r:AV}{hs' nw:List AB}{n:Nat}(hf:P.funcs[f]?=some fn)(hb:fn.body=some c)(hr:fn.results=rs.toArray)(hn:fn.ntmps=n)(hl:(Nat.ble args.length n && Nat.ble mv.length 100)=true)
 (h:AWp P c (RetY P rs r hs' nw hs.length g' d') (entryY (itM P l A N stop) g n hs.length args (begL mv hs))):FY P f l A N stop g g' d' args hs mv r hs' nw:=by
 subst hn
 rw[Bool.and_eq_true]at hl
 exact fy_of hf hb hr (Nat.ble_eq.mp hl.1) (Nat.ble_eq.mp hl.2) h
def St.goneY(S:St)(dst:Option Tmp)(r:AV)(hE:List (Nat×Option AB))(ni:List Nat)(g':Nat)(d':Bool):St:={S.eff dst ⟨r,hE,ni⟩with gs:=g',dd:=d'}
theorem Rel0.goneY{b0:Base}{σ σ':Nat→Option Value}{S:St}{a:Act}{w w':World}{dst:Option Tmp}{g':Nat}{d':Bool}{r:AV}{v:Value}{hE:List (Nat×Option AB)}{ni:List Nat}(R:Rel0 b0 σ S a w)(hd:dOk S.n dst=true)(hdd:S.dd=false)(hV:∀k,b0.V false k→b0.V true k)
 (hVl:∀k,b0.V d' k→∃o:Loop,w.heap[k]?=some (.loop o)) (C:CoreR b0 σ S (b0.V d') hE ni r v w w' σ') (hJ:b0.J g' d' w'):Rel0 b0 σ' (S.goneY dst r hE ni g' d') (a.put dst v) w':=by
 have hVn:NoCells (b0.V d') w:=fun b hb cs t p h=>by
  obtain⟨o,ho⟩:=hVl b hb
  rw[ho]at h
  cases h
 have hext:=R.ext
 unfold wild at hext
 rw[hdd]at hext
 have hKc:Keep (fun b=>out b0 σ S.h b∨b0.V d' b) w w':=C.keep.less fun b hb=>hb.imp .inl id
 have sl:∀{t x},S.t t=some x→RepA σ' (out b0 σ' (look hE S.h)) w' x (a.tmps.getD t undef):=fun h=>((R.sl _ _ h).more hVn).keep hKc (fun b hb=>(C.outs b hb).imp .inl id) C.up
 have hdf:Marks b0.w.heap.size a.defers w':=by
  refine R.df.keep C.keep fun D hD=> ?_
  rcases hD with h|h
  ·exact R.hp.nodef h
  ·intro e
   obtain⟨o,ho⟩:=hVl D h
   rw[ho]at e
   cases e
 refine⟨by rw[defers_put];exact hdf,size_put.trans R.sz,?_,C.hp,fun t x ht=> ?_,fun id hid=> ?_,R.le,R.gd,hJ⟩
 ·refine(hext.less (O':=wild b0 (S.goneY dst r hE ni g' d')) fun b hb=> ?_).trans C.keep fun i h=> ?_
  ·refine hb.imp id fun h=> ?_
   show b0.V d' b
   cases d' with
   |false=>exact h
   |true=>exact hV b h
  ·rcases h with h|h
   ·exact(R.hp.new i h).imp id .inl
   ·exact .inr (.inr h)
 ·replace ht:(S.eff dst ⟨r,hE,ni⟩).t t=some x:=ht
  cases dst with
  |none=>exact sl ht
  | some d=>
    have hlt:d<a.tmps.size:=by rw[R.sz];exact Nat.blt_eq.mp hd
    rw[getD_put hlt]
    simp only[St.eff]at ht
    by_cases e:t=d
    ·subst e
     rw[put_same]at ht
     cases ht
     rw[if_pos rfl]
     exact C.rep
    ·rw[put_ne _ _ e]at ht
     rw[if_neg e]
     exact sl ht
 ·replace hid:(S.fr id && !(ni.any (Nat.beq id)))=true:=hid
  rw[Bool.and_eq_true,Bool.not_eq_true']at hid
  refine⟨?_,(R.fr id hid.1).2⟩
  cases hc:σ' id with
  |none=>rfl
  | some v=>
    rcases C.dom id (by simp[hc])with h1|h1
    ·exact absurd (R.fr id hid.1).1 h1
    ·have h2:ni.any (Nat.beq id)=true:=List.any_eq_true.2 ⟨id,h1,Nat.beq_refl id⟩
     rw[h2]at hid
     cases hid.2
theorem fPre_of{b0:Base}{σ:Nat→Option Value}{S:St}{a:Act}{w:World}{ids:List Nat}{g nb:Nat}{d':Bool}(R0:Rel0 b0 σ S a w)(hVL:VLoop b0)(hgs:S.gs=g)(hdd:S.dd=false)(hids:∀k,k<nb→ids[k]?=some (1000+k))(b1:Base)(e1:b1.w=w)(e2:∀k id,ids[k]?=some id→b1.fix (1000+k)=σ id)
 (e3:∀b,b1.X b∨b1.Y b→out b0 σ S.h b∨b0.V d' b) (e4:∀b,b1.Y b→own σ S.h b) (e5:∀b,out b0 σ S.h b→b1.X b∨b1.Y b):fPre b0 g nb b1:=by
 obtain⟨hV,hVJ⟩:=hVL
 have hext:=R0.ext
 unfold wild at hext
 rw[hdd]at hext
 have hgh:=R0.gh
 rw[hgs,hdd]at hgh
 refine⟨⟨by rw[e1];exact hgh,by rw[e1];exact hext,fun k hk=> ?_,fun k hk=> ?_,fun k hk=> ?_⟩,fun k hk=>(R0.hp.new k (e4 k hk)).symm⟩
 ·rw[e2 k _ (hids k hk)]
  cases hf:b0.fix (1000+k)with
  |none=>exact R0.hp.big _ (by omega) hf
  |some v=>exact(R0.hp.fx _ v hf).1
 ·rcases e3 k hk with (h|h)|h
  ·exact(R0.hp.new k h).elim (fun h=>.inr (.inr h)) fun h=>.inr (.inl h)
  ·exact .inl h
  ·exact .inl (b0.vx _ _ h)
 ·refine(e5 k (.inr (b0.vx _ _ hk))).resolve_right fun h=> ?_
  obtain⟨o,ho⟩:=hVJ _ _ _ hgh k hk
  exact R0.hp.noLoop ho (e4 k h)
section ops
variable{ops:Array Oper}{rest:List Oper}{S:St}{Q:St→Prop}{dst:Option Tmp}{ty:TypeId}{pos:String}{after:Array Edge}{guard:Option (Nat×Bool)}
theorem AText.callY{l N g g':Nat}{stop d':Bool}{A:RM}{f:FuncId}{fn:Func}{z:Operand}{cap:List V1}{xs:Array Operand}{ats:Array TypeId}{args args1:List V1}{r r':AV}(ids mids ni:List Nat)(bs mv hs' nw bs' nw':List AB)(hw:S.wants ops {dst,op:=.call {callee:=.value z,args:=xs,argTypes:=ats},type:=ty,pos,after,guard}=some true)(hd:dOk S.n dst=true)
 (hz:FnV S z f cap) (ha:S.opds xs.toList=some args) (hf:P.funcs[f]?=some fn) (hb:fn.body.isNone=false) (hnm:(fn.name== "runtime.NumGoroutine")=false)
 (hG:∀b,S.G b→itM P l A N stop b) (hgs:S.gs=g) (hdd:S.dd=false) (hids:∀k,k<A.nb→ids[k]?=some (1000+k)) (hL:LendOkM S ids mids ids bs) (hM:MovOk S mids mv)
 (hnd:(nodupB (ids++mids) && mids.all (fun m=>Nat.blt m 1000) && Nat.ble mv.length 100 && nodupB ni && ni.all (fun i=>S.fr i) && Nat.beq bs'.length bs.length && Nat.beq nw'.length ni.length)=true) (hla:LeL (LentV ids mids) (args++cap) args1) (hr:BackA ids ni r r') (hbk:BackBM ids ni hs' bs') (hnw:BackB ids ni nw nw')
 (hc:FY P f l A N stop g g' d' args1 bs mv r hs' nw)
 (hn:AText P ops rest (S.goneY dst r' (zipW ids bs'++(zipW ni nw'++dropL mids)) ni g' d') Q):AText P ops ({dst,op:=.call {callee:=.value z,args:=xs,argTypes:=ats},type:=ty,pos,after,guard}::rest) S Q:=⟨fun rd b0 a w K hR hK=>by
 obtain⟨σ,R0⟩:=hR
 have hGb:=hG b0 R0.gd
 have hVL:=hGb.2.1
 simp only[Bool.and_eq_true]at hnd
 obtain⟨⟨⟨⟨⟨⟨n1,n2⟩,n3⟩,n4⟩,n5⟩,n6⟩,n7⟩:=hnd
 unfold wpListIn
 rw[if_pos (wants_rep R0 hw)]
 refine⟨fun _ _=>trivial,?_⟩
 have hgh:=R0.gh
 rw[hgs,hdd]at hgh
 have hVt:∀k,b0.V d' k→b0.V true k:=fun k hk=>by
  cases d' with
  |false=>exact hVL.1 k hk
  |true=>exact hk
 have hVl:∀k,b0.V d' k→∃o:Loop,w.heap[k]?=some (.loop o):=fun k hk=>hVL.2 _ _ _ hgh k (hVt k hk)
 obtain⟨vs,e1,e2⟩:=hz.rep R0
 have:=GMc.core (ids:=ids) (mids:=mids) (ni:=ni) (Cl:=fCl P b0 f g' d') (fun vals w Q Q' hq h=>Calls.mono h fun e w' h=>⟨hq _ _ h.1,h.2⟩) (hc b0 hGb) hVl (fun b1 q1 q2 q3 q4 q5=>fPre_of R0 hVL hgs hdd hids b1 q1 q2 q3 q4 q5) R0 (RepL.append (opds_rep R0 ha) e2) hla hL hM n1 n2 (Nat.ble_eq.mp n3) n4 (fun id hid=>List.all_eq_true.1 n5 id hid)
 rw[Oper.semAt_eq _ _ _ (fun c hc=>by cases hc),run_callf f fn hf hb hnm #[] vs.toArray e1 w]
 rw[Oper.uponIn_enter]
 refine⟨fun hd=>(by cases hd),?_⟩
 rw[show(#[]++xs.map a.eval++vs.toArray:Array Value)=(xs.toList.map a.eval++vs).toArray from Array.ext' (by simp)]
 exact(wide_fnc rd).calls (Calls.mono this fun e w' ⟨⟨v,r0,hs0,nw0,g1,⟨h1,h2,h3⟩,g3⟩,hJ⟩=>by
  subst g1 h1 h2 h3
  obtain⟨σ',C⟩:=g3 r' bs' nw' hr hbk hnw (Nat.eq_of_beq_eq_true n6) (Nat.eq_of_beq_eq_true n7)
  exact hn.get rd b0 _ _ K ⟨σ',R0.goneY hd hdd hVL.1 hVl C hJ⟩ hK)⟩
end ops
end
end Go.AV
end
