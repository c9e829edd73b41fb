/- Parts of the proof: AMemA, AMemB, AMemC, ARange, ARange2. -/
import Derived.Test.YtpefnljgalpllaaGreatG05
import Derived.Laws.Cover3
import Derived.RangeFuncNested
set_option linter.unusedSimpArgs false
set_option linter.unusedVariables false
set_option maxHeartbeats 0
section
namespace Go.AV
open Go Go.RowKit Go.Flow
section
variable{P:Program}
def FzV(S:St)(rd:List Nat)(x y:V1):Prop:=
 (x=y∧zDz x=true)∨∃(id n sz:Nat) (ty:TypeId) (F G:Nat→Nat→CV),x=.c (.ow id)∧y=.c (.ls n sz G)∧id∈rd∧S.h id=some ⟨true,n,sz,ty,F⟩∧∀k,k<n→∀j,j<sz→F k j=G k j∧zK (F k j)=true
theorem zQ1{S S1:St}{rd:List Nat}{b0:zJ}{σ:Nat→Option Value}{a:Act}{w:World}(R:Rel0 b0 σ S1 a w)(hr:∀id∈rd,S1.h id=S.h id){x y:V1}{u:Value}(h:FzV S rd x y)(hu:RepV σ (out b0 σ S1.h) w x u):RepV (fun _=>none) (fun _=>False) w y u:=by
 rcases h with ⟨rfl,hi⟩|⟨id,n,sz,ty,F,G,rfl,rfl,hid,hh,hc⟩
 ·have h1:=zJR hi hu
  exact h1.keep ⟨rfl,rfl,rfl,Nat.le_refl _,fun _ _ _=>rfl⟩ (fun b hb=>hb.elim) fun _ _ h=>h
 ·exact⟨hu.1,zEd (fun k hk j hj=>(hc k hk j hj).1) (zG4 R.hp ((hr id hid).trans hh) (fun k hk j hj=>(hc k hk j hj).2) (fun b hb=>hb.elim) (fun v b _ _ h=>h) hu.2.1)⟩
theorem zMC{S S1:St}{rd:List Nat}{b0:zJ}{σ:Nat→Option Value}{a:Act}{w:World}(R:Rel0 b0 σ S1 a w)(hr:∀id∈rd,S1.h id=S.h id):∀{l m:List V1} {us:List Value},LeL (FzV S rd) l m→RepL (RepV σ (out b0 σ S1.h) w) l us→RepL (RepV (fun _=>none) (fun _=>False) w) m us
 | [],[],[],_,_=>trivial
 |x::l,y::m,u::us,h,hu=>⟨zQ1 R hr h.1 hu.1,zMC R hr h.2 hu.2⟩
 | [],_::_,_,h,_=>h.elim
 |_::_,[],_,h,_=>h.elim
 | [],[],_::_,_,h=>h.elim
 |_::_,_::_,[],_,h=>h.elim
section ops
variable{ops:Array Oper}{rest:List Oper}{acc:List (List Nat×List Nat)}{S:St}{Q:List (List Nat×List Nat)→St→Prop}{dst:Option Tmp}{ty:TypeId}{pos:String}{after:Array Edge}{guard:Option (Nat×Bool)}
section
variable{tab:List (TypeId×TD)}
theorem zOL(T:zAp P tab=true){id t el len:Nat}{d e:TD}{ps:Array (Nat×Operand)}{pv:List (Nat×List CV)}{l:List CV}(hw:S.wants ops {dst:=some id,op:=.buildSlice t len ps,type:=ty,pos,after,guard}=some true)(hd:dOk S.n (some id)=true)(hf:S.fr id=true)
 (ht:zD tab t=some d) (hk:d.k=.sl el) (he:zD tab el=some e) (ho:zEJ e.zero=true) (hp:zCf S ps.toList=some pv) (hpos:Nat.beq (len*e.size) 0=false) (hsm:Nat.ble (len*e.size) 65536=true)
 (hl:zCV (fun i=>some (i*e.size,e.size)) ((List.range (len*e.size)).map fun p=>.p (e.zero.getD (p%e.size) undef)) pv=some l)
 (hn:AList P ops rest (([id],[id,id])::acc) (S.eff (some id) ⟨.c (.ow id),[(id,some ⟨true,len,e.size,el,sF l e.size⟩)],[id]⟩) Q):AList P ops ({dst:=some id,op:=.buildSlice t len ps,type:=ty,pos,after,guard}::rest) acc S Q:=
 AList.new (B:=⟨true,len,e.size,el,sF l e.size⟩) [] hw hd hf (fun S1 h1 _ b0 σ a w R=>by
  obtain⟨inf,z,u,i1,i2,i3,i4,i5,i6,-⟩:=zA2 T he
  have hp1:zCf S1 ps.toList=some pv:=(zFW fun p hp=>h1 p.2 (by simp only[Op.operands];simp;exact⟨p.1,by simpa using hp⟩)).trans hp
  obtain⟨q1,q2⟩:=zFX R hp1
  have hne:¬len*e.size=0:=fun h=>by rw[h]at hpos;cases hpos
  have hzs:z.cells.size=e.size:=by rw[i5];simp[i6]
  have hep:0<e.size:=Nat.pos_of_ne_zero fun h=>hne (by rw[h,Nat.mul_zero])
  have hz0:RepL (RepC σ (out b0 σ S1.h) w) ((List.range (len*e.size)).map fun p=>CV.p (e.zero.getD (p%e.size) undef)) ((Array.range (len*inf.size)).map (z.cells[· % z.cells.size]!)).toList:=by
   rw[i2];refine zA5 (by simp) fun i x v g1 g2=> ?_
   have hi:i<len*e.size:=by have:=(List.getElem?_eq_some_iff.1 g1).1;simpa using this
   have hm:i%e.size<e.zero.length:=by rw[i6];exact Nat.mod_lt _ hep
   rw[List.getElem?_map,List.getElem?_range hi]at g1
   cases g1
   have:v=e.zero[i%e.size]:=by
    rw[Array.getElem?_toList]at g2;have hm2:i%z.cells.size<z.cells.size:=by rw[hzs];exact Nat.mod_lt _ hep
    simp[hi]at g2
    rw[←g2];have h3:i%z.cells.size=i%e.size:=by rw[hzs]
    simp only[h3]
    simp[i5,hm]
   subst this;show RepC _ _ _ (CV.p (e.zero.getD (i%e.size) undef)) _;rw[show e.zero.getD (i%e.size) undef=e.zero[i%e.size] by simp[List.getD,hm]]
   exact⟨List.all_eq_true.1 ho _ (List.getElem_mem hm),rfl⟩
  obtain⟨cs',r1,r2⟩:=zFH (R:=RepC σ (out b0 σ S1.h) w) (place':=fun i=>some (i*inf.size,inf.size)) (fun i=>by rw[i2]) hl hz0 q1 q2
  have hrun:=run_buildSlice (P:=P) w t el len (ps.map fun p=>(p.1,a.eval p.2)) cs' inf z (zB0 T ht hk) i1 i4 (by rw[i2];have:=Nat.ble_eq.mp hsm;omega) (by rw[i2];exact hne) (by simpa using r1)
  have hex:(execOp a.eval {dst:=some id,op:=.buildSlice t len ps,type:=ty,pos,after,guard}).run P w=.ok (.value (.slice (some ⟨w.heap.size,0,none⟩) len len)) (w.alloc (.cells cs' el)):=by
   simp only[execOp,hrun,Sem.run_bind,Result.andThen_ok,Sem.run_pure]
  have hcl:=r2.length;have hll:l.length=len*e.size:=by
   have :∀(pv:List (Nat×List CV)) (c l:List CV),zCV (fun i=>some (i*e.size,e.size)) c pv=some l→l.length=c.length:=by
    intro pv
    induction pv with
    |nil=>intro c l h;cases h;rfl
    | cons p pv ih=>
      intro c l h;unfold zCV at h
      simp only at h
      cases hb:(Nat.beq p.2.length e.size && Nat.ble (p.1*e.size+p.2.length) c.length)with
      |false=>rw[hb]at h;cases h
      | true=>
        rw[hb]at h;rw[ih _ _ h]
        simp only[Bool.and_eq_true]at hb
        have:=Nat.ble_eq.mp hb.2
        simp
        omega
   rw[this _ _ _ hl]
   simp
  refine⟨.slice (some ⟨w.heap.size,0,none⟩) len len,len,cs',hex,.inl ⟨rfl,rfl,Nat.le_refl _,?_⟩,by simpa[hll]using hcl,fun k hk j hj=> ?_,fun σ' O' w' h=>zFe h⟩
  ·have h1:=Nat.ble_eq.mp hsm
   have h2:=Nat.le_mul_of_pos_right len hep
   simp only[maxLen]
   omega
  ·have hlt:=zCT hk hj
   have e1:=List.getElem?_eq_getElem (l:=l) (i:=k*e.size+j) (by rw[hll];exact hlt)
   obtain⟨u,f1,f2⟩:=r2.get e1
   refine⟨u,by rw[←Array.getElem?_toList];exact f1,?_⟩
   have:sF l e.size k j=l[k*e.size+j]'(by rw[hll];exact hlt):=by unfold sF;rw[List.getD_eq_getElem?_getD,e1];rfl
   show RepC _ _ _ (sF l e.size k j) u;rw[this];exact f2) hn
end
end ops
theorem ACalls.conv{f:FuncId}{args args':List V1}{r:AV}(h:ACalls P f args r)(hc:∀(σ:Nat→Option Value) (O:Nat→Prop) (w:World) (vals:List Value),RepL (RepV σ O w) args' vals→RepL (RepV σ O w) args vals):ACalls P f args' r:=fun b0 vals h1 h2 h3 h4=>h b0 vals h1 h2 h3 (hc _ _ _ _ h4)
end
section
variable{P:Program}
section ops
variable{ops:Array Oper}{rest:List Oper}{acc:List (List Nat×List Nat)}{S:St}{Q:List (List Nat×List Nat)→St→Prop}{dst:Option Tmp}{ty xt yt:TypeId}{pos:String}{after:Array Edge}{guard:Option (Nat×Bool)}{x y:Operand}
theorem zBv{f:FuncId}{fn:Func}{z:Operand}{xs:Array Operand}{ats:Array TypeId}{args:List V1}{r:AV}{C:Nat→CV}(hw:S.wants ops {dst,op:=.call {callee:=.value z,args:=xs,argTypes:=ats},type:=ty,pos,after,guard}=some true)(hd:dOk S.n dst=true)
 (hz:S.opd z=some (.c (.fn f 0 C))) (ha:S.opds xs.toList=some args) (hi:args.all zDz=true) (hf:P.funcs[f]?=some fn) (hb:fn.body.isNone=false) (hnm:(fn.name== "runtime.NumGoroutine")=false) (hc:ACalls P f args r)
 (hn:AList P ops rest (([],[])::acc) (S.eff dst ⟨r,[],[]⟩) Q):AList P ops ({dst,op:=.call {callee:=.value z,args:=xs,argTypes:=ats},type:=ty,pos,after,guard}::rest) acc S Q:=
 AList.ext [] _ hw hd (fun S1 h1 _ b0 σ a w R=>by
  have h2:S1.opds xs.toList=some args:=(zCO fun x hx=>h1 x (by simp only[Op.operands,Call.operands];simp;exact .inr (by simpa using hx))).trans ha
  have h3:=zX R ((h1 z (by simp[Op.operands,Call.operands])).trans hz)
  obtain⟨_,vs,e1,e2,_⟩:=h3
  obtain rfl:vs= []:=List.length_eq_zero_iff.1 e2;have:=hc.at R (zBX R h2) hi;rw[zCa f fn hf hb hnm #[] #[] e1 w]
  simp only[Goes]
  rw[show(#[]++xs.map a.eval++ #[]:Array Value)=(xs.toList.map a.eval).toArray from Array.ext' (by simp)];exact this.mono fun e w' ⟨v,g1,g2,g3⟩=>⟨v,g1,g2,g3⟩) hn
theorem zCo{src t:TypeId}{k k':IntKind}{i j:Int}(hj:k'.wrap i=j)(hs:(P.underlying src).isSome=true)(ht:P.underlying t=some (.int k'))(hw:S.wants ops {dst,op:=.convert src t x,type:=ty,pos,after,guard}=some true)(hd:dOk S.n dst=true)(hx:S.opd x=some (.c (.p (.int k i))))
 (hn:AList P ops rest (([],[])::acc) (S.eff dst ⟨.c (.p (.int k' j)),[],[]⟩) Q):AList P ops ({dst,op:=.convert src t x,type:=ty,pos,after,guard}::rest) acc S Q:=
 AList.val [] _ hw hd (fun S1 g1 _ b0 σ a w R=>by
  have e1:=zA1 (zX R ((g1 x (by simp[Op.operands])).trans hx));have hk:P.intKind t=k':=by simp[Program.intKind,ht]
  refine⟨.int k' j,?_,zCi rfl⟩
  have h:=run_convert_int w src t k i hs (by rw[hk];exact ht)
  rw[hk,hj]at h
  simp only[execOp,e1,Sem.run_bind,h,Result.andThen_ok,Sem.run_pure]) hn
theorem zNX{t e:TypeId}{w:World}{ad:Addr}{n c:Nat}(h:P.underlying t=some (.slice e)):(Go.binOp .eql t (.slice (some ad) n c) (.slice none 0 0)).run P w=.ok (.bool false) w:=by
 simp[binOp,run_equal_slice_nil w t e (some ad) n c h]
theorem zBP{n sz:Nat}{F:Nat→Nat→CV}{e:TypeId}(hw:S.wants ops {dst,op:=.binOp .eql xt x (.const (.slice none 0 0)) yt,type:=ty,pos,after,guard}=some true)(hd:dOk S.n dst=true)(hx:S.opd x=some (.c (.ls n sz F)))(ht:P.underlying xt=some (.slice e))(h0:0<n)(h1:0<sz)
 (hn:AList P ops rest (([],[])::acc) (S.eff dst ⟨.c (.p (.bool false)),[],[]⟩) Q):AList P ops ({dst,op:=.binOp .eql xt x (.const (.slice none 0 0)) yt,type:=ty,pos,after,guard}::rest) acc S Q:=
 AList.val [] _ hw hd (fun S1 g1 _ b0 σ a w R=>by
  obtain⟨_,A,c,e1,_,hc⟩:=zX R ((g1 x (by simp[Op.operands])).trans hx)
  obtain⟨ad,v,rfl,_⟩:=hc 0 h0 0 h1
  refine⟨.bool false,?_,zCi rfl⟩
  have hr:=zNX (P:=P) (w:=w) (ad:=ad) (n:=n) (c:=c) ht;have e2:a.eval (.const (.slice none 0 0))=.slice none 0 0:=rfl;have hgd:(eqGuard .eql xt x (.const (.slice none 0 0)) (.slice (some ad) n c) (.slice none 0 0)).run P w=.ok () w:=by unfold eqGuard;rfl
  simp only[execOp,e1,e2,Sem.run_bind,hgd,hr,Result.andThen_ok,Sem.run_pure]) hn
end ops
end
section
variable{P:Program}
def zER(P:Program)(f:FuncId)(args:List V1)(r:Nat→AV)(B:AB):Prop:=
 ∀ (O:Nat→Prop) (w:World) (vals:List Value),(∀b,O b→b<w.heap.size)→RepL (RepV (fun _=>none) O w) args vals→
   Calls P f vals.toArray w fun e w'=>∃v rv,e=.returned v∧zGt w.heap.size O w' rv B∧(∀(σ:Nat→Option Value) (O':Nat→Prop) (w'':World) (id:Nat),σ id=some rv→RepA σ O' w'' (r id) v)∧Ext w w'
theorem Rel0.adoptR{b0:zJ}{σ:Nat→Option Value}{S:St}{a:Act}{w w':World}{dst:Option Tmp}(R:Rel0 b0 σ S a w)(hd:dOk S.n dst=true){id:Nat}(hf:S.fr id=true){B:AB}{rv v:Value}{r:Nat→AV}(hE:Ext w w')(hB:zGt w.heap.size (out b0 σ S.h) w' rv B)
 (hx:∀(σ':Nat→Option Value) (O':Nat→Prop) (w'':World) (id:Nat),σ' id=some rv→RepA σ' O' w'' (r id) v) (hpc:∀k,k<B.n→∀j,j<B.sz→isP (B.F k j)=true):Rel b0 (S.eff dst ⟨r id,[(id,some B)],[id]⟩) (a.put dst v) w':=by
 obtain⟨hno,hlow⟩:=R.fr id hf
 obtain⟨hrow,hB⟩:=hB
 have hsub:∀i u,σ i=some u→put σ id (some rv) i=some u:=fun i u h=>by
  rw[zAa _ _ (fun e=>by rw[e,hno]at h;cases h)];exact h
 have hb':∀b,zAj rv=some b→w.heap.size≤b:=fun b hb=>by
  rcases hB with ⟨rfl,_⟩|⟨b',cap,cs,h1,h2,_⟩
  ·cases hb
  ·rw[h1.blk]at hb;cases hb;exact h2
 have hout:∀b,out b0 (put σ id (some rv)) (put S.h id (some B)) b→out b0 σ S.h b∨w.heap.size≤b:=fun b hb=>by
  rcases hb with ⟨i,u,h1,h2,h3⟩|hb
  ·by_cases hi:i=id
   ·subst hi
    rw[zAk]at h2
    cases h2
    exact .inr (hb' b h3)
   ·rw[zAa _ _ hi]at h1 h2
    exact .inl (.inl ⟨i,u,h1,h2,h3⟩)
  ·exact .inl (.inr hb)
 obtain⟨H,_,hO⟩:=R.hp.put (id:=id) (B':=B) (v':=rv) (σ':=put σ id (some rv)) (h':=zAb [(id,some B)] S.h) (w':=w') hsub (zAk _ _ _) (zAk _ _ _) (fun i hi=>.inr (zAa _ _ hi)) (Keep.of_ext hE)
  (fun i u hi=>by
    have h1:=(b0.one i u hi).1;rw[zBW,zAa _ _ (by omega)]
    exact(R.hp.fx i u hi).2) (fun i hi=>zAa _ _ (by omega))
  (fun i u b hi h1 h2 h3=>by
    have h1':S.h i≠none:=by rw[zBW,zAa _ _ hi]at h1;exact h1
    exact Below.block hE b (R.hp.lt ⟨i,u,h1',h2,h3⟩))
  (by
    rcases hB with ⟨h1,h2⟩|⟨b,cap,cs,h1,h2,h3,h4,h5⟩
    ·exact .inl ⟨hrow,h1,h2⟩
    ·refine .inr (.inl ⟨b,cap,cs,h1,h3,h4,fun k hk j hj=> ?_⟩)
     obtain⟨u,e1,e2⟩:=h5 k hk j hj
     exact⟨u,e1,zCX (hpc k hk j hj) e2⟩)
  (fun b hb=>by
    refine⟨.inl (Nat.le_trans R.ext.size (hb' b hb)),.inr (hb' b hb),fun i u hi h1 h2 h3=> ?_⟩
    have h1':S.h i≠none:=by rw[zBW,zAa _ _ hi]at h1;exact h1
    have:=R.hp.lt ⟨i,u,h1',h2,h3⟩;have:=hb' b hb
    omega)
 exact⟨put σ id (some rv),R.step (e:=⟨r id,[(id,some B)],[id]⟩) hd hsub (Keep.of_ext hE) H hO (fun _=>hx _ _ _ _ (zAk _ _ _)) (fun i hi=>by
  by_cases e:i=id
  ·exact .inr (by simp[e])
  ·rw[zAa _ _ e]at hi;exact .inl hi)⟩
def zIc(S:St)(rs:List ResultVar)(B:AB):Prop:=
 ∃c id,rs= [.tmp c]∧S.t c=some (.c (.ow id))∧S.h id=some B∧B.row=true∧∀k,k<B.n→∀j,j<B.sz→zK (B.F k j)=true
def zPy(rs:List ResultVar)(B:AB):Exit→St→Prop
 | .ret,S=>∃S',Wk S S'∧zIc S' rs B
 | .normal,S=>∃S',Wk S S'∧zIc S' rs B
 |_,_=>False
theorem zRT{f:FuncId}{fn:Func}{c:Code}{rs:List ResultVar}{args:List V1}{B:AB}{n:Nat}(hf:P.funcs[f]?=some fn)(hb:fn.body=some c)(hr:fn.results=rs.toArray)(hn:fn.ntmps=n)(hl:Nat.ble args.length n=true)
 (h:AWp P c (zPy rs B) (zIK n args)):zER P f args (fun id=>.c (.ow id)) B:=fun O w vals hO hv=>by
 subst hn
 let b0:zJ:=⟨w,O,fun _=>False,fun _=>none,hO,fun b hb=>hb.elim,fun b _ h=>h,fun i v h=>(by cases h),fun _ _=>False,fun _ _ _=>True,none,fun _ _ h=>h.elim,fun _ _ _ _ _ _ _ _=>trivial⟩
 have hl':=hv.length;have hO':∀b,out b0 (fun _=>none) (zD []) b→O b:=fun b hb=>hb.elim (fun ⟨i,v,h1,_⟩=>absurd rfl h1) fun h=>h
 refine zDs (b0:=b0) hf hb rfl h ⟨fun _=>none,trivial,?_,⟨rfl,rfl,rfl,Nat.le_refl _,fun _ _ _=>rfl⟩,⟨fun id B hB=>(by cases hB),fun i j v1 v2 b hi=>absurd rfl hi,fun b ⟨i,v,hi,_⟩=>absurd rfl hi,fun i v hi=>(by cases hi),fun _ _ _=>rfl⟩,fun t x hx=> ?_,fun id hid=>⟨rfl,Nat.blt_eq.mp hid⟩,fun i v hi=>(by cases hi),rfl,trivial⟩ (fun e S hQ=>by cases e<;>first|exact .inl rfl|exact .inr rfl|exact hQ.elim) fun e a w' S0 hR0 hQ0 hd0=> ?_
 ·have:=Nat.ble_eq.mp hl
  simp[zBn,hl'];omega
 ·obtain⟨y,e1,rfl⟩:∃y,args[t]?=some y∧y.av=x:=by simpa[zBn,Option.map_eq_some_iff]using hx
  obtain⟨v,e2,e3⟩:=hv.get e1
  have ht:(vals.toArray++Array.replicate (fn.ntmps-vals.toArray.size) undef).getD t undef=v:=by
   have hlt:=(List.getElem?_eq_some_iff.1 e2).1;have:=(List.getElem?_eq_some_iff.1 e2).2
   simp[Array.getD_eq_getD_getElem?,Array.getElem?_append,hlt,this]
  rw[ht]
  exact(e3.keep ⟨rfl,rfl,rfl,Nat.le_refl _,fun _ _ _=>rfl⟩ (fun b hb=>.inl (hO' b hb)) fun _ _ h=>h).av
 ·have fin:∀S,Rel b0 S a w'→(∃S',Wk S S'∧zIc S' rs B)→∃v,(results fn a.tmps).run P w'=.ok v w'∧∃v' rv,Ending.returned v=.returned v'∧zGt w.heap.size O w' rv B∧(∀(σ:Nat→Option Value) (O':Nat→Prop) (w'':World) (id:Nat),σ id=some rv→RepA σ O' w'' (.c (.ow id)) v')∧Ext w w':=fun S hR ⟨S',hw,c',id,hrs,hc,hid,hrow,him⟩=>by
   obtain⟨σ,R⟩:=hw b0 a w' hR
   have hs:=R.sl c' _ hc
   obtain⟨rv,k1,k2⟩:=R.hp.blk id B hid
   have hsub:∀b,O b→out b0 σ S'.h b:=fun b hb=>.inr hb
   have e0:rv=a.tmps.getD c' undef:=by
    have:=hs.2.1;rw[k1]at this;exact Option.some.inj this
   subst e0
   refine⟨a.tmps.getD c' undef,?_,_,_,rfl,⟨hrow,?_⟩,fun σ' O' w'' id' hs'=>⟨hs.1,hs',hs.2.2⟩,?_⟩
   ·rw[zEF,hr,hrs]
    simp[zBH]
   ·rcases k2.row hrow with ⟨_,m1,m2⟩|⟨b',cap',cs',m1,m2,m3,m4⟩
    ·exact .inl ⟨m1,m2⟩
    ·refine .inr ⟨b',cap',cs',m1,?_,m2,m3,fun k hk j hj=> ?_⟩
     ·rcases R.hp.new b' ⟨id,_,by rw[hid];simp,k1,m1.blk⟩with h|h
      ·exact h
      ·exact h.elim
     ·obtain⟨u,n1,n2⟩:=m4 k hk j hj
      exact⟨u,n1,zBp (him k hk j hj) n2.1 ((zBe (him k hk j hj) n2).less hsub)⟩
   ·exact⟨R.ext.os,R.ext.tape,R.ext.output,R.ext.size,fun k hk=>R.ext.block k hk fun h=>h.elim (fun h=>h) fun h=>h⟩
  cases e with
  |ret=>exact fin S0 hR0 hQ0
  |normal=>exact fin S0 hR0 hQ0
  |_=>exact hQ0.elim
def zId(tab:List (TypeId×TD))(S:St)(rs:List ResultVar)(l1 l2:List CV)(pv:Value)(B:AB):Prop:=
 ∃ c t bid sz bt F id d e0,rs= [.cell c t,.tmp e0]∧S.t e0=some (.c (.p pv))∧S.t c=some (.c (.pt bid sz 0 0))∧S.h bid=some ⟨false,1,sz,bt,F⟩∧zD tab t=some d∧zDP d.k=true∧d.size=sz∧zAT (F 0) 0 d.size=l1++ .ow id::l2∧S.h id=some B∧B.row=true∧
   (∀k,k<B.n→∀j,j<B.sz→zK (B.F k j)=true)
def zPz(tab:List (TypeId×TD))(rs:List ResultVar)(l1 l2:List CV)(pv:Value)(B:AB):Exit→St→Prop
 | .ret,S=>∃S',Wk S S'∧zId tab S' rs l1 l2 pv B
 | .normal,S=>∃S',Wk S S'∧zId tab S' rs l1 l2 pv B
 |_,_=>False
theorem zRS{tab:List (TypeId×TD)}(T:zAp P tab=true){f:FuncId}{fn:Func}{c:Code}{rs:List ResultVar}{args:List V1}{l1 l2:List CV}{pv:Value}{B:AB}{n:Nat}(hf:P.funcs[f]?=some fn)(hb:fn.body=some c)(hr:fn.results=rs.toArray)(hn:fn.ntmps=n)(hl:Nat.ble args.length n=true)
 (hi:(l1.all isP && l2.all isP)=true) (h:AWp P c (zPz tab rs l1 l2 pv B) (zIK n args)):zER P f args (fun id=>.tu [.ag (l1++ .ow id::l2),.c (.p pv)]) B:=fun O w vals hO hv=>by
 subst hn;rw[Bool.and_eq_true]at hi
 let b0:zJ:=⟨w,O,fun _=>False,fun _=>none,hO,fun b hb=>hb.elim,fun b _ h=>h,fun i v h=>(by cases h),fun _ _=>False,fun _ _ _=>True,none,fun _ _ h=>h.elim,fun _ _ _ _ _ _ _ _=>trivial⟩
 have hl':=hv.length;have hO':∀b,out b0 (fun _=>none) (zD []) b→O b:=fun b hb=>hb.elim (fun ⟨i,v,h1,_⟩=>absurd rfl h1) fun h=>h
 refine zDs (b0:=b0) hf hb rfl h ⟨fun _=>none,trivial,?_,⟨rfl,rfl,rfl,Nat.le_refl _,fun _ _ _=>rfl⟩,⟨fun id B hB=>(by cases hB),fun i j v1 v2 b hi=>absurd rfl hi,fun b ⟨i,v,hi,_⟩=>absurd rfl hi,fun i v hi=>(by cases hi),fun _ _ _=>rfl⟩,fun t x hx=> ?_,fun id hid=>⟨rfl,Nat.blt_eq.mp hid⟩,fun i v hi=>(by cases hi),rfl,trivial⟩ (fun e S hQ=>by cases e<;>first|exact .inl rfl|exact .inr rfl|exact hQ.elim) fun e a w' S0 hR0 hQ0 hd0=> ?_
 ·have:=Nat.ble_eq.mp hl
  simp[zBn,hl'];omega
 ·obtain⟨y,e1,rfl⟩:∃y,args[t]?=some y∧y.av=x:=by simpa[zBn,Option.map_eq_some_iff]using hx
  obtain⟨v,e2,e3⟩:=hv.get e1
  have ht:(vals.toArray++Array.replicate (fn.ntmps-vals.toArray.size) undef).getD t undef=v:=by
   have hlt:=(List.getElem?_eq_some_iff.1 e2).1;have:=(List.getElem?_eq_some_iff.1 e2).2
   simp[Array.getD_eq_getD_getElem?,Array.getElem?_append,hlt,this]
  rw[ht]
  exact(e3.keep ⟨rfl,rfl,rfl,Nat.le_refl _,fun _ _ _=>rfl⟩ (fun b hb=>.inl (hO' b hb)) fun _ _ h=>h).av
 ·have fin:∀S,Rel b0 S a w'→(∃S',Wk S S'∧zId tab S' rs l1 l2 pv B)→∃v,(results fn a.tmps).run P w'=.ok v w'∧∃v' rv,Ending.returned v=.returned v'∧zGt w.heap.size O w' rv B∧(∀(σ:Nat→Option Value) (O':Nat→Prop) (w'':World) (id:Nat),σ id=some rv→RepA σ O' w'' (.tu [.ag (l1++ .ow id::l2),.c (.p pv)]) v')∧Ext w w':=fun S hR ⟨S',hw,c',t,bid,sz,bt,F,id,d,e0,hrs,he0,hc,hh,ht,hk,hz,hcl,hid,hrow,him⟩=>by
   obtain⟨σ,R⟩:=hw b0 a w' hR
   obtain⟨b,cap,cs,-,e1,-,e2,-,-,e3⟩:=zDK R (R.sl c' _ hc) hh rfl (by simp:0<1)
   obtain⟨ud,g1,g2⟩:=zGh T ht hk
   obtain⟨inf,z,u',i1,i2,i3,-⟩:=zA2 T ht
   simp only at e3
   have hcell:∀i,i<d.size→w'.cell? (Addr.add ⟨b,0*sz+0,none⟩ i)=some (cs.getD (0*sz+(0+i)) undef)∧RepC σ (out b0 σ S'.h) w' (F 0 (0+i)) (cs.getD (0*sz+(0+i)) undef):=fun i hi=>by
    obtain⟨u,f1,f2⟩:=e3 0 (by simp) (0+i) (by omega)
    rw[zCw,Nat.add_assoc,Array.getD_eq_getD_getElem?,f1]
    exact⟨(cell_of_row w' b _ cs bt (0,0) e2).trans f1,f2⟩
   have hrl:=zF0 (R:=RepC σ (out b0 σ S'.h) w') (F:=F 0) (j:=0) fun i hi=>(hcell i hi).2
   rw[hcl]at hrl;have hsub:∀b,O b→out b0 σ S'.h b:=fun b hb=>.inr hb
   obtain⟨rv,k1,k2⟩:=R.hp.blk id B hid
   have hs0:=R.sl e0 _ he0;have hs1:a.tmps.getD e0 undef=pv:=hs0.2;have hs2:pv.oneCell'=true:=hs1▸hs0.1
   refine⟨.tuple #[.agg ((List.range d.size).map fun i=>cs.getD (0*sz+(0+i)) undef).toArray,pv],?_,_,rv,rfl,⟨hrow,?_⟩,fun σ' O' w'' id' hs=>⟨[_,_],rfl,⟨_,rfl,zOg k1 hs hi.1 hi.2 hrl⟩,⟨hs2,rfl⟩,trivial⟩,?_⟩
   ·have:=zF4 (P:=P) g1 g2 i1 (w:=w') (a:=⟨b,0*sz+0,none⟩) (f:=fun i=>cs.getD (0*sz+(0+i)) undef) (fun i hi=>(hcell i (by omega)).1)
    rw[i2]at this;have hres:(zBH (.cell c' t) a.tmps).run P w'=.ok (.agg ((List.range d.size).map fun i=>cs.getD (0*sz+(0+i)) undef).toArray) w':=by
     simp only[zBH,e1,asAddr,Sem.run_bind,Sem.run_pure,Result.andThen_ok,this]
    have hres2:(zBH (.tmp e0) a.tmps).run P w'=.ok pv w':=by simp only[zBH,hs1,Sem.run_pure]
    rw[zEF,hr,hrs];generalize hf:(fun rv=>zBH rv a.tmps)=f;have hfr:zBH (.cell c' t) a.tmps=f (.cell c' t):=by rw[←hf]
    have hfr2:zBH (.tmp e0) a.tmps=f (.tmp e0):=by rw[←hf]
    rw[hfr]at hres;rw[hfr2]at hres2
    simp[hres,hres2]
   ·rcases k2.row hrow with ⟨_,m1,m2⟩|⟨b',cap',cs',m1,m2,m3,m4⟩
    ·exact .inl ⟨m1,m2⟩
    ·refine .inr ⟨b',cap',cs',m1,?_,m2,m3,fun k hk j hj=> ?_⟩
     ·rcases R.hp.new b' ⟨id,rv,by rw[hid];simp,k1,m1.blk⟩with h|h
      ·exact h
      ·exact h.elim
     ·obtain⟨u,n1,n2⟩:=m4 k hk j hj
      exact⟨u,n1,zBp (him k hk j hj) n2.1 ((zBe (him k hk j hj) n2).less hsub)⟩
   ·exact⟨R.ext.os,R.ext.tape,R.ext.output,R.ext.size,fun k hk=>R.ext.block k hk fun h=>h.elim (fun h=>h) fun h=>h⟩
  cases e with
  |ret=>exact fin S0 hR0 hQ0
  |normal=>exact fin S0 hR0 hQ0
  |_=>exact hQ0.elim

section ops
variable{ops:Array Oper}{rest:List Oper}{acc:List (List Nat×List Nat)}{S:St}{Q:List (List Nat×List Nat)→St→Prop}{ty:TypeId}{pos:String}{after:Array Edge}{guard:Option (Nat×Bool)}
theorem zHV{f:FuncId}{fn:Func}{id:Nat}{xs:Array Operand}{ats:Array TypeId}{args:List V1}{r:Nat→AV}{B:AB}(hw:S.wants ops {dst:=some id,op:=.call {callee:=.value (.func f),args:=xs,argTypes:=ats},type:=ty,pos,after,guard}=some true)(hd:dOk S.n (some id)=true)(hfr:S.fr id=true)
 (ha:S.opds xs.toList=some args) (hi:args.all zDz=true) (hf:P.funcs[f]?=some fn) (hb:fn.body.isNone=false) (hnm:(fn.name== "runtime.NumGoroutine")=false) (hc:zER P f args r B) (hpc:∀k,k<B.n→∀j,j<B.sz→isP (B.F k j)=true)
 (hn:AList P ops rest (([id],[id,id])::acc) (S.eff (some id) ⟨r id,[(id,some B)],[id]⟩) Q):AList P ops ({dst:=some id,op:=.call {callee:=.value (.func f),args:=xs,argTypes:=ats},type:=ty,pos,after,guard}::rest) acc S Q:=
 AList.cons [] ⟨r id,[(id,some B)],[id]⟩ (LStep.of hw fun S1 hA _ hal b0 σ a w R=>by
  have h2:S1.opds xs.toList=some args:=(zCO fun x hx=>hA.op x (by simp only[Op.operands,Call.operands];simp;exact .inr (by simpa using hx))).trans ha
  have hv:=zBX R h2;have:=hc (out b0 σ S1.h) w (xs.toList.map a.eval) (fun b hb=>zC2 R hb) (zA5 hv.length fun i x v h1 h2=>by
   obtain⟨v',e1,e2⟩:=hv.get h1
   rw[h2]at e1
   cases e1
   exact zJR (List.all_eq_true.1 hi _ (List.mem_of_getElem? h1)) e2)
  rw[zCa f fn hf hb hnm #[] #[] rfl w]
  simp only[Goes]
  rw[show(#[]++xs.map a.eval++ #[]:Array Value)=(xs.toList.map a.eval).toArray from Array.ext' (by simp)];exact this.mono fun e w' ⟨v,rv,g1,g2,g3,g4⟩=>⟨v,g1,R.adoptR (by rw[hA.n];exact hd) ((hal id (by simp)).trans hfr) g4 g2 g3 hpc⟩) hn
theorem zOI{f:FuncId}{fn:Func}{id:Nat}{xs:Array Operand}{ats:Array TypeId}{args zA8:List V1}{r:Nat→AV}{B:AB}(rd:List Nat)(hw:S.wants ops {dst:=some id,op:=.call {callee:=.value (.func f),args:=xs,argTypes:=ats},type:=ty,pos,after,guard}=some true)(hd:dOk S.n (some id)=true)(hfr:S.fr id=true)
 (ha:S.opds xs.toList=some args) (hf:P.funcs[f]?=some fn) (hb:fn.body.isNone=false) (hnm:(fn.name== "runtime.NumGoroutine")=false) (hc:zER P f zA8 r B) (hz:LeL (FzV S rd) args zA8) (hpc:∀k,k<B.n→∀j,j<B.sz→isP (B.F k j)=true)
 (hn:AList P ops rest ((rd++ [id],[id,id])::acc) (S.eff (some id) ⟨r id,[(id,some B)],[id]⟩) Q):AList P ops ({dst:=some id,op:=.call {callee:=.value (.func f),args:=xs,argTypes:=ats},type:=ty,pos,after,guard}::rest) acc S Q:=
 AList.cons rd ⟨r id,[(id,some B)],[id]⟩ (LStep.of hw fun S1 hA hr hal b0 σ a w R=>by
  have h2:S1.opds xs.toList=some args:=(zCO fun x hx=>hA.op x (by simp only[Op.operands,Call.operands];simp;exact .inr (by simpa using hx))).trans ha
  have:=hc (fun _=>False) w (xs.toList.map a.eval) (fun b hb=>hb.elim) (zMC R hr hz (zBX R h2));rw[zCa f fn hf hb hnm #[] #[] rfl w]
  simp only[Goes]
  rw[show(#[]++xs.map a.eval++ #[]:Array Value)=(xs.toList.map a.eval).toArray from Array.ext' (by simp)];refine this.mono fun e w' ⟨v,rv,g1,g2,g3,g4⟩=>⟨v,g1,R.adoptR (by rw[hA.n];exact hd) ((hal id (by simp)).trans hfr) g4 ⟨g2.1,?_⟩ g3 hpc⟩
  rcases g2.2 with h|⟨b,cap,cs,k1,k2,k3,k4,k5⟩
  ·exact .inl h
  ·refine .inr ⟨b,cap,cs,k1,k2,k3,k4,fun k hk j hj=> ?_⟩
   obtain⟨u,m1,m2⟩:=k5 k hk j hj
   exact⟨u,m1,zCX (hpc k hk j hj) m2⟩) hn
end ops
end
section
variable{P:Program}
abbrev yv(l:Nat):Value:=.func (.yield l) #[] #[]
def zAs(N:Nat)(stop:Bool)(i:Nat):Bool:= !(stop && Nat.beq (i+1) N)
def zIj(P:Program)(b0:zJ)(l:Nat)(xs:Nat→List Value)(N:Nat)(stop:Bool):Prop:=
 ∀i,i<N→∀W,b0.J i false W→Keep (b0.V false) b0.w W→YieldAt Fence.wide 0 P l (xs i).toArray W fun e W'=>e=.returned (.bool (zAs N stop i))∧b0.J (i+1) (!zAs N stop i) W'∧Keep (b0.V (!zAs N stop i)) W W'
def itG(P:Program)(l:Nat)(xs:Nat→List Value)(N:Nat)(stop:Bool)(b:zJ):Prop:=b.rd=none∧(∀k,¬b.Y k)∧(∀k,b.V false k→b.V true k)∧zIj P b l xs N stop
def St.yielded(S:St)(dst:Option Tmp)(g:Bool):St:=
 {S with t:=match dst with|some d=>put S.t d (some (.c (.p (.bool g))))|none=>S.t,gs:=S.gs+1,dd:= !g}
theorem Marks.keep2{n0:Nat}{O:Nat→Prop}{w w':World}(hK:Keep O w w')(hO:∀D,O D→D<n0):∀{ds:List Deferred},Marks n0 ds w→Marks n0 ds w'
 | [],_=>trivial
 |_::_,⟨⟨D,e1,e2,e3,e4⟩,h⟩=>⟨⟨D,e1,e2,(hK.block D (Array.getElem?_eq_some_iff.1 e3).1 fun ho=>by have:=hO D ho;omega).trans e3,e4⟩,h.keep2 hK hO⟩
theorem zRQ{b0:zJ}{σ:Nat→Option Value}{S:St}{a:Act}{w:World}(R:Rel0 b0 σ S a w){xs:List Operand}{vs:List Value}(h:S.opds xs=some (vs.map fun v=>.c (.p v))):xs.map a.eval=vs:=by
 have:=zBX R h;have key:∀(vs us:List Value),RepL (RepV σ (out b0 σ S.h) w) (vs.map fun v=>V1.c (.p v)) us→us=vs:=fun vs=>by
  induction vs with
  | nil=>intro us h;cases us with
    |nil=>rfl
    |cons u us=>exact h.elim
  | cons v vs ih=>intro us h;cases us with
    |nil=>exact h.elim
    |cons u us=>rw[ih us h.2,show u=v from h.1.2]
 exact key _ _ this
theorem Rel0.yield{b0:zJ}{σ:Nat→Option Value}{S:St}{a:Act}{w w':World}{dst:Option Tmp}{g:Bool}(R:Rel0 b0 σ S a w)(hd:dOk S.n dst=true)(hdd:S.dd=false)(hY:∀k,¬b0.Y k)(hV:∀k,b0.V false k→b0.V true k)
 (hK:Keep (b0.V (!g)) w w') (hJ:b0.J (S.gs+1) (!g) w'):Rel0 b0 σ (S.yielded dst g) (a.put dst (.bool g)) w':=by
 have hVlt:∀{d k},b0.V d k→k<b0.w.heap.size:=fun h=>b0.lt _ (b0.vx _ _ h)
 have hKo:Keep (out b0 σ S.h) w w':=hK.less fun k hk=>.inr (b0.vx _ _ hk)
 have hext:=R.ext;unfold zB1 at hext;rw[hdd]at hext
 refine⟨by rw[zDw];exact R.df.keep2 hK fun D h=>hVlt h,size_put.trans R.sz,?_,⟨fun id B hB=> ?_,R.hp.inj,R.hp.new,R.hp.fx,R.hp.big⟩,fun t x ht=> ?_,R.fr,R.le,R.gd,hJ⟩
 ·refine(hext.less fun b hb=> ?_).trans hK fun i h=>.inr (.inr h)
  rcases hb with hb|hb
  ·exact .inl hb
  ·refine .inr ?_
   show b0.V (!g) b
   cases g with
   |true=>exact hb
   |false=>exact hV b hb
 ·obtain⟨v,e1,e2⟩:=R.hp.blk id B hB
  refine⟨v,e1,e2.keep hKo (fun b hb=>.inl hb) (fun _ _ h=>h) fun b hb=> ?_⟩
  have ho:own σ S.h b:=⟨id,v,by rw[show S.h id=some B from hB];simp,e1,hb⟩
  refine hK.block b (R.hp.lt ho) fun h=> ?_
  rcases R.hp.new b ho with h1|h1
  ·have:=hVlt h;omega
  ·exact hY b h1
 ·have keep:∀{t x},S.t t=some x→RepA σ (out b0 σ S.h) w' x (a.tmps.getD t undef):=fun h=>(R.sl _ _ h).keep hKo (fun b hb=>.inl hb) fun _ _ h=>h
  cases dst with
  |none=>exact keep ht
  | some d=>
    have hlt:d<a.tmps.size:=by rw[R.sz];exact Nat.blt_eq.mp hd
    rw[zDy hlt]
    simp only[St.yielded]at ht
    by_cases e:t=d
    ·subst e
     rw[zAk]at ht
     cases ht
     rw[if_pos rfl]
     exact⟨rfl,rfl⟩
    ·rw[zAa _ _ e]at ht
     rw[if_neg e];exact keep ht
section ops
variable{ops:Array Oper}{rest:List Oper}{S:St}{Q:St→Prop}{dst:Option Tmp}{ty:TypeId}{pos:String}{after:Array Edge}{guard:Option (Nat×Bool)}
theorem AText.yield{l N i:Nat}{stop:Bool}{xs:Nat→List Value}{vs:List Value}{z:Operand}{avs:Array Operand}{ats:Array TypeId}(g:Bool)(hw:S.wants ops {dst,op:=.call {callee:=.value z,args:=avs,argTypes:=ats},type:=ty,pos,after,guard}=some true)(hd:dOk S.n dst=true)
 (hz:S.opd z=some (.c (.p (yv l)))) (ha:S.opds avs.toList=some (vs.map fun v=>.c (.p v))) (hG:∀b,S.G b→itG P l xs N stop b) (hgs:S.gs=i) (hdd:S.dd=false) (hi:i<N) (hx:xs i=vs) (hg:zAs N stop i=g)
 (hn:AText P ops rest (S.yielded dst g) Q):AText P ops ({dst,op:=.call {callee:=.value z,args:=avs,argTypes:=ats},type:=ty,pos,after,guard}::rest) S Q:=⟨fun rd b0 a w K hR hK=>by
 obtain⟨σ,R0⟩:=hR
 obtain⟨_,hY,hV,hYo⟩:=hG b0 R0.gd
 unfold wpListIn;rw[if_pos (zCm R0 hw)]
 refine⟨fun _ _=>trivial,?_⟩
 have hzv:a.eval z=yv l:=(zX R0 hz).2;have hav:=zRQ R0 ha;have hext:=R0.ext;unfold zB1 at hext;rw[hdd]at hext;have hgh:=R0.gh;rw[hgs,hdd]at hgh;subst hx hg
 obtain⟨fn,tmps,assign,body,e1,e2⟩:=hYo i hi w hgh (hext.less fun b hb=>hb.elim (fun h=>(hY b h).elim) fun h=>h)
 rw[Oper.semAt_eq _ _ _ (fun c hc=>by cases hc)];have hrun:(execOp a.eval {dst,op:=.call {callee:=.value z,args:=avs,argTypes:=ats},type:=ty,pos,after,guard}).run P w=.ok (.round l fn tmps assign body) w:=by
  have hm:avs.map a.eval=(xs i).toArray:=by rw[←hav];exact Array.ext' (by simp)
  simp only[execOp,resolve,hzv,hm,Deferred.ofValue,Sem.run_bind,Sem.run_pure,Result.andThen_ok]
  simp[invoke,e1]
 rw[hrun,Oper.uponIn_round]
 refine⟨fun hd=>(by cases hd),RoundIn.mono (F:=fnc rd) e2 fun e w' ⟨h1,h2,h3⟩=> ?_⟩
 subst h1;exact hn.get rd b0 _ _ K ⟨σ,R0.yield hd hdd hY hV h3 (by rw[hgs];exact h2)⟩ hK⟩
end ops

def zGr(P:Program)(gf:FuncId)(cs:List V1)(xs:Nat→List Value)(M:Nat):Prop:=
 ∀ (b0:zJ) (l N:Nat) (stop:Bool) (vals:List Value),b0.fix=(fun _=>none)→(∀k,¬b0.Y k)→b0.rd=none→(∀k,b0.V false k→b0.V true k)→(stop=true→0<N∧N≤M)→(stop=false→N=M)→
   zIj P b0 l xs N stop→b0.J 0 false b0.w→RepL (RepV (fun _=>none) b0.X b0.w) cs vals→
   Calls P gf (yv l::vals).toArray b0.w fun e w'=>(∃v,e=.returned v)∧b0.J N stop w'∧Keep (b0.V stop) b0.w w'
def zPv(N:Nat)(stop:Bool):Exit→St→Prop
 | .ret,S=>S.gs=N∧S.dd=stop
 | .normal,S=>S.gs=N∧S.dd=stop
 |_,_=>False
def zIL(G:zJ→Prop)(n:Nat)(args:List V1):St:={n,ln:=0,t:=fun i=>(args[i]?).map V1.av,h:=fun _=>none,fr:=fun id=>Nat.blt id 1000,G,gs:=0,dd:=false}
theorem zRl{gf:FuncId}{fn:Func}{c:Code}{cs:List V1}{xs:Nat→List Value}{M n:Nat}(hf:P.funcs[gf]?=some fn)(hb:fn.body=some c)(hr:fn.results= #[])(hn:fn.ntmps=n)(hl:Nat.ble (cs.length+1) n=true)
 (h:∀(l N:Nat) (stop:Bool),(stop=true→0<N∧N≤M)→(stop=false→N=M)→AWp P c (zPv N stop) (zIL (itG P l xs N stop) n (.c (.p (yv l))::cs))):zGr P gf cs xs M:=fun b0 l N stop vals hfix hY hrd hV h1 h2 hYo hJ hv=>by
 subst hn;have hl':=hv.length;have hX:∀b,out b0 (fun _=>none) (fun _=>none) b→b0.X b:=fun b hb=>hb.elim (fun ⟨i,v,h1,_⟩=>absurd rfl h1) fun h=>h
 refine zDs (b0:=b0) hf hb hrd (h l N stop h1 h2) ⟨fun _=>none,trivial,?_,⟨rfl,rfl,rfl,Nat.le_refl _,fun _ _ _=>rfl⟩,⟨fun id B hB=>(by cases hB),fun i j v1 v2 b hi=>absurd rfl hi,fun b ⟨i,v,hi,_⟩=>absurd rfl hi,fun i v hi=>(by rw[hfix]at hi;cases hi),fun _ _ _=>rfl⟩,fun t x hx=> ?_,fun id hid=>⟨rfl,Nat.blt_eq.mp hid⟩,fun i v hi=>(by rw[hfix]at hi;cases hi),⟨hrd,hY,hV,hYo⟩,hJ⟩ (fun e S hQ=>by cases e<;>first|exact .inl rfl|exact .inr rfl|exact hQ.elim) fun e a w S hR hQ hd=> ?_
 ·have:=Nat.ble_eq.mp hl
  simp[zIL,hl'];omega
 ·have hv':RepL (RepV (fun _=>none) b0.X b0.w) (.c (.p (yv l))::cs) (yv l::vals):=⟨⟨rfl,rfl⟩,hv⟩
  obtain⟨y,e1,rfl⟩:∃y,(V1.c (.p (yv l))::cs)[t]?=some y∧y.av=x:=by simpa[zIL,Option.map_eq_some_iff]using hx
  obtain⟨v,e2,e3⟩:=hv'.get e1
  have ht:((yv l::vals).toArray++Array.replicate (fn.ntmps-(yv l::vals).toArray.size) undef).getD t undef=v:=by
   have hlt:=(List.getElem?_eq_some_iff.1 e2).1;have:=(List.getElem?_eq_some_iff.1 e2).2
   simp only[Array.getD_eq_getD_getElem?,Array.getElem?_append,List.size_toArray,hlt,if_true,List.getElem?_toArray,e2,Option.getD_some]
  rw[ht]
  exact(e3.keep ⟨rfl,rfl,rfl,Nat.le_refl _,fun _ _ _=>rfl⟩ (fun b hb=>.inl (hX b hb)) fun _ _ h=>h).av
 ·obtain⟨g1,g2⟩:S.gs=N∧S.dd=stop:=by cases e<;>first|exact hQ|exact hQ.elim
  obtain⟨σ,R⟩:=hR
  have hext:=R.ext;have hgh:=R.gh;unfold zB1 at hext;rw[g1,g2]at hgh;rw[g2]at hext
  exact⟨.tuple #[],by rw[zEF,hr];simp,⟨_,rfl⟩,hgh,hext.less fun b hb=>hb.elim (fun h=>(hY b h).elim) fun h=>h⟩
end
section
variable{P:Program}
def zCy(ids:List Nat)(σ:Nat→Option Value)(i:Nat):Option Value:=if 1000≤i then (ids[i-1000]?).bind σ else none
def zB8(ids:List Nat)(σ:Nat→Option Value)(b:Nat):Prop:=∃(p id:Nat) (v:Value),ids[p]?=some id∧σ id=some v∧zAj v=some b
theorem zQW{ids:List Nat}{σ:Nat→Option Value}{i:Nat}{v:Value}(h:zCy ids σ i=some v):1000≤i∧∃id,ids[i-1000]?=some id∧σ id=some v:=by
 unfold zCy at h
 split at h
 ·rename_i h1
  obtain⟨id,e1,e2⟩:=Option.bind_eq_some_iff.1 h
  exact⟨h1,id,e1,e2⟩
 ·cases h
theorem zIR{ids:List Nat}{σ:Nat→Option Value}{p id:Nat}(h:ids[p]?=some id):zCy ids σ (1000+p)=σ id:=by
 unfold zCy;rw[if_pos (by omega),show 1000+p-1000=p by omega,h]
 rfl
theorem zNz:∀{ids:List Nat} {id:Nat},zU ids id=none→∀(p:Nat),ids[p]?≠some id
 | a ::l,id,h,p=>by
   unfold zU at h
   cases hb:Nat.beq a id with
   |true=>rw[hb]at h;cases h
   | false=>
     rw[hb]at h
     simp only[cond_false]at h
     cases hp:zU l id with
     |some i=>rw[hp]at h;cases h
     | none=>
       cases p with
       |zero=>intro e;cases e;rw[Nat.beq_refl]at hb;cases hb
       |succ p=>simpa using zNz hp p
 | [],_,_,p=>by simp
inductive ViewC(S:St)(ids:List Nat):CV→CV→Prop
 |imm (x:CV) (h:zK x=true):ViewC S ids x x
 |any (x:CV):ViewC S ids x .any
 |lend (id q sz k j:Nat) (h:(zU ids id).map (fun p=>1000+p)=some q):ViewC S ids (.pt id sz k j) (.pt q sz k j)
 |ro (id n sz k j:Nat) (row:Bool) (ty:TypeId) (F G:Nat→Nat→CV) (hr:zU ids id=none) (hh:S.h id=some ⟨row,n,sz,ty,F⟩) (hk:k<n) (hi:∀k,k<n→∀j,j<sz→zK (F k j)=true) (hc:∀k,k<n→∀j,j<sz→F k j=G k j):ViewC S ids (.pt id sz k j) (.pl n sz G k j)
 |roRow (id n sz:Nat) (ty:TypeId) (F G:Nat→Nat→CV) (hr:zU ids id=none) (hh:S.h id=some ⟨true,n,sz,ty,F⟩) (hi:∀k,k<n→∀j,j<sz→zK (F k j)=true) (hc:∀k,k<n→∀j,j<sz→F k j=G k j):ViewC S ids (.ow id) (.ls n sz G)
inductive ViewA(S:St)(ids:List Nat):AV→AV→Prop
 |c {x y:CV} (h:ViewC S ids x y):ViewA S ids (.c x) (.c y)
 |ag {l m:List CV} (h:LeL (ViewC S ids) l m):ViewA S ids (.ag l) (.ag m)
def zH1(S:St)(ids:List Nat):List (Nat×AV)→Prop
 | []=>True
 |p::r=>(∃y,S.t p.1=some y∧ViewA S ids y p.2)∧zH1 S ids r
theorem zK5{S:St}{ids:List Nat}:∀{ts:List (Nat×AV)},zH1 S ids ts→∀p∈ts,∃y,S.t p.1=some y∧ViewA S ids y p.2
 | _::_,h,p,hp=>by
   rcases List.mem_cons.1 hp with rfl|hp
   ·exact h.1
   ·exact zK5 h.2 p hp
theorem ViewC.rep{b0:zJ}{σ:Nat→Option Value}{S:St}{a:Act}{w:World}{ids:List Nat}{O':Nat→Prop}(R:Rel0 b0 σ S a w)(hp:∀(p id:Nat),ids[p]?=some id→S.h id≠none)(hO:∀b,O' b→zB8 ids σ b){x y:CV}(hv:ViewC S ids x y){u:Value}(hu:RepC σ (out b0 σ S.h) w x u):RepC (zCy ids σ) O' w y u:=by
 have hsub:∀b,O' b→out b0 σ S.h b:=fun b hb=>let ⟨p,id,v,h1,h2,h3⟩:=hO b hb;.inl ⟨id,v,hp p id h1,h2,h3⟩
 have hno:∀{id:Nat},zU ids id=none→S.h id≠none→∀v b,σ id=some v→zAj v=some b→¬O' b:=fun {id} hr hh v b h1 h2 hb=>by
  obtain⟨p,id',v',g1,g2,g3⟩:=hO b hb
  have:=R.hp.inj id id' v v' b hh (hp p id' g1) h1 g2 h2 g3;subst this;exact zNz hr p g1
 cases hv with
 |imm x h=>exact zBp h hu.1 ((zBe h hu).less hsub)
 |any x=>exact⟨hu.1,trivial⟩
 | lend id q sz k j h=>
   obtain⟨v,b,e1,e2,e3⟩:=hu.2
   obtain⟨p,h1,rfl⟩:=Option.map_eq_some_iff.1 h
   exact⟨hu.1,v,b,(zIR (zAR h1)).trans e1,e2,e3⟩
 |ro id n sz k j row ty F G hr hh hk hi hc=>exact⟨hu.1,zMB R.hp hh hk hi hc hsub (hno hr (by rw[hh];simp)) hu.2⟩
 |roRow id n sz ty F G hr hh hi hc=>exact⟨hu.1,zEd hc (zG4 R.hp hh hi hsub (hno hr (by rw[hh];simp)) hu.2.1)⟩
theorem ViewL.rep{b0:zJ}{σ:Nat→Option Value}{S:St}{a:Act}{w:World}{ids:List Nat}{O':Nat→Prop}(R:Rel0 b0 σ S a w)(hp:∀(p id:Nat),ids[p]?=some id→S.h id≠none)(hO:∀b,O' b→zB8 ids σ b):∀{l m:List CV} {us:List Value},LeL (ViewC S ids) l m→RepL (RepC σ (out b0 σ S.h) w) l us→RepL (RepC (zCy ids σ) O' w) m us
 | [],[],[],_,_=>trivial
 |x::l,y::m,u::us,h,hu=>⟨h.1.rep R hp hO hu.1,ViewL.rep R hp hO h.2 hu.2⟩
 | [],_::_,_,h,_=>h.elim
 |_::_,[],_,h,_=>h.elim
 | [],[],_::_,_,h=>h.elim
 |_::_,_::_,[],_,h=>h.elim
theorem ViewA.rep{b0:zJ}{σ:Nat→Option Value}{S:St}{a:Act}{w:World}{ids:List Nat}{O':Nat→Prop}(R:Rel0 b0 σ S a w)(hp:∀(p id:Nat),ids[p]?=some id→S.h id≠none)(hO:∀b,O' b→zB8 ids σ b){x y:AV}(hv:ViewA S ids x y){u:Value}(hu:RepA σ (out b0 σ S.h) w x u):RepA (zCy ids σ) O' w y u:=by
 cases hv with
 |c h=>exact h.rep R hp hO hu
 |ag h=>obtain⟨vs,e,hl⟩:=hu;exact⟨vs,e,ViewL.rep R hp hO h hl⟩
def PlainB(B:AB):Prop:=B.row=false∧∀k,k<B.n→∀j,j<B.sz→∃v,B.F k j=.p v
theorem PlainB.no_mo{B:AB}{b:Nat}{o:Obj}(hp:PlainB B)(m2:B.n=1)(m3:B.sz=1)(h:zBQ (B.F 0 0) b o):False:=by
 obtain⟨v,hv⟩:=hp.2 0 (by omega) 0 (by omega)
 rw[hv]at h
 rcases h.2 with h|⟨K,h,_⟩<;>cases h
theorem OBk.plain{σ σ':Nat→Option Value}{O O':Nat→Prop}{w w':World}{v:Value}{B:AB}(hp:PlainB B)(h:OBk σ O w v B)(hb:∀b cs,zAj v=some b→w.heap[b]?=some (.cells cs B.ty (0,0))→w'.heap[b]?=w.heap[b]?):OBk σ' O' w' v B:=by
 rcases h with ⟨h,_⟩|⟨b,cap,cs,h1,h2,h3,h4⟩|⟨_,m2,m3,_,_,_,_,m5⟩
 ·rw[hp.1]at h;cases h
 rotate_left
 ·exact(hp.no_mo m2 m3 m5).elim
 ·refine .inr (.inl ⟨b,cap,cs,h1,(hb b cs h1.blk h2).trans h2,h3,fun k hk j hj=> ?_⟩)
  obtain⟨u,e1,e2⟩:=h4 k hk j hj
  obtain⟨x,hx⟩:=hp.2 k hk j hj
  rw[hx]at e2⊢
  exact⟨u,e1,e2.1,e2.2⟩
def zD0:List Tmp→List Value→List (Nat×AV)
 |p::ps,v::vs=>(p,.c (.p v))::zD0 ps vs
 |_,_=> []
theorem zN3:∀{ps:List Tmp} {vs:List Value} {t:Nat} {x:AV},zAr ps=true→zD (zD0 ps vs) t=some x→∃v,v∈vs∧x=.c (.p v)∧∀(tm:Array Value),(∀p∈ps,p<tm.size)→((ps.zip vs).foldl (fun t (p,v)=>t.setIfInBounds p v) tm).getD t undef=v
 | p :: ps,v::vs,t,x,hn,h=>by
   unfold zAr at hn;rw[Bool.and_eq_true,Bool.not_eq_true']at hn;unfold zD0 zD at h
   cases hb:Nat.beq t p with
   | true =>
     have:=Nat.eq_of_beq_eq_true hb;subst this;rw[hb]at h
     cases h
     refine⟨v,by simp,rfl,fun tm hp=> ?_⟩
     have hlt:=hp t (by simp);have hout:∀(ps:List Tmp) (vs:List Value) (tm:Array Value),ps.any (Nat.beq t)=false→((ps.zip vs).foldl (fun t (p,v)=>t.setIfInBounds p v) tm).getD t undef=tm.getD t undef:=fun ps=>by
      induction ps with
      |nil=>intro vs tm _;rfl
      | cons q ps ih=>
        intro vs tm hq;rw[List.any_cons,Bool.or_eq_false_iff]at hq
        cases vs with
        |nil=>rfl
        | cons y vs=>
          show((ps.zip vs).foldl _ (tm.setIfInBounds q y)).getD t undef=_
          rw[ih vs _ hq.2];have hne:q≠t:=fun e=>by rw[e,Nat.beq_refl]at hq;cases hq.1
          simp[Array.getD_eq_getD_getElem?,Array.getElem?_setIfInBounds_ne hne]
     show((ps.zip vs).foldl _ (tm.setIfInBounds t v)).getD t undef=v
     rw[hout ps vs _ hn.1]
     simp[Array.getD_eq_getD_getElem?,hlt]
   | false=>
     rw[hb]at h
     obtain⟨u,e0,e1,e2⟩:=zN3 hn.2 h
     exact⟨u,List.mem_cons_of_mem _ e0,e1,fun tm hp=>e2 (tm.setIfInBounds p v) fun q hq=>by rw[Array.size_setIfInBounds];exact hp q (List.mem_cons_of_mem _ hq)⟩
 | [],_,_,_,_,h=>by cases h
 |_::_,[],_,_,_,h=>by cases h
theorem zN4:∀{ps:List Tmp} {vs:List Value} {t:Nat},vs.length=ps.length→zD (zD0 ps vs) t=none→∀(tm:Array Value),((ps.zip vs).foldl (fun t (p,v)=>t.setIfInBounds p v) tm).getD t undef=tm.getD t undef
 | p ::ps,v::vs,t,hl,h,tm=>by
   unfold zD0 zD at h
   cases hb:Nat.beq t p with
   |true=>rw[hb]at h;cases h
   | false=>
     rw[hb]at h
     show((ps.zip vs).foldl _ (tm.setIfInBounds p v)).getD t undef=_
     rw[zN4 (by simpa using hl) h];have hne:p≠t:=fun e=>by rw[e,Nat.beq_refl]at hb;cases hb
     simp[Array.getD_eq_getD_getElem?,Array.getElem?_setIfInBounds_ne hne]
 | [],_,_,_,_,_=>rfl
 |_::_,[],_,hl,_,_=>by simp at hl
theorem zJL:∀(l:List (Tmp×Value)) (tm:Array Value),(l.foldl (fun t (p,v)=>t.setIfInBounds p v) tm).size=tm.size
 | [],_=>rfl
 |(p,v)::l,tm=>by show(l.foldl _ (tm.setIfInBounds p v)).size=_;rw[zJL l];simp
def St.inBody(S:St):St:={S with dd:=true}
def zMT:Exit→Code
 | .exit id=>.exit id
 |_=>.ret
def zPt(g:Bool)(eS:Exit)(hs':List (Nat×AB))(e:Exit)(S:St):Prop:=
 (bif g then e=.normal else e=eS)∧∃S' loc,Wk S S'∧S'.h=zD (loc++hs')∧loc.all (fun p=>Nat.blt p.1 1000)=true
abbrev zNT(n ln:Nat)(ps:List Tmp)(vs:List Value)(ts:List (Nat×AV))(hs:List (Nat×AB)):St:=mkG (fun _=>True) 0 false n ln (zD0 ps vs++ts) hs []
theorem zQ5{tm:Array Value}{ps:List Tmp}{vs:List Value}{ts:List (Nat×AV)}{t:Nat}{x:AV}(hn:zAr ps=true)(hl:vs.length=ps.length)(hp:∀p∈ps,p<tm.size)(h:zD (zD0 ps vs++ts) t=some x):
 (∃v,v∈vs∧x=.c (.p v)∧((ps.zip vs).foldl (fun t (p,v)=>t.setIfInBounds p v) tm).getD t undef=v)∨(zD ts t=some x∧((ps.zip vs).foldl (fun t (p,v)=>t.setIfInBounds p v) tm).getD t undef=tm.getD t undef):=by
 rw[zCq]at h
 cases hc:zD (zD0 ps vs) t with
 | some y=>
   rw[hc]at h
   cases h
   obtain⟨v,e0,e1,e2⟩:=zN3 hn hc
   exact .inl ⟨v,e0,e1,e2 tm hp⟩
 | none=>
   rw[hc]at h;exact .inr ⟨h,zN4 hl hc tm⟩
theorem AWp.range{g:Operand}{ps:Array Tmp}{assign body:Code}{S:St}{Q:Exit→St→Prop}{gf m:Nat}{C:Nat→CV}{ys:List CV}{xs:Nat→List Value}{M N:Nat}{stop:Bool}{eS:Exit}{ids:List Nat}{bsI:Nat→List AB}{ts:List (Nat×AV)}
 (hg:S.opd g=some (.c (.fn gf m C))) (eg:∀args w,(callFunc gf args).run P w=.ok (.enter gf args) w) (hcs:LeL (ViewC S ids) ((List.range m).map C) ys) (hys:ys.all zK=true) (hit:zGr P gf (ys.map .c) xs M)
 (hrd:∀b,S.G b→b.rd=none) (hN1:stop=true→0<N∧N≤M) (hN2:stop=false→N=M) (hnd:zAr ids=true) (hL:LendOk S ids (bsI 0)) (hbx:∀i,i≤N→(bsI i).length=ids.length∧∀B∈bsI i,PlainB B)
 (hts:zH1 S ids ts) (hps:(zAr ps.toList && ps.toList.all (fun p=>Nat.blt p S.n))=true) (hxl:∀i,i<N→(xs i).length=ps.size∧∀v∈xs i,v.oneCell'=true) (hj:eS=.ret∨∃id,eS=.exit id)
 (hround:∀i,i<N→AWp P assign (zCl (fun S'=>S'.dd=false∧AWp P body (zPt (zAs N stop i) eS (zAi 0 (bsI (i+1)))) S'.inBody) (fun _ _=>False)) (zNT S.n ids.length ps.toList (xs i) ts (zAi 0 (bsI i))))
 (hq:Q (bif stop then eS else .normal) (S.eff none ⟨.tu [],zN ids (bsI N),[]⟩)):AWp P (.rangeFunc g ps assign body) Q S:=⟨fun b0 a w hR=>by
 obtain⟨σ,R⟩:=hR
 have hrd0:=hrd b0 R.gd;rw[hrd0];rw[Bool.and_eq_true]at hps
 obtain⟨hlen0,hat⟩:=zI5 hL
 have hidn:∀(p id:Nat),ids[p]?=some id→S.h id≠none:=fun p id hp=>by obtain⟨B,F,_,h2,_⟩:=hat p id hp;rw[h2];simp
 have hLo:∀b,zB8 ids σ b→own σ S.h b:=fun b ⟨p,id,v,h1,h2,h3⟩=>⟨id,v,hidn p id h1,h2,h3⟩
 have hLlt:∀b,zB8 ids σ b→b<w.heap.size:=fun b hb=>R.hp.lt (hLo b hb)
 obtain⟨hu1,vs,hgv,hvl,hvr⟩:=zX R hg
 obtain⟨fn0,rec,hrec⟩:∃(fn0:FuncId→LoopState→Option Code→Loop) (_:Unit),fn0=fun fn st pe=>{state:=st,pending:=pe,fn,tmps:=a.tmps,params:=ps,assign,body,defers:=w.heap.size}:=⟨_,(),rfl⟩
 refine wpIn_rangeFunc ?_;intro fn _
 obtain⟨W1,hW1⟩:∃W1,(w.alloc (.deferred (some []))).alloc (.loop (fn0 fn .ready none))=W1:=⟨_,rfl⟩
 have hW1s:W1.heap.size=w.heap.size+2:=by rw[←hW1];simp
 have hL1:W1.heap[w.heap.size+1]?=some (.loop (fn0 fn .ready none)):=by
  rw[←hW1];have:=World.alloc_heap_new (w.alloc (.deferred (some []))) (.loop (fn0 fn .ready none));rwa [World.size_alloc]at this
 have hK1:W1.heap[w.heap.size]?=some (.deferred (some [])):=by
  rw[←hW1];exact(Below.heap_alloc _ _ _ (by simp)).trans (World.alloc_heap_new w _)
 have hE1:Ext w W1:=by rw[←hW1];exact(((Ext.refl w).alloc _).alloc _)
 obtain⟨jc,hjc⟩:∃jc,zMT eS=jc:=⟨_,rfl⟩
 let J:Nat→Bool→World→Prop:=fun i d W=>(∀(p id:Nat) (B:AB),ids[p]?=some id→(bsI i)[p]?=some B→PlainB B→∃v,σ id=some v∧OBk (fun _=>none) (fun _=>False) W v B)∧(d=true→W.heap[w.heap.size+1]?=some (.loop (fn0 fn .done (some jc))))
 have hJ0:J 0 false W1:=by
  refine⟨fun p id B hp hB hpl=> ?_,fun h=>by cases h⟩
  obtain⟨B',F,h1,h2,_,h4⟩:=hat p id hp
  rw[hB]at h1
  cases h1
  obtain⟨v,e1,e2⟩:=R.hp.blk id _ h2
  refine⟨v,e1,?_⟩
  rcases e2 with ⟨h,_⟩|⟨b,cap,cs,g1,g2,g3,g4⟩|⟨_,m2,m3,_,_,_,_,m5⟩
  ·rw[hpl.1]at h;cases h
  rotate_left
  ·replace m2:B.n=1:=m2
   replace m3:B.sz=1:=m3
   replace m5:zBQ (F 0 0) _ _:=m5
   rw[(h4 0 (by omega) 0 (by omega)).1]at m5
   exact(hpl.no_mo m2 m3 m5).elim
  ·refine .inr<| .inl ⟨b,cap,cs,g1,Ext.block hE1 g2,g3,fun k hk j hj=> ?_⟩
   obtain⟨u,q1,q2⟩:=g4 k hk j hj
   obtain⟨x,hx⟩:=hpl.2 k hk j hj
   simp only[(h4 k hk j hj).1,hx]at q2
   rw[hx]
   exact⟨u,q1,q2.1,q2.2⟩
 have hJk:∀i d O A B,J i d A→Keep O A B→(∀k,O k→W1.heap.size≤k∨False)→J i d B:=fun i d O A B ⟨h1,h2⟩ hK hO=>by
  have hno:∀k,k<W1.heap.size→¬O k:=fun k hk ho=>(hO k ho).elim (fun h=>by omega) id
  refine⟨fun p id B' hp hB hpl=> ?_,fun hd=>(hK.block _ (Array.getElem?_eq_some_iff.1 (h2 hd)).1 (hno _ (by omega))).trans (h2 hd)⟩
  obtain⟨v,e1,e2⟩:=h1 p id B' hp hB hpl
  exact⟨v,e1,e2.plain hpl fun b cs hb hc=>hK.block b (Array.getElem?_eq_some_iff.1 hc).1 (hno b (by have:=hLlt b ⟨p,id,v,hp,e1,hb⟩;omega))⟩
 let V:Bool→Nat→Prop:=fun d b=>zB8 ids σ b∨(d=true∧b=w.heap.size+1)
 let bI:zJ:=⟨W1,fun b=>zB8 ids σ b∨b=w.heap.size+1,fun _=>False,fun _=>none,fun b hb=>hb.elim (fun h=>by have:=hLlt b h;omega) (fun h=>by omega),fun b hb=>hb.elim,fun b _ h=>h,fun i v h=>(by cases h),V,J,none,fun d b hb=>hb.imp id fun h=>h.2,hJk⟩
 refine⟨w.heap.size+1,[{target:=.collected w.heap.size,args:= #[]}],W1,{target:=.fn (.func gf) vs.toArray,args:= #[yv (w.heap.size+1)]},W1,gf,(yv (w.heap.size+1)::vs).toArray,W1,?_,?_,fun _ _=>trivial,?_,fun hd=>(by cases hd),?_⟩
 ·rw[←hW1,hrec];exact run_enterLoop_outer _ _ _ _ _
 ·simp only[resolve,hgv]
  simp[go_sem]
 ·simp[invoke,go_sem,eg]
 · -- what has been captured
   have hl:∀b,bI.X b→zB8 ids σ b∨w.heap.size≤b:=fun b hb=>hb.imp id fun h=>by omega
   have hcap:RepL (RepV (fun _=>none) bI.X W1) (ys.map .c) vs:=by
    have h1:RepL (RepC σ (out b0 σ S.h) w) ((List.range m).map C) vs:=zA5 (by simp[hvl]) fun i x v q1 q2=>by
     have hi:i<m:=by have:=(List.getElem?_eq_some_iff.1 q1).1;simpa using this
     rw[List.getElem?_map,List.getElem?_range hi]at q1
     cases q1
     obtain⟨v',e1,e2,e3⟩:=hvr i hi
     rw[q2]at e1
     cases e1
     refine⟨e2,?_⟩
     cases hC:C i<;>rw[hC]at e3<;>first|exact e3|exact e3.elim
    have h2:=ViewL.rep (O':=zB8 ids σ) R hidn (fun _ h=>h) hcs h1;refine zA5 (by simpa using h2.length) fun i x v q1 q2=> ?_
    obtain⟨y,e1,rfl⟩:∃y,ys[i]?=some y∧V1.c y=x:=by simpa[List.getElem?_map,Option.map_eq_some_iff]using q1
    obtain⟨v',e2,e3⟩:=h2.get e1
    rw[q2]at e2
    cases e2
    have him:=List.all_eq_true.1 hys _ (List.mem_of_getElem? e1);exact zBp him e3.1 ((zBe him e3).keep (Keep.of_ext hE1) hl)
   have hround':zIj P bI (w.heap.size+1) xs N stop:=fun i hi W hJW hKW=>by
    have hWs:w.heap.size+2≤W.heap.size:=by have:W1.heap.size≤W.heap.size:=hKW.size;omega
    have hlW:W.heap[w.heap.size+1]?=some (.loop (fn0 fn .ready none)):=(hKW.block _ (by show _<W1.heap.size;omega) fun h=>h.elim (fun h=>by have:=hLlt _ h;omega) fun h=>by cases h.1).trans hL1
    have hlW':W.heap[w.heap.size+1]?=some (.loop {state:=.ready,pending:=none,fn,tmps:=a.tmps,params:=ps,assign,body,defers:=w.heap.size}):=by rw[hlW,hrec]
    have hy:=run_yield (P:=P) (args:=(xs i).toArray) hlW' (by simpa using (hxl i hi).1)
    refine⟨fn,_,assign,body,hy,?_⟩
    have hfx:∀{i v},zCy ids σ i=some v→∃p id,i=1000+p∧ids[p]?=some id∧σ id=some v:=fun h=>by
     obtain⟨h1,id,h2,h3⟩:=zQW h
     exact⟨_,id,by omega,h2,h3⟩
    have hbl:∀{p id:Nat} {v:Value},ids[p]?=some id→σ id=some v→∃b,zAj v=some b:=fun {p id v} h1 h2=>by
     have hlt:=(List.getElem?_eq_some_iff.1 h1).1;have hB:=List.getElem?_eq_getElem (l:=bsI i) (i:=p) (by rw[(hbx i (by omega)).1];exact hlt)
     have hpl:=(hbx i (by omega)).2 _ (List.mem_of_getElem? hB)
     obtain⟨v',e1,e2⟩:=hJW.1 p id _ h1 hB hpl
     rw[h2]at e1
     cases e1
     rcases e2 with ⟨h,_⟩|⟨b,cap,cs,g1,_⟩|⟨_,_,_,b,_,rfl,_⟩
     ·rw[hpl.1]at h;cases h
     ·exact⟨b,g1.blk⟩
     ·exact⟨b,rfl⟩
    let bA:zJ:=⟨W,fun b=>b=w.heap.size+1,zB8 ids σ,zCy ids σ,fun b hb=>by omega,fun b hb=>by have:=hLlt b hb;omega,fun b hb h=>by have:=hLlt b h;omega,fun j v hj=>by
     obtain⟨p,id,rfl,h1,h2⟩:=hfx hj
     exact⟨by omega,hbl h1 h2⟩,fun _ b=>b=w.heap.size+1,fun _ d W=>W.heap[w.heap.size+1]?=some (.loop {fn0 fn .ready none with state:=if d then .busy else .ready}),some (w.heap.size+1),fun _ _ h=>h,fun _ d O A B h hK hO=>by
      refine(hK.block _ (Array.getElem?_eq_some_iff.1 h).1 fun ho=> ?_).trans h
      rcases hO _ ho with h|h
      ·have:W.heap.size≤w.heap.size+1:=h
       omega
      ·have:=hLlt _ h;omega⟩
    have hKw:Keep (zB8 ids σ) w W:=(Keep.of_ext (O:=zB8 ids σ) hE1).trans (hKW.less (O':=zB8 ids σ) fun b hb=>hb.elim id fun h=>by cases h.1) fun k hk=>.inr hk
    have hown:∀b,own (zCy ids σ) (zD (zAi 0 (bsI i))) b→zB8 ids σ b:=fun b ⟨j,v,_,h2,h3⟩=>by
     obtain⟨p,id,rfl,a1,a2⟩:=hfx h2
     exact⟨p,id,v,a1,a2,h3⟩
    have hH:HRel bA (zCy ids σ) (zD (zAi 0 (bsI i))) W:=by
     refine⟨fun j B hB=> ?_,fun j1 j2 v1 v2 b _ _ h1 h2 e1 e2=> ?_,fun b hb=>.inr (hown b hb),fun j v hj=>⟨hj,?_⟩,fun j _ hj=>hj⟩
     ·rw[zBV]at hB
      split at hB
      ·rename_i h1
       obtain⟨p,rfl⟩:∃p,j=1000+p:=⟨j-1000,by omega⟩
       rw[show 1000+p-(1000+0)=p by omega]at hB;have hlt:=(List.getElem?_eq_some_iff.1 hB).1;have hid:=List.getElem?_eq_getElem (l:=ids) (i:=p) (by rw[←(hbx i (by omega)).1];exact hlt)
       have hpl:=(hbx i (by omega)).2 _ (List.mem_of_getElem? hB)
       obtain⟨v,e1,e2⟩:=hJW.1 _ _ B hid hB hpl
       exact⟨v,(zIR hid).trans e1,e2.plain hpl fun _ _ _ _=>rfl⟩
      ·cases hB
     ·obtain⟨p1,id1,rfl,a1,a2⟩:=hfx h1
      obtain⟨p2,id2,rfl,c1,c2⟩:=hfx h2
      have:=R.hp.inj id1 id2 v1 v2 b (hidn _ _ a1) (hidn _ _ c1) a2 c2 e1 e2;subst this;rw[zDD hnd a1 c1]
     ·obtain⟨p,id,rfl,a1,a2⟩:=hfx hj
      rw[zBV,if_pos (by omega),show 1000+p-(1000+0)=p by omega];have:=(List.getElem?_eq_some_iff.1 a1).1;rw[List.getElem?_eq_getElem (by rw[(hbx i (by omega)).1];exact this)]
      simp
    have hfold:(ps.zip (xs i).toArray).foldl (fun tmps (t,a)=>tmps.setIfInBounds t a) a.tmps=(ps.toList.zip (xs i)).foldl (fun t (p,v)=>t.setIfInBounds p v) a.tmps:=by
     rw[←Array.foldl_toList]
     simp
    have hin:∀p∈ps.toList,p<a.tmps.size:=fun p hp=>by rw[R.sz];exact Nat.blt_eq.mp (List.all_eq_true.1 hps.2 p hp)
    have hRA:Rel bA (zNT S.n ids.length ps.toList (xs i) ts (zAi 0 (bsI i))) {tmps:=(ps.zip (xs i).toArray).foldl (fun tmps (t,a)=>tmps.setIfInBounds t a) a.tmps,defers:= []} W:=by
     refine⟨zCy ids σ,trivial,?_,⟨rfl,rfl,rfl,Nat.le_refl _,fun _ _ _=>rfl⟩,hH,fun t x hx=> ?_,fun id hid=> ?_,fun j v hj=> ?_,trivial,?_⟩
     ·show Array.size _=S.n
      rw[hfold,zJL];exact R.sz
     ·show RepA _ _ W x (Array.getD _ t undef)
      rw[hfold]
      rcases zQ5 (tm:=a.tmps) hps.1 (by simpa using (hxl i hi).1) hin hx with ⟨v,h0,rfl,h2⟩|⟨h1,h2⟩
      ·rw[h2]
       exact⟨(hxl i hi).2 v h0,rfl⟩
      ·rw[h2]
       obtain⟨y,q1,q2⟩:=zK5 hts _ (zBb h1)
       exact(q2.rep (O':=zB8 ids σ) R hidn (fun _ h=>h) (R.sl t y q1)).keep hKw (fun b hb=>hb.elim (fun h=>.inl (hown b h)) fun h=>.inr (by have:b=w.heap.size+1:=h;omega)) fun _ _ h=>h
     ·have h1:id<1000:=by
       have:(Nat.blt id 1000 && !(([]:List Nat).any (Nat.beq id)))=true:=hid;rw[Bool.and_eq_true]at this;exact Nat.blt_eq.mp this.1
      refine⟨?_,h1⟩
      unfold zCy;rw[if_neg (by omega)]
     ·obtain⟨p,id,rfl,a1,a2⟩:=hfx hj
      have:=(List.getElem?_eq_some_iff.1 a1).1;show _<1000+ids.length
      omega
     ·show W.heap[w.heap.size+1]?=_
      rw[hlW,hrec];rfl
    refine roundIn_of_wpIn (F:=Fence.wide) trivial ?_;refine wpIn_mono ((hround i hi).get bA _ W hRA) fun e a1 w1 ⟨S',⟨σ',R'⟩,h2⟩=> ?_
    cases e with
    | normal=>
      obtain⟨hdd,hB⟩:=h2
      have hl1:w1.heap[w.heap.size+1]?=some (.loop {fn0 fn .ready none with state:=if S'.dd then .busy else .ready}):=R'.gh;rw[hdd]at hl1;have hnc:∀cs t p,w1.heap[w.heap.size+1]?≠some (.cells cs t p):=fun cs t p h=>by rw[hl1]at h;cases h
      have hbr:=run_beginRound (P:=P) hl1 rfl
      refine⟨_,hbr,?_⟩
      obtain⟨w2,hw2⟩:∃w2,w1.putObj (w.heap.size+1) (.loop {{fn0 fn .ready none with state:=if false=true then .busy else .ready}with state:=.busy})=w2:=⟨_,rfl⟩
      rw[hw2];have hoth:∀k,k≠w.heap.size+1→w2.heap[k]?=w1.heap[k]?:=fun k hk=>by rw[←hw2];exact World.putObj_heap_other hk
      have hcc:∀a v,w1.cell? a=some v→w2.cell? a=some v:=by rw[←hw2];exact zFB hnc
      have hKp:Keep (fun k=>k=w.heap.size+1) w1 w2:=by rw[←hw2];exact⟨rfl,rfl,rfl,by rw[World.putObj_size];exact Nat.le_refl _,fun k _ hk=>World.putObj_heap_other hk⟩
      have R2:Rel0 bA σ' S'.inBody a1 w2:=⟨R'.df.keep2 hKp fun D h=>by show D<W.heap.size;omega,R'.sz,
       (R'.ext.less (O':=zB1 bA S'.inBody) fun b hb=>hb).trans hKp fun k hk=>.inr (.inr hk),R'.hp.turn hnc (fun o h=>by rw[hl1]at h;cases h;rfl) hoth hcc,fun t x hx=>(R'.sl t x hx).cells hcc,R'.fr,R'.le,R'.gd,by
         show w2.heap[w.heap.size+1]?=_;rw[←hw2,World.putObj_heap_same (Array.getElem?_eq_some_iff.1 hl1).1]
         rfl⟩
      refine wpIn_mono (hB.get bA a1 w2 ⟨σ',R2⟩) fun e a3 W3 ⟨S3,hR3,h3,S'',loc,hwk,hS'',hlc⟩=> ?_
      obtain⟨σ3,R3⟩:=hR3
      obtain⟨σ4,R4⟩:=hwk bA a3 W3 ⟨σ3,R3⟩
      have hl3:W3.heap[w.heap.size+1]?=some (.loop {fn0 fn .ready none with state:=if S3.dd then .busy else .ready}):=R3.gh;have fin:∀jump:Option Code,jump.isNone=zAs N stop i→(zAs N stop i=false→jump=some jc)→∃w',(Instr.endRound (w.heap.size+1) jump).run P W3=.ok (.bool (zAs N stop i)) w'∧J (i+1) (!zAs N stop i) w'∧Keep (V (!zAs N stop i)) W w':=fun jump hjn hjc'=>by
       obtain⟨o,hrun,ho⟩:∃o,(Instr.endRound (w.heap.size+1) jump).run P W3=.ok (.bool jump.isNone) (W3.putObj (w.heap.size+1) (.loop o))∧o=fn0 fn (if jump.isNone then .ready else .done) jump:=⟨_,run_endRound (P:=P) jump hl3,by rw[hrec]⟩
       refine⟨W3.putObj (w.heap.size+1) (.loop o),by rw[←hjn];exact hrun,⟨fun p id B hp hB hpl=> ?_,fun hd=> ?_⟩,⟨R4.ext.os,R4.ext.tape,R4.ext.output,by rw[World.putObj_size];exact R4.ext.size,fun k hk hno=> ?_⟩⟩
       ·have hBs:S''.h (1000+p)=some B:=by
         rw[hS'',zCq];have:zD loc (1000+p)=none:=by
          cases hc:zD loc (1000+p)with
          |none=>rfl
          | some B'=>
            have h2:=Nat.blt_eq.mp (List.all_eq_true.1 hlc _ (zBb hc))
            simp only at h2
            omega
         rw[this,zBV,if_pos (by omega),show 1000+p-(1000+0)=p by omega];exact hB
        obtain⟨v,e1,e2⟩:=R4.hp.blk _ _ hBs
        have hlt:=(List.getElem?_eq_some_iff.1 hp).1;have hB0:=List.getElem?_eq_getElem (l:=bsI i) (i:=p) (by rw[(hbx i (by omega)).1];exact hlt)
        obtain⟨v0,q1,_⟩:=hJW.1 p id _ hp hB0 ((hbx i (by omega)).2 _ (List.mem_of_getElem? hB0))
        have q2:=(R4.hp.fx (1000+p) v0 ((zIR hp).trans q1)).1;rw[e1]at q2
        cases q2
        refine⟨v,q1,e2.plain hpl fun b cs hb hc=>World.putObj_heap_other fun e=> ?_⟩
        rw[e,hl3]at hc
        cases hc
       ·have hg0:zAs N stop i=false:=by cases h:zAs N stop i with
         |false=>rfl
         |true=>rw[h]at hd;cases hd
        rw[World.putObj_heap_same (Array.getElem?_eq_some_iff.1 hl3).1,ho,hjc' hg0]
        rfl
       ·by_cases e:k=w.heap.size+1
        ·subst e
         rw[World.putObj_heap_same (Array.getElem?_eq_some_iff.1 hl3).1,hlW]
         cases hg0:zAs N stop i with
         |false=>rw[hg0]at hno;exact absurd (.inr ⟨rfl,rfl⟩) hno
         | true=>
           rw[hg0]at hjn
           cases jump with
           |none=>rw[ho];rfl
           |some c=>cases hjn
        ·exact(World.putObj_heap_other e).trans (R4.ext.block k hk fun h=>h.elim (fun h=>hno (.inl h)) e)
      have fin':∀jump:Option Code,jump.isNone=zAs N stop i→(zAs N stop i=false→jump=some jc)→∃v w',(Instr.endRound (w.heap.size+1) jump).run P W3=.ok v w'∧Ending.returned v=.returned (.bool (zAs N stop i))∧J (i+1) (!zAs N stop i) w'∧Keep (V (!zAs N stop i)) W w':=fun jump a b=>let ⟨w',q1,q2,q3⟩:=fin jump a b;⟨_,w',q1,rfl,q2,q3⟩
      cases hg0:zAs N stop i with
      | true=>
        rw[hg0]at h3;obtain rfl:e=.normal:=h3;have:=fin' none (by rw[hg0];rfl) (by rw[hg0];intro h;cases h)
        rw[hg0]at this;exact this
      | false=>
        rw[hg0]at h3;obtain rfl:e=eS:=h3;have:=fin' (some jc) (by rw[hg0];rfl) (fun _=>rfl)
        rw[hg0]at this
        rcases hj with rfl|⟨id,rfl⟩
        ·subst hjc;exact this
        ·subst hjc;exact this
    |_=>exact h2.elim
   have hVm:∀k,bI.V false k→bI.V true k:=fun k hk=>hk.elim .inl fun h=>absurd h.1 (by decide)
   have hcall:Calls P gf (yv (w.heap.size+1)::vs).toArray W1 fun e w'=>(∃v,e=.returned v)∧J N stop w'∧Keep (V stop) W1 w':=hit bI (w.heap.size+1) N stop vs rfl (fun _ h=>h) rfl hVm hN1 hN2 hround' hJ0 hcap
   refine(zD5 none).calls (Calls.mono hcall ?_)
   rintro e w3 ⟨⟨v,rfl⟩,hJ3,hK3⟩
   have hK3':Keep (V stop) W1 w3:=hK3;have hs3:w.heap.size+2≤w3.heap.size:=by have:=hK3'.size;omega
   obtain⟨st,pe,hl3,hne,hpe⟩:∃st pe,w3.heap[w.heap.size+1]?=some (.loop (fn0 fn st pe))∧st≠ .busy∧pe=bif stop then some jc else none:=by
    cases stop with
    |false=>exact⟨_,_,(hK3'.block _ (by omega) fun h=>h.elim (fun h=>by have:=hLlt _ h;omega) fun h=>by cases h.1).trans hL1,by simp,rfl⟩
    |true=>exact⟨_,_,hJ3.2 rfl,by simp,rfl⟩
   have hend:=run_endLoop (P:=P) hl3 (by rw[hrec];exact hne)
   obtain⟨w4,hw4⟩:∃w4,w3.putObj (w.heap.size+1) (.loop {fn0 fn st pe with state:=.exhausted})=w4:=⟨_,rfl⟩
   rw[hw4,show(fn0 fn st pe).pending=pe by rw[hrec]]at hend;have hoth:∀k,k≠w.heap.size+1→w4.heap[k]?=w3.heap[k]?:=fun k hk=>by rw[←hw4];exact World.putObj_heap_other hk
   have hK4:Keep (zB8 ids σ) w w4:=by
    refine⟨?_,?_,?_,?_,fun k hk hno=> ?_⟩
    ·rw[←hw4];exact hK3'.os.trans hE1.os
    ·rw[←hw4];exact hK3'.tape.trans hE1.tape
    ·rw[←hw4];exact hK3'.output.trans hE1.output
    ·rw[←hw4,World.putObj_size];omega
    ·exact(hoth k (by omega)).trans ((hK3'.block k (by omega) fun h=>h.elim hno fun h=>by omega).trans (Below.block hE1 k hk))
   have hfin:Rel b0 (S.eff none ⟨.tu [],zN ids (bsI N),[]⟩) {a with defers:={target:=.collected w.heap.size,args:= #[]}::a.defers} w4:=by
    have hbl:ids.length=(bsI N).length:=(hbx N (Nat.le_refl _)).1.symm;have hlook:∀i,(∃(k id:Nat) (B:AB),ids[k]?=some id∧(bsI N)[k]?=some B∧i=id∧zAb (zN ids (bsI N)) S.h i=some B)∨(i∉ids∧zAb (zN ids (bsI N)) S.h i=S.h i):=fun i=>by
     by_cases hm:i∈ids
     ·obtain⟨k,hk,e1⟩:=List.getElem_of_mem hm
      have e2:ids[k]?=some i:=by rw[List.getElem?_eq_getElem hk,e1]
      have e3:=List.getElem?_eq_getElem (l:=bsI N) (i:=k) (by omega);exact .inl ⟨k,i,_,e2,e3,rfl,zDo hbl hnd k _ _ S.h e2 e3⟩
     ·exact .inr ⟨hm,zDH i S.h hm⟩
    have hne:∀i,zAb (zN ids (bsI N)) S.h i≠none↔S.h i≠none:=fun i=>by
     rcases hlook i with ⟨k,id,B,e1,_,rfl,e3⟩|⟨_,e⟩
     ·rw[e3];exact⟨fun _=>hidn k _ e1,fun _=>by simp⟩
     ·rw[e]
    have hown:∀b,own σ (zAb (zN ids (bsI N)) S.h) b↔own σ S.h b:=fun b=>⟨fun ⟨i,v,h1,h2,h3⟩=>⟨i,v,(hne i).1 h1,h2,h3⟩,fun ⟨i,v,h1,h2,h3⟩=>⟨i,v,(hne i).2 h1,h2,h3⟩⟩
    have hout:∀b,out b0 σ (zAb (zN ids (bsI N)) S.h) b↔out b0 σ S.h b:=fun b=>or_congr (hown b) Iff.rfl
    have hKo:Keep (out b0 σ S.h) w w4:=hK4.less fun b hb=>.inl (hLo b hb)
    refine⟨σ,⟨⟨_,rfl,R.ext.size,?_,fun d' hd'=> ?_⟩,R.df.keep hK4 fun D hD=>R.hp.nodef (hLo D hD)⟩,R.sz,(R.ext.trans hK4 fun k hk=>(R.hp.new k (hLo k hk)).imp id .inl),⟨fun i B hB=> ?_,fun i j v1 v2 b hi hj=>R.hp.inj i j v1 v2 b ((hne i).1 hi) ((hne j).1 hj),fun b hb=>R.hp.new b ((hown b).1 hb),fun i v hi=>⟨(R.hp.fx i v hi).1,(hne i).2 (R.hp.fx i v hi).2⟩,R.hp.big⟩,fun t x hx=> ?_,fun id hid=> ?_,R.le,R.gd,b0.jk _ _ _ _ _ R.gh hK4 fun k hk=>R.hp.new k (hLo k hk)⟩
    ·rw[hoth _ (by omega)]
     exact(hK3'.block _ (by omega) fun h=>h.elim (fun h=>by have:=hLlt _ h;omega) fun h=>by omega).trans hK1
    ·have:∀{ds:List Deferred},Marks b0.w.heap.size ds w→∀d∈ds,d≠{target:=.collected w.heap.size,args:= #[]}:=fun {ds}=>by
      induction ds with
      |nil=>intro _ d hd;simp at hd
      | cons d0 ds ih=>
        rintro⟨⟨D,e1,_,e3,_⟩,hm⟩ d hd
        rcases List.mem_cons.1 hd with rfl|hd
        ·rw[e1]
         intro e;have h1:=(Array.getElem?_eq_some_iff.1 e3).1;have:D=w.heap.size:=by simpa using e
         omega
        ·exact ih hm d hd
     exact this R.df d' hd'
    ·have hB':zAb (zN ids (bsI N)) S.h i=some B:=hB
     rcases hlook i with ⟨k,id,B',e1,e2,rfl,e3⟩|⟨hm,e⟩
     ·rw[e3]at hB'
      cases hB'
      have hpl:=(hbx N (Nat.le_refl _)).2 _ (List.mem_of_getElem? e2)
      obtain⟨v,q1,q2⟩:=hJ3.1 k _ _ e1 e2 hpl
      refine⟨v,q1,q2.plain hpl fun b cs hb hc=>hoth b fun e=> ?_⟩
      rw[e,hl3]at hc
      cases hc
     ·rw[e]at hB'
      obtain⟨v,q1,q2⟩:=R.hp.blk i B hB'
      refine⟨v,q1,q2.keep hKo (fun b hb=>.inl ((hout b).1 hb)) (fun _ _ h=>h) fun b hb=>hK4.block b (R.hp.lt ⟨i,v,by rw[hB'];simp,q1,hb⟩) fun ⟨p,id,v',g1,g2,g3⟩=> ?_⟩
      have:=R.hp.inj i id v v' b (by rw[hB'];simp) (hidn p id g1) q1 g2 hb g3
      subst this;exact hm (List.mem_of_getElem? g1)
    ·exact(R.sl t x hx).keep hKo (fun b hb=>.inl ((hout b).1 hb)) fun _ _ h=>h
    ·have:(S.fr id && !(([]:List Nat).any (Nat.beq id)))=true:=hid
     rw[Bool.and_eq_true]at this;exact R.fr id this.1
   refine⟨pe,w4,hend,?_⟩
   subst hpe
   cases stop with
   |false=>exact⟨_,hfin,hq⟩
   | true=>
     subst hjc
     rcases hj with rfl|⟨id,rfl⟩
     ·exact wpIn_ret ⟨_,hfin,hq⟩
     ·exact wpIn_exit ⟨_,hfin,hq⟩⟩
end
end Go.AV
end
