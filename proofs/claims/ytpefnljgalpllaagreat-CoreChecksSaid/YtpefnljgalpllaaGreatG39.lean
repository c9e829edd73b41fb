/- Parts of the proof: ADie, ATail. -/
import Derived.Test.YtpefnljgalpllaaGreatG36
set_option linter.unusedSimpArgs false
set_option linter.unusedVariables false
set_option maxHeartbeats 0
section
namespace Go.AV
open Go Go.RowKit Go.Flow
section
variable{P:Program}{ch:List PanicEntry}
abbrev zL4(P:Program)(ch:List PanicEntry)(f:FuncId):List Value→World→(Ending→World→Prop)→Prop:=fun vals w Q=>Calls P f vals.toArray w fun e w'=>e=.panicked ch∧Q (.returned (.tuple #[])) w'
abbrev zEO(P:Program)(ch:List PanicEntry)(f:FuncId)(args:List V1)(hs mv hs' nw:List AB):Prop:=GMc (zL4 P ch f) (fun _=>True) (fun _=>False) args hs mv (GEq (.tu []) hs' nw)
structure ADie(P:Program)(ops:Array Oper)(l:List Oper)(S:St)(Q:Exit→St→Prop):Prop where
 get:∀rd b0 a w (K:Exit→Act→World→Prop),Rel b0 S a w→(∀e S a w,Rel b0 S a w→Q e S→K e a w)→wpListIn (fnc rd) 0 P ops K l a w
variable{ops:Array Oper}{rest:List Oper}{S:St}{Q:Exit→St→Prop}{dst:Option Tmp}{ty:TypeId}{pos:String}{after:Array Edge}{guard:Option (Nat×Bool)}
theorem ADie.split{l:List Oper}(n:Nat)(h:AList P ops (l.take n) [] S (fun _ S1=>ADie P ops (l.drop n) S1 Q)):ADie P ops l S Q:=⟨fun rd b0 a w K hR hK=>by
 have key:∀(l1:List Oper) (l2:List Oper) (acc:List (List Nat×List Nat)) (S:St) (a:Act) (w:World),zC9 P ops l1 acc S (fun _ S1=>ADie P ops l2 S1 Q)→Rel b0 S a w→wpListIn (fnc rd) 0 P ops K (l1++l2) a w:=by
  intro l1 l2
  induction l1 with
  |nil=>exact fun acc S a w h hR=>h.get rd b0 a w K hR hK
  | cons o l1 ih=>
    rintro acc S a w ⟨rd',e,hs,hk⟩ hR
    rw[List.cons_append];unfold wpListIn
    rcases hs.at hR with ⟨hw,hg⟩|⟨hw,hR'⟩
    ·rw[if_pos hw]
     exact hg.wpIn fun v w' hR'=>ih _ _ _ _ hk hR'
    ·rw[if_neg (by simp[hw])]
     exact⟨fun _ _=>trivial,ih _ _ _ _ hk hR'⟩
 have:=key (l.take n) (l.drop n) [] S a w h.get hR
 rwa [List.take_append_drop]at this⟩
theorem AWp.die{id:Nat}{l:List Oper}(h:ADie P l.toArray l S Q):AWp P (.region id l.toArray false) Q S:=⟨fun b0 a w hR=>
 wpIn_region_lit (h.get _ b0 a w _ hR fun e S a w h1 h2=>⟨S,h1,h2⟩)⟩
theorem ADie.call{f:FuncId}{fn:Func}{z:Operand}{cap:List V1}{xs:Array Operand}{ats:Array TypeId}{args zA8:List V1}(ids mids ni:List Nat)(bs mv hs' nw bs' nw':List AB)
 (hw:S.wants ops {dst,op:=.call {callee:=.value z,args:=xs,argTypes:=ats},type:=ty,pos,after,guard}=some true)
 (hz:FnV S z f cap) (ha:S.opds xs.toList=some args) (hf:P.funcs[f]?=some fn) (hb:fn.body.isNone=false) (hnm:(fn.name== "runtime.NumGoroutine")=false) (hL:zBh S ids mids ids bs) (hM:zCE S mids mv)
 (hnd:(zAr (ids++mids) && mids.all (fun m=>Nat.blt m 1000) && Nat.ble mv.length 100 && zAr ni && ni.all (fun i=>S.fr i) && Nat.beq bs'.length bs.length && Nat.beq nw'.length ni.length)=true) (hla:LeL (zCc ids mids) (args++cap) zA8) (hbk:zAV ids ni hs' bs') (hnw:BackB ids ni nw nw')
 (hc:zEO P ch f zA8 bs mv hs' nw)
 (hn:Q (.panic ch) (S.eff none ⟨.tu [],zN ids bs'++(zN ni nw'++zA3 mids),ni⟩)):ADie P ops ({dst,op:=.call {callee:=.value z,args:=xs,argTypes:=ats},type:=ty,pos,after,guard}::rest) S Q:=⟨fun rd b0 a w K hR hK=>by
 obtain⟨σ,R0⟩:=hR
 unfold wpListIn;rw[if_pos (zCm R0 hw)]
 refine⟨fun _ _=>trivial,?_⟩
 simp only[Bool.and_eq_true]at hnd
 obtain⟨⟨⟨⟨⟨⟨n1,n2⟩,n3⟩,n4⟩,n5⟩,n6⟩,n7⟩:=hnd
 obtain⟨vs,e1,e2⟩:=hz.rep R0
 have:=zEQ (Cl:=zL4 P ch f) (Pre:=fun _=>True) (V:=fun _=>False) (ids:=ids) (mids:=mids) (ni:=ni) (fun vals w Q Q' hq h=>Calls.mono h fun e w' h=>⟨h.1,hq _ _ h.2⟩) hc (fun _ h=>h.elim) (fun _ _ _ _ _ _=>trivial) R0 (RepL.append (zBX R0 ha) e2) hla hL hM n1 n2 (Nat.ble_eq.mp n3) n4 (fun id hid=>List.all_eq_true.1 n5 id hid);rw[Oper.semAt_eq _ _ _ (fun c hc=>by cases hc),zCa f fn hf hb hnm #[] vs.toArray e1 w];rw[Oper.uponIn_enter]
 refine⟨fun hd=>(by cases hd),?_⟩
 rw[show(#[]++xs.map a.eval++vs.toArray:Array Value)=(xs.toList.map a.eval++vs).toArray from Array.ext' (by simp)]
 exact(zD5 rd).calls (Calls.mono this fun e w' ⟨k0,v,r,hs0,nw0,g1,⟨h1,h2,h3⟩,g3⟩=>by
  subst k0 h1 h2 h3
  obtain⟨σ',C⟩:=g3 (.tu []) bs' nw' (.tu (l:= []) (m:= []) trivial) hbk hnw (Nat.eq_of_beq_eq_true n6) (Nat.eq_of_beq_eq_true n7)
  exact hK _ _ _ _ ⟨σ',R0.step (d:=none) (u:=undef) (e:=⟨.tu [],zN ids bs'++(zN ni nw'++zA3 mids),ni⟩) rfl C.up (C.keep.less fun b hb=>hb.elim id fun h=>h.elim) C.hp C.outs (fun h=>absurd rfl h) C.dom⟩ hn)⟩
theorem ADie.panic{x:Operand}{v:Value}(hw:S.wants ops {dst,op:=.panic x,type:=ty,pos,after,guard}=some true)(hx:S.opd x=some (.c (.p v)))(hv:∀w,(Instr.panic v).run P w=.halt (.panic v) w)
 (hn:Q (.panic [{v,recovered:=false}]) S):ADie P ops ({dst,op:=.panic x,type:=ty,pos,after,guard}::rest) S Q:=⟨fun rd b0 a w K hR hK=>by
 obtain⟨σ,R0⟩:=hR
 unfold wpListIn;rw[if_pos (zCm R0 hw)]
 refine⟨fun _ _=>trivial,?_⟩
 have e1:a.eval x=v:=(zX R0 hx).2;rw[Oper.semAt_eq _ _ _ (fun c hc=>by cases hc)];have hrun:(execOp a.eval {dst,op:=.panic x,type:=ty,pos,after,guard}).run P w=.halt (.panic v) w:=by
  simp only[execOp,e1]
  rw[Sem.run_bind,hv w];rfl
 rw[hrun,Oper.uponIn_panic];exact hK _ _ _ _ ⟨σ,R0⟩ hn⟩
def zKM(hs' nw:List AB)(m:Nat)(S:St):Prop:=∃S' loc,(Nat.beq hs'.length m && Nat.ble nw.length 100)=true∧Wk S S'∧S'.h=zD (loc++zAv nw hs')∧loc.all (fun p=>Nat.blt p.1 900)=true
def zIg(ch:List PanicEntry)(hs' nw:List AB)(m:Nat):Exit→St→Prop
 | .panic c,S=>c=ch∧zKM hs' nw m S
 |_,_=>False
theorem zMW{b0:zJ}{S:St}{fn:Func}{R:Ending→World→Prop}(fin:∀a w,Rel b0 S a w→R (.panicked ch) w):
 ∀(ds:List Deferred) (a:Act) (w:World),a.defers=ds→Rel b0 S a w→LeavesInM Fence.wide 0 P fn a.tmps R ds (.panicking ch) w
 | [],a,w,hd,hR=>fin a w hR
 | d::ds,a,w,hd,⟨σ,hR⟩=>by
   obtain⟨D,e1,e2,e3⟩:=hR.unmark (P:=P) hd
   refine⟨by simp,.inl ⟨D,_,by rw[e1],e2,?_⟩⟩
   exact zMW fin ds {a with defers:=ds} _ rfl ⟨σ,e3⟩
theorem zQ3{f:FuncId}{fn:Func}{c:Code}{args:List V1}{hs mv hs' nw:List AB}(hf:P.funcs[f]?=some fn)(hb:fn.body=some c)(hn:args.length≤fn.ntmps)(hmv:mv.length≤100)
 (h:AWp P c (zIg ch hs' nw hs.length) (zBT fn.ntmps hs.length args (zAW mv hs))):zEO P ch f args hs mv hs' nw:=fun b0 σ0 vals _ _ hH hle hσ hY hv=>by
 have hl:=hv.length
 let b2:zJ:=⟨b0.w,b0.X,b0.Y,b0.fix,b0.lt,b0.ylt,b0.dis,b0.one,fun _ _=>False,fun _ _ _=>True,none,fun _ _ h=>h.elim,fun _ _ _ _ _ _ _ _=>trivial⟩
 have up:∀{σ h w},HRel b0 σ h w→HRel b2 σ h w:=fun H=>⟨H.blk,H.inj,H.new,H.fx,H.big⟩
 have dn:∀{σ h w},HRel b2 σ h w→HRel b0 σ h w:=fun H=>⟨H.blk,H.inj,H.new,H.fx,H.big⟩
 have hR:Rel b2 (zBT fn.ntmps hs.length args (zAW mv hs)) {tmps:=vals.toArray++Array.replicate (fn.ntmps-vals.toArray.size) undef,defers:= []} b0.w:=by
  refine⟨σ0,trivial,?_,⟨rfl,rfl,rfl,Nat.le_refl _,fun _ _ _=>rfl⟩,up hH,fun t x hx=> ?_,fun id hid=> ?_,fun i v hi=>hle i v hi,rfl,trivial⟩
  ·simp[zBT,hl];omega
  ·obtain⟨y,e1,rfl⟩:∃y,args[t]?=some y∧y.av=x:=by simpa[zBT,Option.map_eq_some_iff]using hx
   obtain⟨v,e2,e3⟩:=hv.get e1
   have ht:(vals.toArray++Array.replicate (fn.ntmps-vals.toArray.size) undef).getD t undef=v:=by
    have hlt:=(List.getElem?_eq_some_iff.1 e2).1;have:=(List.getElem?_eq_some_iff.1 e2).2
    simp[Array.getD_eq_getD_getElem?,Array.getElem?_append,hlt,this]
   rw[ht];exact e3.av
  ·have hid':(Nat.blt id 800||(Nat.ble 900 id && Nat.blt id 1000))=true:=hid
   have h1:id<800∨(900≤id∧id<1000):=by
    rw[Bool.or_eq_true,Bool.and_eq_true]at hid';exact hid'.imp (fun h=>Nat.blt_eq.mp h) fun h=>⟨Nat.ble_eq.mp h.1,Nat.blt_eq.mp h.2⟩
   refine⟨?_,by omega⟩
   cases hc:σ0 id with
   |none=>rfl
   | some v=>
     rcases hσ id v hc with h|h
     ·have:=(b0.one id v h).1;omega
     ·omega
 refine callsIn_wide.1 (callsIn_of_wp_marks (F:=Fence.wide) (n:=0) hf hb trivial (wpIn_mono (h.get b2 _ _ hR) fun e a w ⟨S,hR,hQ⟩=> ?_))
 obtain⟨c',rfl,rfl,S',loc,hln,hw,hS',hlc⟩:∃c',e=.panic c'∧c'=ch∧zKM hs' nw hs.length S:=by cases e<;>first|exact⟨_,rfl,hQ⟩|exact hQ.elim
 refine zMW (S:=S) (fun a w hR=> ?_) a.defers a w rfl hR;rw[Bool.and_eq_true]at hln;have hl1:=Nat.eq_of_beq_eq_true hln.1;have hl2:=Nat.ble_eq.mp hln.2
 obtain⟨σ,R1⟩:=hw b2 a w hR
 have hH0:=R1.hp;rw[hS']at hH0;have low:∀i B,zD loc i=some B→i<900:=fun i B h=>Nat.blt_eq.mp (List.all_eq_true.1 hlc _ (zBb h))
 have high:∀i,zD (zAv nw hs') i≠none→900≤i:=fun i hi=>by
  rw[zBr hl2]at hi;by_cases h1:1000≤i
  ·omega
  ·rw[if_neg h1]at hi
   by_cases h2:900≤i
   ·exact h2
   ·rw[if_neg h2]at hi;exact absurd rfl hi
 obtain⟨H',hsub⟩:=hH0.part (h':=zD (zAv nw hs')) (fun i hi=>by
  rw[zCq]
  cases hc:zD loc i with
  |none=>rfl
  | some B=>
    have:=low i B hc;have:=high i hi
    omega) (fun i v hi=>by
  have h0:=(b0.one i v hi).1;have h3:=hle i v hi;rw[zBr hl2,if_pos h0,List.getElem?_eq_getElem (by omega)]
  simp)
 exact⟨rfl,.tuple #[],σ,.tu [],hs',nw,rfl,⟨rfl,rfl,rfl⟩,hl1,hl2,dn H',⟨[],rfl,trivial⟩,R1.ext.less fun b hb=>.inl (hb.elim id fun h=>h.elim)⟩
theorem zIX{f:FuncId}{fn:Func}{c:Code}{args:List V1}{hs mv hs' nw:List AB}{n:Nat}(hf:P.funcs[f]?=some fn)(hb:fn.body=some c)(hn:fn.ntmps=n)(hl:(Nat.ble args.length n && Nat.ble mv.length 100)=true)
 (h:AWp P c (zIg ch hs' nw hs.length) (zBT n hs.length args (zAW mv hs))):zEO P ch f args hs mv hs' nw:=by
 subst hn;rw[Bool.and_eq_true]at hl;exact zQ3 hf hb (Nat.ble_eq.mp hl.1) (Nat.ble_eq.mp hl.2) h
end
section
variable{P:Program}
theorem zPQ{r0:Option Nat}{ops:Array Oper}{Q:Exit→Act→World→Prop}{w0:zJ}{rd:Nat→List Nat}{e:Nat→Eff}{S0:St}{M:List Nat}{fps:List (List Nat×List Nat)}(G:zH8 ops M fps)
 {n:Nat} (hn:n≤ops.size) (hall:∀t,n≤t→t<ops.size→∀i,i<n→Nat.testBit (M.getD t 0) i=true)
 (hfp:∀i,i<n→fps.getD i ([],[])=zB7 rd e i) (hst:∀i o,i<n→ops[i]?=some o→LStep P ops o (rd i) (e i) (zV ops e S0 (fun _=>true) i))
 (hT:∀(l:Array Bool) a w,l.size=ops.size→(∀k,k<ops.size→l.getD k false=Nat.blt k n)→Rel w0 (zV ops e S0 (fun _=>true) n) a w→wpAnyIn (fnc r0) 0 P .any ops Q (ops.size-n) l a w):
 ∀ (fuel:Nat) (l:Array Bool) (a:Act) (w:World),l.size=ops.size→zCd l n=fuel→(∀j o,ops[j]?=some o→l.getD j false=true→∀d∈zCK o,l.getD d false=true)→(∀k,n≤k→l.getD k false=false)→
   Rel w0 (zV ops e S0 (fun k=>l.getD k false) ops.size) a w→wpAnyIn (fnc r0) 0 P .any ops Q (fuel+(ops.size-n)) l a w:=by
 have tf:∀(l:Array Bool) (k:Nat),l.size=ops.size→k<ops.size→l.getD k true=l.getD k false:=fun l k hl hk=>by
  simp[Array.getD_eq_getD_getElem?,hl,hk]
 have full:∀l:Array Bool,l.size=ops.size→Region.ready .any ops l= []→∀k,k<ops.size→l.getD k true=true:=fun l hl h0 k=>by
  induction k using Nat.strongRecOn with
  | _ k ih=>
    intro hk
    cases hc:l.getD k true with
    |true=>rfl
    | false=>
      have ho:ops[k]?=some ops[k]:=Array.getElem?_eq_getElem hk;have:k∈Region.ready .any ops l:=mem_ready.2 ⟨hc,ops[k],ho,fun ed he hb=>by
       have hd:=G.lt k _ ho ed.on (mem_deps.2 ⟨ed,he,hb,rfl⟩);rw[←tf l ed.on hl (by omega)];exact ih ed.on hd (by omega)⟩
      rw[h0]at this
      cases this
 intro fuel
 induction fuel with
 | zero=>
   intro l a w hl hc _ ht hR;have hL:=zGP n hc;have hk:∀k,k<ops.size→l.getD k false=Nat.blt k n:=fun k hk=>by
    by_cases h:k<n
    ·rw[Nat.blt_eq.mpr h,←tf l k hl hk];exact hL k h
    ·rw[ht k (by omega),show Nat.blt k n=false from Bool.eq_false_iff.2 fun h'=>h (Nat.blt_eq.mp h')]
   rw[Nat.zero_add];refine hT l a w hl hk ?_;rw[zG0 (L':=fun k=>Nat.blt k n) _ hk,zG1 _ hn]at hR;exact hR
 | succ fuel ih=>
   intro l a w hl hc hcl htl hR;rw[show fuel+1+(ops.size-n)=(fuel+(ops.size-n))+1 by omega]
   refine⟨fun h0=> ?_,fun i hi=> ?_⟩
   ·have:=zGO n (fun k hk=>full l hl h0 k (by omega))
    omega
   ·have htail:=hall
    obtain⟨hun,o,ho,hall⟩:=mem_ready.1 hi
    have hin:i<ops.size:=(Array.getElem?_eq_some_iff.1 ho).1;have hLi:l.getD i false=false:=by rw[←tf l i hl hin];exact hun
    have clM:∀j,j<ops.size→∀i,Nat.testBit (M.getD j 0) i=true→l.getD j false=true→l.getD i false=true:=fun j=>by
     induction j using Nat.strongRecOn with
     | _ j ihj=>
       intro hj i hb hlj;have hoj:ops[j]?=some ops[j]:=Array.getElem?_eq_getElem hj
       obtain⟨d,hd,h⟩:=G.up j _ hoj i hb
       have hld:=hcl j _ hoj hlj d hd
       rcases h with rfl|h
       ·exact hld
       ·have:=G.lt j _ hoj d hd
        exact ihj d this (by omega) i h hld
    have hi_n:i<n:=by
     refine Decidable.byContradiction fun hni=> ?_
     have:∀k,k<n→l.getD k true=true:=fun k hk=>by
      rw[tf l k hl (by omega)]
      obtain⟨d,hd,h⟩:=G.up i o ho k (htail i (by omega) hin k hk)
      obtain⟨ed,he,hbd,rfl⟩:=mem_deps.1 hd
      have hld:=hall ed he hbd;have hdi:=G.lt i o ho ed.on hd
      rcases h with h|h
      ·rw[←h];exact hld
      ·exact clM ed.on (by omega) k h hld
     have:=zGO n this
     omega
    have before:∀k,k<i→l.getD k false=false→∃b,ops[k]?=some b∧zDA ops b o (zB7 rd e k) (zB7 rd e i)=true:=fun k hk hlk=>by
     rcases G.ind i o ho k hk with h|⟨b,hb,hind⟩
     ·obtain⟨d,hd,h⟩:=G.up i o ho k h
      obtain⟨ed,he,hbd,rfl⟩:=mem_deps.1 hd
      have hld:=hall ed he hbd;have hdi:=G.lt i o ho ed.on hd;have:l.getD k false=true:=by
       rcases h with h|h
       ·rw[←h];exact hld
       ·exact clM ed.on (by omega) k h hld
      rw[this]at hlk;cases hlk
     ·rw[hfp k (by omega),hfp i hi_n]at hind
      exact⟨b,hb,hind⟩
    have behind:∀k,i<k→k<ops.size→l.getD k false=true→∃b,ops[k]?=some b∧zDA ops o b (zB7 rd e i) (zB7 rd e k)=true:=fun k hk hkn hlk=>by
     have hkn2:k<n:=by
      refine Decidable.byContradiction fun h=> ?_
      rw[htl k (by omega)]at hlk
      cases hlk
     have hok:ops[k]?=some ops[k]:=Array.getElem?_eq_getElem hkn
     rcases G.ind k _ hok i hk with h|⟨b,hb,hind⟩
     ·have:=clM k hkn i h hlk
      rw[this]at hLi;cases hLi
     ·rw[ho]at hb
      cases hb
      rw[hfp k hkn2,hfp i hi_n]at hind
      exact⟨_,hok,hind⟩
    have dk:∀{k:Nat} {b:Oper},ops[k]?=some b→zAB ops k=b.dst:=fun hb=>by unfold zAB;rw[hb];rfl
    have hbl:∀k,k<ops.size→l.getD k false≠Nat.blt k i→(k<i∧l.getD k false=false)∨(i<k∧l.getD k false=true):=fun k hk hne=>by
     rcases Nat.lt_trichotomy k i with h|h|h
     ·rw[Nat.blt_eq.mpr h]at hne
      exact .inl ⟨h,by simpa using hne⟩
     ·subst h
      rw[hLi,show Nat.blt k k=false from Bool.eq_false_iff.2 fun h=>by have:=Nat.blt_eq.mp h;omega]at hne
      exact absurd rfl hne
     ·rw[show Nat.blt k i=false from Bool.eq_false_iff.2 fun h'=>by have:=Nat.blt_eq.mp h';omega]at hne
      exact .inr ⟨h,by simpa using hne⟩
    have hT:=zG1 (ops:=ops) (e:=e) (S0:=S0) (i:=i) ops.size (by omega);have hL:=hst i o hi_n ho;rw[←hT]at hL;have hadd:zV ops e S0 (fun k=>(l.setIfInBounds i true).getD k false) ops.size=(zV ops e S0 (fun k=>l.getD k false) ops.size).eff (zAB ops i) (e i):=by
     have hset:∀k,(l.setIfInBounds i true).getD k false=(l.getD k false||Nat.beq k i):=fun k=>by
      rw[zE2 (by omega)];by_cases hki:k=i
      ·subst hki;simp[Nat.beq_refl]
      ·rw[if_neg hki,show Nat.beq k i=false from Bool.eq_false_iff.2 fun h=>hki (Nat.eq_of_beq_eq_true h),Bool.or_false]
     refine zMs (L:=fun k=>l.getD k false) (L':=fun k=>(l.setIfInBounds i true).getD k false) (i:=i) hLi hset ops.size hin (fun k t hk hlk hd=> ?_) (fun k id hk hlk hd=> ?_)
     ·have hkn:k<ops.size:=by
       rcases Nat.lt_or_ge k ops.size with h|h
       ·exact h
       ·simp[Array.getD_eq_getD_getElem?,Array.getElem?_eq_none (show l.size≤k by omega)]at hlk
      obtain⟨b,hb,hind⟩:=behind k hk hkn hlk
      rw[dk ho]at hd;rw[dk hb]
      exact(zB5 hind).1.2.1 t hd
     ·have hkn:k<ops.size:=by
       rcases Nat.lt_or_ge k ops.size with h|h
       ·exact h
       ·simp[Array.getD_eq_getD_getElem?,Array.getElem?_eq_none (show l.size≤k by omega)]at hlk
      obtain⟨b,hb,hind⟩:=behind k hk hkn hlk
      have:=((zB5 hind).2.1 id (by unfold zB7;exact List.mem_append_left _ hd)).2
      unfold zB7 at this;exact fun h=>this (List.mem_append_left _ h)
    have hloc:=hL (zV ops e S0 (fun k=>l.getD k false) ops.size) ⟨by rw[zEp,zEp],by rw[zEo,zEo]⟩
     (fun t ht=>zGB _ fun k hk hne=>by
       rcases hbl k hk hne with ⟨h1,h2⟩|⟨h1,h2⟩
       ·obtain⟨b,hb,hind⟩:=before k h1 h2
        rw[dk hb];exact fun hd=>(zB5 hind).1.1 t hd ht
       ·obtain⟨b,hb,hind⟩:=behind k h1 hk h2
        rw[dk hb];exact fun hd=>(zB5 hind).1.2.2 t hd ht)
     (fun id hid=>zGA _ fun k hk hne=>by
       rcases hbl k hk hne with ⟨h1,h2⟩|⟨h1,h2⟩
       ·obtain⟨b,hb,hind⟩:=before k h1 h2
        exact fun h=>((zB5 hind).2.1 id (List.mem_append_left _ h)).1 (List.mem_append_left _ hid)
       ·obtain⟨b,hb,hind⟩:=behind k h1 hk h2
        exact fun h=>(zB5 hind).2.2 id (List.mem_append_left _ hid) (List.mem_append_left _ h))
     (fun id hid=>zGz _ fun k hk hne=>by
       rcases hbl k hk hne with ⟨h1,h2⟩|⟨h1,h2⟩
       ·obtain⟨b,hb,hind⟩:=before k h1 h2
        exact fun h=>((zB5 hind).2.1 id (List.mem_append_right _ h)).1 (List.mem_append_right _ hid)
       ·obtain⟨b,hb,hind⟩:=behind k h1 hk h2
        exact fun h=>(zB5 hind).2.2 id (List.mem_append_right _ hid) (List.mem_append_right _ h))
     w0 a w hR
    rw[dk ho]at hadd;have nxt:∀a' w',Rel w0 ((zV ops e S0 (fun k=>l.getD k false) ops.size).eff o.dst (e i)) a' w'→wpAnyIn (fnc r0) 0 P .any ops Q (fuel+(ops.size-n)) (l.setIfInBounds i true) a' w':=fun a' w' hR'=>by
     refine ih _ a' w' (by simpa using hl) ?_ (fun j b hb hlj d hd=> ?_) (fun k hk=>by rw[zE2 (by omega),if_neg (by omega)];exact htl k hk) (by rw[hadd];exact hR')
     ·rw[zID (by omega) hun,show Nat.blt i n=true from Nat.blt_eq.mpr hi_n]
      simp only[cond_true]
      omega
     ·rw[zE2 (by omega)]at hlj⊢
      by_cases hdi:d=i
      ·rw[if_pos hdi]
      ·rw[if_neg hdi]
       by_cases hji:j=i
       ·subst hji
        rw[ho]at hb
        cases hb
        obtain⟨ed,he,hbd,rfl⟩:=mem_deps.1 hd
        exact hall ed he hbd
       ·rw[if_neg hji]at hlj
        exact hcl j b hb hlj d hd
    unfold wpOpIn
    simp only[ho]
    rcases hloc with ⟨hw,hg⟩|⟨hw,hR'⟩
    ·rw[if_pos hw]
     exact hg.wpIn fun v w' hR'=>nxt _ _ hR'
    ·rw[if_neg (by simp[hw])]
     exact⟨fun _ _=>trivial,nxt _ _ hR'⟩


theorem zIV{l:List Oper}{e:Nat→Eff}{S:St}{n:Nat}:∀m,m≤n→n≤l.length→zV (l.take n).toArray e S (fun _=>true) m=zV l.toArray e S (fun _=>true) m
 |0,_,_=>rfl
 | m+1,h,hn=>by
   unfold zV;rw[zIV m (by omega) hn];have:zAB (l.take n).toArray m=zAB l.toArray m:=by
    unfold zAB;rw[List.getElem?_toArray,List.getElem?_toArray,List.getElem?_take_of_lt (by omega)]
   rw[this]
def okTail(ops:Array Oper)(n:Nat)(fps:List (List Nat×List Nat)):Bool:=
 zEw ops fps && Nat.ble n ops.size && ((List.range ops.size).all fun t=>Nat.blt t n||(List.range n).all fun i=>Nat.testBit ((zJa ops.toList []).getD t 0) i) &&
  Region.seqB .any ops (ops.size-n) n ((List.range ops.size).map fun k=>Nat.blt k n).toArray
theorem zK2{ops:Array Oper}{Q:List (List Nat×List Nat)→St→Prop}:∀(l:List Oper) (acc:List (List Nat×List Nat)) (S:St),zC9 P ops l acc S Q→
 ∃ (rd:Nat→List Nat) (e:Nat→Eff) (fps:List (List Nat×List Nat)),fps.length=l.length∧(∀i o,l[i]?=some o→LStep P ops o (rd i) (e i) (zV l.toArray e S (fun _=>true) i))∧(∀i,i<l.length→fps.getD i ([],[])=zB7 rd e i)∧
   Q (acc.reverse++fps) (zV l.toArray e S (fun _=>true) l.length)
 | [],acc,S,h=>⟨fun _=> [],fun _=>⟨.tu [],[],[]⟩,[],rfl,fun i o h=>by simp at h,fun i h=>by simp at h,by simpa[zV,zC9]using h⟩
 | o::l,acc,S,⟨rd,e,hs,hk⟩=>by
   obtain⟨rd',e',fps,h0,h1,h2,h3⟩:=zK2 l _ _ hk
   let rd2:Nat→List Nat:=fun i=>match i with|0=>rd|i+1=>rd' i
   let e2:Nat→Eff:=fun i=>match i with|0=>e|i+1=>e' i
   refine⟨rd2,e2,(rd++e.al,e.hs.map (·.1)++e.al)::fps,by simp[h0],fun i o' ho=> ?_,fun i hi=> ?_,?_⟩
   ·cases i with
    | zero=>
      obtain rfl:o=o':=by simpa using ho
      exact hs
    | succ i=>
      rw[zFI];exact h1 i o' (by simpa using ho)
   ·cases i with
    |zero=>rfl
    |succ i=>exact h2 i (by simpa using hi)
   ·rw[List.length_cons,zFI]
    simpa using h3
theorem zOz{r0:Option Nat}{id:Nat}{Q:Exit→Act→World→Prop}{QS:St→Prop}{w0:zJ}{l:List Oper}{S:St}{a:Act}{w:World}(n:Nat)(hm:P.follows .mixedOrders=true)
 (h:AList P l.toArray (l.take n) [] S (fun fps S'=>okTail l.toArray n fps=true∧QS S')) (hR:Rel w0 S a w) (hQ:∀S a w,QS S→Rel w0 S a w→wpListIn (fnc r0) 0 P l.toArray Q (l.drop n) a w):(Code.region id l.toArray true).wpIn (fnc r0) 0 P Q a w:=by
 obtain⟨rd,e,fps,h0,h1,h2,h3,h4⟩:=zK2 _ [] S h.get
 simp only[List.reverse_nil,List.nil_append,okTail,zEw,Bool.and_eq_true]at h3
 obtain⟨⟨⟨⟨k1,k2⟩,k3⟩,k4⟩,k5⟩:=h3
 have k3:=Nat.ble_eq.mp k3;have hn:n≤l.length:=by simpa using k3
 have hlt:(l.take n).length=n:=by rw[List.length_take];omega
 rw[hlt]at h2 h4;have hsz:l.toArray.size=l.length:=by simp
 refine wpIn_region_any hm ?_;have:=zPQ (P:=P) (r0:=r0) (Q:=Q) (w0:=w0) (S0:=S) (rd:=rd) (e:=e) (n:=n) (zME k2) k3 (fun t ht hts i hi=> ?_) h2 (fun i o hi ho=> ?_) (fun lb a w hl hk hR=> ?_) (zCd (Array.replicate l.toArray.size false) n) (Array.replicate l.toArray.size false) a w.drew (by simp) rfl ?_ (fun k hk=> ?_) ?_
 ·rw[zIC _ _ k3,show n+(l.toArray.size-n)=l.toArray.size by omega]at this
  exact this
 ·have:=List.all_eq_true.1 k4 t (List.mem_range.2 hts)
  rw[Bool.or_eq_true]at this
  rcases this with h|h
  ·have:=Nat.blt_eq.mp h;omega
  ·exact List.all_eq_true.1 h i (List.mem_range.2 hi)
 ·have:=h1 i o (by rw[List.getElem?_take_of_lt hi];simpa using ho)
  rwa [zIV i (by omega) hn]at this
 ·have hl0:lb=((List.range l.toArray.size).map fun k=>Nat.blt k n).toArray:=by
   refine Array.ext (by simp[hl]) fun k hk1 hk2=> ?_
   have:=hk k (by omega);rw[Array.getD_eq_getD_getElem?,Array.getElem?_eq_getElem hk1]at this
   simpa using this
  subst hl0;have hd:(l.drop n).length=l.toArray.size-n:=by simp
  rw[zIV n (Nat.le_refl _) hn]at h4;have:=zJ7 (F:=fnc r0) (nd:=0) (md:=.any) (Q':=Q) (l.drop n) n _ a w (fun j=>by simp[List.getElem?_drop]) (by rw[hd];exact k5) (hQ _ a w h4 hR)
  rwa [hd]at this
 ·intro j o ho hj
  exfalso
  have h0:(Array.replicate l.toArray.size false).getD j false=false:=by simp[Array.getD_eq_getD_getElem?,Array.getElem?_replicate];split<;>rfl
  rw[h0]at hj
  cases hj
 ·simp[Array.getD_eq_getD_getElem?,Array.getElem?_replicate];split<;>rfl
 ·obtain⟨σ,hR⟩:=hR
  have hz:zV l.toArray e S (fun k=>(Array.replicate l.toArray.size false).getD k false) l.toArray.size=S:=by
   have:∀m,zV l.toArray e S (fun k=>(Array.replicate l.toArray.size false).getD k false) m=S:=by
    intro m
    induction m with
    |zero=>rfl
    | succ m ih=>
      unfold zV;rw[show(Array.replicate l.toArray.size false).getD m false=false by simp[Array.getD_eq_getD_getElem?,Array.getElem?_replicate];split<;>rfl]
      exact ih
   exact this _
  rw[hz]
  exact⟨σ,hR.drew (Ext.refl w).drew⟩
theorem zKG{id:Nat}{l:List Oper}{S:St}{Q:Exit→St→Prop}(n:Nat)(hm:P.follows .mixedOrders=true)(h:AList P l.toArray (l.take n) [] S (fun fps S'=>okTail l.toArray n fps=true∧AText P l.toArray (l.drop n) S' (Q .normal))):AWp P (.region id l.toArray true) Q S:=⟨fun b0 a w hR=>
 zOz (QS:=fun S'=>AText P l.toArray (l.drop n) S' (Q .normal)) n hm h hR fun S a w h1 h2=>h1.get _ b0 a w _ h2 fun S a w h3 h4=>⟨S,h3,h4⟩⟩
theorem zEN{id:Nat}{l:List Oper}{S:St}{Q:Exit→St→Prop}(n:Nat)(hm:P.follows .mixedOrders=true)(h:AList P l.toArray (l.take n) [] S (fun fps S'=>okTail l.toArray n fps=true∧ADie P l.toArray (l.drop n) S' Q)):AWp P (.region id l.toArray true) Q S:=⟨fun b0 a w hR=>
 zOz (QS:=fun S'=>ADie P l.toArray (l.drop n) S' Q) n hm h hR fun S a w h1 h2=>h1.get _ b0 a w _ h2 fun e S a w h3 h4=>⟨S,h3,h4⟩⟩
end
end Go.AV
end
