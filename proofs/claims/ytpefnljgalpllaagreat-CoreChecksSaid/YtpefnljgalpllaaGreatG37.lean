/- Parts of the proof: ARangeN, AYld, AYap. -/
import Derived.Test.YtpefnljgalpllaaGreatG36
import Derived.Test.YtpefnljgalpllaaGreatG24
set_option linter.unusedSimpArgs false
set_option linter.unusedVariables false
set_option maxHeartbeats 0
section
namespace Go.AV
open Go Go.RowKit Go.Flow
section
variable{P:Program}
inductive LentA(ids mids:List Nat):AV→AV→Prop
 |c {y x:CV} (h:LentM ids mids y x):LentA ids mids (.c y) (.c x)
 |ag {l m:List CV} (h:LeL (LentM ids mids) l m):LentA ids mids (.ag l) (.ag m)
def zH0(S:St)(ids mids:List Nat):List (Nat×AV)→Prop
 | []=>True
 |p::r=>(∃y,S.t p.1=some y∧LentA ids mids y p.2)∧zH0 S ids mids r
theorem zK3{S:St}{ids mids:List Nat}:∀{ts:List (Nat×AV)},zH0 S ids mids ts→∀p∈ts,∃y,S.t p.1=some y∧LentA ids mids y p.2
 | p::r,h,q,hq=>by
   rcases List.mem_cons.1 hq with rfl|hq
   ·exact h.1
   ·exact zK3 h.2 q hq
def zD1:List Tmp→List V1→List (Nat×AV)
 |p::ps,v::vs=>(p,v.av)::zD1 ps vs
 |_,_=> []
theorem zIW{t:Nat}:∀(ps:List Tmp) (vs:List Value) (tm:Array Value),t∉ps→((ps.zip vs).foldl (fun t (p,v)=>t.setIfInBounds p v) tm).getD t undef=tm.getD t undef
 | [],_,_,_=>rfl
 |_::_,[],_,_=>rfl
 | p::ps,v::vs,tm,h=>by
   simp only[List.mem_cons,not_or]at h
   show((ps.zip vs).foldl _ (tm.setIfInBounds p v)).getD t undef=_
   rw[zIW ps vs _ h.2]
   simp only[Array.getD_eq_getD_getElem?]
   rw[Array.getElem?_setIfInBounds_ne (Ne.symm h.1)]
theorem zN5{R:V1→Value→Prop}{t:Nat}{x:AV}:∀{ps:List Tmp} {vs:List V1} {us:List Value},zAr ps=true→RepL R vs us→vs.length=ps.length→zD (zD1 ps vs) t=some x→∃y u,R y u∧x=y.av∧∀(tm:Array Value),(∀p∈ps,p<tm.size)→((ps.zip us).foldl (fun t (p,v)=>t.setIfInBounds p v) tm).getD t undef=u
 | [],_,_,_,_,_,h=>by cases h
 |p::ps,[],_,_,_,hl,_=>by cases hl
 |p::ps,v::vs,[],_,hr,_,_=>hr.elim
 | p ::ps,v::vs,u::us,hn,hr,hl,h=>by
   unfold zAr at hn;rw[Bool.and_eq_true,Bool.not_eq_true']at hn;have hp:p∉ps:=fun hm=>by
    have:ps.any (Nat.beq p)=true:=List.any_eq_true.2 ⟨p,hm,Nat.beq_refl p⟩;rw[this]at hn
    cases hn.1
   unfold zD1 zD at h
   cases hb:Nat.beq t p with
   | true=>
     have:=Nat.eq_of_beq_eq_true hb;subst this;rw[hb]at h
     cases h
     refine⟨v,u,hr.1,rfl,fun tm htm=> ?_⟩
     show((ps.zip us).foldl _ (tm.setIfInBounds t u)).getD t undef=u
     rw[zIW ps us _ hp,Array.getD_eq_getD_getElem?,Array.getElem?_setIfInBounds_self_of_lt (htm t (by simp))]
     rfl
   | false=>
     rw[hb]at h
     obtain⟨y,u',h1,h2,h3⟩:=zN5 hn.2 hr.2 (by simpa using hl) h
     exact⟨y,u',h1,h2,fun tm htm=>h3 _ fun q hq=>by rw[Array.size_setIfInBounds];exact htm q (by simp[hq])⟩
theorem zN6{t:Nat}:∀{ps:List Tmp} {vs:List V1},vs.length=ps.length→zD (zD1 ps vs) t=none→t∉ps
 | [],_,_,_=>by simp
 |p::ps,[],hl,_=>by cases hl
 | p ::ps,v::vs,hl,h=>by
   unfold zD1 zD at h
   cases hb:Nat.beq t p with
   |true=>rw[hb]at h;cases h
   | false=>
     rw[hb]at h;have:=zN6 (ps:=ps) (vs:=vs) (by simpa using hl) h
     simp only[List.mem_cons,not_or]
     exact⟨fun e=>(by subst e;rw[Nat.beq_refl]at hb;cases hb),this⟩
def zNS(n ln:Nat)(ps:List Tmp)(vs:List V1)(ts:List (Nat×AV))(hs:List (Nat×AB)):St:={n,ln,t:=zD (zD1 ps vs++ts),h:=zD hs,fr:=fun id=>Nat.blt id 800||(Nat.ble 900 id && Nat.blt id 1000),G:=fun _=>True,gs:=0,dd:=false}
def zPu(g:Bool)(eS:Exit)(hE mv:List AB)(e:Exit)(S:St):Prop:=
 (bif g then e=.normal else e=eS)∧∃S' loc,Wk S S'∧S'.h=zD (loc++zAv mv hE)∧loc.all (fun p=>Nat.blt p.1 900)=true
theorem LentA.rep{ids mids:List Nat}{σ τ:Nat→Option Value}{O O':Nat→Prop}{w:World}(hO:∀b,O' b→O b)(h1:∀i id,zU ids id=some i→∀u,σ id=some u→τ (1000+i)=some u)(h2:∀i id,zU mids id=some i→∀u,σ id=some u→τ (800+i)=some u)
 {x y:AV} {u:Value} (h:LentA ids mids x y) (hu:RepA σ O w x u):RepA τ O' w y u:=by
 cases h with
 |c h=>exact h.rep hO h1 h2 hu
 |ag h=>obtain⟨vs,rfl,e⟩:=hu;exact⟨vs,rfl,LeL.get (fun x y v hxy hv=>hxy.rep hO h1 h2 hv) h e⟩
theorem zKI{g:Operand}{ps:Array Tmp}{assign body:Code}{S:St}{Q:Exit→St→Prop}{gf m:Nat}{C:Nat→CV}{cs:List V1}{A:RM}{M N:Nat}{stop:Bool}{eS:Exit}{ts:List (Nat×AV)}(ids mids ni:List Nat)(bs' nw':List AB)
 (hg:S.opd g=some (.c (.fn gf m C))) (eg:∀args w,(callFunc gf args).run P w=.ok (.enter gf args) w) (hnf:∀i,i<m→∀f k D,C i≠ .fn f k D) (hcs:LeL (zCc ids mids) ((List.range m).map fun i=>V1.c (C i)) cs) (hit:zIa P gf cs A M N stop)
 (hrd:∀b,S.G b→b.rd=none) (hN1:stop=true→0<N∧N≤M) (hN2:stop=false→N=M) (hL:zBh S ids mids ids (A.hB 0)) (hMv:zCE S mids (A.mv 0))
 (hnd:(zAr (ids++mids) && mids.all (fun m=>Nat.blt m 1000) && zAr ni && ni.all (fun i=>S.fr i) && Nat.beq nw'.length ni.length)=true)
 (hlb:∀i,i≤N→(A.hB i).length=A.nb∧(A.hE i).length=A.nb∧(A.mv i).length≤100) (hidl:ids.length=A.nb) (hbl':bs'.length=A.nb)
 (hts:zH0 S ids [] ts) (hps:(zAr ps.toList && ps.toList.all (fun p=>Nat.blt p S.n))=true) (hxl:∀i,i<N→(A.ys i).length=ps.size) (hj:eS=.ret∨∃id,eS=.exit id)
 (hround:∀i,i<N→AWp P assign (zCl (fun S'=>S'.dd=false∧AWp P body (zPu (zAs N stop i) eS (A.hE (i+1)++A.la i) (A.mv (i+1))) S'.inBody) (fun _ _=>False)) (zNS S.n (A.hB i++A.la i).length ps.toList (A.ys i) ts (zAW (A.mv i) (A.hB i++A.la i))))
 (hbk:zAV ids ni (A.hE N) bs') (hnw:BackB ids ni (A.mv N) nw')
 (hq:Q (bif stop then eS else .normal) (S.eff none ⟨.tu [],zN ids bs'++(zN ni nw'++zA3 mids),ni⟩)):AWp P (.rangeFunc g ps assign body) Q S:=⟨fun b0 a w hR=>by
 obtain⟨σ,R⟩:=hR
 have hrd0:=hrd b0 R.gd;rw[hrd0];rw[Bool.and_eq_true]at hps
 simp only[Bool.and_eq_true]at hnd
 obtain⟨⟨⟨⟨n1,n2⟩,n4⟩,n5⟩,n7⟩:=hnd
 have hl0:=hlb 0 (Nat.zero_le _)
 obtain⟨hu1,vs,hgv,hvl,hvr⟩:=zX R hg
 obtain⟨fn0,rec,hrec⟩:∃(fn0:FuncId→LoopState→Option Code→Loop) (_:Unit),fn0=fun fn st pe=>{state:=st,pending:=pe,fn,tmps:=a.tmps,params:=ps,assign,body,defers:=w.heap.size}:=⟨_,(),rfl⟩
 refine wpIn_rangeFunc ?_;intro fn _
 obtain⟨W1,hW1⟩:∃W1,(w.alloc (.deferred (some []))).alloc (.loop (fn0 fn .ready none))=W1:=⟨_,rfl⟩
 have hW1s:W1.heap.size=w.heap.size+2:=by rw[←hW1];simp
 have hL1:W1.heap[w.heap.size+1]?=some (.loop (fn0 fn .ready none)):=by
  rw[←hW1];have:=World.alloc_heap_new (w.alloc (.deferred (some []))) (.loop (fn0 fn .ready none));rwa [World.size_alloc]at this
 have hK1:W1.heap[w.heap.size]?=some (.deferred (some [])):=by
  rw[←hW1];exact(Below.heap_alloc _ _ _ (by simp)).trans (World.alloc_heap_new w _)
 have hE1:Ext w W1:=by rw[←hW1];exact(((Ext.refl w).alloc _).alloc _)
 obtain⟨jc,hjc⟩:∃jc,zMT eS=jc:=⟨_,rfl⟩
 obtain⟨l,hl⟩:∃l,l=w.heap.size+1:=⟨_,rfl⟩
 have R1:=R.drew hE1
 let J:Nat→Bool→World→Prop:=fun _ d W=>W.heap[l]?=some (.loop (if d then fn0 fn .done (some jc)else fn0 fn .ready none))
 have hvals:RepL (RepV σ (out b0 σ S.h) W1) ((List.range m).map fun i=>V1.c (C i)) vs:=zA5 (by simp[hvl]) fun i x v q1 q2=>by
  have hi:i<m:=by have:=(List.getElem?_eq_some_iff.1 q1).1;simpa using this
  rw[List.getElem?_map,List.getElem?_range hi]at q1
  cases q1
  obtain⟨v',e1,e2,e3⟩:=hvr i hi
  rw[q2]at e1
  cases e1
  exact(zHw (hnf i hi) e2 e3).keep (Keep.of_ext hE1) (fun b hb=>.inl hb) fun _ _ h=>h
 have hG :GMc (fun us W Q=>Calls P gf (yv l::us).toArray W fun e w'=>Q e w'∧J N stop w') (fun b1=>b1.w=W1∧(∀k id,ids[k]?=some id→b1.fix (1000+k)=σ id)∧∀b,b1.X b∨b1.Y b→out b0 σ S.h b∨b=l) (fun b=>b=l) cs (A.hB 0) (A.mv 0) (fun r a c=>r=.tu []∧a=A.hE N∧c=A.mv N):=fun b1 σ1 us ⟨hb1,hfx1,hXY⟩ hVX H1 hle hσ hY hv=>by
  have hlY:¬b1.Y l:=b1.dis l (hVX l rfl)
  let bI:zJ:=⟨b1.w,b1.X,b1.Y,b1.fix,b1.lt,b1.ylt,b1.dis,b1.one,fun d b=>d=true∧b=l,J,none,fun d b hb=>hVX b hb.2,fun i d O A B h hK hO=>by
   refine(hK.block l (Array.getElem?_eq_some_iff.1 h).1 fun ho=>(hO l ho).elim (fun h=> ?_) hlY).trans h
   rw[hb1]at h
   omega⟩
  have up:∀{τ h w},HRel b1 τ h w→HRel bI τ h w:=fun H=>⟨H.blk,H.inj,H.new,H.fx,H.big⟩
  have dn:∀{τ h w},HRel bI τ h w→HRel b1 τ h w:=fun H=>⟨H.blk,H.inj,H.new,H.fx,H.big⟩
  have hYo:YOk P bI l A N stop:=fun i hi b2 σ2 us2 ⟨hJ2,hK2,hfx2,hXY2,hlX2⟩ hVX2 H2 hle2 hσ2 hY2 hv2=>by
   have hlX:b2.X l:=hlX2 l ⟨rfl,rfl⟩;have hlY2:¬b2.Y l:=b2.dis l hlX;have hJ2':b2.w.heap[l]?=some (.loop (fn0 fn .ready none)):=hJ2;have hl2:l<b2.w.heap.size:=(Array.getElem?_eq_some_iff.1 hJ2').1;have hlW':b2.w.heap[l]?=some (.loop {state:=.ready,pending:=none,fn,tmps:=a.tmps,params:=ps,assign,body,defers:=w.heap.size}):=by rw[hJ2',hrec]
   have hy:=run_yield (P:=P) (args:=us2.toArray) hlW' (by have:=hv2.length;have:=hxl i hi;simp;omega)
   refine⟨fn,_,assign,body,hy,?_⟩
   let bA:zJ:=⟨b2.w,b2.X,b2.Y,b2.fix,b2.lt,b2.ylt,b2.dis,b2.one,fun _ b=>b=l,fun _ d W=>W.heap[l]?=some (.loop {fn0 fn .ready none with state:=if d then .busy else .ready}),some l,fun d b hb=>by subst hb;exact hlX,fun _ d O A B h hK hO=>by
    refine(hK.block _ (Array.getElem?_eq_some_iff.1 h).1 fun ho=> ?_).trans h
    rcases hO _ ho with h|h
    ·omega
    ·exact hlY2 h⟩
   have upA:∀{τ h w},HRel b2 τ h w→HRel bA τ h w:=fun H=>⟨H.blk,H.inj,H.new,H.fx,H.big⟩
   have dnA:∀{τ h w},HRel bA τ h w→HRel b2 τ h w:=fun H=>⟨H.blk,H.inj,H.new,H.fx,H.big⟩
   have hKw:Keep (fun b=>out b0 σ S.h b) w b2.w:=by
    have hK2':Keep (fun k=>b1.Y k∨(false=true∧k=l)) W1 b2.w:=hb1▸hK2
    refine⟨hK2'.os.trans hE1.os,hK2'.tape.trans hE1.tape,hK2'.output.trans hE1.output,Nat.le_trans hE1.size hK2'.size,fun k hk hno=>(hK2'.block k (Nat.lt_of_lt_of_le hk hE1.size) fun h=> ?_).trans (Below.block hE1 k hk)⟩
    rcases h with h|h
    ·rcases hXY k (.inr h)with h|h
     ·exact hno h
     ·omega
    ·exact absurd h.1 (by decide)
   have hfold:(ps.zip us2.toArray).foldl (fun tmps (t,a)=>tmps.setIfInBounds t a) a.tmps=(ps.toList.zip us2).foldl (fun t (p,v)=>t.setIfInBounds p v) a.tmps:=by
    rw[←Array.foldl_toList]
    simp
   have hin:∀p∈ps.toList,p<a.tmps.size:=fun p hp=>by rw[R.sz];exact Nat.blt_eq.mp (List.all_eq_true.1 hps.2 p hp)
   have hxl':(A.ys i).length=ps.toList.length:=by rw[hxl i hi];simp
   have hout:∀b,out bA σ2 (zD (zAW (A.mv i) (A.hB i++A.la i))) b→out b0 σ S.h b∨w.heap.size≤b:=fun b hb=>by
    have hXYb:b2.X b∨b2.Y b→out b0 σ S.h b∨w.heap.size≤b:=fun h=>by
     rcases hXY2 b h with h|h|h
     ·exact(hXY b (.inl h)).imp id fun h=>by omega
     ·exact(hXY b (.inr h)).imp id fun h=>by omega
     ·have:W1.heap.size≤b:=by rw[←hb1];exact h
      exact .inr (by omega)
    rcases hb with ⟨j,v,h1,h2,h3⟩|h
    ·rcases H2.new b ⟨j,v,h1,h2,h3⟩with h|h
     ·have:b2.w.heap.size≤b:=h
      have:=hKw.size;exact .inr (by omega)
     ·exact hXYb (.inr h)
    ·exact hXYb (.inl h)
   have hRA:Rel bA (zNS S.n (A.hB i++A.la i).length ps.toList (A.ys i) ts (zAW (A.mv i) (A.hB i++A.la i))) {tmps:=(ps.zip us2.toArray).foldl (fun tmps (t,a)=>tmps.setIfInBounds t a) a.tmps,defers:= []} b2.w:=by
    refine⟨σ2,trivial,?_,⟨rfl,rfl,rfl,Nat.le_refl _,fun _ _ _=>rfl⟩,upA H2,fun t x hx=> ?_,fun id hid=> ?_,fun j v hj=> ?_,trivial,?_⟩
    ·show Array.size _=S.n
     rw[hfold,zJL];exact R.sz
    ·show RepA _ _ b2.w x (Array.getD _ t undef)
     rw[hfold]
     replace hx:zD (zD1 ps.toList (A.ys i)++ts) t=some x:=hx
     rw[zCq]at hx
     cases hc:zD (zD1 ps.toList (A.ys i)) t with
     | some y=>
       rw[hc]at hx
       cases hx
       obtain⟨y,u,k1,k2,k3⟩:=zN5 hps.1 hv2 hxl' hc
       rw[k3 a.tmps hin,k2];exact k1.av
     | none=>
       rw[hc]at hx;rw[zIW _ _ _ (zN6 hxl' hc)]
       obtain⟨y,q1,q2⟩:=zK3 hts _ (zBb hx)
       have h1:=(R.sl t y q1).keep (O':=fun b=>out b0 σ S.h b∨w.heap.size≤b) hKw (fun b hb=>hb) fun _ _ h=>h
       refine q2.rep (fun b hb=>hout b hb) (fun k id hp u hu=> ?_) (fun k id hp=>by cases hp) h1;have hk:=zAR hp;have hlt:=(List.getElem?_eq_some_iff.1 hk).1;have hf:b2.fix (1000+k)=some u:=(hfx2 k (by omega)).trans ((hfx1 k id hk).trans hu)
       exact(H2.fx _ _ hf).1
    ·have hid':(Nat.blt id 800||(Nat.ble 900 id && Nat.blt id 1000))=true:=hid
     have h1:id<800∨(900≤id∧id<1000):=by
      rw[Bool.or_eq_true,Bool.and_eq_true]at hid';exact hid'.imp (fun h=>Nat.blt_eq.mp h) fun h=>⟨Nat.ble_eq.mp h.1,Nat.blt_eq.mp h.2⟩
     refine⟨?_,by omega⟩
     cases hc:σ2 id with
     |none=>rfl
     | some v=>
       rcases hσ2 id v hc with h|h
       ·have:=(b2.one id v h).1;omega
       ·omega
    ·exact hle2 j v hj
    ·show b2.w.heap[l]?=_
     rw[hJ2',hrec]
     rfl
   refine roundIn_of_wpIn (F:=Fence.wide) trivial ?_;refine wpIn_mono ((hround i hi).get bA _ b2.w hRA) fun e a1 w1 ⟨S',⟨σ',R'⟩,h2⟩=> ?_
   cases e with
   | normal=>
     obtain⟨hdd,hB⟩:=h2
     have hl1:w1.heap[l]?=some (.loop {fn0 fn .ready none with state:=if S'.dd then .busy else .ready}):=R'.gh;rw[hdd]at hl1;have hnc:∀cs t p,w1.heap[l]?≠some (.cells cs t p):=fun cs t p h=>by rw[hl1]at h;cases h
     have hbr:=run_beginRound (P:=P) hl1 rfl
     refine⟨_,hbr,?_⟩
     obtain⟨w2,hw2⟩:∃w2,w1.putObj l (.loop {{fn0 fn .ready none with state:=if false=true then .busy else .ready}with state:=.busy})=w2:=⟨_,rfl⟩
     rw[hw2];have hoth:∀k,k≠l→w2.heap[k]?=w1.heap[k]?:=fun k hk=>by rw[←hw2];exact World.putObj_heap_other hk
     have hcc:∀a v,w1.cell? a=some v→w2.cell? a=some v:=by rw[←hw2];exact zFB hnc
     have hKp:Keep (fun k=>k=l) w1 w2:=by rw[←hw2];exact⟨rfl,rfl,rfl,by rw[World.putObj_size];exact Nat.le_refl _,fun k _ hk=>World.putObj_heap_other hk⟩
     have R2:Rel0 bA σ' S'.inBody a1 w2:=⟨R'.df.keep2 hKp fun D h=>by have h:D=l:=h;show D<b2.w.heap.size;omega,R'.sz,
      (R'.ext.less (O':=zB1 bA S'.inBody) fun b hb=>hb).trans hKp fun k hk=>.inr (.inr hk),R'.hp.turn hnc (fun o h=>by rw[hl1]at h;cases h;rfl) hoth hcc,fun t x hx=>(R'.sl t x hx).cells hcc,R'.fr,R'.le,R'.gd,by
        show w2.heap[l]?=_;rw[←hw2,World.putObj_heap_same (Array.getElem?_eq_some_iff.1 hl1).1]
        rfl⟩
     refine wpIn_mono (hB.get bA a1 w2 ⟨σ',R2⟩) fun e a3 W3 ⟨S3,hR3,h3,S'',loc,hwk,hS'',hlc⟩=> ?_
     obtain⟨σ3,R3⟩:=hR3
     obtain⟨σ4,R4⟩:=hwk bA a3 W3 ⟨σ3,R3⟩
     have hl3:W3.heap[l]?=some (.loop {fn0 fn .ready none with state:=if S3.dd then .busy else .ready}):=R3.gh;have hnc3:∀cs t p,W3.heap[l]?≠some (.cells cs t p):=fun cs t p h=>by rw[hl3]at h;cases h
     have hH0:=R4.hp;rw[hS'']at hH0;have hlbi:=hlb (i+1) hi;have hlbi0:=hlb i (by omega);have low:∀i B,zD loc i=some B→i<900:=fun i B h=>Nat.blt_eq.mp (List.all_eq_true.1 hlc _ (zBb h))
     have high:∀j,zD (zAv (A.mv (i+1)) (A.hE (i+1)++A.la i)) j≠none→900≤j:=fun j hj=>by
      rw[zBr hlbi.2.2]at hj;by_cases h1:1000≤j
      ·omega
      ·rw[if_neg h1]at hj
       by_cases h2:900≤j
       ·exact h2
       ·rw[if_neg h2]at hj;exact absurd rfl hj
     obtain⟨H4,hsub⟩:=hH0.part (h':=zD (zAv (A.mv (i+1)) (A.hE (i+1)++A.la i))) (fun j hj=>by
      rw[zCq]
      cases hc:zD loc j with
      |none=>rfl
      | some B=>
        have:=low j B hc;have:=high j hj
        omega) (fun j v hj=>by
      have h0:=(b2.one j v hj).1;have h3:=hle2 j v hj;rw[List.length_append]at h3;rw[zBr hlbi.2.2,if_pos h0,List.getElem?_eq_getElem (by rw[List.length_append];omega)]
      simp)
     have fin:∀jump:Option Code,jump.isNone=zAs N stop i→(zAs N stop i=false→jump=some jc)→∃v w',(Instr.endRound l jump).run P W3=.ok v w'∧((∃u τ r hs' nw,Ending.returned v=.returned u∧(r=.c (.p (.bool (zAs N stop i)))∧hs'=A.hE (i+1)++A.la i∧nw=A.mv (i+1))∧hs'.length=(A.hB i++A.la i).length∧nw.length≤100∧HRel b2 τ (zD (zAv nw hs')) w'∧RepA τ (out b2 τ (zD (zAv nw hs'))) w' r u∧Keep (fun b=>b2.Y b∨bI.V (!zAs N stop i) b) b2.w w')∧bI.J (i+1) (!zAs N stop i) w'):=fun jump hjn hjc'=>by
      obtain⟨o,hrun,ho⟩:∃o,(Instr.endRound l jump).run P W3=.ok (.bool jump.isNone) (W3.putObj l (.loop o))∧o=fn0 fn (if jump.isNone then .ready else .done) jump:=⟨_,run_endRound (P:=P) jump hl3,by rw[hrec]⟩
      have hothE:∀k,k≠l→(W3.putObj l (.loop o)).heap[k]?=W3.heap[k]?:=fun k hk=>World.putObj_heap_other hk
      have hccE:∀a v,W3.cell? a=some v→(W3.putObj l (.loop o)).cell? a=some v:=zFB hnc3;have H5:=H4.turn hnc3 (fun o h=>by rw[hl3]at h;cases h;rfl) hothE hccE
      have hle:(W3.putObj l (.loop o)).heap[l]?=some (.loop o):=World.putObj_heap_same (Array.getElem?_eq_some_iff.1 hl3).1
      refine⟨_,_,hrun,⟨_,σ4,_,_,_,rfl,⟨rfl,rfl,rfl⟩,?_,hlbi.2.2,dnA H5,⟨rfl,by rw[←hjn];rfl⟩,R4.ext.os,R4.ext.tape,R4.ext.output,by rw[World.putObj_size];exact R4.ext.size,fun k hk hno=> ?_⟩,?_⟩
      ·rw[List.length_append,List.length_append,hlbi.2.1,hlbi0.1]
      ·by_cases e:k=l
       ·subst e
        rw[hle,hJ2']
        cases hg0:zAs N stop i with
        |false=>rw[hg0]at hno;exact absurd (.inr ⟨rfl,rfl⟩) hno
        | true=>
          rw[hg0]at hjn
          cases jump with
          |none=>rw[ho];rfl
          |some c=>cases hjn
       ·exact(World.putObj_heap_other e).trans (R4.ext.block k hk fun h=>h.elim (fun h=>hno (.inl h)) e)
      ·show(W3.putObj l (.loop o)).heap[l]?=_
       rw[hle,ho]
       cases hg0:zAs N stop i with
       | false=>
         have:=hjc' hg0;subst this
         rfl
       | true=>
         rw[hg0]at hjn
         cases jump with
         |none=>rfl
         |some c=>cases hjn
     cases hg0:zAs N stop i with
     | true=>
       rw[hg0]at h3;obtain rfl:e=.normal:=h3;have:=fin none (by rw[hg0];rfl) (by rw[hg0];intro h;cases h)
       rw[hg0]at this;exact this
     | false=>
       rw[hg0]at h3;obtain rfl:e=eS:=h3;have:=fin (some jc) (by rw[hg0];rfl) (fun _=>rfl)
       rw[hg0]at this
       rcases hj with rfl|⟨id,rfl⟩
       ·subst hjc;exact this
       ·subst hjc;exact this
   |_=>exact h2.elim
  have hJ0:J 0 false b1.w:=by rw[hb1];show W1.heap[l]?=_;rw[hl];exact hL1
  refine(hit bI σ1 l us rfl ⟨fun k hk=>absurd hk.1 (by decide),fun i d W h k hk=> ?_⟩ (up H1) (fun i v hi=>by rw[←hl0.1];exact hle i v hi) hσ hY hN1 hN2 hYo hJ0 hv).mono fun e w' ⟨h1,h2,τ,h3,h4⟩=> ?_
  ·have h:W.heap[l]?=_:=h
   rw[hk.2]
   exact⟨_,h⟩
  ·subst h1
   have hN:=hlb N (Nat.le_refl _)
   refine⟨⟨_,τ,.tu [],A.hE N,A.mv N,rfl,⟨rfl,rfl,rfl⟩,hN.2.1.trans hl0.1.symm,hN.2.2,dn h3,⟨[],rfl,trivial⟩,h4.less fun b hb=>hb.imp id fun h=>h.2⟩,h2⟩
 have hcore:=zEQ (ids:=ids) (mids:=mids) (ni:=ni) (vals:=vs) (fun us W Q Q' hq h=>h.mono fun e w' h=>⟨hq _ _ h.1,h.2⟩) hG (fun b hb=>⟨fn0 fn .ready none,by rw[show b=l from hb,hl];exact hL1⟩) (fun b1 e1 e2 e3 e4 e5=>⟨e1,e2,e3⟩) R1 hvals hcs hL hMv n1 n2 hl0.2.2 n4 (fun id hid=>List.all_eq_true.1 n5 id hid)
 refine⟨l,[{target:=.collected w.heap.size,args:= #[]}],W1,{target:=.fn (.func gf) vs.toArray,args:= #[yv l]},W1,gf,(yv l::vs).toArray,W1,?_,?_,fun _ _=>trivial,?_,fun hd=>(by cases hd),?_⟩
 ·rw[←hW1,hrec,hl];exact run_enterLoop_outer _ _ _ _ _
 ·simp only[resolve,hgv]
  simp[go_sem]
 ·simp[invoke,go_sem,eg]
 ·refine(zD5 none).calls (Calls.mono hcore ?_)
  rintro e w3 ⟨⟨v,r,hs',nw,rfl,⟨rfl,rfl,rfl⟩,g3⟩,hJ3⟩
  obtain⟨σ',C⟩:=g3 (.tu []) bs' nw' (.tu trivial) hbk hnw (hbl'.trans hl0.1.symm) (Nat.eq_of_beq_eq_true n7)
  obtain⟨st,pe,hl3,hne,hpe⟩:∃st pe,w3.heap[l]?=some (.loop (fn0 fn st pe))∧st≠ .busy∧pe=bif stop then some jc else none:=by
   cases stop with
   |false=>exact⟨_,_,hJ3,by simp,rfl⟩
   |true=>exact⟨_,_,hJ3,by simp,rfl⟩
  have hend:=run_endLoop (P:=P) hl3 (by rw[hrec];exact hne)
  obtain⟨w4,hw4⟩:∃w4,w3.putObj l (.loop {fn0 fn st pe with state:=.exhausted})=w4:=⟨_,rfl⟩
  rw[hw4,show(fn0 fn st pe).pending=pe by rw[hrec]]at hend;have hoth:∀k,k≠l→w4.heap[k]?=w3.heap[k]?:=fun k hk=>by rw[←hw4];exact World.putObj_heap_other hk
  have hnc3:∀cs t p,w3.heap[l]?≠some (.cells cs t p):=fun cs t p h=>by rw[hl3]at h;cases h
  have hcc:∀a v,w3.cell? a=some v→w4.cell? a=some v:=by rw[←hw4];exact zFB hnc3
  have hsz:=C.keep.size;have hK4:Keep (own σ S.h) w w4:=by
   refine⟨?_,?_,?_,?_,fun k hk hno=> ?_⟩
   ·rw[←hw4];exact C.keep.os.trans hE1.os
   ·rw[←hw4];exact C.keep.tape.trans hE1.tape
   ·rw[←hw4];exact C.keep.output.trans hE1.output
   ·rw[←hw4,World.putObj_size];omega
   ·exact(hoth k (by omega)).trans ((C.keep.block k (by omega) fun h=>h.elim hno fun h=>by have:k=l:=h;omega).trans (Below.block hE1 k hk))
  have hfin:Rel b0 (S.eff none ⟨.tu [],zN ids bs'++(zN ni nw'++zA3 mids),ni⟩) {a with defers:={target:=.collected w.heap.size,args:= #[]}::a.defers} w4:=by
   refine⟨σ',⟨⟨_,rfl,R.ext.size,?_,fun d' hd'=> ?_⟩,R.df.keep hK4 fun D hD=>R.hp.nodef hD⟩,R.sz,(R.ext.trans hK4 fun k hk=>(R.hp.new k hk).imp id .inl),C.hp.turn hnc3 (fun o h=>by rw[hl3]at h;cases h;rfl) hoth hcc,fun t x hx=>(R.sl t x hx).keep hK4.out (fun b hb=>(C.outs b hb).imp id fun h=>by omega) C.up,fun id hid=> ?_,R.le,R.gd,b0.jk _ _ _ _ _ R.gh hK4 R.hp.new⟩
   ·rw[hoth _ (by omega)]
    refine(C.keep.block _ (by omega) fun h=>h.elim (fun h=> ?_) fun h=>by have:w.heap.size=l:=h;omega).trans hK1
    have:=R.hp.lt h
    omega
   ·have:∀{ds:List Deferred},Marks b0.w.heap.size ds w→∀d∈ds,d≠{target:=.collected w.heap.size,args:= #[]}:=fun {ds}=>by
     induction ds with
     |nil=>intro _ d hd;simp at hd
     | cons d0 ds ih=>
       rintro⟨⟨D,e1,_,e3,_⟩,hm⟩ d hd
       rcases List.mem_cons.1 hd with rfl|hd
       ·rw[e1]
        intro e;have h1:=(Array.getElem?_eq_some_iff.1 e3).1;have:D=w.heap.size:=by simpa using e
        omega
       ·exact ih hm d hd
    exact this R.df d' hd'
   ·replace hid:(S.fr id && !(ni.any (Nat.beq id)))=true:=hid
    rw[Bool.and_eq_true,Bool.not_eq_true']at hid
    refine⟨?_,(R.fr id hid.1).2⟩
    cases hc:σ' id with
    |none=>rfl
    | some v=>
      rcases C.dom id (by simp[hc])with h1|h1
      ·exact absurd (R.fr id hid.1).1 h1
      ·have h2:ni.any (Nat.beq id)=true:=List.any_eq_true.2 ⟨id,h1,Nat.beq_refl id⟩
       rw[h2]at hid
       cases hid.2
  refine⟨pe,w4,hend,?_⟩
  subst hpe
  cases stop with
  |false=>exact⟨_,hfin,hq⟩
  | true=>
    subst hjc
    rcases hj with rfl|⟨id,rfl⟩
    ·exact wpIn_ret ⟨_,hfin,hq⟩
    ·exact wpIn_exit ⟨_,hfin,hq⟩⟩
end
section
variable{P:Program}
abbrev fCl(P:Program)(b:zJ)(f:FuncId)(g':Nat)(d':Bool):List Value→World→(Ending→World→Prop)→Prop:=fun vals W Q=>Calls P f vals.toArray W fun e W'=>Q e W'∧b.J g' d' W'
def zIO(b:zJ)(g nb:Nat)(b2:zJ):Prop:=yPre b g nb b2∧∀k,b2.Y k→b.Y k∨b.w.heap.size≤k
abbrev FY(P:Program)(f:FuncId)(l:Nat)(A:RM)(N:Nat)(stop:Bool)(g g':Nat)(d':Bool)(args:List V1)(hs mv:List AB)(r:AV)(hs' nw:List AB):Prop:=
 ∀b:zJ,itM P l A N stop b→GMc (fCl P b f g' d') (zIO b g A.nb) (b.V d') args hs mv (GEq r hs' nw)
theorem GMc.less{Cl:List Value→World→(Ending→World→Prop)→Prop}{Pre Pre':zJ→Prop}{V:Nat→Prop}{args:List V1}{hs mv:List AB}{R:AV→List AB→List AB→Prop}(h:GMc Cl Pre V args hs mv R)(hP:∀b,Pre' b→Pre b):GMc Cl Pre' V args hs mv R:=
 fun b0 σ vals h0 hV h1 h2 h3 h4 h5=>h b0 σ vals (hP b0 h0) hV h1 h2 h3 h4 h5
def zGV(G:zJ→Prop)(g n ln:Nat)(args:List V1)(hs:List (Nat×AB)):St:={zBT n ln args hs with G:=G,gs:=g}
def zKU(P:Program)(rs:List ResultVar)(r:AV)(hs' nw:List AB)(m g':Nat)(d':Bool):Exit→St→Prop
 | .ret,S=>(S.gs=g'∧S.dd=d')∧zEa P rs (GEq r hs' nw) m S
 | .normal,S=>(S.gs=g'∧S.dd=d')∧zEa P rs (GEq r hs' nw) m S
 |_,_=>False
theorem yPre.trans{b b1 b3:zJ}{g i nb:Nat}(h:zIO b g nb b1)(hJ:b.J i false b3.w)(h3:Keep (fun k=>b1.Y k∨b.V false k) b1.w b3.w)(h4:∀k,k<nb→b3.fix (1000+k)=b1.fix (1000+k))(h5:∀k,b3.X k∨b3.Y k→b1.X k∨b1.Y k∨b1.w.heap.size≤k)(h6:∀k,b.V true k→b3.X k):yPre b i nb b3:=by
 obtain⟨⟨a1,a2,a3,a4,a5⟩,a6⟩:=h
 refine⟨hJ,a2.trans h3 fun k hk=> ?_,fun k hk=>(h4 k hk).trans (a3 k hk),fun k hk=> ?_,h6⟩
 ·rcases hk with hk|hk
  ·rcases a6 k hk with h|h
   ·exact .inr (.inl h)
   ·exact .inl h
  ·exact .inr (.inr hk)
 ·rcases h5 k hk with h|h|h
  ·exact a4 k (.inl h)
  ·exact a4 k (.inr h)
  ·have:=a2.size;exact .inr (.inr (by omega))
theorem zQ0{f:FuncId}{fn:Func}{c:Code}{rs:List ResultVar}{l N g g':Nat}{stop d':Bool}{A:RM}{args:List V1}{hs mv:List AB}{r:AV}{hs' nw:List AB}(hf:P.funcs[f]?=some fn)(hb:fn.body=some c)(hr:fn.results=rs.toArray)(hn:args.length≤fn.ntmps)(hmv:mv.length≤100)
 (h:AWp P c (zKU P rs r hs' nw hs.length g' d') (zGV (itM P l A N stop) g fn.ntmps hs.length args (zAW mv hs))):FY P f l A N stop g g' d' args hs mv r hs' nw:=fun b hG b1 σ0 vals hpre hVX hH hle hσ hY hv=>by
 have hl:=hv.length
 obtain⟨hrd,hVL,hYo⟩:=hG
 have hpre0:=hpre
 obtain⟨⟨a1,a2,a3,a4,a5⟩,a6⟩:=hpre
 let b2:zJ:=⟨b1.w,b1.X,b1.Y,b1.fix,b1.lt,b1.ylt,b1.dis,b1.one,b.V,b.J,none,fun d k hk=>a5 k (by cases d with|true=>exact hk|false=>exact hVL.1 k hk),fun i d O u v hj hK hO=>b.jk i d O u v hj hK fun k hk=>by
  rcases hO k hk with h|h
  ·have:=a2.size;exact .inl (by omega)
  ·exact(a6 k h).symm⟩
 have hG2:itM P l A N stop b2:=⟨rfl,hVL,fun i hi=>(hYo i hi).less fun b3 ⟨q1,q2,q3,q4,q5⟩=>yPre.trans hpre0 q1 q2 q3 q4 q5⟩;have up:∀{σ h w},HRel b1 σ h w→HRel b2 σ h w:=fun H=>⟨H.blk,H.inj,H.new,H.fx,H.big⟩
 have dn:∀{σ h w},HRel b2 σ h w→HRel b1 σ h w:=fun H=>⟨H.blk,H.inj,H.new,H.fx,H.big⟩
 refine zDs (b0:=b2) hf hb rfl h ⟨σ0,trivial,?_,⟨rfl,rfl,rfl,Nat.le_refl _,fun _ _ _=>rfl⟩,up hH,fun t x hx=> ?_,fun id hid=> ?_,fun i v hi=>hle i v hi,hG2,a1⟩ (fun e S hQ=>by cases e<;>first|exact .inl rfl|exact .inr rfl|exact hQ.elim) fun e a w S hR hQ hd=> ?_
 ·simp[zGV,zBT,hl];omega
 ·obtain⟨y,e1,rfl⟩:∃y,args[t]?=some y∧y.av=x:=by simpa[zGV,zBT,Option.map_eq_some_iff]using hx
  obtain⟨v,e2,e3⟩:=hv.get e1
  have ht:(vals.toArray++Array.replicate (fn.ntmps-vals.toArray.size) undef).getD t undef=v:=by
   have hlt:=(List.getElem?_eq_some_iff.1 e2).1;have:=(List.getElem?_eq_some_iff.1 e2).2
   simp[Array.getD_eq_getD_getElem?,Array.getElem?_append,hlt,this]
  rw[ht];exact e3.av
 ·have hid':(Nat.blt id 800||(Nat.ble 900 id && Nat.blt id 1000))=true:=hid
  have h1:id<800∨(900≤id∧id<1000):=by
   rw[Bool.or_eq_true,Bool.and_eq_true]at hid';exact hid'.imp (fun h=>Nat.blt_eq.mp h) fun h=>⟨Nat.ble_eq.mp h.1,Nat.blt_eq.mp h.2⟩
  refine⟨?_,by omega⟩
  cases hc:σ0 id with
  |none=>rfl
  | some v=>
    rcases hσ id v hc with h|h
    ·have:=(b1.one id v h).1;omega
    ·omega
 ·obtain⟨⟨g1,g2⟩,S',loc,r1,hs1,nw1,⟨rfl,rfl,rfl⟩,hln,hw,hS',hlc,hS⟩:(S.gs=g'∧S.dd=d')∧zEa P rs (GEq r hs' nw) hs.length S:=by cases e<;>first|exact hQ|exact hQ.elim
  rw[Bool.and_eq_true]at hln;have hl1:=Nat.eq_of_beq_eq_true hln.1;have hl2:=Nat.ble_eq.mp hln.2;have hR0:=hR
  obtain⟨σ,R⟩:=hR
  have hgh:b.J S.gs S.dd w:=R.gh;have hext:=R.ext;unfold zB1 at hext;rw[g1,g2]at hgh;rw[g2]at hext
  obtain⟨σ,R1⟩:=hw b2 a w hR0
  obtain⟨v,h1,h2⟩:=hS.run hr R1
  have hH0:=R1.hp;rw[hS']at hH0 h2;have low:∀i B,zD loc i=some B→i<900:=fun i B h=>Nat.blt_eq.mp (List.all_eq_true.1 hlc _ (zBb h))
  have high:∀i,zD (zAv nw1 hs1) i≠none→900≤i:=fun i hi=>by
   rw[zBr hl2]at hi;by_cases h1:1000≤i
   ·omega
   ·rw[if_neg h1]at hi
    by_cases h2:900≤i
    ·exact h2
    ·rw[if_neg h2]at hi;exact absurd rfl hi
  obtain⟨H',hsub⟩:=hH0.part (h':=zD (zAv nw1 hs1)) (fun i hi=>by
   rw[zCq]
   cases hc:zD loc i with
   |none=>rfl
   | some B=>
     have:=low i B hc;have:=high i hi
     omega) (fun i v hi=>by
   have h0:=(b1.one i v hi).1;have h3:=hle i v hi;rw[zBr hl2,if_pos h0,List.getElem?_eq_getElem (by omega)]
   simp)
  exact⟨v,h1,⟨v,σ,r1,hs1,nw1,rfl,⟨rfl,rfl,rfl⟩,hl1,hl2,dn H',h2.less fun b (hb:out b2 σ (zD (zAv nw1 hs1)) b)=>hb.imp (hsub b) fun h=>h,hext⟩,hgh⟩
theorem zG5{f:FuncId}{fn:Func}{c:Code}{rs:List ResultVar}{l N g g':Nat}{stop d':Bool}{A:RM}{args:List V1}{hs mv:List AB}{r:AV}{hs' nw:List AB}{n:Nat}(hf:P.funcs[f]?=some fn)(hb:fn.body=some c)(hr:fn.results=rs.toArray)(hn:fn.ntmps=n)(hl:(Nat.ble args.length n && Nat.ble mv.length 100)=true)
 (h:AWp P c (zKU P rs r hs' nw hs.length g' d') (zGV (itM P l A N stop) g n hs.length args (zAW mv hs))):FY P f l A N stop g g' d' args hs mv r hs' nw:=by
 subst hn;rw[Bool.and_eq_true]at hl;exact zQ0 hf hb hr (Nat.ble_eq.mp hl.1) (Nat.ble_eq.mp hl.2) h
def St.goneY(S:St)(dst:Option Tmp)(r:AV)(hE:List (Nat×Option AB))(ni:List Nat)(g':Nat)(d':Bool):St:={S.eff dst ⟨r,hE,ni⟩with gs:=g',dd:=d'}
theorem Rel0.goneY{b0:zJ}{σ σ':Nat→Option Value}{S:St}{a:Act}{w w':World}{dst:Option Tmp}{g':Nat}{d':Bool}{r:AV}{v:Value}{hE:List (Nat×Option AB)}{ni:List Nat}(R:Rel0 b0 σ S a w)(hd:dOk S.n dst=true)(hdd:S.dd=false)(hV:∀k,b0.V false k→b0.V true k)
 (hVl:∀k,b0.V d' k→∃o:Loop,w.heap[k]?=some (.loop o)) (C:zH4 b0 σ S (b0.V d') hE ni r v w w' σ') (hJ:b0.J g' d' w'):Rel0 b0 σ' (S.goneY dst r hE ni g' d') (a.put dst v) w':=by
 have hVn:zCS (b0.V d') w:=fun b hb cs t p h=>by
  obtain⟨o,ho⟩:=hVl b hb
  rw[ho]at h
  cases h
 have hext:=R.ext;unfold zB1 at hext;rw[hdd]at hext;have hKc:Keep (fun b=>out b0 σ S.h b∨b0.V d' b) w w':=C.keep.less fun b hb=>hb.imp .inl id
 have sl:∀{t x},S.t t=some x→RepA σ' (out b0 σ' (zAb hE S.h)) w' x (a.tmps.getD t undef):=fun h=>((R.sl _ _ h).more hVn).keep hKc (fun b hb=>(C.outs b hb).imp .inl id) C.up
 have hdf:Marks b0.w.heap.size a.defers w':=by
  refine R.df.keep C.keep fun D hD=> ?_
  rcases hD with h|h
  ·exact R.hp.nodef h
  ·intro e
   obtain⟨o,ho⟩:=hVl D h
   rw[ho]at e
   cases e
 refine⟨by rw[zDw];exact hdf,size_put.trans R.sz,?_,C.hp,fun t x ht=> ?_,fun id hid=> ?_,R.le,R.gd,hJ⟩
 ·refine(hext.less (O':=zB1 b0 (S.goneY dst r hE ni g' d')) fun b hb=> ?_).trans C.keep fun i h=> ?_
  ·refine hb.imp id fun h=> ?_
   show b0.V d' b
   cases d' with
   |false=>exact h
   |true=>exact hV b h
  ·rcases h with h|h
   ·exact(R.hp.new i h).imp id .inl
   ·exact .inr (.inr h)
 ·replace ht:(S.eff dst ⟨r,hE,ni⟩).t t=some x:=ht
  cases dst with
  |none=>exact sl ht
  | some d=>
    have hlt:d<a.tmps.size:=by rw[R.sz];exact Nat.blt_eq.mp hd
    rw[zDy hlt]
    simp only[St.eff]at ht
    by_cases e:t=d
    ·subst e
     rw[zAk]at ht
     cases ht
     rw[if_pos rfl];exact C.rep
    ·rw[zAa _ _ e]at ht
     rw[if_neg e];exact sl ht
 ·replace hid:(S.fr id && !(ni.any (Nat.beq id)))=true:=hid
  rw[Bool.and_eq_true,Bool.not_eq_true']at hid
  refine⟨?_,(R.fr id hid.1).2⟩
  cases hc:σ' id with
  |none=>rfl
  | some v=>
    rcases C.dom id (by simp[hc])with h1|h1
    ·exact absurd (R.fr id hid.1).1 h1
    ·have h2:ni.any (Nat.beq id)=true:=List.any_eq_true.2 ⟨id,h1,Nat.beq_refl id⟩
     rw[h2]at hid
     cases hid.2
theorem zQS{b0:zJ}{σ:Nat→Option Value}{S:St}{a:Act}{w:World}{ids:List Nat}{g nb:Nat}{d':Bool}(R0:Rel0 b0 σ S a w)(hVL:zIi b0)(hgs:S.gs=g)(hdd:S.dd=false)(hids:∀k,k<nb→ids[k]?=some (1000+k))(b1:zJ)(e1:b1.w=w)(e2:∀k id,ids[k]?=some id→b1.fix (1000+k)=σ id)
 (e3:∀b,b1.X b∨b1.Y b→out b0 σ S.h b∨b0.V d' b) (e4:∀b,b1.Y b→own σ S.h b) (e5:∀b,out b0 σ S.h b→b1.X b∨b1.Y b):zIO b0 g nb b1:=by
 obtain⟨hV,hVJ⟩:=hVL
 have hext:=R0.ext;unfold zB1 at hext;rw[hdd]at hext;have hgh:=R0.gh;rw[hgs,hdd]at hgh
 refine⟨⟨by rw[e1];exact hgh,by rw[e1];exact hext,fun k hk=> ?_,fun k hk=> ?_,fun k hk=> ?_⟩,fun k hk=>(R0.hp.new k (e4 k hk)).symm⟩
 ·rw[e2 k _ (hids k hk)]
  cases hf:b0.fix (1000+k)with
  |none=>exact R0.hp.big _ (by omega) hf
  |some v=>exact(R0.hp.fx _ v hf).1
 ·rcases e3 k hk with (h|h)|h
  ·exact(R0.hp.new k h).elim (fun h=>.inr (.inr h)) fun h=>.inr (.inl h)
  ·exact .inl h
  ·exact .inl (b0.vx _ _ h)
 ·refine(e5 k (.inr (b0.vx _ _ hk))).resolve_right fun h=> ?_
  obtain⟨o,ho⟩:=hVJ _ _ _ hgh k hk
  exact R0.hp.noLoop ho (e4 k h)
section ops
variable{ops:Array Oper}{rest:List Oper}{S:St}{Q:St→Prop}{dst:Option Tmp}{ty:TypeId}{pos:String}{after:Array Edge}{guard:Option (Nat×Bool)}
theorem zOO{l N g g':Nat}{stop d':Bool}{A:RM}{f:FuncId}{fn:Func}{z:Operand}{cap:List V1}{xs:Array Operand}{ats:Array TypeId}{args zA8:List V1}{r r':AV}(ids mids ni:List Nat)(bs mv hs' nw bs' nw':List AB)(hw:S.wants ops {dst,op:=.call {callee:=.value z,args:=xs,argTypes:=ats},type:=ty,pos,after,guard}=some true)(hd:dOk S.n dst=true)
 (hz:FnV S z f cap) (ha:S.opds xs.toList=some args) (hf:P.funcs[f]?=some fn) (hb:fn.body.isNone=false) (hnm:(fn.name== "runtime.NumGoroutine")=false)
 (hG:∀b,S.G b→itM P l A N stop b) (hgs:S.gs=g) (hdd:S.dd=false) (hids:∀k,k<A.nb→ids[k]?=some (1000+k)) (hL:zBh S ids mids ids bs) (hM:zCE S mids mv)
 (hnd:(zAr (ids++mids) && mids.all (fun m=>Nat.blt m 1000) && Nat.ble mv.length 100 && zAr ni && ni.all (fun i=>S.fr i) && Nat.beq bs'.length bs.length && Nat.beq nw'.length ni.length)=true) (hla:LeL (zCc ids mids) (args++cap) zA8) (hr:BackA ids ni r r') (hbk:zAV ids ni hs' bs') (hnw:BackB ids ni nw nw')
 (hc:FY P f l A N stop g g' d' zA8 bs mv r hs' nw)
 (hn:AText P ops rest (S.goneY dst r' (zN ids bs'++(zN ni nw'++zA3 mids)) ni g' d') Q):AText P ops ({dst,op:=.call {callee:=.value z,args:=xs,argTypes:=ats},type:=ty,pos,after,guard}::rest) S Q:=⟨fun rd b0 a w K hR hK=>by
 obtain⟨σ,R0⟩:=hR
 have hGb:=hG b0 R0.gd;have hVL:=hGb.2.1
 simp only[Bool.and_eq_true]at hnd
 obtain⟨⟨⟨⟨⟨⟨n1,n2⟩,n3⟩,n4⟩,n5⟩,n6⟩,n7⟩:=hnd
 unfold wpListIn;rw[if_pos (zCm R0 hw)]
 refine⟨fun _ _=>trivial,?_⟩
 have hgh:=R0.gh;rw[hgs,hdd]at hgh;have hVt:∀k,b0.V d' k→b0.V true k:=fun k hk=>by
  cases d' with
  |false=>exact hVL.1 k hk
  |true=>exact hk
 have hVl:∀k,b0.V d' k→∃o:Loop,w.heap[k]?=some (.loop o):=fun k hk=>hVL.2 _ _ _ hgh k (hVt k hk)
 obtain⟨vs,e1,e2⟩:=hz.rep R0
 have:=zEQ (ids:=ids) (mids:=mids) (ni:=ni) (Cl:=fCl P b0 f g' d') (fun vals w Q Q' hq h=>Calls.mono h fun e w' h=>⟨hq _ _ h.1,h.2⟩) (hc b0 hGb) hVl (fun b1 q1 q2 q3 q4 q5=>zQS R0 hVL hgs hdd hids b1 q1 q2 q3 q4 q5) R0 (RepL.append (zBX R0 ha) e2) hla hL hM n1 n2 (Nat.ble_eq.mp n3) n4 (fun id hid=>List.all_eq_true.1 n5 id hid);rw[Oper.semAt_eq _ _ _ (fun c hc=>by cases hc),zCa f fn hf hb hnm #[] vs.toArray e1 w];rw[Oper.uponIn_enter]
 refine⟨fun hd=>(by cases hd),?_⟩
 rw[show(#[]++xs.map a.eval++vs.toArray:Array Value)=(xs.toList.map a.eval++vs).toArray from Array.ext' (by simp)]
 exact(zD5 rd).calls (Calls.mono this fun e w' ⟨⟨v,r0,hs0,nw0,g1,⟨h1,h2,h3⟩,g3⟩,hJ⟩=>by
  subst g1 h1 h2 h3
  obtain⟨σ',C⟩:=g3 r' bs' nw' hr hbk hnw (Nat.eq_of_beq_eq_true n6) (Nat.eq_of_beq_eq_true n7)
  exact hn.get rd b0 _ _ K ⟨σ',R0.goneY hd hdd hVL.1 hVl C hJ⟩ hK)⟩
end ops
end
section
variable{P:Program}{tab:List (TypeId×TD)}
inductive LentN(ids:List Nat):CV→CV→Prop
 |b {x y:CV} (h:LentB ids [] x y):LentN ids x y
 |fn (f m:Nat) (C D:Nat→CV) (h:∀i,i<m→LentB ids [] (C i) (D i)):LentN ids (.fn f m C) (.fn f m D)
theorem LentN.m{ids:List Nat}{x y:CV}(h:LentN ids x y):LentM ids [] x y:=by
 cases h with
 |b h=>exact .b h
 |fn f m C D h=>exact .fn f m C D h
theorem LentB.self{ids:List Nat}{σ σ1:Nat→Option Value}{O:Nat→Prop}{w:World}(hs:∀id∈ids,∀u,σ id=some u→σ1 id=some u){x y:CV}{u:Value}(h:LentB ids [] x y)(hu:RepC σ O w x u):RepC σ1 O w x u:=by
 cases h with
 |imm x hi=>exact zBp hi hu.1 (zBe hi hu)
 |ow id i hp=>exact⟨hu.1,hs id (List.mem_of_getElem? (zAR hp)) _ hu.2.1,hu.2.2⟩
 |mv id i hp=>cases hp
 |pt id i sz k j hp=>obtain⟨g,v,b,e1,e2,e3⟩:=hu;exact⟨g,v,b,hs id (List.mem_of_getElem? (zAR hp)) _ e1,e2,e3⟩
theorem LentN.self{ids:List Nat}{σ σ1:Nat→Option Value}{O:Nat→Prop}{w:World}(hs:∀id∈ids,∀u,σ id=some u→σ1 id=some u){x y:CV}{u:Value}(h:LentN ids x y)(hu:RepC σ O w x u):RepC σ1 O w x u:=by
 cases h with
 |b h=>exact h.self hs hu
 | fn f m C D hc=>
   obtain⟨g,vs,e1,e2,e3⟩:=hu
   refine⟨g,vs,e1,e2,fun i hi=> ?_⟩
   obtain⟨v,k1,k2,k3⟩:=e3 i hi
   have n1:=(hc i hi).noFn.1
   exact⟨v,k1,k2,zJz n1 ((hc i hi).self hs (zHw n1 k2 k3))⟩
theorem LentB.more{ids:List Nat}(d:Nat){x y:CV}(h:LentB ids [] x y):LentB (ids++ [d]) [] x y:=by
 cases h with
 |imm x hi=>exact .imm x hi
 |ow id i hp=>exact .ow id i (zJm hp)
 |mv id i hp=>cases hp
 |pt id i sz k j hp=>exact .pt id i sz k j (zJm hp)
theorem LentN.more{ids:List Nat}(d:Nat){x y:CV}(h:LentN ids x y):LentN (ids++ [d]) x y:=by
 cases h with
 |b h=>exact .b (h.more d)
 |fn f m C D hc=>exact .fn f m C D fun i hi=>(hc i hi).more d
def zFr(S:St)(ids:List Nat):List Nat→List AB→Prop
 | [],[]=>True
 |id::l,B::bs=>(∃F,S.h id=some ⟨B.row,B.n,B.sz,B.ty,F⟩∧(B.row=true→0<B.n)∧∀k,k<B.n→∀j,j<B.sz→LentN ids (F k j) (B.F k j))∧zFr S ids l bs
 |_,_=>False
theorem zM1{S:St}{ids:List Nat}:∀{l:List Nat} {bs:List AB},zFr S ids l bs→l.length=bs.length∧∀(i id:Nat),l[i]?=some id→∃B F,bs[i]?=some B∧S.h id=some ⟨B.row,B.n,B.sz,B.ty,F⟩∧(B.row=true→0<B.n)∧∀k,k<B.n→∀j,j<B.sz→LentN ids (F k j) (B.F k j)
 | [],[],_=>⟨rfl,fun i id h=>by simp at h⟩
 | id::l,B::bs,h=>by
   obtain⟨h1,h2⟩:=zM1 h.2
   refine⟨by simp[h1],fun i id' hi=> ?_⟩
   cases i with
   |zero=>cases hi;obtain⟨F,hF⟩:=h.1;exact⟨B,F,rfl,hF⟩
   |succ i=>simpa using h2 i id' (by simpa using hi)
 | [],_::_,h=>h.elim
 |_::_,[],h=>h.elim
theorem zM0{S:St}{all mids:List Nat}:∀{l:List Nat} {bs:List AB},l.length=bs.length→(∀(i id:Nat),l[i]?=some id→∃B F,bs[i]?=some B∧S.h id=some ⟨B.row,B.n,B.sz,B.ty,F⟩∧(B.row=true→0<B.n)∧∀k,k<B.n→∀j,j<B.sz→LentM all mids (F k j) (B.F k j))→zBh S all mids l bs
 | [],[],_,_=>trivial
 | id::l,B::bs,hl,h=>by
   obtain⟨B',F,e1,e2⟩:=h 0 id rfl
   cases e1
   exact⟨⟨F,e2⟩,zM0 (by simpa using hl) fun i id' hi=>by simpa using h (i+1) id' (by simpa using hi)⟩
 | [],_::_,hl,_=>by simp at hl
 |_::_,[],hl,_=>by simp at hl
def zLa(ids:List Nat)(d1:Nat):CV→Bool
 | .ow id=>ids.any (Nat.beq id)||Nat.beq id d1
 | .pt id _ _ _=>ids.any (Nat.beq id)
 | .any=>true
 |_=>false
def zLb(ids:List Nat)(d1:Nat):V1→Bool
 | .c x=>zK x||zLa ids d1 x
 | .ag l=>l.all zK
theorem zM7{ids:List Nat}{id:Nat}(h:ids.any (Nat.beq id)=true):id∈ids:=by
 obtain⟨x,h1,h2⟩:=List.any_eq_true.1 h
 rw[Nat.eq_of_beq_eq_true h2];exact h1
theorem zP4{ids:List Nat}{d1:Nat}{σ σ1:Nat→Option Value}{O O1:Nat→Prop}{w:World}(hO:∀b,O1 b→O b)(hs:∀id∈ids,∀u,σ id=some u→σ1 id=some u)(hd:σ d1=none){x:V1}{u:Value}(h:zLb ids d1 x=true)(hu:RepV σ O w x u):RepV σ1 O1 w x u:=by
 have im:∀{x:CV} {u:Value},zK x=true→RepC σ O w x u→RepC σ1 O1 w x u:=fun hi hu=>zBp hi hu.1 ((zBe hi hu).less hO)
 cases x with
 | c x =>
   have h0:(zK x||zLa ids d1 x)=true:=h;rw[Bool.or_eq_true]at h0
   rcases h0 with h0|h0
   ·exact im h0 hu
   ·cases x with
    | ow id=>
      have h:(ids.any (Nat.beq id)||Nat.beq id d1)=true:=h0;rw[Bool.or_eq_true]at h
      rcases h with h|h
      ·exact⟨hu.1,hs id (zM7 h) _ hu.2.1,hu.2.2⟩
      ·have h2:σ id=some u:=hu.2.1
       rw[Nat.eq_of_beq_eq_true h,hd]at h2
       cases h2
    |pt id sz k j=>obtain⟨g,v,b,e1,e2,e3⟩:=hu;exact⟨g,v,b,hs id (zM7 h0) _ e1,e2,e3⟩
    |any=>exact⟨hu.1,trivial⟩
    |_=>cases h0
 | ag l=>
   obtain⟨vs,rfl,e⟩:=hu
   refine⟨vs,rfl,zA5 e.length fun i x v h1 h2=> ?_⟩
   obtain⟨v',k1,k2⟩:=e.get h1
   rw[h2]at k1
   cases k1
   exact im (List.all_eq_true.1 h x (List.mem_of_getElem? h1)) k2
def St.fk(S:St):St:={n:=S.n,ln:=S.ln,t:=S.t,h:=S.h,fr:=fun _=>false,G:=fun _=>True,gs:=0,dd:=false}
theorem zJk{S S1:St}(h:S1.t=S.t)(x:Operand):S1.opd x=S.opd x:=by
 cases x with
 |tmp t=>exact congrFun h t
 |_=>rfl
def zMa(d1:Nat):Option Tmp→Bool
 |some d=> !(Nat.beq d d1)
 |none=>true
def AMid(P:Program)(ops:Array Oper)(d1:Nat):List Oper→St→St→Prop
 | [],S,S'=>S'=S
 | o ::l,S,S'=>∃x,S.wants ops o=some true∧(dOk S.n o.dst && zMa d1 o.dst)=true∧
     (∀S1:St,S1.t=S.t→∀b0 σ a w,Rel0 b0 σ S1 a w→∃u,(execOp a.eval o).run P w=.ok (.value u) w∧RepA σ (out b0 σ S1.h) w x u)∧AMid P ops d1 l (S.eff o.dst ⟨x,[],[]⟩) S'
structure zOT(S S':St):Prop where
 n:S'.n=S.n
 ln:S'.ln=S.ln
 h:S'.h=S.h
 G:S'.G=S.G
 gs:S'.gs=S.gs
 dd:S'.dd=S.dd
 fr:∀id,S'.fr id=S.fr id
theorem AMid.alike{ops:Array Oper}{d1:Nat}:∀{l:List Oper} {S S':St},AMid P ops d1 l S S'→zOT S S'
 | [],S,S',h=>by cases h;exact⟨rfl,rfl,rfl,rfl,rfl,rfl,fun _=>rfl⟩
 | o::l,S,S',⟨x,_,_,_,h⟩=>by
   have:=AMid.alike h
   exact⟨this.n,this.ln,this.h,this.G,this.gs,this.dd,fun id=>(this.fr id).trans (by simp[St.eff])⟩
theorem AMid.run{ops:Array Oper}{d1:Nat}{rd:Option Nat}{K:Exit→Act→World→Prop}{b0:zJ}{σ:Nat→Option Value}{w:World}{u:Value}{tl:List Oper}{ds:List Deferred}:∀{l:List Oper} {S S':St} {a:Act},AMid P ops d1 l S S'→d1<S.n→Rel0 b0 σ S.fk {a with defers:= []} w→a.defers=ds→a.tmps.getD d1 undef=u→
 (∀a',Rel0 b0 σ S'.fk {a' with defers:= []} w→a'.defers=ds→a'.tmps.getD d1 undef=u→wpListIn (fnc rd) 0 P ops K tl a' w)→wpListIn (fnc rd) 0 P ops K (l++tl) a w
 | [],S,S',a,h,_,R,hds,hu,hk=>by cases h;exact hk a R hds hu
 | o ::l,S,S',a,⟨x,h1,h2,h3,h⟩,hd1,R,hds,hu,hk=>by
   rw[Bool.and_eq_true]at h2;rw[List.cons_append];unfold wpListIn;have hwt:Region.wanted o (yielded ops a.tmps)=true:=zCm (S:=S.fk) (a:={a with defers:= []}) R h1;rw[if_pos hwt]
   obtain⟨v,e1,e2⟩:=h3 S.fk rfl b0 σ {a with defers:= []} w R
   replace e1:(execOp a.eval o).run P w=.ok (.value v) w:=e1
   refine GoesA.wpIn (K0:=fun v' w'=>v'=v∧w'=w) (.inl (by rw[e1];exact⟨rfl,rfl⟩)) fun v' w' ⟨q1,q2⟩=> ?_
   subst q1 q2;have RF':Rel0 b0 σ (S.eff o.dst ⟨x,[],[]⟩).fk {(a.put o.dst v')with defers:= []} w':=by
    have:=R.val (S:=S.fk) (d:=o.dst) (x:=x) (u:=v') h2.1 (Ext.refl w') fun _=>e2
    cases hd:o.dst with
    |none=>rw[hd]at this;exact this
    |some d=>rw[hd]at this;exact this
   refine AMid.run h hd1 RF' (by rw[zDw];exact hds) ?_ hk
   cases hd:o.dst with
   |none=>exact hu
   | some d=>
     rw[hd]at h2;have hlt:d<a.tmps.size:=by have:=R.sz;simp only[St.fk]at this;rw[this];exact Nat.blt_eq.mp h2.1
     rw[zDy hlt,if_neg (fun e=>by have h3:(!(Nat.beq d d1))=true:=h2.2;rw[e,Nat.beq_refl]at h3;cases h3)]
     exact hu
section mids
variable{ops:Array Oper}{d1:Nat}{l:List Oper}{S S':St}{dst:Option Tmp}{ty:TypeId}{pos:String}{after:Array Edge}{guard:Option (Nat×Bool)}
theorem AMid.nil:AMid P ops d1 [] S S:=rfl
theorem AMid.load1l(T:zAp P tab=true){t:TypeId}{x:Operand}{n sz:Nat}{F:Nat→Nat→CV}{k j:Nat}{d:TD}(hw:S.wants ops {dst,op:=.load t x,type:=ty,pos,after,guard}=some true)(hd:(dOk S.n dst && zMa d1 dst)=true)(hx:S.opd x=some (.c (.pl n sz F k j)))(ht:zD tab t=some d)(hk1:zDB d.k=true)(hj:j<sz)
 (hk:AMid P ops d1 l (S.eff dst ⟨.c (F k j),[],[]⟩) S'):AMid P ops d1 ({dst,op:=.load t x,type:=ty,pos,after,guard}::l) S S':=
 ⟨_,hw,hd,fun S1 hS b0 σ a w R=>by
   obtain⟨-,ad,e1,hkn,e3⟩:=zX R ((zJk hS x).trans hx)
   obtain⟨u,f1,f2,f3,f4⟩:=e3 k hkn j hj
   obtain⟨ud,g1,g2⟩:=zFi T ht hk1
   refine⟨u,?_,?_⟩
   ·simp only[execOp,e1,Instr.loadAt,Instr.sureAddr,Sem.run_bind,Sem.run_pure,Result.andThen_ok,zF5 g1 g2 f2]
   ·show RepC _ _ _ (F k j) u
    cases hF:F k j<;>rw[hF]at f4<;>first|exact⟨f3,f4⟩|exact f4.elim,hk⟩
end mids
section txt
variable{ops:Array Oper}{rest:List Oper}{S:St}{Q:St→Prop}{dst:Option Tmp}{ty ty1:TypeId}{pos pos1:String}{after after1:Array Edge}{guard guard1:Option (Nat×Bool)}
theorem zCD(T:zAp P tab=true)(mid:List Oper){S2:St}{l N g g':Nat}{stop d':Bool}{A:RM}{d1:Tmp}{f:FuncId}{fn:Func}{z:Operand}{cap:List V1}{xs:Array Operand}{ats:Array TypeId}{args zA8:List V1}{r r':AV}(ids:List Nat)(bs hs' bs':List AB)
 {s x:Operand} {t el:TypeId} {d e:TD} {o:Option Nat} {vs:CV} {n m:Nat} {F G:Nat→Nat→CV}
 (hw1:S.wants ops {dst:=some d1,op:=.call {callee:=.builtin .append,args:= #[s,x],argTypes:= #[t,t]},type:=ty1,pos:=pos1,after:=after1,guard:=guard1}=some true)
 (hmid:AMid P ops d1 mid (S.eff (some d1) ⟨.c .any,[],[d1]⟩) S2) (hw:S2.wants ops {dst,op:=.call {callee:=.value z,args:=xs,argTypes:=ats},type:=ty,pos,after,guard}=some true) (hd1:(dOk S.n (some d1) && dOk S.n dst && S.fr d1)=true)
 (hs:S.opd s=some (.c vs)) (hx:S.opd x=some (.c (.ls m e.size G))) (ht:zD tab t=some d) (hk:d.k=.sl el) (he:zD tab el=some e) (hsz:Nat.blt 0 e.size=true)
 (ho:(o=none∧vs=.p (.slice none 0 0)∧n=0)∨∃i,o=some i∧vs=.ow i∧S.h i=some ⟨true,n,e.size,el,F⟩∧i∉ids) (hF:∀k,k<n→∀j,j<e.size→isP (F k j)=true) (hG:∀k,k<m→∀j,j<e.size→isP (G k j)=true) (hnm:0<n+m)
 (h63:n+m≤4611686018427387904) (hb0:(n+m)*e.bytes≤140737488355328)
 (hz:FnV S2 z f cap) (ha:({S2 with t:=put S2.t d1 (some (.c (.ow d1)))}:St).opds xs.toList=some args) (hf:P.funcs[f]?=some fn) (hb:fn.body.isNone=false) (hnm':(fn.name== "runtime.NumGoroutine")=false)
 (hGd:∀b,S.G b→itM P l A N stop b) (hgs:S.gs=g) (hdd:S.dd=false) (hids:∀k,k<A.nb→ids[k]?=some (1000+k)) (hL:zFr S ids ids bs) (hok:((args++cap).all (zLb ids d1) && zAr ids && !(ids.any (Nat.beq d1)) && Nat.beq bs'.length ids.length)=true)
 (hla:LeL (zCc (ids++ [d1]) []) (args++cap) zA8) (hr:BackA (ids++ [d1]) [] r r') (hbk:zAV (ids++ [d1]) [] (hs'++ [⟨true,n+m,e.size,el,zAh F n G⟩]) (bs'++ [⟨true,n+m,e.size,el,zAh F n G⟩]))
 (hc:FY P f l A N stop g g' d' zA8 (bs++ [⟨true,n+m,e.size,el,zAh F n G⟩]) [] r (hs'++ [⟨true,n+m,e.size,el,zAh F n G⟩]) [])
 (hn:AText P ops rest (S2.goneY dst r' (zN ids bs') [] g' d') Q):
 AText P ops ({dst:=some d1,op:=.call {callee:=.builtin .append,args:= #[s,x],argTypes:= #[t,t]},type:=ty1,pos:=pos1,after:=after1,guard:=guard1}::(mid++{dst,op:=.call {callee:=.value z,args:=xs,argTypes:=ats},type:=ty,pos,after,guard}::rest)) S Q:=⟨fun rd b0 a w K hR hK=>by
 obtain⟨σ,R0⟩:=hR
 simp only[Bool.and_eq_true,Bool.not_eq_true']at hd1 hok
 obtain⟨⟨hdA,hdB⟩,hfr⟩:=hd1
 obtain⟨⟨⟨hao,n1⟩,hd1n⟩,hbl⟩:=hok
 have hbl:=Nat.eq_of_beq_eq_true hbl;have hd1i:d1∉ids:=fun h=>by rw[List.any_eq_true.2 ⟨d1,h,Nat.beq_refl d1⟩]at hd1n;cases hd1n
 have hGb:=hGd b0 R0.gd;have hVL:=hGb.2.1;have r1:=zX R0 hs;have r2:=zX R0 hx
 obtain⟨u,w1,hrun,hE⟩:=zK6 (ty:=ty1) (d1:=d1) (ids:=ids) (u1:=a.eval s) (u2:=a.eval x) (o:=o) (F:=F) (G:=G) T R0 hfr ht hk he (Nat.blt_eq.mp hsz) hnm
  (by
    rcases ho with ⟨h1,rfl,h3⟩|⟨i,h1,rfl,h3,h4⟩
    ·exact .inl ⟨h1,r1.2,h3⟩
    ·exact .inr ⟨i,h1,r1.2.1,h3,h4⟩) hF hG r2 h63 hb0
 have hex:(execOp a.eval {dst:=some d1,op:=.call {callee:=.builtin .append,args:= #[s,x],argTypes:= #[t,t]},type:=ty1,pos:=pos1,after:=after1,guard:=guard1}).run P w=.ok (.value u) w1:=by
  simp only[execOp,resolve,invoke,builtin,Sem.run_bind,Sem.run_pure,Result.andThen_ok,List.map_toArray,List.map_cons,List.map_nil,hrun]
 obtain⟨hno,hlo⟩:=R0.fr d1 hfr
 generalize hB:(⟨true,n+m,e.size,el,zAh F n G⟩:AB)=B at hE hc hbk;have hBn:B.n=n+m:=by rw[←hB]
 obtain⟨hEno,hrow,b,cap',cs,q1,q2,q3,q4,q5,q6⟩:=hE
 obtain⟨hu,hBc,hcap⟩:u=.slice (some ⟨b,0,none⟩) B.n cap'∧B.n≤cap'∧cap'≤maxLen:=by
  rcases q1 with ⟨_,h1,h2,h3⟩|⟨h1,_⟩
  ·exact⟨h1,h2,h3⟩
  ·rw[hrow]at h1;cases h1
 have hub:zAj u=some b:=by rw[hu];rfl
 have hSd:S.h d1=none:=by
  cases hB:S.h d1 with
  |none=>rfl
  |some B'=>obtain⟨v,e,_⟩:=R0.hp.blk d1 B' hB;rw[hno]at e;cases e
 have hown1:own σ S.h b∨w.heap.size≤b:=by
  rcases q6 with h|⟨o,n0,F0,h1,h2,_⟩
  ·exact .inr h
  ·exact .inl ⟨o,_,by rw[h1];simp,h2,rfl⟩
 have hK1:Keep (own σ S.h) w w1:=⟨q5.os,q5.tape,q5.output,q5.size,fun k hk hn=>q5.block k hk fun e=>by
  subst e;exact hown1.elim hn fun h=>by omega⟩
 have hext:=R0.ext;unfold zB1 at hext;rw[hdd]at hext;have hshare:∀i v,S.h i≠none→σ i=some v→zAj v=some b→i∉ids∧∃n0 F0,S.h i=some ⟨true,n0,B.sz,B.ty,F0⟩∧v=.slice (some ⟨b,0,none⟩) n0 cap'∧n0≤B.n∧∀k,k<n0→∀j,j<B.sz→F0 k j=B.F k j:=fun i v h1 h2 h3=>by
  rcases q6 with h|⟨o,n0,F0,k1,k2,k3,k4,k5⟩
  ·have:=R0.hp.lt ⟨i,v,h1,h2,h3⟩;omega
  ·have:=R0.hp.inj i o v _ b h1 (by rw[k1];simp) h2 k2 h3 rfl
   subst this;rw[k2]at h2
   cases h2
   exact⟨k4,n0,F0,k1,rfl,k3,k5⟩
 obtain⟨hl1,hat⟩:=zM1 hL
 let h1:Nat→Option AB:=fun i=>if i=d1 then some B else if i∈ids then S.h i else none
 let σ1:Nat→Option Value:=fun i=>if i=d1 then some u else if i∈ids then σ i else none
 let fix:Nat→Option Value:=fun i=>if i∈ids then b0.fix i else none
 have hd:h1 d1=some B:=if_pos rfl;have sd:σ1 d1=some u:=if_pos rfl;have hid:∀i,i∈ids→h1 i=S.h i∧σ1 i=σ i∧fix i=b0.fix i:=fun i hi=>by
  have hne:i≠d1:=fun e=>hd1i (e▸hi)
  simp only[h1,σ1,fix]
  rw[if_neg hne,if_pos hi,if_neg hne,if_pos hi,if_pos hi]
  exact⟨rfl,rfl,rfl⟩
 have hou:∀i,i≠d1→i∉ids→h1 i=none∧σ1 i=none∧fix i=none:=fun i h2 h3=>by
  simp only[h1,σ1,fix]
  rw[if_neg h2,if_neg h3,if_neg h2,if_neg h3,if_neg h3]
  exact⟨rfl,rfl,rfl⟩
 have hfx:∀{i v},fix i=some v→i∈ids∧b0.fix i=some v:=fun {i v} h=>by
  by_cases hi:i∈ids
  ·exact⟨hi,by rw[←(hid i hi).2.2];exact h⟩
  ·simp only[fix]at h
   rw[if_neg hi]at h
   cases h
 have cls:∀i v b',h1 i≠none→σ1 i=some v→zAj v=some b'→(i=d1∧b'=b)∨(i∈ids∧i≠d1∧S.h i≠none∧σ i=some v∧b'≠b):=fun i v b' k1 k2 k3=>by
  by_cases e:i=d1
  ·subst e
   rw[sd]at k2
   cases k2
   rw[hub]at k3
   cases k3
   exact .inl ⟨rfl,rfl⟩
  ·by_cases e2:i∈ids
   ·obtain⟨g1,g2,_⟩:=hid i e2
    rw[g1]at k1;rw[g2]at k2;refine .inr ⟨e2,e,k1,k2,fun e3=> ?_⟩;subst e3
    exact(hshare i v k1 k2 k3).1 e2
   ·rw[(hou i e e2).1]at k1
    exact absurd rfl k1
 have ownD:∀b',own σ1 h1 b'→own σ S.h b'∨w.heap.size≤b':=fun b' ⟨i,v,k1,k2,k3⟩=>by
  rcases cls i v b' k1 k2 k3 with ⟨_,rfl⟩|⟨_,_,k4,k5,_⟩
  ·exact hown1
  ·exact .inl ⟨i,v,k4,k5,k3⟩
 have ownLt:∀b',own σ1 h1 b'→b'<w1.heap.size:=fun b' ⟨i,v,k1,k2,k3⟩=>by
  rcases cls i v b' k1 k2 k3 with ⟨_,rfl⟩|⟨_,_,k4,k5,_⟩
  ·exact(Array.getElem?_eq_some_iff.1 q2).1
  ·exact Nat.lt_of_lt_of_le (R0.hp.lt ⟨i,v,k4,k5,k3⟩) q5.size
 have hXno:∀k,b0.X k→¬own σ1 h1 k:=fun k hX ho=>by
  rcases ownD k ho with h|h
  ·rcases R0.hp.new k h with h2|h2
   ·have:=b0.lt k hX;omega
   ·exact b0.dis k hX h2
  ·have:=b0.lt k hX;have:=R0.ext.size;omega
 have hs1:∀id∈ids,∀u,σ id=some u→σ1 id=some u:=fun id hi u hu=>by rw[(hid id hi).2.1];exact hu
 let bA:zJ:=⟨w1,fun k=>(out b0 σ S.h k∨k=b)∧¬own σ1 h1 k,own σ1 h1,fix,fun k hk=>hk.1.elim (fun h=>Nat.lt_of_lt_of_le (zC2 R0 h) q5.size) (fun h=>by rw[h];exact(Array.getElem?_eq_some_iff.1 q2).1),ownLt,fun k hk hy=>hk.2 hy,fun i v h=>b0.one i v (hfx h).2,fun _ _=>False,fun _ _ _=>True,none,fun _ _ h=>h.elim,fun _ _ _ _ _ _ _ _=>trivial⟩
 let S1:St:=⟨0,S.ln,fun _=>none,h1,fun _=>false,fun _=>True,0,false⟩
 have outA:∀k,out bA σ1 h1 k↔(out b0 σ S.h k∨k=b):=fun k=>by
  constructor
  ·rintro(h|h)
   ·obtain⟨i,v,k1,k2,k3⟩:=h
    rcases cls i v k k1 k2 k3 with ⟨_,rfl⟩|⟨_,_,k4,k5,_⟩
    ·exact .inr rfl
    ·exact .inl (.inl ⟨i,v,k4,k5,k3⟩)
   ·exact h.1
  ·intro h
   by_cases ho:own σ1 h1 k
   ·exact .inl ho
   ·exact .inr ⟨h,ho⟩
 have zC1:∀k,out bA σ1 h1 k→out b0 σ S.h k∨w.heap.size≤k:=fun k hk=>by
  rcases(outA k).1 hk with h|h
  ·exact .inl h
  ·subst h;exact hown1.imp .inl id
 have H1:HRel bA σ1 h1 w1:=by
  refine⟨fun i B' hB=> ?_,fun i j v1 v2 b' hi hj k1 k2 k3 k4=> ?_,fun b' hb=>.inr hb,fun i v hi=> ?_,fun i hi hf=> ?_⟩
  ·by_cases e:i=d1
   ·subst e
    rw[hd]at hB
    cases hB
    exact⟨u,sd,.inr (.inl ⟨b,cap',cs,q1,q2,q3,fun k hk j hj=>by obtain⟨p,c,r1,r2⟩:=q4 k hk j hj;exact⟨c,r1,zCX p r2⟩⟩)⟩
   ·by_cases e2:i∈ids
    ·obtain⟨g1,g2,_⟩:=hid i e2
     rw[g1]at hB
     obtain⟨v,k1,k2⟩:=R0.hp.blk i B' hB
     have k3:OBk σ (out bA σ1 h1) w1 v B':=k2.keep (Keep.out (b0:=b0) hK1) zC1 (fun _ _ h=>h) fun b' hb=>q5.block b' (R0.hp.lt ⟨i,v,by rw[hB];simp,k1,hb⟩) fun e3=>by
      subst e3
      exact(hshare i v (by rw[hB];simp) k1 hb).1 e2
     refine⟨v,g2.trans k1,?_⟩
     obtain⟨k,hk,rfl⟩:=List.getElem_of_mem e2
     obtain⟨B2,F2,m1,m2,m3,m4⟩:=hat k _ (List.getElem?_eq_getElem hk)
     rw[hB]at m2
     cases m2
     exact OBk.lendM (F:=F2) (fun k hk j hj u hu=>(m4 k hk j hj).self hs1 hu) (fun k hk j hj b o h=>h) k3
    ·rw[(hou i e e2).1]at hB;cases hB
  ·rcases cls i v1 b' hi k1 k3 with ⟨rfl,rfl⟩|⟨a1,a2,a3,a4,a5⟩
   ·rcases cls j v2 _ hj k2 k4 with ⟨rfl,_⟩|⟨_,_,_,_,c5⟩
    ·rfl
    ·exact absurd rfl c5
   ·rcases cls j v2 b' hj k2 k4 with ⟨rfl,c5⟩|⟨c1,c2,c3,c4,c5⟩
    ·exact absurd c5 a5
    ·exact R0.hp.inj i j v1 v2 b' a3 c3 a4 c4 k3 k4
  ·obtain⟨f1,f2⟩:=hfx hi
   obtain⟨g1,g2,_⟩:=hid i f1
   obtain⟨k1,k2⟩:=R0.hp.fx i v f2
   exact⟨g2.trans k1,by rw[g1];exact k2⟩
  ·by_cases e2:i∈ids
   ·obtain⟨_,g2,g3⟩:=hid i e2
    exact g2.trans (R0.hp.big i hi (g3.symm.trans hf))
   ·exact(hou i (fun e=>by have:(i:Nat)=d1:=e;omega) e2).2.1
 have R1:Rel0 bA σ1 S1 {tmps:= #[],defers:= []} w1:=⟨trivial,rfl,⟨rfl,rfl,rfl,Nat.le_refl _,fun _ _ _=>rfl⟩,H1,fun t x ht=>(by cases ht),fun id hid=>(by cases hid),fun i v hi=>R0.le i v (hfx hi).2,trivial,trivial⟩;have hgh:=R0.gh;rw[hgs,hdd]at hgh;have hVt:∀k,b0.V d' k→b0.V true k:=fun k hk=>by
  cases d' with
  |false=>exact hVL.1 k hk
  |true=>exact hk
 have hVl0:∀k,b0.V d' k→∃o:Loop,w.heap[k]?=some (.loop o):=fun k hk=>hVL.2 _ _ _ hgh k (hVt k hk)
 have hJ1:b0.J g false w1:=b0.jk _ _ _ _ _ hgh hK1 R0.hp.new;have hVl:∀k,b0.V d' k→∃o:Loop,w1.heap[k]?=some (.loop o):=fun k hk=>hVL.2 _ _ _ hJ1 k (hVt k hk)
 have hVn:zCS (b0.V d') w:=fun b hb cs t p h=>by obtain⟨o,ho⟩:=hVl0 b hb;rw[ho]at h;cases h
 unfold wpListIn;rw[if_pos (zCm R0 hw1)];refine GoesA.wpIn (K0:=fun v w'=>v=u∧w'=w1) (.inl (by rw[hex];exact⟨rfl,rfl⟩)) fun v w' ⟨e1,e2⟩=> ?_
 subst e1 e2;have hut:v.oneCell'=true:=by rw[hu];rfl
 have hlt:d1<a.tmps.size:=by rw[R0.sz];exact Nat.blt_eq.mp hdA
 have hput:(a.put (some d1) v).tmps.getD d1 undef=v:=by rw[zDy hlt,if_pos rfl]
 let bF:zJ:=⟨w',fun k=>b0.X k∨(k=b∧¬own σ S.h k),own σ S.h,b0.fix,fun k hk=>hk.elim (fun h=>by have:=b0.lt k h;have:=R0.ext.size;have:=q5.size;omega) (fun h=>by rw[h.1];exact(Array.getElem?_eq_some_iff.1 q2).1),fun k hk=>Nat.lt_of_lt_of_le (R0.hp.lt hk) q5.size,fun k hk hy=>hk.elim (fun h=>(R0.hp.new k hy).elim (fun h2=>by have:=b0.lt k h;omega) (fun h2=>b0.dis k h h2)) (fun h=>h.2 hy),b0.one,fun _ _=>False,fun _ _ _=>True,none,fun _ _ h=>h.elim,fun _ _ _ _ _ _ _ _=>trivial⟩
 have hOF:∀k,out bF σ S.h k→out b0 σ S.h k∨w.heap.size≤k:=fun k hk=>by
  rcases hk with h|h|⟨h,hno⟩
  ·exact .inl (.inl h)
  ·exact .inl (.inr h)
  ·subst h;exact hown1.imp .inl id
 have hOb:out bF σ S.h b:=(Classical.em (own σ S.h b)).elim .inl fun h=>.inr (.inr ⟨rfl,h⟩)
 have RF:Rel0 bF σ (S.eff (some d1) ⟨.c .any,[],[d1]⟩).fk {(a.put (some d1) v)with defers:= []} w':=by
  refine⟨trivial,size_put.trans R0.sz,⟨rfl,rfl,rfl,Nat.le_refl _,fun _ _ _=>rfl⟩,⟨fun i B' hB=> ?_,R0.hp.inj,fun k hk=>.inr hk,R0.hp.fx,R0.hp.big⟩,fun t x ht=> ?_,fun id hid'=>(by cases hid'),R0.le,trivial,trivial⟩
  ·have hne:S.h i≠none:=by rw[show S.h i=some B' from hB];simp
   obtain⟨u0,k1,k2⟩:=R0.hp.blk i B' hB
   refine⟨u0,k1,?_⟩
   by_cases hbb:zAj u0=some b
   ·obtain⟨_,n0,F0,m1,m2,m3,m4⟩:=hshare i u0 hne k1 hbb
    rw[show S.h i=some B' from hB]at m1
    cases m1
    refine .inr (.inl ⟨b,cap',cs,.inl ⟨rfl,m2,by show n0≤cap';omega,hcap⟩,q2,q3,fun k hk j hj=> ?_⟩)
    have hk:k<n0:=hk
    obtain⟨y1,c,y2,y3⟩:=q4 k (by omega) j hj
    refine⟨c,y2,?_⟩
    show RepC _ _ _ (F0 k j) c;rw[m4 k hk j hj];exact zCX y1 y3
   ·exact k2.keep (Keep.out (b0:=b0) hK1) hOF (fun _ _ h=>h) fun b' hb=>q5.block b' (R0.hp.lt ⟨i,u0,hne,k1,hb⟩) fun e=>by subst e;exact hbb hb
  ·replace ht:put S.t d1 (some (AV.c .any)) t=some x:=ht
   show RepA σ (out bF σ S.h) w' x ((a.put (some d1) v).tmps.getD t undef);rw[zDy hlt];by_cases e:t=d1
   ·subst e
    rw[zAk]at ht
    cases ht
    rw[if_pos rfl]
    exact⟨hut,trivial⟩
   ·rw[zAa _ _ e]at ht
    rw[if_neg e]
    exact(R0.sl t x ht).keep (Keep.out (b0:=b0) hK1) hOF fun _ _ h=>h
 refine hmid.run (by show d1<S.n;exact Nat.blt_eq.mp hdA) RF (by rw[zDw]) hput fun a2 R2 hds2 hput2=> ?_
 have hal:=hmid.alike;have hS2h:S2.h=S.h:=hal.h;unfold wpListIn;have hwt:Region.wanted {dst,op:=.call {callee:=.value z,args:=xs,argTypes:=ats},type:=ty,pos,after,guard} (yielded ops a2.tmps)=true:=zCm (S:=S2.fk) (a:={a2 with defers:= []}) R2 hw;rw[if_pos hwt]
 refine⟨fun _ _=>trivial,?_⟩
 obtain⟨cv,e1,e2⟩:=(hz.congr (S1:=S2.fk) (zJk rfl z)).rep R2
 replace e1:a2.eval z=.func (.func f) #[] cv.toArray:=e1
 have ha2:({S2.fk with t:=put S2.t d1 (some (.c (.ow d1)))}:St).opds xs.toList=some args:=by
  have h0:({S2.fk with t:=put S2.t d1 (some (.c (.ow d1)))}:St).opds xs.toList=({S2 with t:=put S2.t d1 (some (.c (.ow d1)))}:St).opds xs.toList:=zCO fun x _=>zJk rfl x
  exact h0.trans ha
 have hargs:=zHn (ty:=()) (S:={S2.fk with t:=put S2.t d1 (some (.c (.ow d1)))}) (S1:=S2.fk) (d1:=d1) (fun t ht=>zAa _ _ ht) (zAk _ _ _) R2 (ex:=some (d1,v,B)) rfl hput2 ha2;have hargs2:RepL (fun x v'=>RepV σ (out bF σ S.h) w' x v'∨∃d u B',some (d1,v,B)=some (d,u,B')∧x=.c (.ow d)∧v'=u) (args++cap) (xs.toList.map a2.eval++cv):=by rw[←hS2h];exact RepL.append hargs (e2.mono fun x v h=>.inl h)
 have hOA:∀k,out bA σ1 h1 k→out bF σ S.h k:=fun k hk=>by
  rcases(outA k).1 hk with (h|h)|h
  ·exact .inl h
  ·exact .inr (.inl h)
  ·subst h;exact hOb
 have hv1:RepL (RepV σ1 (out bA σ1 h1) w') (args++cap) (xs.toList.map a2.eval++cv):=zA5 hargs2.length fun i x v' g1 g2=>by
  obtain⟨v2,k1,k2⟩:=hargs2.get g1
  rw[g2]at k1
  cases k1
  rcases k2 with k2|⟨d,u',B',k3,k4,k5⟩
  ·have ka:=List.all_eq_true.1 hao x (List.mem_of_getElem? g1)
   exact zP4 hOA hs1 hno ka k2
  ·cases k3
   subst k4 k5
   exact⟨hut,sd,.inl ⟨_,_,_,hu⟩⟩
 have hLM:zBh S1 (ids++ [d1]) [] (ids++ [d1]) (bs++ [B]):=zM0 (by simp[hl1]) fun i id hi=>by
  by_cases hil:i<ids.length
  ·rw[List.getElem?_append_left hil]at hi
   obtain⟨B',F',m1,m3,m8,m9⟩:=hat i id hi
   refine⟨B',F',by rw[List.getElem?_append_left (by omega)];exact m1,?_,m8,fun k hk j hj=>((m9 k hk j hj).more d1).m⟩
   show h1 id=_;rw[(hid id (List.mem_of_getElem? hi)).1,m3]
  ·have hlt:=(List.getElem?_eq_some_iff.1 hi).1
   simp at hlt
   obtain rfl:i=ids.length:=by omega
   rw[List.getElem?_append_right (Nat.le_refl _),Nat.sub_self]at hi
   cases hi
   refine⟨B,B.F,by rw[List.getElem?_append_right (by omega),hl1,Nat.sub_self];rfl,hd,fun _=>by omega,fun k hk j hj=> ?_⟩
   have:=(q4 k hk j hj).1
   cases hc:B.F k j<;>rw[hc]at this<;>first|exact .b (.imm _ rfl)|cases this
 have ndup:zAr ((ids++ [d1])++ [])=true:=by
  rw[List.append_nil];have key:∀l:List Nat,zAr l=true→d1∉l→zAr (l++ [d1])=true:=fun l=>by
   induction l with
   |nil=>intro _ _;rfl
   | cons x l ih=>
     intro h1 h2;rw[List.cons_append];unfold zAr at h1⊢;rw[Bool.and_eq_true]at h1⊢
     simp only[List.mem_cons,not_or]at h2
     refine⟨?_,ih h1.2 h2.2⟩
     rw[List.any_append,Bool.not_or,Bool.and_eq_true]
     refine⟨h1.1,?_⟩
     simp only[List.any_cons,List.any_nil,Bool.or_false,Bool.not_eq_true']
     exact Bool.eq_false_iff.2 fun h=>h2.1 (Nat.eq_of_beq_eq_true h).symm
  exact key ids n1 hd1i
 have hcore:=zEQ (ids:=ids++ [d1]) (mids:= []) (ni:= []) (Cl:=fCl P b0 f g' d') (fun vals w Q Q' hq h=>Calls.mono h fun e w' h=>⟨hq _ _ h.1,h.2⟩) (hc b0 hGb) hVl (fun b1 p1 p2 p3 p4 p5=>by
  refine⟨⟨by rw[p1];exact hJ1,by rw[p1];exact hext.trans hK1 fun i h=>(R0.hp.new i h).imp id .inl,fun k hk=> ?_,fun k hk=> ?_,fun k hk=> ?_⟩,fun k hk=> ?_⟩
  ·have hi:=hids k hk
   rw[p2 k _ (by rw[List.getElem?_append_left (List.getElem?_eq_some_iff.1 hi).1];exact hi),(hid _ (List.mem_of_getElem? hi)).2.1]
   cases hf:b0.fix (1000+k)with
   |none=>exact R0.hp.big _ (by omega) hf
   |some v=>exact(R0.hp.fx _ v hf).1
  ·rcases p3 k hk with h|h
   ·rcases zC1 k h with (h|h)|h
    ·exact(R0.hp.new k h).elim (fun h=>.inr (.inr h)) fun h=>.inr (.inl h)
    ·exact .inl h
    ·have:=R0.ext.size;exact .inr (.inr (by omega))
   ·exact .inl (b0.vx _ _ h)
  ·have hX:=b0.vx _ _ hk
   refine(p5 k ((outA k).2 (.inl (.inr hX)))).resolve_right fun h=>hXno k hX (p4 k h)
  ·rcases ownD k (p4 k hk)with h|h
   ·exact(R0.hp.new k h).symm
   ·have:=R0.ext.size;exact .inr (by omega)) R1 hv1 hla hLM trivial ndup rfl (by simp) rfl (fun id hid=>(by cases hid))
 rw[Oper.semAt_eq _ _ _ (fun c hc=>by cases hc),zCa f fn hf hb hnm' #[] cv.toArray e1 w'];rw[Oper.uponIn_enter]
 refine⟨fun hd=>(by cases hd),?_⟩
 rw[show(#[]++xs.map a2.eval++cv.toArray:Array Value)=(xs.toList.map a2.eval++cv).toArray from Array.ext' (by simp)];exact (zD5 rd).calls (Calls.mono hcore fun e w2 ⟨⟨rv',r0,hs0,nw0,g1,⟨g2,g3,g4⟩,g5⟩,hJ⟩=>by
  subst g1 g2 g3 g4
  obtain⟨σ',C⟩:=g5 r' (bs'++ [B]) [] hr hbk trivial (by simp[←hl1,hbl]) rfl
  have hlk2:∀k id B',(ids++ [d1])[k]?=some id→(bs'++ [B])[k]?=some B'→zAb (zN (ids++ [d1]) (bs'++ [B])++(zN [] []++zA3 [])) h1 id=some B':=fun k id B' k1 k2=>by
   rw[zHg];exact zDo (by simp[hbl]) (by simpa using ndup) k id B' _ k1 k2
  have s1up:=C.up;have sd':σ' d1=some v:=s1up _ _ sd;have hKc:Keep (fun b'=>own σ1 h1 b'∨b0.V d' b') w' w2:=C.keep;have hKw:Keep (fun b'=>own σ S.h b'∨b0.V d' b') w w2:=(hK1.less fun b' hb=>.inl hb).trans hKc fun i h=>by
   rcases h with h|h
   ·exact(ownD i h).elim (fun h=>.inr (.inl h)) .inl
   ·exact .inr (.inr h)
  let σ2:Nat→Option Value:=put σ d1 (some v)
  have s2:∀i u,σ i=some u→σ2 i=some u:=fun i u h=>by
   show put σ d1 _ i=_;rw[zAa _ _ (fun e=>by rw[e,hno]at h;cases h)];exact h
  have s2':∀i,i≠d1→σ2 i=σ i:=fun i h=>zAa _ _ h
  have s3:∀i u,σ' i=some u→σ2 i=some u:=fun i u h=>by
   have h0:σ1 i≠none:=(C.dom i (by rw[h];simp)).resolve_right (fun h=>by cases h)
   cases hu1:σ1 i with
   |none=>exact absurd hu1 h0
   | some u1=>
     have:=s1up i u1 hu1;rw[h]at this
     cases this
     by_cases e:i=d1
     ·subst e
      rw[sd]at hu1
      cases hu1
      exact zAk _ _ _
     ·by_cases e2:i∈ids
      ·rw[(hid i e2).2.1]at hu1
       exact s2 i u hu1
      ·rw[(hou i e e2).2.1]at hu1;cases hu1
  have hneS:∀i,S.h i≠none→i≠d1:=fun i h e=>h (e▸hSd)
  let h2:Nat→Option AB:=zAb (zN ids bs') S.h
  have hin2:∀k id B',ids[k]?=some id→bs'[k]?=some B'→h2 id=some B':=fun k id B' k1 k2=>zDo hbl.symm n1 k id B' _ k1 k2
  have hno2:∀i,i∉ids→h2 i=S.h i:=fun i hi=>zDH i _ hi
  have hdom:∀i,h2 i≠none→S.h i≠none:=fun i hi=>by
   by_cases e:i∈ids
   ·obtain⟨k,hk,rfl⟩:=List.getElem_of_mem e
    obtain⟨B',F',_,m,_⟩:=hat k _ (List.getElem?_eq_getElem hk)
    rw[m];simp
   ·rw[←hno2 i e];exact hi
  have own2:∀b',own σ2 h2 b'→own σ S.h b':=fun b' ⟨i,u,k1,k2,k3⟩=>⟨i,u,hdom i k1,by rw[←s2' i (hneS i (hdom i k1))];exact k2,k3⟩
  have out2:∀b',out b0 σ2 h2 b'→out b0 σ S.h b':=fun b' hb=>hb.imp (own2 b') fun h=>h
  have out3:∀b',out b0 σ2 h2 b'→out bA σ' (zAb (zN (ids++ [d1]) (bs'++ [B])++(zN [] []++zA3 [])) h1) b':=fun b' hb=>by
   have h0:=(outA b').2 (.inl (out2 b' hb))
   rcases h0 with ⟨i,u,k1,k2,k3⟩|h0
   ·refine .inl ⟨i,u,?_,s1up _ _ k2,k3⟩
    rcases cls i u b' k1 k2 k3 with ⟨rfl,_⟩|⟨c1,_⟩
    ·rw[hlk2 ids.length _ B (by rw[List.getElem?_append_right (Nat.le_refl _),Nat.sub_self];rfl) (by rw[List.getElem?_append_right (by omega),hbl,Nat.sub_self];rfl)]
     simp
    ·obtain⟨k,hk,rfl⟩:=List.getElem_of_mem c1
     rw[hlk2 k _ (bs'[k]'(by omega)) (by rw[List.getElem?_append_left hk];exact List.getElem?_eq_getElem hk) (by rw[List.getElem?_append_left (by omega)];exact List.getElem?_eq_getElem (by omega))]
     simp
   ·exact .inr h0
  have H2:HRel b0 σ2 h2 w2:=by
   refine⟨fun i B' hB=> ?_,fun i j v1 v2 b' hi hj k1 k2 k3 k4=>R0.hp.inj i j v1 v2 b' (hdom i hi) (hdom j hj) (by rw[←s2' i (hneS i (hdom i hi))];exact k1) (by rw[←s2' j (hneS j (hdom j hj))];exact k2) k3 k4,fun b' hb=>R0.hp.new b' (own2 b' hb),fun i u hi=> ?_,fun i hi hf=> ?_⟩
   ·by_cases hi:i∈ids
    · -- a lent box
      obtain⟨k,hk,rfl⟩:=List.getElem_of_mem hi
      have e4:bs'[k]?=some (bs'[k]'(by omega)):=List.getElem?_eq_getElem (by omega);have e5:=hin2 k _ _ (List.getElem?_eq_getElem hk) e4;rw[show h2 ids[k]=some B' from hB]at e5
      cases e5
      have e3:=hlk2 k ids[k] (bs'[k]'(by omega)) (by rw[List.getElem?_append_left hk];exact List.getElem?_eq_getElem hk) (by rw[List.getElem?_append_left (by omega)];exact e4)
      obtain⟨u1,f1,f2⟩:=C.hp.blk _ _ e3
      exact⟨u1,s3 _ _ f1,f2.keep ⟨rfl,rfl,rfl,Nat.le_refl _,fun _ _ _=>rfl⟩ (fun b' hb=>.inl (out3 b' hb)) s3 fun _ _=>rfl⟩
    ·have hB:S.h i=some B':=by rw[←hno2 i hi];exact hB
     have hne:S.h i≠none:=by rw[hB];simp
     obtain⟨u0,k1,k2⟩:=R0.hp.blk i B' hB
     refine⟨u0,s2 _ _ k1,?_⟩
     by_cases hbb:zAj u0=some b
     · -- the old row
       obtain⟨_,n0,F0,m1,m2,m3,m4⟩:=hshare i u0 hne k1 hbb
       rw[hB]at m1
       cases m1
       have e3:=hlk2 ids.length d1 B (by rw[List.getElem?_append_right (Nat.le_refl _),Nat.sub_self];rfl) (by rw[List.getElem?_append_right (by omega),hbl,Nat.sub_self];rfl)
       obtain⟨u1,f1,f2⟩:=C.hp.blk d1 B e3
       rw[sd']at f1
       cases f1
       rcases f2.row hrow with ⟨_,z1,_⟩|⟨b2,c2,cs2,z1,z2,z3,z4⟩
       ·rw[hu]at z1;cases z1
       ·rcases z1 with ⟨_,z1,z5,z6⟩|⟨z1,_⟩
        rotate_left
        ·rw[hrow]at z1;cases z1
        rw[hu]at z1
        cases z1
        refine .inr (.inl ⟨b,cap',cs2,.inl ⟨rfl,m2,by show n0≤cap';omega,z6⟩,z2,z3,fun k hk j hj=> ?_⟩)
        have hk:k<n0:=hk
        obtain⟨c,y1,y2⟩:=z4 k (by omega) j hj
        refine⟨c,y1,?_⟩
        show RepC _ _ _ (F0 k j) c;rw[m4 k hk j hj];exact zCX (q4 k (by omega) j hj).1 y2
     · -- another one
       refine(k2.more hVn).keep (hKw.less fun b' hb=>hb.imp (fun h=>.inl h) id) (fun b' hb=>.inl (.inl (out2 b' hb))) s2 fun b' hb=> ?_
       have hbo:own σ S.h b':=⟨i,u0,hne,k1,hb⟩;have g6:w'.heap[b']?=w.heap[b']?:=q5.block b' (R0.hp.lt hbo) fun e=>by subst e;exact hbb hb
       refine(hKc.block b' (Nat.lt_of_lt_of_le (R0.hp.lt hbo) q5.size) fun h=> ?_).trans g6
       rcases h with ⟨j,vj,j1,j2,j3⟩|h
       ·rcases cls j vj b' j1 j2 j3 with ⟨_,e⟩|⟨j4,j5,j6,j7,_⟩
        ·subst e;exact hbb hb
        ·have:=R0.hp.inj i j u0 vj b' hne j6 k1 j7 hb j3
         subst this;exact hi j4
       ·obtain⟨oo,hoo⟩:=hVl0 b' h
        exact R0.hp.noLoop hoo hbo
   ·obtain⟨k1,k2⟩:=R0.hp.fx i u hi
    refine⟨s2 _ _ k1,?_⟩
    by_cases e:i∈ids
    ·obtain⟨k,hk,rfl⟩:=List.getElem_of_mem e
     rw[hin2 k _ (bs'[k]'(by omega)) (List.getElem?_eq_getElem hk) (List.getElem?_eq_getElem (by omega))]
     simp
    ·rw[hno2 i e];exact k2
   ·rw[s2' i (fun e=>by have:(i:Nat)=d1:=e;omega)]
    exact R0.hp.big i hi hf
  have hVn1:zCS (b0.V d') w':=fun b hb cs t p h=>by obtain⟨o,ho⟩:=hVl b hb;rw[ho]at h;cases h
  have hKo:Keep (fun b'=>out bF σ S.h b'∨b0.V d' b') w' w2:=hKc.less fun b' hb=>by
   rcases hb with h|h
   ·exact .inl (hOA b' (.inl h))
   ·exact .inr h
  have sl:∀{t x},S2.t t=some x→RepA σ2 (out b0 σ2 h2) w2 x (a2.tmps.getD t undef):=fun {t x} h=>by
   have h1:RepA σ (out bF σ S2.h) w' x (a2.tmps.getD t undef):=R2.sl t x h;rw[hS2h]at h1
   exact(h1.more hVn1).keep hKo (fun b' hb=>.inl (.inl ((out2 b' hb).imp id .inl))) s2
  have hdf:Marks b0.w.heap.size a.defers w2:=by
   refine R0.df.keep hKw fun D hD=> ?_
   rcases hD with h|h
   ·exact R0.hp.nodef h
   ·intro e
    obtain⟨o,ho⟩:=hVl0 D h
    rw[ho]at e
    cases e
  have hsz2:a2.tmps.size=S2.n:=R2.sz;have hh:(S2.goneY dst r' (zN ids bs') [] g' d').h=h2:=by show zAb (zN ids bs') S2.h=h2;rw[hS2h]
  refine hn.get rd b0 _ _ K ⟨σ2,⟨by rw[zDw,hds2];exact hdf,size_put.trans hsz2,?_,?_,fun t x ht=> ?_,fun id hid'=> ?_,fun i v hi=> ?_,?_,hJ⟩⟩ hK
  ·refine(hext.less (O':=zB1 b0 (S2.goneY dst r' (zN ids bs') [] g' d')) fun b' hb=> ?_).trans hKw fun i h=> ?_
   ·refine hb.imp id fun h=> ?_
    show b0.V d' b'
    cases d' with
    |false=>exact h
    |true=>exact hVL.1 b' h
   ·rcases h with h|h
    ·exact(R0.hp.new i h).imp id .inl
    ·exact .inr (.inr h)
  ·rw[hh]
   exact H2
  ·rw [hh]
   cases dst with
   |none=>exact sl ht
   | some d2=>
     have hlt2:d2<a2.tmps.size:=by rw[hsz2,hal.n];exact Nat.blt_eq.mp hdB
     rw[zDy hlt2];by_cases e:t=d2
     ·subst e
      have ht:put S2.t t (some r') t=some x:=ht;rw[zAk]at ht
      cases ht
      rw[if_pos rfl];exact C.rep.keep ⟨rfl,rfl,rfl,Nat.le_refl _,fun _ _ _=>rfl⟩ (fun b' hb=>.inl (out3 b' hb)) s3
     ·have ht:put S2.t d2 (some r') t=some x:=ht
      rw[zAa _ _ e]at ht;rw[if_neg e];exact sl ht
  ·have hid':(S2.fr id && !(([]:List Nat).any (Nat.beq id)))=true:=hid'
   rw[hal.fr]at hid';have hid':((S.fr id && !([d1].any (Nat.beq id))) && !(([]:List Nat).any (Nat.beq id)))=true:=hid'
   simp only[Bool.and_eq_true,Bool.not_eq_true',List.any_cons,List.any_nil,Bool.or_false]at hid'
   have hne:id≠d1:=fun e=>by rw[e,Nat.beq_refl]at hid';cases hid'.1.2
   have:=R0.fr id hid'.1.1
   exact⟨(s2' id hne).trans this.1,this.2⟩
  ·show i<1000+S2.ln
   rw[hal.ln];exact R0.le i v hi
  ·show S2.G b0
   rw[hal.G];exact R0.gd)⟩
end txt
end
end Go.AV
end
