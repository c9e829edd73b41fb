/- Parts of the proof: ARangeN, AYld, AYap, ADr9. -/
import Derived.Test.YtbffmfeldkjkcaaGreatG37
import Derived.Test.YtbffmfeldkjkcaaGreatG25
set_option linter.unusedSimpArgs false
set_option linter.unusedVariables false
set_option maxHeartbeats 0
section
namespace Go.AV
open Go Go.RowKit Go.Flow
section
variable{P:Program}
inductive LentA(ids mids:List Nat):AV→AV→Prop
 |c {y x:CV} (h:LentM ids mids y x):LentA ids mids (.c y) (.c x)
 |ag {l m:List CV} (h:LeL (LentM ids mids) l m):LentA ids mids (.ag l) (.ag m)
def zHN(S:St)(ids mids:List Nat):List (Nat×AV)→Prop
 | []=>True
 |p::r=>(∃y,S.t p.1=some y∧LentA ids mids y p.2)∧zHN S ids mids r
theorem zK1{S:St}{ids mids:List Nat}:∀{ts:List (Nat×AV)},zHN S ids mids ts→∀p∈ts,∃y,S.t p.1=some y∧LentA ids mids y p.2
 | p::r,h,q,hq=>by
   rcases List.mem_cons.1 hq with rfl|hq
   ·exact h.1
   ·exact zK1 h.2 q hq
def zD3:List Tmp→List V1→List (Nat×AV)
 |p::ps,v::vs=>(p,v.av)::zD3 ps vs
 |_,_=> []
theorem zIV{t:Nat}:∀(ps:List Tmp) (vs:List Value) (tm:Array Value),t∉ps→((ps.zip vs).foldl (fun t (p,v)=>t.setIfInBounds p v) tm).getD t undef=tm.getD t undef
 | [],_,_,_=>rfl
 |_::_,[],_,_=>rfl
 | p::ps,v::vs,tm,h=>by
   simp only[List.mem_cons,not_or]at h
   show((ps.zip vs).foldl _ (tm.setIfInBounds p v)).getD t undef=_
   rw[zIV ps vs _ h.2]
   simp only[Array.getD_eq_getD_getElem?]
   rw[Array.getElem?_setIfInBounds_ne (Ne.symm h.1)]
theorem zNK{R:V1→Value→Prop}{t:Nat}{x:AV}:∀{ps:List Tmp} {vs:List V1} {us:List Value},zAx ps=true→RepL R vs us→vs.length=ps.length→zD (zD3 ps vs) t=some x→∃y u,R y u∧x=y.av∧∀(tm:Array Value),(∀p∈ps,p<tm.size)→((ps.zip us).foldl (fun t (p,v)=>t.setIfInBounds p v) tm).getD t undef=u
 | [],_,_,_,_,_,h=>by cases h
 |p::ps,[],_,_,_,hl,_=>by cases hl
 |p::ps,v::vs,[],_,hr,_,_=>hr.elim
 | p ::ps,v::vs,u::us,hn,hr,hl,h=>by
   unfold zAx at hn;rw[Bool.and_eq_true,Bool.not_eq_true']at hn;have hp:p∉ps:=fun hm=>by
    have:ps.any (Nat.beq p)=true:=List.any_eq_true.2 ⟨p,hm,Nat.beq_refl p⟩;rw[this]at hn
    cases hn.1
   unfold zD3 zD at h
   cases hb:Nat.beq t p with
   | true=>
     have:=Nat.eq_of_beq_eq_true hb;subst this;rw[hb]at h
     cases h
     refine⟨v,u,hr.1,rfl,fun tm htm=> ?_⟩
     show((ps.zip us).foldl _ (tm.setIfInBounds t u)).getD t undef=u
     rw[zIV ps us _ hp,Array.getD_eq_getD_getElem?,Array.getElem?_setIfInBounds_self_of_lt (htm t (by simp))]
     rfl
   | false=>
     rw[hb]at h
     obtain⟨y,u',h1,h2,h3⟩:=zNK hn.2 hr.2 (by simpa using hl) h
     exact⟨y,u',h1,h2,fun tm htm=>h3 _ fun q hq=>by rw[Array.size_setIfInBounds];exact htm q (by simp[hq])⟩
theorem zNL{t:Nat}:∀{ps:List Tmp} {vs:List V1},vs.length=ps.length→zD (zD3 ps vs) t=none→t∉ps
 | [],_,_,_=>by simp
 |p::ps,[],hl,_=>by cases hl
 | p ::ps,v::vs,hl,h=>by
   unfold zD3 zD at h
   cases hb:Nat.beq t p with
   |true=>rw[hb]at h;cases h
   | false=>
     rw[hb]at h;have:=zNL (ps:=ps) (vs:=vs) (by simpa using hl) h
     simp only[List.mem_cons,not_or]
     exact⟨fun e=>(by subst e;rw[Nat.beq_refl]at hb;cases hb),this⟩
def zNv(n ln:Nat)(ps:List Tmp)(vs:List V1)(ts:List (Nat×AV))(hs:List (Nat×AB)):St:={n,ln,t:=zD (zD3 ps vs++ts),h:=zD hs,fr:=fun id=>Nat.blt id 800||(Nat.ble 900 id && Nat.blt id 1000),G:=fun _=>True,gs:=0,dd:=false}
def zO4(g:Bool)(eS:Exit)(hE mv:List AB)(e:Exit)(S:St):Prop:=
 (bif g then e=.normal else e=eS)∧∃S' loc,Wk S S'∧S'.h=zD (loc++zAy mv hE)∧loc.all (fun p=>Nat.blt p.1 900)=true
theorem LentA.rep{ids mids:List Nat}{σ τ:Nat→Option Value}{O O':Nat→Prop}{w:World}(hO:∀b,O' b→O b)(h1:∀i id,zT ids id=some i→∀u,σ id=some u→τ (1000+i)=some u)(h2:∀i id,zT mids id=some i→∀u,σ id=some u→τ (800+i)=some u)
 {x y:AV} {u:Value} (h:LentA ids mids x y) (hu:RepA σ O w x u):RepA τ O' w y u:=by
 cases h with
 |c h=>exact h.rep hO h1 h2 hu
 |ag h=>obtain⟨vs,rfl,e⟩:=hu;exact⟨vs,rfl,LeL.get (fun x y v hxy hv=>hxy.rep hO h1 h2 hv) h e⟩
theorem zOw{g:Operand}{ps:Array Tmp}{assign body:Code}{S:St}{Q:Exit→St→Prop}{gf m:Nat}{C:Nat→CV}{cs:List V1}{A:RM}{M N:Nat}{stop:Bool}{eS:Exit}{ts:List (Nat×AV)}(ids mids ni:List Nat)(bs' nw':List AB)
 (hg:S.opd g=some (.c (.fn gf m C))) (eg:∀args w,(callFunc gf args).run P w=.ok (.enter gf args) w) (hnf:∀i,i<m→∀f k D,C i≠ .fn f k D) (hcs:LeL (zCP ids mids) ((List.range m).map fun i=>V1.c (C i)) cs) (hit:zHV P gf cs A M N stop)
 (hrd:∀b,S.G b→b.rd=none) (hN1:stop=true→0<N∧N≤M) (hN2:stop=false→N=M) (hL:zBm S ids mids ids (A.hB 0)) (hMv:zCQ S mids (A.mv 0))
 (hnd:(zAx (ids++mids) && mids.all (fun m=>Nat.blt m 1000) && zAx ni && ni.all (fun i=>S.fr i) && Nat.beq nw'.length ni.length)=true)
 (hlb:∀i,i≤N→(A.hB i).length=A.nb∧(A.hE i).length=A.nb∧(A.mv i).length≤100) (hidl:ids.length=A.nb) (hbl':bs'.length=A.nb)
 (hts:zHN S ids [] ts) (hps:(zAx ps.toList && ps.toList.all (fun p=>Nat.blt p S.n))=true) (hxl:∀i,i<N→(A.ys i).length=ps.size) (hj:eS=.ret∨∃id,eS=.exit id)
 (hround:∀i,i<N→AWp P assign (zCe (fun S'=>S'.dd=false∧AWp P body (zO4 (zAs N stop i) eS (A.hE (i+1)++A.la i) (A.mv (i+1))) S'.inBody) (fun _ _=>False)) (zNv S.n (A.hB i++A.la i).length ps.toList (A.ys i) ts (zA6 (A.mv i) (A.hB i++A.la i))))
 (hbk:zBq ids ni (A.hE N) bs') (hnw:BackB ids ni (A.mv N) nw')
 (hq:Q (bif stop then eS else .normal) (S.eff none ⟨.tu [],zO ids bs'++(zO ni nw'++zA7 mids),ni⟩)):AWp P (.rangeFunc g ps assign body) Q S:=⟨fun b0 a w hR=>by
 obtain⟨σ,R⟩:=hR
 have hrd0:=hrd b0 R.gd;rw[hrd0];rw[Bool.and_eq_true]at hps
 simp only[Bool.and_eq_true]at hnd
 obtain⟨⟨⟨⟨n1,n2⟩,n4⟩,n5⟩,n7⟩:=hnd
 have hl0:=hlb 0 (Nat.zero_le _)
 obtain⟨hu1,vs,hgv,hvl,hvr⟩:=zW R hg
 obtain⟨fn0,rec,hrec⟩:∃(fn0:FuncId→LoopState→Option Code→Loop) (_:Unit),fn0=fun fn st pe=>{state:=st,pending:=pe,fn,tmps:=a.tmps,params:=ps,assign,body,defers:=w.heap.size}:=⟨_,(),rfl⟩
 refine wpIn_rangeFunc ?_;intro fn _
 obtain⟨W1,hW1⟩:∃W1,(w.alloc (.deferred (some []))).alloc (.loop (fn0 fn .ready none))=W1:=⟨_,rfl⟩
 have hW1s:W1.heap.size=w.heap.size+2:=by rw[←hW1];simp
 have hL1:W1.heap[w.heap.size+1]?=some (.loop (fn0 fn .ready none)):=by
  rw[←hW1];have:=World.alloc_heap_new (w.alloc (.deferred (some []))) (.loop (fn0 fn .ready none));rwa [World.size_alloc]at this
 have hK1:W1.heap[w.heap.size]?=some (.deferred (some [])):=by
  rw[←hW1];exact(Below.heap_alloc _ _ _ (by simp)).trans (World.alloc_heap_new w _)
 have hE1:Ext w W1:=by rw[←hW1];exact(((Ext.refl w).alloc _).alloc _)
 obtain⟨jc,hjc⟩:∃jc,zMD eS=jc:=⟨_,rfl⟩
 obtain⟨l,hl⟩:∃l,l=w.heap.size+1:=⟨_,rfl⟩
 have R1:=R.drew hE1
 let J:Nat→Bool→World→Prop:=fun _ d W=>W.heap[l]?=some (.loop (if d then fn0 fn .done (some jc)else fn0 fn .ready none))
 have hvals:RepL (RepV σ (out b0 σ S.h) W1) ((List.range m).map fun i=>V1.c (C i)) vs:=zA5 (by simp[hvl]) fun i x v q1 q2=>by
  have hi:i<m:=by have:=(List.getElem?_eq_some_iff.1 q1).1;simpa using this
  rw[List.getElem?_map,List.getElem?_range hi]at q1
  cases q1
  obtain⟨v',e1,e2,e3⟩:=hvr i hi
  rw[q2]at e1
  cases e1
  exact(zJu (hnf i hi) e2 e3).keep (Keep.of_ext hE1) (fun b hb=>.inl hb) fun _ _ h=>h
 have hG :GMc (fun us W Q=>Calls P gf (yv l::us).toArray W fun e w'=>Q e w'∧J N stop w') (fun b1=>b1.w=W1∧(∀k id,ids[k]?=some id→b1.fix (1000+k)=σ id)∧∀b,b1.X b∨b1.Y b→out b0 σ S.h b∨b=l) (fun b=>b=l) cs (A.hB 0) (A.mv 0) (fun r a c=>r=.tu []∧a=A.hE N∧c=A.mv N):=fun b1 σ1 us ⟨hb1,hfx1,hXY⟩ hVX H1 hle hσ hY hv=>by
  have hlY:¬b1.Y l:=b1.dis l (hVX l rfl)
  let bI:zN:=⟨b1.w,b1.X,b1.Y,b1.fix,b1.lt,b1.ylt,b1.dis,b1.one,fun d b=>d=true∧b=l,J,none,fun d b hb=>hVX b hb.2,fun i d O A B h hK hO=>by
   refine(hK.block l (Array.getElem?_eq_some_iff.1 h).1 fun ho=>(hO l ho).elim (fun h=> ?_) hlY).trans h
   rw[hb1]at h
   omega⟩
  have up:∀{τ h w},HRel b1 τ h w→HRel bI τ h w:=fun H=>⟨H.blk,H.inj,H.new,H.fx,H.big⟩
  have dn:∀{τ h w},HRel bI τ h w→HRel b1 τ h w:=fun H=>⟨H.blk,H.inj,H.new,H.fx,H.big⟩
  have hYo:YOk P bI l A N stop:=fun i hi b2 σ2 us2 ⟨hJ2,hK2,hfx2,hXY2,hlX2⟩ hVX2 H2 hle2 hσ2 hY2 hv2=>by
   have hlX:b2.X l:=hlX2 l ⟨rfl,rfl⟩;have hlY2:¬b2.Y l:=b2.dis l hlX;have hJ2':b2.w.heap[l]?=some (.loop (fn0 fn .ready none)):=hJ2;have hl2:l<b2.w.heap.size:=(Array.getElem?_eq_some_iff.1 hJ2').1;have hlW':b2.w.heap[l]?=some (.loop {state:=.ready,pending:=none,fn,tmps:=a.tmps,params:=ps,assign,body,defers:=w.heap.size}):=by rw[hJ2',hrec]
   have hy:=run_yield (P:=P) (args:=us2.toArray) hlW' (by have:=hv2.length;have:=hxl i hi;simp;omega)
   refine⟨fn,_,assign,body,hy,?_⟩
   let bA:zN:=⟨b2.w,b2.X,b2.Y,b2.fix,b2.lt,b2.ylt,b2.dis,b2.one,fun _ b=>b=l,fun _ d W=>W.heap[l]?=some (.loop {fn0 fn .ready none with state:=if d then .busy else .ready}),some l,fun d b hb=>by subst hb;exact hlX,fun _ d O A B h hK hO=>by
    refine(hK.block _ (Array.getElem?_eq_some_iff.1 h).1 fun ho=> ?_).trans h
    rcases hO _ ho with h|h
    ·omega
    ·exact hlY2 h⟩
   have upA:∀{τ h w},HRel b2 τ h w→HRel bA τ h w:=fun H=>⟨H.blk,H.inj,H.new,H.fx,H.big⟩
   have dnA:∀{τ h w},HRel bA τ h w→HRel b2 τ h w:=fun H=>⟨H.blk,H.inj,H.new,H.fx,H.big⟩
   have hKw:Keep (fun b=>out b0 σ S.h b) w b2.w:=by
    have hK2':Keep (fun k=>b1.Y k∨(false=true∧k=l)) W1 b2.w:=hb1▸hK2
    refine⟨hK2'.os.trans hE1.os,hK2'.tape.trans hE1.tape,hK2'.output.trans hE1.output,Nat.le_trans hE1.size hK2'.size,fun k hk hno=>(hK2'.block k (Nat.lt_of_lt_of_le hk hE1.size) fun h=> ?_).trans (Below.block hE1 k hk)⟩
    rcases h with h|h
    ·rcases hXY k (.inr h)with h|h
     ·exact hno h
     ·omega
    ·exact absurd h.1 (by decide)
   have hfold:(ps.zip us2.toArray).foldl (fun tmps (t,a)=>tmps.setIfInBounds t a) a.tmps=(ps.toList.zip us2).foldl (fun t (p,v)=>t.setIfInBounds p v) a.tmps:=by
    rw[←Array.foldl_toList]
    simp
   have hin:∀p∈ps.toList,p<a.tmps.size:=fun p hp=>by rw[R.sz];exact Nat.blt_eq.mp (List.all_eq_true.1 hps.2 p hp)
   have hxl':(A.ys i).length=ps.toList.length:=by rw[hxl i hi];simp
   have hout:∀b,out bA σ2 (zD (zA6 (A.mv i) (A.hB i++A.la i))) b→out b0 σ S.h b∨w.heap.size≤b:=fun b hb=>by
    have hXYb:b2.X b∨b2.Y b→out b0 σ S.h b∨w.heap.size≤b:=fun h=>by
     rcases hXY2 b h with h|h|h
     ·exact(hXY b (.inl h)).imp id fun h=>by omega
     ·exact(hXY b (.inr h)).imp id fun h=>by omega
     ·have:W1.heap.size≤b:=by rw[←hb1];exact h
      exact .inr (by omega)
    rcases hb with ⟨j,v,h1,h2,h3⟩|h
    ·rcases H2.new b ⟨j,v,h1,h2,h3⟩with h|h
     ·have:b2.w.heap.size≤b:=h
      have:=hKw.size;exact .inr (by omega)
     ·exact hXYb (.inr h)
    ·exact hXYb (.inl h)
   have hRA:Rel bA (zNv S.n (A.hB i++A.la i).length ps.toList (A.ys i) ts (zA6 (A.mv i) (A.hB i++A.la i))) {tmps:=(ps.zip us2.toArray).foldl (fun tmps (t,a)=>tmps.setIfInBounds t a) a.tmps,defers:= []} b2.w:=by
    refine⟨σ2,trivial,?_,⟨rfl,rfl,rfl,Nat.le_refl _,fun _ _ _=>rfl⟩,upA H2,fun t x hx=> ?_,fun id hid=> ?_,fun j v hj=> ?_,trivial,?_⟩
    ·show Array.size _=S.n
     rw[hfold,zJC];exact R.sz
    ·show RepA _ _ b2.w x (Array.getD _ t undef)
     rw[hfold]
     replace hx:zD (zD3 ps.toList (A.ys i)++ts) t=some x:=hx
     rw[zCC]at hx
     cases hc:zD (zD3 ps.toList (A.ys i)) t with
     | some y=>
       rw[hc]at hx
       cases hx
       obtain⟨y,u,k1,k2,k3⟩:=zNK hps.1 hv2 hxl' hc
       rw[k3 a.tmps hin,k2];exact k1.av
     | none=>
       rw[hc]at hx;rw[zIV _ _ _ (zNL hxl' hc)]
       obtain⟨y,q1,q2⟩:=zK1 hts _ (zBe hx)
       have h1:=(R.sl t y q1).keep (O':=fun b=>out b0 σ S.h b∨w.heap.size≤b) hKw (fun b hb=>hb) fun _ _ h=>h
       refine q2.rep (fun b hb=>hout b hb) (fun k id hp u hu=> ?_) (fun k id hp=>by cases hp) h1;have hk:=zAR hp;have hlt:=(List.getElem?_eq_some_iff.1 hk).1;have hf:b2.fix (1000+k)=some u:=(hfx2 k (by omega)).trans ((hfx1 k id hk).trans hu)
       exact(H2.fx _ _ hf).1
    ·have hid':(Nat.blt id 800||(Nat.ble 900 id && Nat.blt id 1000))=true:=hid
     have h1:id<800∨(900≤id∧id<1000):=by
      rw[Bool.or_eq_true,Bool.and_eq_true]at hid';exact hid'.imp (fun h=>Nat.blt_eq.mp h) fun h=>⟨Nat.ble_eq.mp h.1,Nat.blt_eq.mp h.2⟩
     refine⟨?_,by omega⟩
     cases hc:σ2 id with
     |none=>rfl
     | some v=>
       rcases hσ2 id v hc with h|h
       ·have:=(b2.one id v h).1;omega
       ·omega
    ·exact hle2 j v hj
    ·show b2.w.heap[l]?=_
     rw[hJ2',hrec]
     rfl
   refine roundIn_of_wpIn (F:=Fence.wide) trivial ?_;refine wpIn_mono ((hround i hi).get bA _ b2.w hRA) fun e a1 w1 ⟨S',⟨σ',R'⟩,h2⟩=> ?_
   cases e with
   | normal=>
     obtain⟨hdd,hB⟩:=h2
     have hl1:w1.heap[l]?=some (.loop {fn0 fn .ready none with state:=if S'.dd then .busy else .ready}):=R'.gh;rw[hdd]at hl1;have hnc:∀cs t p,w1.heap[l]?≠some (.cells cs t p):=fun cs t p h=>by rw[hl1]at h;cases h
     have hbr:=run_beginRound (P:=P) hl1 rfl
     refine⟨_,hbr,?_⟩
     obtain⟨w2,hw2⟩:∃w2,w1.putObj l (.loop {{fn0 fn .ready none with state:=if false=true then .busy else .ready}with state:=.busy})=w2:=⟨_,rfl⟩
     rw[hw2];have hoth:∀k,k≠l→w2.heap[k]?=w1.heap[k]?:=fun k hk=>by rw[←hw2];exact World.putObj_heap_other hk
     have hcc:∀a v,w1.cell? a=some v→w2.cell? a=some v:=by rw[←hw2];exact zFz hnc
     have hKp:Keep (fun k=>k=l) w1 w2:=by rw[←hw2];exact⟨rfl,rfl,rfl,by rw[World.putObj_size];exact Nat.le_refl _,fun k _ hk=>World.putObj_heap_other hk⟩
     have R2:Rel0 bA σ' S'.inBody a1 w2:=⟨R'.df.keep2 hKp fun D h=>by have h:D=l:=h;show D<b2.w.heap.size;omega,R'.sz,
      (R'.ext.less (O':=zC9 bA S'.inBody) fun b hb=>hb).trans hKp fun k hk=>.inr (.inr hk),R'.hp.turn hnc (fun o h=>by rw[hl1]at h;cases h;rfl) hoth hcc,fun t x hx=>(R'.sl t x hx).cells hcc,R'.fr,R'.le,R'.gd,by
        show w2.heap[l]?=_;rw[←hw2,World.putObj_heap_same (Array.getElem?_eq_some_iff.1 hl1).1]
        rfl⟩
     refine wpIn_mono (hB.get bA a1 w2 ⟨σ',R2⟩) fun e a3 W3 ⟨S3,hR3,h3,S'',loc,hwk,hS'',hlc⟩=> ?_
     obtain⟨σ3,R3⟩:=hR3
     obtain⟨σ4,R4⟩:=hwk bA a3 W3 ⟨σ3,R3⟩
     have hl3:W3.heap[l]?=some (.loop {fn0 fn .ready none with state:=if S3.dd then .busy else .ready}):=R3.gh;have hnc3:∀cs t p,W3.heap[l]?≠some (.cells cs t p):=fun cs t p h=>by rw[hl3]at h;cases h
     have hH0:=R4.hp;rw[hS'']at hH0;have hlbi:=hlb (i+1) hi;have hlbi0:=hlb i (by omega);have low:∀i B,zD loc i=some B→i<900:=fun i B h=>Nat.blt_eq.mp (List.all_eq_true.1 hlc _ (zBe h))
     have high:∀j,zD (zAy (A.mv (i+1)) (A.hE (i+1)++A.la i)) j≠none→900≤j:=fun j hj=>by
      rw[zBP hlbi.2.2]at hj;by_cases h1:1000≤j
      ·omega
      ·rw[if_neg h1]at hj
       by_cases h2:900≤j
       ·exact h2
       ·rw[if_neg h2]at hj;exact absurd rfl hj
     obtain⟨H4,hsub⟩:=hH0.part (h':=zD (zAy (A.mv (i+1)) (A.hE (i+1)++A.la i))) (fun j hj=>by
      rw[zCC]
      cases hc:zD loc j with
      |none=>rfl
      | some B=>
        have:=low j B hc;have:=high j hj
        omega) (fun j v hj=>by
      have h0:=(b2.one j v hj).1;have h3:=hle2 j v hj;rw[List.length_append]at h3;rw[zBP hlbi.2.2,if_pos h0,List.getElem?_eq_getElem (by rw[List.length_append];omega)]
      simp)
     have fin:∀jump:Option Code,jump.isNone=zAs N stop i→(zAs N stop i=false→jump=some jc)→∃v w',(Instr.endRound l jump).run P W3=.ok v w'∧((∃u τ r hs' nw,Ending.returned v=.returned u∧(r=.c (.p (.bool (zAs N stop i)))∧hs'=A.hE (i+1)++A.la i∧nw=A.mv (i+1))∧hs'.length=(A.hB i++A.la i).length∧nw.length≤100∧HRel b2 τ (zD (zAy nw hs')) w'∧RepA τ (out b2 τ (zD (zAy nw hs'))) w' r u∧Keep (fun b=>b2.Y b∨bI.V (!zAs N stop i) b) b2.w w')∧bI.J (i+1) (!zAs N stop i) w'):=fun jump hjn hjc'=>by
      obtain⟨o,hrun,ho⟩:∃o,(Instr.endRound l jump).run P W3=.ok (.bool jump.isNone) (W3.putObj l (.loop o))∧o=fn0 fn (if jump.isNone then .ready else .done) jump:=⟨_,run_endRound (P:=P) jump hl3,by rw[hrec]⟩
      have hothE:∀k,k≠l→(W3.putObj l (.loop o)).heap[k]?=W3.heap[k]?:=fun k hk=>World.putObj_heap_other hk
      have hccE:∀a v,W3.cell? a=some v→(W3.putObj l (.loop o)).cell? a=some v:=zFz hnc3;have H5:=H4.turn hnc3 (fun o h=>by rw[hl3]at h;cases h;rfl) hothE hccE
      have hle:(W3.putObj l (.loop o)).heap[l]?=some (.loop o):=World.putObj_heap_same (Array.getElem?_eq_some_iff.1 hl3).1
      refine⟨_,_,hrun,⟨_,σ4,_,_,_,rfl,⟨rfl,rfl,rfl⟩,?_,hlbi.2.2,dnA H5,⟨rfl,by rw[←hjn];rfl⟩,R4.ext.os,R4.ext.tape,R4.ext.output,by rw[World.putObj_size];exact R4.ext.size,fun k hk hno=> ?_⟩,?_⟩
      ·rw[List.length_append,List.length_append,hlbi.2.1,hlbi0.1]
      ·by_cases e:k=l
       ·subst e
        rw[hle,hJ2']
        cases hg0:zAs N stop i with
        |false=>rw[hg0]at hno;exact absurd (.inr ⟨rfl,rfl⟩) hno
        | true=>
          rw[hg0]at hjn
          cases jump with
          |none=>rw[ho];rfl
          |some c=>cases hjn
       ·exact(World.putObj_heap_other e).trans (R4.ext.block k hk fun h=>h.elim (fun h=>hno (.inl h)) e)
      ·show(W3.putObj l (.loop o)).heap[l]?=_
       rw[hle,ho]
       cases hg0:zAs N stop i with
       | false=>
         have:=hjc' hg0;subst this
         rfl
       | true=>
         rw[hg0]at hjn
         cases jump with
         |none=>rfl
         |some c=>cases hjn
     cases hg0:zAs N stop i with
     | true=>
       rw[hg0]at h3;obtain rfl:e=.normal:=h3;have:=fin none (by rw[hg0];rfl) (by rw[hg0];intro h;cases h)
       rw[hg0]at this;exact this
     | false=>
       rw[hg0]at h3;obtain rfl:e=eS:=h3;have:=fin (some jc) (by rw[hg0];rfl) (fun _=>rfl)
       rw[hg0]at this
       rcases hj with rfl|⟨id,rfl⟩
       ·subst hjc;exact this
       ·subst hjc;exact this
   |_=>exact h2.elim
  have hJ0:J 0 false b1.w:=by rw[hb1];show W1.heap[l]?=_;rw[hl];exact hL1
  refine(hit bI σ1 l us rfl ⟨fun k hk=>absurd hk.1 (by decide),fun i d W h k hk=> ?_⟩ (up H1) (fun i v hi=>by rw[←hl0.1];exact hle i v hi) hσ hY hN1 hN2 hYo hJ0 hv).mono fun e w' ⟨h1,h2,τ,h3,h4⟩=> ?_
  ·have h:W.heap[l]?=_:=h
   rw[hk.2]
   exact⟨_,h⟩
  ·subst h1
   have hN:=hlb N (Nat.le_refl _)
   refine⟨⟨_,τ,.tu [],A.hE N,A.mv N,rfl,⟨rfl,rfl,rfl⟩,hN.2.1.trans hl0.1.symm,hN.2.2,dn h3,⟨[],rfl,trivial⟩,h4.less fun b hb=>hb.imp id fun h=>h.2⟩,h2⟩
 have hcore:=zGs (ids:=ids) (mids:=mids) (ni:=ni) (vals:=vs) (fun us W Q Q' hq h=>h.mono fun e w' h=>⟨hq _ _ h.1,h.2⟩) hG (fun b hb=>⟨fn0 fn .ready none,by rw[show b=l from hb,hl];exact hL1⟩) (fun b1 e1 e2 e3 e4 e5=>⟨e1,e2,e3⟩) R1 hvals hcs hL hMv n1 n2 hl0.2.2 n4 (fun id hid=>List.all_eq_true.1 n5 id hid)
 refine⟨l,[{target:=.collected w.heap.size,args:= #[]}],W1,{target:=.fn (.func gf) vs.toArray,args:= #[yv l]},W1,gf,(yv l::vs).toArray,W1,?_,?_,fun _ _=>trivial,?_,fun hd=>(by cases hd),?_⟩
 ·rw[←hW1,hrec,hl];exact run_enterLoop_outer _ _ _ _ _
 ·simp only[resolve,hgv]
  simp[go_sem]
 ·simp[invoke,go_sem,eg]
 ·refine(zE9 none).calls (Calls.mono hcore ?_)
  rintro e w3 ⟨⟨v,r,hs',nw,rfl,⟨rfl,rfl,rfl⟩,g3⟩,hJ3⟩
  obtain⟨σ',C⟩:=g3 (.tu []) bs' nw' (.tu trivial) hbk hnw (hbl'.trans hl0.1.symm) (Nat.eq_of_beq_eq_true n7)
  obtain⟨st,pe,hl3,hne,hpe⟩:∃st pe,w3.heap[l]?=some (.loop (fn0 fn st pe))∧st≠ .busy∧pe=bif stop then some jc else none:=by
   cases stop with
   |false=>exact⟨_,_,hJ3,by simp,rfl⟩
   |true=>exact⟨_,_,hJ3,by simp,rfl⟩
  have hend:=run_endLoop (P:=P) hl3 (by rw[hrec];exact hne)
  obtain⟨w4,hw4⟩:∃w4,w3.putObj l (.loop {fn0 fn st pe with state:=.exhausted})=w4:=⟨_,rfl⟩
  rw[hw4,show(fn0 fn st pe).pending=pe by rw[hrec]]at hend;have hoth:∀k,k≠l→w4.heap[k]?=w3.heap[k]?:=fun k hk=>by rw[←hw4];exact World.putObj_heap_other hk
  have hnc3:∀cs t p,w3.heap[l]?≠some (.cells cs t p):=fun cs t p h=>by rw[hl3]at h;cases h
  have hcc:∀a v,w3.cell? a=some v→w4.cell? a=some v:=by rw[←hw4];exact zFz hnc3
  have hsz:=C.keep.size;have hK4:Keep (own σ S.h) w w4:=by
   refine⟨?_,?_,?_,?_,fun k hk hno=> ?_⟩
   ·rw[←hw4];exact C.keep.os.trans hE1.os
   ·rw[←hw4];exact C.keep.tape.trans hE1.tape
   ·rw[←hw4];exact C.keep.output.trans hE1.output
   ·rw[←hw4,World.putObj_size];omega
   ·exact(hoth k (by omega)).trans ((C.keep.block k (by omega) fun h=>h.elim hno fun h=>by have:k=l:=h;omega).trans (Below.block hE1 k hk))
  have hfin:Rel b0 (S.eff none ⟨.tu [],zO ids bs'++(zO ni nw'++zA7 mids),ni⟩) {a with defers:={target:=.collected w.heap.size,args:= #[]}::a.defers} w4:=by
   refine⟨σ',⟨⟨_,rfl,R.ext.size,?_,fun d' hd'=> ?_⟩,R.df.keep hK4 fun D hD=>R.hp.nodef hD⟩,R.sz,(R.ext.trans hK4 fun k hk=>(R.hp.new k hk).imp id .inl),C.hp.turn hnc3 (fun o h=>by rw[hl3]at h;cases h;rfl) hoth hcc,fun t x hx=>(R.sl t x hx).keep hK4.out (fun b hb=>(C.outs b hb).imp id fun h=>by omega) C.up,fun id hid=> ?_,R.le,R.gd,b0.jk _ _ _ _ _ R.gh hK4 R.hp.new⟩
   ·rw[hoth _ (by omega)]
    refine(C.keep.block _ (by omega) fun h=>h.elim (fun h=> ?_) fun h=>by have:w.heap.size=l:=h;omega).trans hK1
    have:=R.hp.lt h
    omega
   ·have:∀{ds:List Deferred},Marks b0.w.heap.size ds w→∀d∈ds,d≠{target:=.collected w.heap.size,args:= #[]}:=fun {ds}=>by
     induction ds with
     |nil=>intro _ d hd;simp at hd
     | cons d0 ds ih=>
       rintro⟨⟨D,e1,_,e3,_⟩,hm⟩ d hd
       rcases List.mem_cons.1 hd with rfl|hd
       ·rw[e1]
        intro e;have h1:=(Array.getElem?_eq_some_iff.1 e3).1;have:D=w.heap.size:=by simpa using e
        omega
       ·exact ih hm d hd
    exact this R.df d' hd'
   ·replace hid:(S.fr id && !(ni.any (Nat.beq id)))=true:=hid
    rw[Bool.and_eq_true,Bool.not_eq_true']at hid
    refine⟨?_,(R.fr id hid.1).2⟩
    cases hc:σ' id with
    |none=>rfl
    | some v=>
      rcases C.dom id (by simp[hc])with h1|h1
      ·exact absurd (R.fr id hid.1).1 h1
      ·have h2:ni.any (Nat.beq id)=true:=List.any_eq_true.2 ⟨id,h1,Nat.beq_refl id⟩
       rw[h2]at hid
       cases hid.2
  refine⟨pe,w4,hend,?_⟩
  subst hpe
  cases stop with
  |false=>exact⟨_,hfin,hq⟩
  | true=>
    subst hjc
    rcases hj with rfl|⟨id,rfl⟩
    ·exact wpIn_ret ⟨_,hfin,hq⟩
    ·exact wpIn_exit ⟨_,hfin,hq⟩⟩
end
section
variable{P:Program}
def zQi(b:zN)(g nb:Nat)(b2:zN):Prop:=yPre b g nb b2∧∀k,b2.Y k→b.Y k∨b.w.heap.size≤k
theorem GMc.less{Cl:List Value→World→(Ending→World→Prop)→Prop}{Pre Pre':zN→Prop}{V:Nat→Prop}{args:List V1}{hs mv:List AB}{R:AV→List AB→List AB→Prop}(h:GMc Cl Pre V args hs mv R)(hP:∀b,Pre' b→Pre b):GMc Cl Pre' V args hs mv R:=
 fun b0 σ vals h0 hV h1 h2 h3 h4 h5=>h b0 σ vals (hP b0 h0) hV h1 h2 h3 h4 h5
theorem yPre.trans{b b1 b3:zN}{g i nb:Nat}(h:zQi b g nb b1)(hJ:b.J i false b3.w)(h3:Keep (fun k=>b1.Y k∨b.V false k) b1.w b3.w)(h4:∀k,k<nb→b3.fix (1000+k)=b1.fix (1000+k))(h5:∀k,b3.X k∨b3.Y k→b1.X k∨b1.Y k∨b1.w.heap.size≤k)(h6:∀k,b.V true k→b3.X k):yPre b i nb b3:=by
 obtain⟨⟨a1,a2,a3,a4,a5⟩,a6⟩:=h
 refine⟨hJ,a2.trans h3 fun k hk=> ?_,fun k hk=>(h4 k hk).trans (a3 k hk),fun k hk=> ?_,h6⟩
 ·rcases hk with hk|hk
  ·rcases a6 k hk with h|h
   ·exact .inr (.inl h)
   ·exact .inl h
  ·exact .inr (.inr hk)
 ·rcases h5 k hk with h|h|h
  ·exact a4 k (.inl h)
  ·exact a4 k (.inr h)
  ·have:=a2.size;exact .inr (.inr (by omega))
section ops
variable{ops:Array Oper}{rest:List Oper}{S:St}{Q:St→Prop}{dst:Option Tmp}{ty:TypeId}{pos:String}{after:Array Edge}{guard:Option (Nat×Bool)}
end ops
end
section
variable{P:Program}{tab:List (TypeId×TD)}
inductive LentN(ids:List Nat):CV→CV→Prop
 |b {x y:CV} (h:LentB ids [] x y):LentN ids x y
 |fn (f m:Nat) (C D:Nat→CV) (h:∀i,i<m→LentB ids [] (C i) (D i)):LentN ids (.fn f m C) (.fn f m D)
theorem LentB.more{ids:List Nat}(d:Nat){x y:CV}(h:LentB ids [] x y):LentB (ids++ [d]) [] x y:=by
 cases h with
 |imm x hi=>exact .imm x hi
 |ow id i hp=>exact .ow id i (zJl hp)
 |mv id i hp=>cases hp
 |pt id i sz k j hp=>exact .pt id i sz k j (zJl hp)
theorem LentN.more{ids:List Nat}(d:Nat){x y:CV}(h:LentN ids x y):LentN (ids++ [d]) x y:=by
 cases h with
 |b h=>exact .b (h.more d)
 |fn f m C D hc=>exact .fn f m C D fun i hi=>(hc i hi).more d
def St.fk(S:St):St:={n:=S.n,ln:=S.ln,t:=S.t,h:=S.h,fr:=fun _=>false,G:=fun _=>True,gs:=0,dd:=false}
theorem zRh{S S1:St}(h:S1.t=S.t)(x:Operand):S1.opd x=S.opd x:=by
 cases x with
 |tmp t=>exact congrFun h t
 |_=>rfl
def zL4(d1:Nat):Option Tmp→Bool
 |some d=> !(Nat.beq d d1)
 |none=>true
def AMid(P:Program)(ops:Array Oper)(d1:Nat):List Oper→St→St→Prop
 | [],S,S'=>S'=S
 | o ::l,S,S'=>∃x,S.wants ops o=some true∧(dOk S.n o.dst && zL4 d1 o.dst)=true∧
     (∀S1:St,S1.t=S.t→∀b0 σ a w,Rel0 b0 σ S1 a w→∃u,(execOp a.eval o).run P w=.ok (.value u) w∧RepA σ (out b0 σ S1.h) w x u)∧AMid P ops d1 l (S.eff o.dst ⟨x,[],[]⟩) S'
theorem AMid.run{ops:Array Oper}{d1:Nat}{rd:Option Nat}{K:Exit→Act→World→Prop}{b0:zN}{σ:Nat→Option Value}{w:World}{u:Value}{tl:List Oper}{ds:List Deferred}:∀{l:List Oper} {S S':St} {a:Act},AMid P ops d1 l S S'→d1<S.n→Rel0 b0 σ S.fk {a with defers:= []} w→a.defers=ds→a.tmps.getD d1 undef=u→
 (∀a',Rel0 b0 σ S'.fk {a' with defers:= []} w→a'.defers=ds→a'.tmps.getD d1 undef=u→wpListIn (fnc rd) 0 P ops K tl a' w)→wpListIn (fnc rd) 0 P ops K (l++tl) a w
 | [],S,S',a,h,_,R,hds,hu,hk=>by cases h;exact hk a R hds hu
 | o ::l,S,S',a,⟨x,h1,h2,h3,h⟩,hd1,R,hds,hu,hk=>by
   rw[Bool.and_eq_true]at h2;rw[List.cons_append];unfold wpListIn;have hwt:Region.wanted o (yielded ops a.tmps)=true:=zC8 (S:=S.fk) (a:={a with defers:= []}) R h1;rw[if_pos hwt]
   obtain⟨v,e1,e2⟩:=h3 S.fk rfl b0 σ {a with defers:= []} w R
   replace e1:(execOp a.eval o).run P w=.ok (.value v) w:=e1
   refine GoesA.wpIn (K0:=fun v' w'=>v'=v∧w'=w) (.inl (by rw[e1];exact⟨rfl,rfl⟩)) fun v' w' ⟨q1,q2⟩=> ?_
   subst q1 q2;have RF':Rel0 b0 σ (S.eff o.dst ⟨x,[],[]⟩).fk {(a.put o.dst v')with defers:= []} w':=by
    have:=R.val (S:=S.fk) (d:=o.dst) (x:=x) (u:=v') h2.1 (Ext.refl w') fun _=>e2
    cases hd:o.dst with
    |none=>rw[hd]at this;exact this
    |some d=>rw[hd]at this;exact this
   refine AMid.run h hd1 RF' (by rw[zEN];exact hds) ?_ hk
   cases hd:o.dst with
   |none=>exact hu
   | some d=>
     rw[hd]at h2;have hlt:d<a.tmps.size:=by have:=R.sz;simp only[St.fk]at this;rw[this];exact Nat.blt_eq.mp h2.1
     rw[zFM hlt,if_neg (fun e=>by have h3:(!(Nat.beq d d1))=true:=h2.2;rw[e,Nat.beq_refl]at h3;cases h3)]
     exact hu
section mids
variable{ops:Array Oper}{d1:Nat}{l:List Oper}{S S':St}{dst:Option Tmp}{ty:TypeId}{pos:String}{after:Array Edge}{guard:Option (Nat×Bool)}
theorem AMid.nil:AMid P ops d1 [] S S:=rfl
theorem AMid.load1l(T:zAq P tab=true){t:TypeId}{x:Operand}{n sz:Nat}{F:Nat→Nat→CV}{k j:Nat}{d:TD}(hw:S.wants ops {dst,op:=.load t x,type:=ty,pos,after,guard}=some true)(hd:(dOk S.n dst && zL4 d1 dst)=true)(hx:S.opd x=some (.c (.pl n sz F k j)))(ht:zD tab t=some d)(hk1:zDy d.k=true)(hj:j<sz)
 (hk:AMid P ops d1 l (S.eff dst ⟨.c (F k j),[],[]⟩) S'):AMid P ops d1 ({dst,op:=.load t x,type:=ty,pos,after,guard}::l) S S':=
 ⟨_,hw,hd,fun S1 hS b0 σ a w R=>by
   obtain⟨-,ad,e1,hkn,e3⟩:=zW R ((zRh hS x).trans hx)
   obtain⟨u,f1,f2,f3,f4⟩:=e3 k hkn j hj
   obtain⟨ud,g1,g2⟩:=zGl T ht hk1
   refine⟨u,?_,?_⟩
   ·simp only[execOp,e1,Instr.loadAt,Instr.sureAddr,Sem.run_bind,Sem.run_pure,Result.andThen_ok,zHo g1 g2 f2]
   ·show RepC _ _ _ (F k j) u
    cases hF:F k j<;>rw[hF]at f4<;>first|exact⟨f3,f4⟩|exact f4.elim,hk⟩
end mids
section txt
variable{ops:Array Oper}{rest:List Oper}{S:St}{Q:St→Prop}{dst:Option Tmp}{ty ty1:TypeId}{pos pos1:String}{after after1:Array Edge}{guard guard1:Option (Nat×Bool)}
end txt
end
section
variable{P:Program}{ops:Array Oper}
structure AHoist(P:Program)(ops:Array Oper)(o:Oper)(S S':St):Prop where
 wants:S.wants ops o=some true
 run:∃x,S'=S.eff o.dst ⟨x,[],[]⟩∧dOk S.n o.dst=true∧∀b0 σ a w,Rel0 b0 σ S a w→∃v,(∀w',(execOp a.eval o).run P w'=.ok (.value v) w')∧(∀w',o.about P w' a.eval=none)∧RepA σ (out b0 σ S.h) w x v
section
variable{S:St}{dst:Option Tmp}{ty:TypeId}{pos:String}{after:Array Edge}{guard:Option (Nat×Bool)}{x y:Operand}
theorem AHoist.move{z:AV}(hw:S.wants ops {dst,op:=.move x,type:=ty,pos,after,guard}=some true)(hd:dOk S.n dst=true)(hx:S.opd x=some z):AHoist P ops {dst,op:=.move x,type:=ty,pos,after,guard} S (S.eff dst ⟨z,[],[]⟩):=
 ⟨hw,_,rfl,hd,fun b0 σ a w R=>⟨a.eval x,fun _=>rfl,fun _=>rfl,zW R hx⟩⟩
theorem AHoist.add{xt yt:TypeId}{i j:Int}(hw:S.wants ops {dst,op:=.binOp .add xt x y yt,type:=ty,pos,after,guard}=some true)(hd:dOk S.n dst=true)(hx:S.opd x=some (.c (.p (.int .i64 i))))(hy:S.opd y=some (.c (.p (.int .i64 j))))(h1:-9223372036854775808≤i+j)(h2:i+j≤9223372036854775807):
 AHoist P ops {dst,op:=.binOp .add xt x y yt,type:=ty,pos,after,guard} S (S.eff dst ⟨.c (.p (.int .i64 (i+j))),[],[]⟩):=
 ⟨hw,_,rfl,hd,fun b0 σ a w R=>by
   have e1:=zAU (zW R hx);have e2:=zAU (zW R hy)
   refine⟨.int .i64 (i+j),fun w'=> ?_,fun _=>rfl,zCb rfl⟩
   have hgd:(eqGuard .add xt x y (.int .i64 i) (.int .i64 j)).run P w'=.ok () w':=by unfold eqGuard;rfl
   have hr:(Go.binOp .add xt (.int .i64 i) (.int .i64 j)).run P w'=.ok (.int .i64 (i+j)) w':=by rw[←show IntKind.i64.wrap (i+j)=i+j by rw[IntKind.wrap_i64];omega];rfl
   simp only[execOp,e1,e2,Sem.run_bind,hgd,hr,Result.andThen_ok,Sem.run_pure]⟩
end
end
end Go.AV
end
