/- Parts of the proof: ARange2, ARange3. -/
import Derived.Test.YtbffmfeldkjkcaaGreatG06
import Derived.Shelf.Abstract
set_option linter.unusedSimpArgs false
set_option linter.unusedVariables false
set_option maxHeartbeats 0
section
namespace Go.AV
open Go Go.RowKit Go.Flow
section
variable{P:Program}
def zCs(ids:List Nat)(σ:Nat→Option Value)(i:Nat):Option Value:=if 1000≤i then (ids[i-1000]?).bind σ else none
def zB1(ids:List Nat)(σ:Nat→Option Value)(b:Nat):Prop:=∃(p id:Nat) (v:Value),ids[p]?=some id∧σ id=some v∧zAl v=some b
theorem zQk{ids:List Nat}{σ:Nat→Option Value}{i:Nat}{v:Value}(h:zCs ids σ i=some v):1000≤i∧∃id,ids[i-1000]?=some id∧σ id=some v:=by
 unfold zCs at h
 split at h
 ·rename_i h1
  obtain⟨id,e1,e2⟩:=Option.bind_eq_some_iff.1 h
  exact⟨h1,id,e1,e2⟩
 ·cases h
theorem zIP{ids:List Nat}{σ:Nat→Option Value}{p id:Nat}(h:ids[p]?=some id):zCs ids σ (1000+p)=σ id:=by
 unfold zCs;rw[if_pos (by omega),show 1000+p-1000=p by omega,h]
 rfl
theorem zNa:∀{ids:List Nat} {id:Nat},zT ids id=none→∀(p:Nat),ids[p]?≠some id
 | a ::l,id,h,p=>by
   unfold zT at h
   cases hb:Nat.beq a id with
   |true=>rw[hb]at h;cases h
   | false=>
     rw[hb]at h
     simp only[cond_false]at h
     cases hp:zT l id with
     |some i=>rw[hp]at h;cases h
     | none=>
       cases p with
       |zero=>intro e;cases e;rw[Nat.beq_refl]at hb;cases hb
       |succ p=>simpa using zNa hp p
 | [],_,_,p=>by simp
inductive ViewC(S:St)(ids:List Nat):CV→CV→Prop
 |imm (x:CV) (h:zM x=true):ViewC S ids x x
 |any (x:CV):ViewC S ids x .any
 |lend (id q sz k j:Nat) (h:(zT ids id).map (fun p=>1000+p)=some q):ViewC S ids (.pt id sz k j) (.pt q sz k j)
 |ro (id n sz k j:Nat) (row:Bool) (ty:TypeId) (F G:Nat→Nat→CV) (hr:zT ids id=none) (hh:S.h id=some ⟨row,n,sz,ty,F⟩) (hk:k<n) (hi:∀k,k<n→∀j,j<sz→zM (F k j)=true) (hc:∀k,k<n→∀j,j<sz→F k j=G k j):ViewC S ids (.pt id sz k j) (.pl n sz G k j)
 |roRow (id n sz:Nat) (ty:TypeId) (F G:Nat→Nat→CV) (hr:zT ids id=none) (hh:S.h id=some ⟨true,n,sz,ty,F⟩) (hi:∀k,k<n→∀j,j<sz→zM (F k j)=true) (hc:∀k,k<n→∀j,j<sz→F k j=G k j):ViewC S ids (.ow id) (.ls n sz G)
inductive ViewA(S:St)(ids:List Nat):AV→AV→Prop
 |c {x y:CV} (h:ViewC S ids x y):ViewA S ids (.c x) (.c y)
 |ag {l m:List CV} (h:LeL (ViewC S ids) l m):ViewA S ids (.ag l) (.ag m)
def zHO(S:St)(ids:List Nat):List (Nat×AV)→Prop
 | []=>True
 |p::r=>(∃y,S.t p.1=some y∧ViewA S ids y p.2)∧zHO S ids r
theorem zK3{S:St}{ids:List Nat}:∀{ts:List (Nat×AV)},zHO S ids ts→∀p∈ts,∃y,S.t p.1=some y∧ViewA S ids y p.2
 | _::_,h,p,hp=>by
   rcases List.mem_cons.1 hp with rfl|hp
   ·exact h.1
   ·exact zK3 h.2 p hp
theorem ViewC.rep{b0:zN}{σ:Nat→Option Value}{S:St}{a:Act}{w:World}{ids:List Nat}{O':Nat→Prop}(R:Rel0 b0 σ S a w)(hp:∀(p id:Nat),ids[p]?=some id→S.h id≠none)(hO:∀b,O' b→zB1 ids σ b){x y:CV}(hv:ViewC S ids x y){u:Value}(hu:RepC σ (out b0 σ S.h) w x u):RepC (zCs ids σ) O' w y u:=by
 have hsub:∀b,O' b→out b0 σ S.h b:=fun b hb=>let ⟨p,id,v,h1,h2,h3⟩:=hO b hb;.inl ⟨id,v,hp p id h1,h2,h3⟩
 have hno:∀{id:Nat},zT ids id=none→S.h id≠none→∀v b,σ id=some v→zAl v=some b→¬O' b:=fun {id} hr hh v b h1 h2 hb=>by
  obtain⟨p,id',v',g1,g2,g3⟩:=hO b hb
  have:=R.hp.inj id id' v v' b hh (hp p id' g1) h1 g2 h2 g3;subst this;exact zNa hr p g1
 cases hv with
 |imm x h=>exact zBF h hu.1 ((zBo h hu).less hsub)
 |any x=>exact⟨hu.1,trivial⟩
 | lend id q sz k j h=>
   obtain⟨v,b,e1,e2,e3⟩:=hu.2
   obtain⟨p,h1,rfl⟩:=Option.map_eq_some_iff.1 h
   exact⟨hu.1,v,b,(zIP (zAR h1)).trans e1,e2,e3⟩
 |ro id n sz k j row ty F G hr hh hk hi hc=>exact⟨hu.1,zMm R.hp hh hk hi hc hsub (hno hr (by rw[hh];simp)) hu.2⟩
 |roRow id n sz ty F G hr hh hi hc=>exact⟨hu.1,zEh hc (zGW R.hp hh hi hsub (hno hr (by rw[hh];simp)) hu.2.1)⟩
theorem ViewL.rep{b0:zN}{σ:Nat→Option Value}{S:St}{a:Act}{w:World}{ids:List Nat}{O':Nat→Prop}(R:Rel0 b0 σ S a w)(hp:∀(p id:Nat),ids[p]?=some id→S.h id≠none)(hO:∀b,O' b→zB1 ids σ b):∀{l m:List CV} {us:List Value},LeL (ViewC S ids) l m→RepL (RepC σ (out b0 σ S.h) w) l us→RepL (RepC (zCs ids σ) O' w) m us
 | [],[],[],_,_=>trivial
 |x::l,y::m,u::us,h,hu=>⟨h.1.rep R hp hO hu.1,ViewL.rep R hp hO h.2 hu.2⟩
 | [],_::_,_,h,_=>h.elim
 |_::_,[],_,h,_=>h.elim
 | [],[],_::_,_,h=>h.elim
 |_::_,_::_,[],_,h=>h.elim
theorem ViewA.rep{b0:zN}{σ:Nat→Option Value}{S:St}{a:Act}{w:World}{ids:List Nat}{O':Nat→Prop}(R:Rel0 b0 σ S a w)(hp:∀(p id:Nat),ids[p]?=some id→S.h id≠none)(hO:∀b,O' b→zB1 ids σ b){x y:AV}(hv:ViewA S ids x y){u:Value}(hu:RepA σ (out b0 σ S.h) w x u):RepA (zCs ids σ) O' w y u:=by
 cases hv with
 |c h=>exact h.rep R hp hO hu
 |ag h=>obtain⟨vs,e,hl⟩:=hu;exact⟨vs,e,ViewL.rep R hp hO h hl⟩
def PlainB(B:AB):Prop:=B.row=false∧∀k,k<B.n→∀j,j<B.sz→∃v,B.F k j=.p v
theorem PlainB.no_mo{B:AB}{b:Nat}{o:Obj}(hp:PlainB B)(m2:B.n=1)(m3:B.sz=1)(h:zBN (B.F 0 0) b o):False:=by
 obtain⟨v,hv⟩:=hp.2 0 (by omega) 0 (by omega)
 rw[hv]at h
 rcases h.2 with h|⟨K,h,_⟩<;>cases h
theorem OBk.plain{σ σ':Nat→Option Value}{O O':Nat→Prop}{w w':World}{v:Value}{B:AB}(hp:PlainB B)(h:OBk σ O w v B)(hb:∀b cs,zAl v=some b→w.heap[b]?=some (.cells cs B.ty (0,0))→w'.heap[b]?=w.heap[b]?):OBk σ' O' w' v B:=by
 rcases h with ⟨h,_⟩|⟨b,cap,cs,h1,h2,h3,h4⟩|⟨_,m2,m3,_,_,_,_,m5⟩
 ·rw[hp.1]at h;cases h
 rotate_left
 ·exact(hp.no_mo m2 m3 m5).elim
 ·refine .inr (.inl ⟨b,cap,cs,h1,(hb b cs h1.blk h2).trans h2,h3,fun k hk j hj=> ?_⟩)
  obtain⟨u,e1,e2⟩:=h4 k hk j hj
  obtain⟨x,hx⟩:=hp.2 k hk j hj
  rw[hx]at e2⊢
  exact⟨u,e1,e2.1,e2.2⟩
def zD2:List Tmp→List Value→List (Nat×AV)
 |p::ps,v::vs=>(p,.c (.p v))::zD2 ps vs
 |_,_=> []
theorem zNI:∀{ps:List Tmp} {vs:List Value} {t:Nat} {x:AV},zAx ps=true→zD (zD2 ps vs) t=some x→∃v,v∈vs∧x=.c (.p v)∧∀(tm:Array Value),(∀p∈ps,p<tm.size)→((ps.zip vs).foldl (fun t (p,v)=>t.setIfInBounds p v) tm).getD t undef=v
 | p :: ps,v::vs,t,x,hn,h=>by
   unfold zAx at hn;rw[Bool.and_eq_true,Bool.not_eq_true']at hn;unfold zD2 zD at h
   cases hb:Nat.beq t p with
   | true =>
     have:=Nat.eq_of_beq_eq_true hb;subst this;rw[hb]at h
     cases h
     refine⟨v,by simp,rfl,fun tm hp=> ?_⟩
     have hlt:=hp t (by simp);have hout:∀(ps:List Tmp) (vs:List Value) (tm:Array Value),ps.any (Nat.beq t)=false→((ps.zip vs).foldl (fun t (p,v)=>t.setIfInBounds p v) tm).getD t undef=tm.getD t undef:=fun ps=>by
      induction ps with
      |nil=>intro vs tm _;rfl
      | cons q ps ih=>
        intro vs tm hq;rw[List.any_cons,Bool.or_eq_false_iff]at hq
        cases vs with
        |nil=>rfl
        | cons y vs=>
          show((ps.zip vs).foldl _ (tm.setIfInBounds q y)).getD t undef=_
          rw[ih vs _ hq.2];have hne:q≠t:=fun e=>by rw[e,Nat.beq_refl]at hq;cases hq.1
          simp[Array.getD_eq_getD_getElem?,Array.getElem?_setIfInBounds_ne hne]
     show((ps.zip vs).foldl _ (tm.setIfInBounds t v)).getD t undef=v
     rw[hout ps vs _ hn.1]
     simp[Array.getD_eq_getD_getElem?,hlt]
   | false=>
     rw[hb]at h
     obtain⟨u,e0,e1,e2⟩:=zNI hn.2 h
     exact⟨u,List.mem_cons_of_mem _ e0,e1,fun tm hp=>e2 (tm.setIfInBounds p v) fun q hq=>by rw[Array.size_setIfInBounds];exact hp q (List.mem_cons_of_mem _ hq)⟩
 | [],_,_,_,_,h=>by cases h
 |_::_,[],_,_,_,h=>by cases h
theorem zNJ:∀{ps:List Tmp} {vs:List Value} {t:Nat},vs.length=ps.length→zD (zD2 ps vs) t=none→∀(tm:Array Value),((ps.zip vs).foldl (fun t (p,v)=>t.setIfInBounds p v) tm).getD t undef=tm.getD t undef
 | p ::ps,v::vs,t,hl,h,tm=>by
   unfold zD2 zD at h
   cases hb:Nat.beq t p with
   |true=>rw[hb]at h;cases h
   | false=>
     rw[hb]at h
     show((ps.zip vs).foldl _ (tm.setIfInBounds p v)).getD t undef=_
     rw[zNJ (by simpa using hl) h];have hne:p≠t:=fun e=>by rw[e,Nat.beq_refl]at hb;cases hb
     simp[Array.getD_eq_getD_getElem?,Array.getElem?_setIfInBounds_ne hne]
 | [],_,_,_,_,_=>rfl
 |_::_,[],_,hl,_,_=>by simp at hl
theorem zJC:∀(l:List (Tmp×Value)) (tm:Array Value),(l.foldl (fun t (p,v)=>t.setIfInBounds p v) tm).size=tm.size
 | [],_=>rfl
 |(p,v)::l,tm=>by show(l.foldl _ (tm.setIfInBounds p v)).size=_;rw[zJC l];simp
def St.inBody(S:St):St:={S with dd:=true}
def zMD:Exit→Code
 | .exit id=>.exit id
 |_=>.ret
def zO3(g:Bool)(eS:Exit)(hs':List (Nat×AB))(e:Exit)(S:St):Prop:=
 (bif g then e=.normal else e=eS)∧∃S' loc,Wk S S'∧S'.h=zD (loc++hs')∧loc.all (fun p=>Nat.blt p.1 1000)=true
abbrev zNw(n ln:Nat)(ps:List Tmp)(vs:List Value)(ts:List (Nat×AV))(hs:List (Nat×AB)):St:=mkG (fun _=>True) 0 false n ln (zD2 ps vs++ts) hs []
theorem zQt{tm:Array Value}{ps:List Tmp}{vs:List Value}{ts:List (Nat×AV)}{t:Nat}{x:AV}(hn:zAx ps=true)(hl:vs.length=ps.length)(hp:∀p∈ps,p<tm.size)(h:zD (zD2 ps vs++ts) t=some x):
 (∃v,v∈vs∧x=.c (.p v)∧((ps.zip vs).foldl (fun t (p,v)=>t.setIfInBounds p v) tm).getD t undef=v)∨(zD ts t=some x∧((ps.zip vs).foldl (fun t (p,v)=>t.setIfInBounds p v) tm).getD t undef=tm.getD t undef):=by
 rw[zCC]at h
 cases hc:zD (zD2 ps vs) t with
 | some y=>
   rw[hc]at h
   cases h
   obtain⟨v,e0,e1,e2⟩:=zNI hn hc
   exact .inl ⟨v,e0,e1,e2 tm hp⟩
 | none=>
   rw[hc]at h;exact .inr ⟨h,zNJ hl hc tm⟩
theorem AWp.range{g:Operand}{ps:Array Tmp}{assign body:Code}{S:St}{Q:Exit→St→Prop}{gf m:Nat}{C:Nat→CV}{ys:List CV}{xs:Nat→List Value}{M N:Nat}{stop:Bool}{eS:Exit}{ids:List Nat}{bsI:Nat→List AB}{ts:List (Nat×AV)}
 (hg:S.opd g=some (.c (.fn gf m C))) (eg:∀args w,(callFunc gf args).run P w=.ok (.enter gf args) w) (hcs:LeL (ViewC S ids) ((List.range m).map C) ys) (hys:ys.all zM=true) (hit:zGv P gf (ys.map .c) xs M)
 (hrd:∀b,S.G b→b.rd=none) (hN1:stop=true→0<N∧N≤M) (hN2:stop=false→N=M) (hnd:zAx ids=true) (hL:LendOk S ids (bsI 0)) (hbx:∀i,i≤N→(bsI i).length=ids.length∧∀B∈bsI i,PlainB B)
 (hts:zHO S ids ts) (hps:(zAx ps.toList && ps.toList.all (fun p=>Nat.blt p S.n))=true) (hxl:∀i,i<N→(xs i).length=ps.size∧∀v∈xs i,v.oneCell'=true) (hj:eS=.ret∨∃id,eS=.exit id)
 (hround:∀i,i<N→AWp P assign (zCe (fun S'=>S'.dd=false∧AWp P body (zO3 (zAs N stop i) eS (zAt 0 (bsI (i+1)))) S'.inBody) (fun _ _=>False)) (zNw S.n ids.length ps.toList (xs i) ts (zAt 0 (bsI i))))
 (hq:Q (bif stop then eS else .normal) (S.eff none ⟨.tu [],zO ids (bsI N),[]⟩)):AWp P (.rangeFunc g ps assign body) Q S:=⟨fun b0 a w hR=>by
 obtain⟨σ,R⟩:=hR
 have hrd0:=hrd b0 R.gd;rw[hrd0];rw[Bool.and_eq_true]at hps
 obtain⟨hlen0,hat⟩:=zI5 hL
 have hidn:∀(p id:Nat),ids[p]?=some id→S.h id≠none:=fun p id hp=>by obtain⟨B,F,_,h2,_⟩:=hat p id hp;rw[h2];simp
 have hLo:∀b,zB1 ids σ b→own σ S.h b:=fun b ⟨p,id,v,h1,h2,h3⟩=>⟨id,v,hidn p id h1,h2,h3⟩
 have hLlt:∀b,zB1 ids σ b→b<w.heap.size:=fun b hb=>R.hp.lt (hLo b hb)
 obtain⟨hu1,vs,hgv,hvl,hvr⟩:=zW R hg
 obtain⟨fn0,rec,hrec⟩:∃(fn0:FuncId→LoopState→Option Code→Loop) (_:Unit),fn0=fun fn st pe=>{state:=st,pending:=pe,fn,tmps:=a.tmps,params:=ps,assign,body,defers:=w.heap.size}:=⟨_,(),rfl⟩
 refine wpIn_rangeFunc ?_;intro fn _
 obtain⟨W1,hW1⟩:∃W1,(w.alloc (.deferred (some []))).alloc (.loop (fn0 fn .ready none))=W1:=⟨_,rfl⟩
 have hW1s:W1.heap.size=w.heap.size+2:=by rw[←hW1];simp
 have hL1:W1.heap[w.heap.size+1]?=some (.loop (fn0 fn .ready none)):=by
  rw[←hW1];have:=World.alloc_heap_new (w.alloc (.deferred (some []))) (.loop (fn0 fn .ready none));rwa [World.size_alloc]at this
 have hK1:W1.heap[w.heap.size]?=some (.deferred (some [])):=by
  rw[←hW1];exact(Below.heap_alloc _ _ _ (by simp)).trans (World.alloc_heap_new w _)
 have hE1:Ext w W1:=by rw[←hW1];exact(((Ext.refl w).alloc _).alloc _)
 obtain⟨jc,hjc⟩:∃jc,zMD eS=jc:=⟨_,rfl⟩
 let J:Nat→Bool→World→Prop:=fun i d W=>(∀(p id:Nat) (B:AB),ids[p]?=some id→(bsI i)[p]?=some B→PlainB B→∃v,σ id=some v∧OBk (fun _=>none) (fun _=>False) W v B)∧(d=true→W.heap[w.heap.size+1]?=some (.loop (fn0 fn .done (some jc))))
 have hJ0:J 0 false W1:=by
  refine⟨fun p id B hp hB hpl=> ?_,fun h=>by cases h⟩
  obtain⟨B',F,h1,h2,_,h4⟩:=hat p id hp
  rw[hB]at h1
  cases h1
  obtain⟨v,e1,e2⟩:=R.hp.blk id _ h2
  refine⟨v,e1,?_⟩
  rcases e2 with ⟨h,_⟩|⟨b,cap,cs,g1,g2,g3,g4⟩|⟨_,m2,m3,_,_,_,_,m5⟩
  ·rw[hpl.1]at h;cases h
  rotate_left
  ·replace m2:B.n=1:=m2
   replace m3:B.sz=1:=m3
   replace m5:zBN (F 0 0) _ _:=m5
   rw[(h4 0 (by omega) 0 (by omega)).1]at m5
   exact(hpl.no_mo m2 m3 m5).elim
  ·refine .inr<| .inl ⟨b,cap,cs,g1,Ext.block hE1 g2,g3,fun k hk j hj=> ?_⟩
   obtain⟨u,q1,q2⟩:=g4 k hk j hj
   obtain⟨x,hx⟩:=hpl.2 k hk j hj
   simp only[(h4 k hk j hj).1,hx]at q2
   rw[hx]
   exact⟨u,q1,q2.1,q2.2⟩
 have hJk:∀i d O A B,J i d A→Keep O A B→(∀k,O k→W1.heap.size≤k∨False)→J i d B:=fun i d O A B ⟨h1,h2⟩ hK hO=>by
  have hno:∀k,k<W1.heap.size→¬O k:=fun k hk ho=>(hO k ho).elim (fun h=>by omega) id
  refine⟨fun p id B' hp hB hpl=> ?_,fun hd=>(hK.block _ (Array.getElem?_eq_some_iff.1 (h2 hd)).1 (hno _ (by omega))).trans (h2 hd)⟩
  obtain⟨v,e1,e2⟩:=h1 p id B' hp hB hpl
  exact⟨v,e1,e2.plain hpl fun b cs hb hc=>hK.block b (Array.getElem?_eq_some_iff.1 hc).1 (hno b (by have:=hLlt b ⟨p,id,v,hp,e1,hb⟩;omega))⟩
 let V:Bool→Nat→Prop:=fun d b=>zB1 ids σ b∨(d=true∧b=w.heap.size+1)
 let bI:zN:=⟨W1,fun b=>zB1 ids σ b∨b=w.heap.size+1,fun _=>False,fun _=>none,fun b hb=>hb.elim (fun h=>by have:=hLlt b h;omega) (fun h=>by omega),fun b hb=>hb.elim,fun b _ h=>h,fun i v h=>(by cases h),V,J,none,fun d b hb=>hb.imp id fun h=>h.2,hJk⟩
 refine⟨w.heap.size+1,[{target:=.collected w.heap.size,args:= #[]}],W1,{target:=.fn (.func gf) vs.toArray,args:= #[yv (w.heap.size+1)]},W1,gf,(yv (w.heap.size+1)::vs).toArray,W1,?_,?_,fun _ _=>trivial,?_,fun hd=>(by cases hd),?_⟩
 ·rw[←hW1,hrec];exact run_enterLoop_outer _ _ _ _ _
 ·simp only[resolve,hgv]
  simp[go_sem]
 ·simp[invoke,go_sem,eg]
 · -- what has been captured
   have hl:∀b,bI.X b→zB1 ids σ b∨w.heap.size≤b:=fun b hb=>hb.imp id fun h=>by omega
   have hcap:RepL (RepV (fun _=>none) bI.X W1) (ys.map .c) vs:=by
    have h1:RepL (RepC σ (out b0 σ S.h) w) ((List.range m).map C) vs:=zA5 (by simp[hvl]) fun i x v q1 q2=>by
     have hi:i<m:=by have:=(List.getElem?_eq_some_iff.1 q1).1;simpa using this
     rw[List.getElem?_map,List.getElem?_range hi]at q1
     cases q1
     obtain⟨v',e1,e2,e3⟩:=hvr i hi
     rw[q2]at e1
     cases e1
     refine⟨e2,?_⟩
     cases hC:C i<;>rw[hC]at e3<;>first|exact e3|exact e3.elim
    have h2:=ViewL.rep (O':=zB1 ids σ) R hidn (fun _ h=>h) hcs h1;refine zA5 (by simpa using h2.length) fun i x v q1 q2=> ?_
    obtain⟨y,e1,rfl⟩:∃y,ys[i]?=some y∧V1.c y=x:=by simpa[List.getElem?_map,Option.map_eq_some_iff]using q1
    obtain⟨v',e2,e3⟩:=h2.get e1
    rw[q2]at e2
    cases e2
    have him:=List.all_eq_true.1 hys _ (List.mem_of_getElem? e1);exact zBF him e3.1 ((zBo him e3).keep (Keep.of_ext hE1) hl)
   have hround':zH3 P bI (w.heap.size+1) xs N stop:=fun i hi W hJW hKW=>by
    have hWs:w.heap.size+2≤W.heap.size:=by have:W1.heap.size≤W.heap.size:=hKW.size;omega
    have hlW:W.heap[w.heap.size+1]?=some (.loop (fn0 fn .ready none)):=(hKW.block _ (by show _<W1.heap.size;omega) fun h=>h.elim (fun h=>by have:=hLlt _ h;omega) fun h=>by cases h.1).trans hL1
    have hlW':W.heap[w.heap.size+1]?=some (.loop {state:=.ready,pending:=none,fn,tmps:=a.tmps,params:=ps,assign,body,defers:=w.heap.size}):=by rw[hlW,hrec]
    have hy:=run_yield (P:=P) (args:=(xs i).toArray) hlW' (by simpa using (hxl i hi).1)
    refine⟨fn,_,assign,body,hy,?_⟩
    have hfx:∀{i v},zCs ids σ i=some v→∃p id,i=1000+p∧ids[p]?=some id∧σ id=some v:=fun h=>by
     obtain⟨h1,id,h2,h3⟩:=zQk h
     exact⟨_,id,by omega,h2,h3⟩
    have hbl:∀{p id:Nat} {v:Value},ids[p]?=some id→σ id=some v→∃b,zAl v=some b:=fun {p id v} h1 h2=>by
     have hlt:=(List.getElem?_eq_some_iff.1 h1).1;have hB:=List.getElem?_eq_getElem (l:=bsI i) (i:=p) (by rw[(hbx i (by omega)).1];exact hlt)
     have hpl:=(hbx i (by omega)).2 _ (List.mem_of_getElem? hB)
     obtain⟨v',e1,e2⟩:=hJW.1 p id _ h1 hB hpl
     rw[h2]at e1
     cases e1
     rcases e2 with ⟨h,_⟩|⟨b,cap,cs,g1,_⟩|⟨_,_,_,b,_,rfl,_⟩
     ·rw[hpl.1]at h;cases h
     ·exact⟨b,g1.blk⟩
     ·exact⟨b,rfl⟩
    let bA:zN:=⟨W,fun b=>b=w.heap.size+1,zB1 ids σ,zCs ids σ,fun b hb=>by omega,fun b hb=>by have:=hLlt b hb;omega,fun b hb h=>by have:=hLlt b h;omega,fun j v hj=>by
     obtain⟨p,id,rfl,h1,h2⟩:=hfx hj
     exact⟨by omega,hbl h1 h2⟩,fun _ b=>b=w.heap.size+1,fun _ d W=>W.heap[w.heap.size+1]?=some (.loop {fn0 fn .ready none with state:=if d then .busy else .ready}),some (w.heap.size+1),fun _ _ h=>h,fun _ d O A B h hK hO=>by
      refine(hK.block _ (Array.getElem?_eq_some_iff.1 h).1 fun ho=> ?_).trans h
      rcases hO _ ho with h|h
      ·have:W.heap.size≤w.heap.size+1:=h
       omega
      ·have:=hLlt _ h;omega⟩
    have hKw:Keep (zB1 ids σ) w W:=(Keep.of_ext (O:=zB1 ids σ) hE1).trans (hKW.less (O':=zB1 ids σ) fun b hb=>hb.elim id fun h=>by cases h.1) fun k hk=>.inr hk
    have hown:∀b,own (zCs ids σ) (zD (zAt 0 (bsI i))) b→zB1 ids σ b:=fun b ⟨j,v,_,h2,h3⟩=>by
     obtain⟨p,id,rfl,a1,a2⟩:=hfx h2
     exact⟨p,id,v,a1,a2,h3⟩
    have hH:HRel bA (zCs ids σ) (zD (zAt 0 (bsI i))) W:=by
     refine⟨fun j B hB=> ?_,fun j1 j2 v1 v2 b _ _ h1 h2 e1 e2=> ?_,fun b hb=>.inr (hown b hb),fun j v hj=>⟨hj,?_⟩,fun j _ hj=>hj⟩
     ·rw[zBR]at hB
      split at hB
      ·rename_i h1
       obtain⟨p,rfl⟩:∃p,j=1000+p:=⟨j-1000,by omega⟩
       rw[show 1000+p-(1000+0)=p by omega]at hB;have hlt:=(List.getElem?_eq_some_iff.1 hB).1;have hid:=List.getElem?_eq_getElem (l:=ids) (i:=p) (by rw[←(hbx i (by omega)).1];exact hlt)
       have hpl:=(hbx i (by omega)).2 _ (List.mem_of_getElem? hB)
       obtain⟨v,e1,e2⟩:=hJW.1 _ _ B hid hB hpl
       exact⟨v,(zIP hid).trans e1,e2.plain hpl fun _ _ _ _=>rfl⟩
      ·cases hB
     ·obtain⟨p1,id1,rfl,a1,a2⟩:=hfx h1
      obtain⟨p2,id2,rfl,c1,c2⟩:=hfx h2
      have:=R.hp.inj id1 id2 v1 v2 b (hidn _ _ a1) (hidn _ _ c1) a2 c2 e1 e2;subst this;rw[zDA hnd a1 c1]
     ·obtain⟨p,id,rfl,a1,a2⟩:=hfx hj
      rw[zBR,if_pos (by omega),show 1000+p-(1000+0)=p by omega];have:=(List.getElem?_eq_some_iff.1 a1).1;rw[List.getElem?_eq_getElem (by rw[(hbx i (by omega)).1];exact this)]
      simp
    have hfold:(ps.zip (xs i).toArray).foldl (fun tmps (t,a)=>tmps.setIfInBounds t a) a.tmps=(ps.toList.zip (xs i)).foldl (fun t (p,v)=>t.setIfInBounds p v) a.tmps:=by
     rw[←Array.foldl_toList]
     simp
    have hin:∀p∈ps.toList,p<a.tmps.size:=fun p hp=>by rw[R.sz];exact Nat.blt_eq.mp (List.all_eq_true.1 hps.2 p hp)
    have hRA:Rel bA (zNw S.n ids.length ps.toList (xs i) ts (zAt 0 (bsI i))) {tmps:=(ps.zip (xs i).toArray).foldl (fun tmps (t,a)=>tmps.setIfInBounds t a) a.tmps,defers:= []} W:=by
     refine⟨zCs ids σ,trivial,?_,⟨rfl,rfl,rfl,Nat.le_refl _,fun _ _ _=>rfl⟩,hH,fun t x hx=> ?_,fun id hid=> ?_,fun j v hj=> ?_,trivial,?_⟩
     ·show Array.size _=S.n
      rw[hfold,zJC];exact R.sz
     ·show RepA _ _ W x (Array.getD _ t undef)
      rw[hfold]
      rcases zQt (tm:=a.tmps) hps.1 (by simpa using (hxl i hi).1) hin hx with ⟨v,h0,rfl,h2⟩|⟨h1,h2⟩
      ·rw[h2]
       exact⟨(hxl i hi).2 v h0,rfl⟩
      ·rw[h2]
       obtain⟨y,q1,q2⟩:=zK3 hts _ (zBe h1)
       exact(q2.rep (O':=zB1 ids σ) R hidn (fun _ h=>h) (R.sl t y q1)).keep hKw (fun b hb=>hb.elim (fun h=>.inl (hown b h)) fun h=>.inr (by have:b=w.heap.size+1:=h;omega)) fun _ _ h=>h
     ·have h1:id<1000:=by
       have:(Nat.blt id 1000 && !(([]:List Nat).any (Nat.beq id)))=true:=hid;rw[Bool.and_eq_true]at this;exact Nat.blt_eq.mp this.1
      refine⟨?_,h1⟩
      unfold zCs;rw[if_neg (by omega)]
     ·obtain⟨p,id,rfl,a1,a2⟩:=hfx hj
      have:=(List.getElem?_eq_some_iff.1 a1).1;show _<1000+ids.length
      omega
     ·show W.heap[w.heap.size+1]?=_
      rw[hlW,hrec];rfl
    refine roundIn_of_wpIn (F:=Fence.wide) trivial ?_;refine wpIn_mono ((hround i hi).get bA _ W hRA) fun e a1 w1 ⟨S',⟨σ',R'⟩,h2⟩=> ?_
    cases e with
    | normal=>
      obtain⟨hdd,hB⟩:=h2
      have hl1:w1.heap[w.heap.size+1]?=some (.loop {fn0 fn .ready none with state:=if S'.dd then .busy else .ready}):=R'.gh;rw[hdd]at hl1;have hnc:∀cs t p,w1.heap[w.heap.size+1]?≠some (.cells cs t p):=fun cs t p h=>by rw[hl1]at h;cases h
      have hbr:=run_beginRound (P:=P) hl1 rfl
      refine⟨_,hbr,?_⟩
      obtain⟨w2,hw2⟩:∃w2,w1.putObj (w.heap.size+1) (.loop {{fn0 fn .ready none with state:=if false=true then .busy else .ready}with state:=.busy})=w2:=⟨_,rfl⟩
      rw[hw2];have hoth:∀k,k≠w.heap.size+1→w2.heap[k]?=w1.heap[k]?:=fun k hk=>by rw[←hw2];exact World.putObj_heap_other hk
      have hcc:∀a v,w1.cell? a=some v→w2.cell? a=some v:=by rw[←hw2];exact zFz hnc
      have hKp:Keep (fun k=>k=w.heap.size+1) w1 w2:=by rw[←hw2];exact⟨rfl,rfl,rfl,by rw[World.putObj_size];exact Nat.le_refl _,fun k _ hk=>World.putObj_heap_other hk⟩
      have R2:Rel0 bA σ' S'.inBody a1 w2:=⟨R'.df.keep2 hKp fun D h=>by show D<W.heap.size;omega,R'.sz,
       (R'.ext.less (O':=zC9 bA S'.inBody) fun b hb=>hb).trans hKp fun k hk=>.inr (.inr hk),R'.hp.turn hnc (fun o h=>by rw[hl1]at h;cases h;rfl) hoth hcc,fun t x hx=>(R'.sl t x hx).cells hcc,R'.fr,R'.le,R'.gd,by
         show w2.heap[w.heap.size+1]?=_;rw[←hw2,World.putObj_heap_same (Array.getElem?_eq_some_iff.1 hl1).1]
         rfl⟩
      refine wpIn_mono (hB.get bA a1 w2 ⟨σ',R2⟩) fun e a3 W3 ⟨S3,hR3,h3,S'',loc,hwk,hS'',hlc⟩=> ?_
      obtain⟨σ3,R3⟩:=hR3
      obtain⟨σ4,R4⟩:=hwk bA a3 W3 ⟨σ3,R3⟩
      have hl3:W3.heap[w.heap.size+1]?=some (.loop {fn0 fn .ready none with state:=if S3.dd then .busy else .ready}):=R3.gh;have fin:∀jump:Option Code,jump.isNone=zAs N stop i→(zAs N stop i=false→jump=some jc)→∃w',(Instr.endRound (w.heap.size+1) jump).run P W3=.ok (.bool (zAs N stop i)) w'∧J (i+1) (!zAs N stop i) w'∧Keep (V (!zAs N stop i)) W w':=fun jump hjn hjc'=>by
       obtain⟨o,hrun,ho⟩:∃o,(Instr.endRound (w.heap.size+1) jump).run P W3=.ok (.bool jump.isNone) (W3.putObj (w.heap.size+1) (.loop o))∧o=fn0 fn (if jump.isNone then .ready else .done) jump:=⟨_,run_endRound (P:=P) jump hl3,by rw[hrec]⟩
       refine⟨W3.putObj (w.heap.size+1) (.loop o),by rw[←hjn];exact hrun,⟨fun p id B hp hB hpl=> ?_,fun hd=> ?_⟩,⟨R4.ext.os,R4.ext.tape,R4.ext.output,by rw[World.putObj_size];exact R4.ext.size,fun k hk hno=> ?_⟩⟩
       ·have hBs:S''.h (1000+p)=some B:=by
         rw[hS'',zCC];have:zD loc (1000+p)=none:=by
          cases hc:zD loc (1000+p)with
          |none=>rfl
          | some B'=>
            have h2:=Nat.blt_eq.mp (List.all_eq_true.1 hlc _ (zBe hc))
            simp only at h2
            omega
         rw[this,zBR,if_pos (by omega),show 1000+p-(1000+0)=p by omega];exact hB
        obtain⟨v,e1,e2⟩:=R4.hp.blk _ _ hBs
        have hlt:=(List.getElem?_eq_some_iff.1 hp).1;have hB0:=List.getElem?_eq_getElem (l:=bsI i) (i:=p) (by rw[(hbx i (by omega)).1];exact hlt)
        obtain⟨v0,q1,_⟩:=hJW.1 p id _ hp hB0 ((hbx i (by omega)).2 _ (List.mem_of_getElem? hB0))
        have q2:=(R4.hp.fx (1000+p) v0 ((zIP hp).trans q1)).1;rw[e1]at q2
        cases q2
        refine⟨v,q1,e2.plain hpl fun b cs hb hc=>World.putObj_heap_other fun e=> ?_⟩
        rw[e,hl3]at hc
        cases hc
       ·have hg0:zAs N stop i=false:=by cases h:zAs N stop i with
         |false=>rfl
         |true=>rw[h]at hd;cases hd
        rw[World.putObj_heap_same (Array.getElem?_eq_some_iff.1 hl3).1,ho,hjc' hg0]
        rfl
       ·by_cases e:k=w.heap.size+1
        ·subst e
         rw[World.putObj_heap_same (Array.getElem?_eq_some_iff.1 hl3).1,hlW]
         cases hg0:zAs N stop i with
         |false=>rw[hg0]at hno;exact absurd (.inr ⟨rfl,rfl⟩) hno
         | true=>
           rw[hg0]at hjn
           cases jump with
           |none=>rw[ho];rfl
           |some c=>cases hjn
        ·exact(World.putObj_heap_other e).trans (R4.ext.block k hk fun h=>h.elim (fun h=>hno (.inl h)) e)
      have fin':∀jump:Option Code,jump.isNone=zAs N stop i→(zAs N stop i=false→jump=some jc)→∃v w',(Instr.endRound (w.heap.size+1) jump).run P W3=.ok v w'∧Ending.returned v=.returned (.bool (zAs N stop i))∧J (i+1) (!zAs N stop i) w'∧Keep (V (!zAs N stop i)) W w':=fun jump a b=>let ⟨w',q1,q2,q3⟩:=fin jump a b;⟨_,w',q1,rfl,q2,q3⟩
      cases hg0:zAs N stop i with
      | true=>
        rw[hg0]at h3;obtain rfl:e=.normal:=h3;have:=fin' none (by rw[hg0];rfl) (by rw[hg0];intro h;cases h)
        rw[hg0]at this;exact this
      | false=>
        rw[hg0]at h3;obtain rfl:e=eS:=h3;have:=fin' (some jc) (by rw[hg0];rfl) (fun _=>rfl)
        rw[hg0]at this
        rcases hj with rfl|⟨id,rfl⟩
        ·subst hjc;exact this
        ·subst hjc;exact this
    |_=>exact h2.elim
   have hVm:∀k,bI.V false k→bI.V true k:=fun k hk=>hk.elim .inl fun h=>absurd h.1 (by decide)
   have hcall:Calls P gf (yv (w.heap.size+1)::vs).toArray W1 fun e w'=>(∃v,e=.returned v)∧J N stop w'∧Keep (V stop) W1 w':=hit bI (w.heap.size+1) N stop vs rfl (fun _ h=>h) rfl hVm hN1 hN2 hround' hJ0 hcap
   refine(zE9 none).calls (Calls.mono hcall ?_)
   rintro e w3 ⟨⟨v,rfl⟩,hJ3,hK3⟩
   have hK3':Keep (V stop) W1 w3:=hK3;have hs3:w.heap.size+2≤w3.heap.size:=by have:=hK3'.size;omega
   obtain⟨st,pe,hl3,hne,hpe⟩:∃st pe,w3.heap[w.heap.size+1]?=some (.loop (fn0 fn st pe))∧st≠ .busy∧pe=bif stop then some jc else none:=by
    cases stop with
    |false=>exact⟨_,_,(hK3'.block _ (by omega) fun h=>h.elim (fun h=>by have:=hLlt _ h;omega) fun h=>by cases h.1).trans hL1,by simp,rfl⟩
    |true=>exact⟨_,_,hJ3.2 rfl,by simp,rfl⟩
   have hend:=run_endLoop (P:=P) hl3 (by rw[hrec];exact hne)
   obtain⟨w4,hw4⟩:∃w4,w3.putObj (w.heap.size+1) (.loop {fn0 fn st pe with state:=.exhausted})=w4:=⟨_,rfl⟩
   rw[hw4,show(fn0 fn st pe).pending=pe by rw[hrec]]at hend;have hoth:∀k,k≠w.heap.size+1→w4.heap[k]?=w3.heap[k]?:=fun k hk=>by rw[←hw4];exact World.putObj_heap_other hk
   have hK4:Keep (zB1 ids σ) w w4:=by
    refine⟨?_,?_,?_,?_,fun k hk hno=> ?_⟩
    ·rw[←hw4];exact hK3'.os.trans hE1.os
    ·rw[←hw4];exact hK3'.tape.trans hE1.tape
    ·rw[←hw4];exact hK3'.output.trans hE1.output
    ·rw[←hw4,World.putObj_size];omega
    ·exact(hoth k (by omega)).trans ((hK3'.block k (by omega) fun h=>h.elim hno fun h=>by omega).trans (Below.block hE1 k hk))
   have hfin:Rel b0 (S.eff none ⟨.tu [],zO ids (bsI N),[]⟩) {a with defers:={target:=.collected w.heap.size,args:= #[]}::a.defers} w4:=by
    have hbl:ids.length=(bsI N).length:=(hbx N (Nat.le_refl _)).1.symm;have hlook:∀i,(∃(k id:Nat) (B:AB),ids[k]?=some id∧(bsI N)[k]?=some B∧i=id∧zAb (zO ids (bsI N)) S.h i=some B)∨(i∉ids∧zAb (zO ids (bsI N)) S.h i=S.h i):=fun i=>by
     by_cases hm:i∈ids
     ·obtain⟨k,hk,e1⟩:=List.getElem_of_mem hm
      have e2:ids[k]?=some i:=by rw[List.getElem?_eq_getElem hk,e1]
      have e3:=List.getElem?_eq_getElem (l:=bsI N) (i:=k) (by omega);exact .inl ⟨k,i,_,e2,e3,rfl,zD8 hbl hnd k _ _ S.h e2 e3⟩
     ·exact .inr ⟨hm,zD9 i S.h hm⟩
    have hne:∀i,zAb (zO ids (bsI N)) S.h i≠none↔S.h i≠none:=fun i=>by
     rcases hlook i with ⟨k,id,B,e1,_,rfl,e3⟩|⟨_,e⟩
     ·rw[e3];exact⟨fun _=>hidn k _ e1,fun _=>by simp⟩
     ·rw[e]
    have hown:∀b,own σ (zAb (zO ids (bsI N)) S.h) b↔own σ S.h b:=fun b=>⟨fun ⟨i,v,h1,h2,h3⟩=>⟨i,v,(hne i).1 h1,h2,h3⟩,fun ⟨i,v,h1,h2,h3⟩=>⟨i,v,(hne i).2 h1,h2,h3⟩⟩
    have hout:∀b,out b0 σ (zAb (zO ids (bsI N)) S.h) b↔out b0 σ S.h b:=fun b=>or_congr (hown b) Iff.rfl
    have hKo:Keep (out b0 σ S.h) w w4:=hK4.less fun b hb=>.inl (hLo b hb)
    refine⟨σ,⟨⟨_,rfl,R.ext.size,?_,fun d' hd'=> ?_⟩,R.df.keep hK4 fun D hD=>R.hp.nodef (hLo D hD)⟩,R.sz,(R.ext.trans hK4 fun k hk=>(R.hp.new k (hLo k hk)).imp id .inl),⟨fun i B hB=> ?_,fun i j v1 v2 b hi hj=>R.hp.inj i j v1 v2 b ((hne i).1 hi) ((hne j).1 hj),fun b hb=>R.hp.new b ((hown b).1 hb),fun i v hi=>⟨(R.hp.fx i v hi).1,(hne i).2 (R.hp.fx i v hi).2⟩,R.hp.big⟩,fun t x hx=> ?_,fun id hid=> ?_,R.le,R.gd,b0.jk _ _ _ _ _ R.gh hK4 fun k hk=>R.hp.new k (hLo k hk)⟩
    ·rw[hoth _ (by omega)]
     exact(hK3'.block _ (by omega) fun h=>h.elim (fun h=>by have:=hLlt _ h;omega) fun h=>by omega).trans hK1
    ·have:∀{ds:List Deferred},Marks b0.w.heap.size ds w→∀d∈ds,d≠{target:=.collected w.heap.size,args:= #[]}:=fun {ds}=>by
      induction ds with
      |nil=>intro _ d hd;simp at hd
      | cons d0 ds ih=>
        rintro⟨⟨D,e1,_,e3,_⟩,hm⟩ d hd
        rcases List.mem_cons.1 hd with rfl|hd
        ·rw[e1]
         intro e;have h1:=(Array.getElem?_eq_some_iff.1 e3).1;have:D=w.heap.size:=by simpa using e
         omega
        ·exact ih hm d hd
     exact this R.df d' hd'
    ·have hB':zAb (zO ids (bsI N)) S.h i=some B:=hB
     rcases hlook i with ⟨k,id,B',e1,e2,rfl,e3⟩|⟨hm,e⟩
     ·rw[e3]at hB'
      cases hB'
      have hpl:=(hbx N (Nat.le_refl _)).2 _ (List.mem_of_getElem? e2)
      obtain⟨v,q1,q2⟩:=hJ3.1 k _ _ e1 e2 hpl
      refine⟨v,q1,q2.plain hpl fun b cs hb hc=>hoth b fun e=> ?_⟩
      rw[e,hl3]at hc
      cases hc
     ·rw[e]at hB'
      obtain⟨v,q1,q2⟩:=R.hp.blk i B hB'
      refine⟨v,q1,q2.keep hKo (fun b hb=>.inl ((hout b).1 hb)) (fun _ _ h=>h) fun b hb=>hK4.block b (R.hp.lt ⟨i,v,by rw[hB'];simp,q1,hb⟩) fun ⟨p,id,v',g1,g2,g3⟩=> ?_⟩
      have:=R.hp.inj i id v v' b (by rw[hB'];simp) (hidn p id g1) q1 g2 hb g3
      subst this;exact hm (List.mem_of_getElem? g1)
    ·exact(R.sl t x hx).keep hKo (fun b hb=>.inl ((hout b).1 hb)) fun _ _ h=>h
    ·have:(S.fr id && !(([]:List Nat).any (Nat.beq id)))=true:=hid
     rw[Bool.and_eq_true]at this;exact R.fr id this.1
   refine⟨pe,w4,hend,?_⟩
   subst hpe
   cases stop with
   |false=>exact⟨_,hfin,hq⟩
   | true=>
     subst hjc
     rcases hj with rfl|⟨id,rfl⟩
     ·exact wpIn_ret ⟨_,hfin,hq⟩
     ·exact wpIn_exit ⟨_,hfin,hq⟩⟩
end
section
variable{P:Program}
def noFn:CV→Bool
 | .fn .. =>false
 |_=>true
def zGK:List V1→Option (List CV)
 | []=>some []
 | .c x::l=>bif noFn x then (zGK l).map (x::·)else none
 |_=>none
theorem zLw{σ:Nat→Option Value}{O:Nat→Prop}{w:World}:∀{l:List V1} {m:List CV} {us:List Value},zGK l=some m→RepL (RepV σ O w) l us→us.length=m.length∧∀(i:Nat),i<m.length→∃v,us[i]?=some v∧v.oneCell'=true∧RepB σ O w (m.getD i .any) v
 | [],_,[],h,_=>by cases h;exact⟨rfl,fun i hi=>absurd hi (Nat.not_lt_zero _)⟩
 | .c x::l,m,u::us,h,hr=>by
   unfold zGK at h
   cases hx:noFn x with
   |false=>rw[hx]at h;cases h
   | true=>
     rw[hx]at h
     obtain⟨m',h1,rfl⟩:=Option.map_eq_some_iff.1 h
     obtain⟨e1,e2⟩:=zLw h1 hr.2
     refine⟨by simp[e1],fun i hi=> ?_⟩
     cases i with
     | zero=>
       refine⟨u,rfl,hr.1.1,?_⟩
       have h2:=hr.1.2
       cases x<;>first|exact h2|cases hx
     |succ i=>simpa using e2 i (by simpa using hi)
 | .c _::_,_,[],_,hr=>hr.elim
 | .ag _::_,_,_,h,_=>by cases h
 | [],_,_::_,_,hr=>hr.elim
section ops
variable{ops:Array Oper}{rest:List Oper}{acc:List (List Nat×List Nat)}{S:St}{Q:List (List Nat×List Nat)→St→Prop}{dst:Option Tmp}{ty:TypeId}{pos:String}{after:Array Edge}{guard:Option (Nat×Bool)}
theorem zEH{f:FuncId}{cs:Array Operand}{args:List V1}{m:List CV}(hw:S.wants ops {dst,op:=.makeFunc (.func f) #[] cs,type:=ty,pos,after,guard}=some true)(hd:dOk S.n dst=true)
 (ha:S.opds cs.toList=some args) (hc:zGK args=some m) (hm:Nat.beq m.length m.length=true)
 (hn:AList P ops rest (([],[])::acc) (S.eff dst ⟨.c (.fn f m.length fun i=>m.getD i .any),[],[]⟩) Q):AList P ops ({dst,op:=.makeFunc (.func f) #[] cs,type:=ty,pos,after,guard}::rest) acc S Q:=
 AList.val [] _ hw hd (fun S1 h1 _ b0 σ a w R=>by
  have h2:S1.opds cs.toList=some args:=(zCJ fun x hx=>h1 x (by simp only[Op.operands];simp;exact by simpa using hx)).trans ha
  obtain⟨e1,e2⟩:=zLw hc (zBT R h2)
  refine⟨.func (.func f) #[] (cs.map a.eval),by simp[execOp,Instr.makeFunc],rfl,cs.toList.map a.eval,?_,by simpa using e1,fun i hi=>e2 i hi⟩
  rw[show(cs.toList.map a.eval).toArray=cs.map a.eval from Array.ext' (by simp)]) hn
end ops
theorem ARes.fn{S:St}{t:Tmp}{f:FuncId}{m:Nat}{C:Nat→CV}(ht:S.t t=some (.c (.fn f m C)))(hi:∀i,i<m→zM (C i)=true):ARes P S (.tmp t) (.c (.fn f m C)):=fun b0 σ a w R=>by
 obtain⟨h0,vs,h1,h2,h3⟩:=R.sl t _ ht
 refine⟨_,rfl,h0,vs,h1,h2,fun i hm=> ?_⟩
 obtain⟨v,e1,e2,e3⟩:=h3 i hm
 refine⟨v,e1,e2,?_⟩
 have:=hi i hm
 cases hC:C i<;>rw[hC]at this e3<;>first|exact e3|cases this
theorem zG5{F:Nat→Nat→CV}{l:List CV}{sz:Nat}(hc:zAD (F 0) 0 sz=l)(k:Nat)(hk:k<1)(j:Nat)(hj:j<sz):F k j=lF l k j:=by
 obtain rfl:k=0:=by omega
 have h1:=zDM (F 0) sz 0 j hj;rw[Nat.zero_add,hc]at h1;show F 0 j=lF l 0 j;unfold lF;rw[List.getD,h1]
 rfl
theorem zKY{S:St}{ids:List Nat}{id sz:Nat}{ty:TypeId}{F:Nat→Nat→CV}{l:List CV}(hr:zT ids id=none)(hh:S.h id=some ⟨false,1,sz,ty,F⟩)(hc:zAD (F 0) 0 sz=l)(hi:l.all zM=true):ViewC S ids (.pt id sz 0 0) (.pl 1 sz (lF l) 0 0):=
 ViewC.ro id 1 sz 0 0 false ty F (lF l) hr hh (by omega) (fun k hk j hj=>by rw[zG5 hc k hk j hj];exact zC0 hi k j) fun k hk j hj=>zG5 hc k hk j hj
theorem PlainB.box{sz:Nat}{ty:TypeId}{l:List CV}(vs:List Value)(h:l=vs.map .p)(hl:Nat.beq vs.length sz=true):PlainB ⟨false,1,sz,ty,lF l⟩:=⟨rfl,fun k _ j hj=>by
 subst h;have:=Nat.eq_of_beq_eq_true hl
 refine⟨vs[j]'(by show j<vs.length;rw[this];exact hj),?_⟩
 show(vs.map CV.p).getD j .any=_
 rw[List.getD_eq_getElem?_getD,List.getElem?_map,List.getElem?_eq_getElem (by rw[this];exact hj)]
 rfl⟩
theorem zDr{tab:List (TypeId×TD)}(T:zAq P tab=true){S:St}{c:Tmp}{t:TypeId}{id:Nat}{bt:TypeId}{F:Nat→Nat→CV}{d:TD}{x:CV}(hc:S.t c=some (.c (.pt id 1 0 0)))(hh:S.h id=some ⟨false,1,1,bt,F⟩)(ht:zD tab t=some d)(hk:zDy d.k=true)
 (hl:F 0 0=x) (hi:zM x=true):ARes P S (.cell c t) (.c x):=fun b0 σ a w R=>by
 obtain⟨b,cap,cs,-,e1,-,e2,-,-,e3⟩:=zEm R (R.sl c _ hc) hh rfl (by simp:0<1)
 obtain⟨u,f1,f2⟩:=e3 0 (by simp) 0 (by simp)
 obtain⟨ud,g1,g2⟩:=zGl T ht hk
 subst hl
 refine⟨u,?_,zJF (x:=.c _) hi f2⟩
 have hcl:w.cell? ⟨b,0*1+0,none⟩=some u:=(cell_of_row w b _ cs bt (0,0) e2).trans f1
 simp only[zBJ,e1,asAddr,Sem.run_bind,Sem.run_pure,Result.andThen_ok,zHo g1 g2 hcl]
section
variable{ops:Array Oper}{rest:List Oper}{acc:List (List Nat×List Nat)}{S:St}{Q:List (List Nat×List Nat)→St→Prop}{dst:Option Tmp}{ty xt yt:TypeId}{pos:String}{after:Array Edge}{guard:Option (Nat×Bool)}{x y:Operand}{i j:Int}{k:IntKind}
theorem zEG{tab:List (TypeId×TD)}(T:zAq P tab=true){f:Nat}{fs:Array Field}{fld:Field}{d:TD}{l:List CV}{c:CV}(hw:S.wants ops {dst,op:=.field xt x f,type:=ty,pos,after,guard}=some true)(hd:dOk S.n dst=true)(hx:S.opd x=some (.ag l))
 (hu:P.underlying xt=some (.struct fs)) (hf:fs[f]?=some fld) (he:zD tab fld.type=some d) (hk:zDy d.k=true) (hl:l[fld.offset]?=some c)
 (hn:AList P ops rest (([],[])::acc) (S.eff dst ⟨.c c,[],[]⟩) Q):AList P ops ({dst,op:=.field xt x f,type:=ty,pos,after,guard}::rest) acc S Q:=
 AList.val [] _ hw hd (fun S1 h1 _ b0 σ a w R=>by
  obtain⟨vs,e1,e2⟩:=zW R ((h1 x (by simp[Op.operands])).trans hx)
  obtain⟨ud,g2,g3⟩:=zGl T he hk
  have hag:∀w,(isAgg fld.type).run P w=.ok false w:=fun w=>by
   simp only[isAgg,Sem.run_bind,run_underlying g2,Result.andThen_ok]
   cases ud<;>first|rfl|cases g3
  obtain⟨v,k1,k2⟩:=e2.get hl
  refine⟨v,?_,k2⟩
  simp only[execOp,e1,Instr.field,run_underlying hu,Sem.run_bind,Sem.run_pure,Result.andThen_ok]
  simp[hf,asAgg,part,hag,k1]) hn
theorem zAv(hw:S.wants ops {dst,op:=.binOp .shr xt x y yt,type:=ty,pos,after,guard}=some true)(hd:dOk S.n dst=true)(hx:S.opd x=some (.c (.p (.int .u64 i))))(hy:S.opd y=some (.c (.p (.int .u64 1))))
 (hn:AList P ops rest (([],[])::acc) (S.eff dst ⟨.c (.p (.int .u64 (i/2))),[],[]⟩) Q):AList P ops ({dst,op:=.binOp .shr xt x y yt,type:=ty,pos,after,guard}::rest) acc S Q:=
 zCo hw hd hx hy rfl (fun w=>by
  have e:i.fdiv 2=i/2:=Int.fdiv_eq_ediv_of_nonneg i (by omega)
  simp[binOp,Op.shift,IntKind.bits,e]) rfl hn
end
end
end Go.AV
end
