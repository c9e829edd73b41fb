/- Parts of the proof: AGen, AMap. -/
import Derived.Test.YtbffmfeldkjkcaaGreatG17
set_option linter.unusedSimpArgs false
set_option linter.unusedVariables false
set_option maxHeartbeats 0
section
namespace Go.AV
open Go Go.RowKit Go.Flow
section
variable{P:Program}
def zFT:Nat→List AB→List (Nat×AB)
 |_,[]=> []
 |i,B::bs=>(900+i,B)::zFT (i+1) bs
theorem zMV:∀{bs:List AB} {n i:Nat},zD (zFT n bs) i=if 900+n≤i then bs[i-(900+n)]? else none
 | [],n,i=>by simp[zFT,zD]
 | B ::bs,n,i=>by
   unfold zFT zD
   cases hb:Nat.beq i (900+n)with
   | true=>
     have:=Nat.eq_of_beq_eq_true hb;subst this
     simp
   | false=>
     have hne:i≠900+n:=fun e=>by rw[e,Nat.beq_refl]at hb;cases hb
     simp only[cond_false]
     rw[zMV];by_cases h:900+(n+1)≤i
     ·rw[if_pos h,if_pos (by omega),show i-(900+n)=(i-(900+(n+1)))+1 by omega,List.getElem?_cons_succ]
     ·rw[if_neg h,if_neg (by omega)]
def zAy(nw hs:List AB):List (Nat×AB):=zFT 0 nw++zAt 0 hs
theorem zBP{nw hs:List AB}(hn:nw.length≤100)(i:Nat):zD (zAy nw hs) i=if 1000≤i then hs[i-1000]? else if 900≤i then nw[i-900]? else none:=by
 unfold zAy;rw[zCC,zMV,zBR];by_cases h1:1000≤i
 ·simp only[show 900+0≤i by omega,show 1000+0≤i by omega,h1,if_true]
  rw[List.getElem?_eq_none (by omega)]
 ·simp only[show ¬1000+0≤i by omega,h1,if_false]
  by_cases h2:900≤i
  ·simp only[show 900+0≤i by omega,h2,if_true,Nat.add_zero]
   cases nw[i-900]?<;>rfl
  ·simp only[show ¬900+0≤i by omega,h2,if_false]
def GE(P:Program)(f:FuncId)(args:List V1)(hs:List AB)(R:AV→List AB→List AB→Prop):Prop:=
 ∀ (b0:zN) (vals:List Value),HRel b0 b0.fix (zD (zAt 0 hs)) b0.w→(∀i v,b0.fix i=some v→i<1000+hs.length)→(∀b,b0.Y b→own b0.fix (zD (zAt 0 hs)) b)→RepL (RepV b0.fix (out b0 b0.fix (zD (zAt 0 hs))) b0.w) args vals→
   Calls P f vals.toArray b0.w fun e w'=>∃v τ r hs' nw,e=.returned v∧R r hs' nw∧hs'.length=hs.length∧nw.length≤100∧HRel b0 τ (zD (zAy nw hs')) w'∧RepA τ (out b0 τ (zD (zAy nw hs'))) w' r v∧Keep b0.Y b0.w w'
def GEq(r:AV)(hs' nw:List AB):AV→List AB→List AB→Prop:=fun a b c=>a=r∧b=hs'∧c=nw
abbrev zCg(P:Program)(f:FuncId)(args:List V1)(hs:List AB)(r:AV)(hs' nw:List AB):Prop:=GE P f args hs (GEq r hs' nw)
theorem GE.mono{f:FuncId}{args:List V1}{hs:List AB}{R R':AV→List AB→List AB→Prop}(h:GE P f args hs R)(hR:∀r hs' nw,R r hs' nw→R' r hs' nw):GE P f args hs R':=fun b0 vals h1 h2 h3 h4=>
 (h b0 vals h1 h2 h3 h4).mono fun e w' ⟨v,τ,r,hs',nw,g1,g2,g3⟩=>⟨v,τ,r,hs',nw,g1,hR _ _ _ g2,g3⟩

def GRes(P:Program)(S:St)(rv:ResultVar)(x:V1):Prop:=∀b0 σ a w,Rel0 b0 σ S a w→∃v,(zBJ rv a.tmps).run P w=.ok v w∧RepV σ (out b0 σ S.h) w x v
theorem GRes.tmp{S:St}{t:Tmp}{x:V1}(ht:S.t t=some x.av):GRes P S (.tmp t) x:=fun b0 σ a w R=>⟨_,rfl,zH1 (R.sl t _ ht)⟩
theorem GRes.box{tab:List (TypeId×TD)}(T:zAq P tab=true){S:St}{c:Tmp}{t:TypeId}{id sz:Nat}{bt:TypeId}{F:Nat→Nat→CV}{d:TD}{l:List CV}(hc:S.t c=some (.c (.pt id sz 0 0)))(hh:S.h id=some ⟨false,1,sz,bt,F⟩)(ht:zD tab t=some d)(hk:zCZ d.k=true)(hz:d.size=sz)
 (hl:zAD (F 0) 0 d.size=l):GRes P S (.cell c t) (.ag l):=fun b0 σ a w R=>by
 obtain⟨b,cap,cs,-,e1,-,e2,-,-,e3⟩:=zEm R (R.sl c _ hc) hh rfl (by simp:0<1)
 obtain⟨ud,g1,g2⟩:=zE6 T ht hk
 obtain⟨inf,z,u',i1,i2,i3,-⟩:=zAS T ht
 subst hl
 simp only at e3
 have hcell:∀i,i<d.size→w.cell? (Addr.add ⟨b,0*sz+0,none⟩ i)=some (cs.getD (0*sz+(0+i)) undef)∧RepC σ (out b0 σ S.h) w (F 0 (0+i)) (cs.getD (0*sz+(0+i)) undef):=fun i hi=>by
  obtain⟨u,f1,f2⟩:=e3 0 (by simp) (0+i) (by omega)
  rw[zCS,Nat.add_assoc,Array.getD_eq_getD_getElem?,f1]
  exact⟨(cell_of_row w b _ cs bt (0,0) e2).trans f1,f2⟩
 refine⟨.agg ((List.range d.size).map fun i=>cs.getD (0*sz+(0+i)) undef).toArray,?_,_,rfl,zF4 fun i hi=>(hcell i hi).2⟩
 have:=zF8 (P:=P) g1 g2 i1 (w:=w) (a:=⟨b,0*sz+0,none⟩) (f:=fun i=>cs.getD (0*sz+(0+i)) undef) (fun i hi=>(hcell i (by omega)).1);rw[i2]at this
 simp only[zBJ,e1,asAddr,Sem.run_bind,Sem.run_pure,Result.andThen_ok,this]
theorem GRes.le{S:St}{rv:ResultVar}{x:V1}(h:ARes P S rv x):GRes P S rv x:=fun b0 σ a w R=>let ⟨v,h1,h2⟩:=h b0 σ a w R;⟨v,h1,h2.some_⟩
inductive GRets(P:Program)(S:St):List ResultVar→AV→Prop
 |no:GRets P S [] (.tu [])
 |one {r:ResultVar} {x:V1} (h:GRes P S r x):GRets P S [r] x.av
 |two {r1 r2:ResultVar} {x y:V1} (h1:GRes P S r1 x) (h2:GRes P S r2 y):GRets P S [r1,r2] (.tu [x,y])
 |three {r1 r2 r3:ResultVar} {x y z:V1} (h1:GRes P S r1 x) (h2:GRes P S r2 y) (h3:GRes P S r3 z):GRets P S [r1,r2,r3] (.tu [x,y,z])
theorem GRets.run{S:St}{b0:zN}{σ:Nat→Option Value}{a:Act}{w:World}{fn:Func}{rs:List ResultVar}{r:AV}(hfn:fn.results=rs.toArray)(h:GRets P S rs r)(R:Rel0 b0 σ S a w):
 ∃v,(results fn a.tmps).run P w=.ok v w∧RepA σ (out b0 σ S.h) w r v:=by
 rw[zEZ,hfn];generalize hf:(fun rv=>zBJ rv a.tmps)=f;have hfr:∀r,zBJ r a.tmps=f r:=fun r=>by rw[←hf]
 cases h with
 |no=>exact⟨.tuple #[],by simp,[],rfl,trivial⟩
 | @one r x h=>
   obtain⟨v,h1,h2⟩:=h b0 σ a w R
   rw[hfr]at h1
   exact⟨v,by simp[h1],h2.av⟩
 | @two r1 r2 x y h1 h2=>
   obtain⟨v,a1,a2⟩:=h1 b0 σ a w R
   obtain⟨u,c1,c2⟩:=h2 b0 σ a w R
   rw[hfr]at a1 c1
   exact⟨.tuple #[v,u],by simp[a1,c1],[v,u],rfl,a2,c2,trivial⟩
 | @three r1 r2 r3 x y z h1 h2 h3=>
   obtain⟨v,a1,a2⟩:=h1 b0 σ a w R
   obtain⟨u,c1,c2⟩:=h2 b0 σ a w R
   obtain⟨t,d1,d2⟩:=h3 b0 σ a w R
   rw[hfr]at a1 c1 d1
   exact⟨.tuple #[v,u,t],by simp[a1,c1,d1],[v,u,t],rfl,a2,c2,d2,trivial⟩
def zGr(P:Program)(rs:List ResultVar)(R:AV→List AB→List AB→Prop)(m:Nat)(S:St):Prop:=
 ∃S' loc r hs' nw,R r hs' nw∧(Nat.beq hs'.length m && Nat.ble nw.length 100)=true∧Wk S S'∧S'.h=zD (loc++zAy nw hs')∧loc.all (fun p=>Nat.blt p.1 900)=true∧GRets P S' rs r
def zFo(P:Program)(rs:List ResultVar)(R:AV→List AB→List AB→Prop)(m:Nat):Exit→St→Prop
 | .ret,S=>zGr P rs R m S
 | .normal,S=>zGr P rs R m S
 |_,_=>False
theorem RepC.less{σ:Nat→Option Value}{O O':Nat→Prop}{w:World}(hO:∀b,O' b→O b){x:CV}{u:Value}(h:RepC σ O w x u):RepC σ O' w x u:=
 h.keep ⟨rfl,rfl,rfl,Nat.le_refl _,fun _ _ _=>rfl⟩ (fun b hb=>.inl (hO b hb)) fun _ _ h=>h
theorem RepA.less{σ:Nat→Option Value}{O O':Nat→Prop}{w:World}(hO:∀b,O' b→O b){x:AV}{u:Value}(h:RepA σ O w x u):RepA σ O' w x u:=
 h.keep ⟨rfl,rfl,rfl,Nat.le_refl _,fun _ _ _=>rfl⟩ (fun b hb=>.inl (hO b hb)) fun _ _ h=>h
theorem OBk.less{σ:Nat→Option Value}{O O':Nat→Prop}{w:World}(hO:∀b,O' b→O b){v:Value}{B:AB}(h:OBk σ O w v B):OBk σ O' w v B:=
 h.keep ⟨rfl,rfl,rfl,Nat.le_refl _,fun _ _ _=>rfl⟩ (fun b hb=>.inl (hO b hb)) (fun _ _ h=>h) fun _ _=>rfl
theorem HRel.part{b0:zN}{σ:Nat→Option Value}{h h':Nat→Option AB}{w:World}(H:HRel b0 σ h w)(hh:∀i,h' i≠none→h' i=h i)(hf:∀i v,b0.fix i=some v→h' i≠none):
 HRel b0 σ h' w∧(∀b,own σ h' b→own σ h b):=by
 have up:∀i,h' i≠none→h i≠none:=fun i hi=>by rw[←hh i hi];exact hi
 have hown:∀b,own σ h' b→own σ h b:=fun b ⟨i,v,h1,h2,h3⟩=>⟨i,v,up i h1,h2,h3⟩
 refine⟨⟨fun i B hB=> ?_,fun i j v1 v2 b hi hj=>H.inj i j v1 v2 b (up i hi) (up j hj),fun b hb=>H.new b (hown b hb),fun i v hi=>⟨(H.fx i v hi).1,hf i v hi⟩,H.big⟩,hown⟩
 obtain⟨v,e1,e2⟩:=H.blk i B ((hh i (by rw[hB];simp)).symm.trans hB)
 exact⟨v,e1,e2.less fun b hb=>hb.imp (hown b) fun h=>h⟩
theorem zQs{f:FuncId}{fn:Func}{c:Code}{rs:List ResultVar}{args:List V1}{hs:List AB}{R:AV→List AB→List AB→Prop}(hf:P.funcs[f]?=some fn)(hb:fn.body=some c)(hr:fn.results=rs.toArray)(hn:args.length≤fn.ntmps)
 (h:AWp P c (zFo P rs R hs.length) (zBQ fn.ntmps args (zAt 0 hs))):GE P f args hs R:=fun b0 vals hH hle hY hv=>by
 have hl:=hv.length
 let b2:zN:=⟨b0.w,b0.X,b0.Y,b0.fix,b0.lt,b0.ylt,b0.dis,b0.one,fun _ _=>False,fun _ _ _=>True,none,fun _ _ h=>h.elim,fun _ _ _ _ _ _ _ _=>trivial⟩
 have up:∀{σ h w},HRel b0 σ h w→HRel b2 σ h w:=fun H=>⟨H.blk,H.inj,H.new,H.fx,H.big⟩
 have dn:∀{σ h w},HRel b2 σ h w→HRel b0 σ h w:=fun H=>⟨H.blk,H.inj,H.new,H.fx,H.big⟩
 refine zDL (b0:=b2) hf hb rfl h ⟨b0.fix,trivial,?_,⟨rfl,rfl,rfl,Nat.le_refl _,fun _ _ _=>rfl⟩,up hH,fun t x hx=> ?_,fun id hid=> ?_,fun i v hi=> ?_,rfl,trivial⟩ (fun e S hQ=>by cases e<;>first|exact .inl rfl|exact .inr rfl|exact hQ.elim) fun e a w S hR hQ hd=> ?_
 ·simp[zBQ,hl];omega
 ·obtain⟨y,e1,rfl⟩:∃y,args[t]?=some y∧y.av=x:=by simpa[zBQ,Option.map_eq_some_iff]using hx
  obtain⟨v,e2,e3⟩:=hv.get e1
  have ht:(vals.toArray++Array.replicate (fn.ntmps-vals.toArray.size) undef).getD t undef=v:=by
   have hlt:=(List.getElem?_eq_some_iff.1 e2).1;have:=(List.getElem?_eq_some_iff.1 e2).2
   simp[Array.getD_eq_getD_getElem?,Array.getElem?_append,hlt,this]
  rw[ht];exact e3.av
 ·have h1:id<1000:=Nat.blt_eq.mp hid
  refine⟨?_,h1⟩
  cases hc:b0.fix id with
  |none=>rfl
  |some v=>have:=(b0.one id v hc).1;omega
 ·show i<1000+(zAt 0 hs).length
  rw[zG7];exact hle i v hi
 ·obtain⟨S',loc,r,hs',nw,hR0,hln,hw,hS',hlc,hS⟩:zGr P rs R hs.length S:=by cases e<;>first|exact hQ|exact hQ.elim
  rw[Bool.and_eq_true]at hln;have hl1:=Nat.eq_of_beq_eq_true hln.1;have hl2:=Nat.ble_eq.mp hln.2
  obtain⟨σ,R1⟩:=hw b2 a w hR
  obtain⟨v,h1,h2⟩:=hS.run hr R1
  have hH0:=R1.hp;rw[hS']at hH0 h2;have low:∀i B,zD loc i=some B→i<900:=fun i B h=>Nat.blt_eq.mp (List.all_eq_true.1 hlc _ (zBe h))
  have high:∀i,zD (zAy nw hs') i≠none→900≤i:=fun i hi=>by
   rw[zBP hl2]at hi;by_cases h1:1000≤i
   ·omega
   ·rw[if_neg h1]at hi
    by_cases h2:900≤i
    ·exact h2
    ·rw[if_neg h2]at hi;exact absurd rfl hi
  obtain⟨H',hsub⟩:=hH0.part (h':=zD (zAy nw hs')) (fun i hi=>by
   rw[zCC]
   cases hc:zD loc i with
   |none=>rfl
   | some B=>
     have:=low i B hc;have:=high i hi
     omega) (fun i v hi=>by
   have h0:=(b0.one i v hi).1;have h3:=hle i v hi;rw[zBP hl2,if_pos h0,List.getElem?_eq_getElem (by omega)]
   simp)
  refine⟨v,h1,v,σ,r,hs',nw,rfl,hR0,hl1,hl2,dn H',h2.less fun b (hb:out b2 σ (zD (zAy nw hs')) b)=>hb.imp (hsub b) fun h=>h,R1.ext.less fun b hb=>hb.elim id fun h=>h.elim⟩
theorem zBw{f:FuncId}{fn:Func}{c:Code}{rs:List ResultVar}{args:List V1}{hs:List AB}{R:AV→List AB→List AB→Prop}{n:Nat}(hf:P.funcs[f]?=some fn)(hb:fn.body=some c)(hr:fn.results=rs.toArray)(hn:fn.ntmps=n)(hl:Nat.ble args.length n=true)
 (h:AWp P c (zFo P rs R hs.length) (zBQ n args (zAt 0 hs))):GE P f args hs R:=by
 subst hn;exact zQs hf hb hr (Nat.ble_eq.mp hl) h
inductive BackC(ids ni:List Nat):CV→CV→Prop
 |imm (y:CV) (h:zM y=true):BackC ids ni y y
 |any (y:CV):BackC ids ni y .any
 |ow (i id:Nat) (h:zT ids id=some i):BackC ids ni (.ow (1000+i)) (.ow id)
 |pt (i id sz k j:Nat) (h:zT ids id=some i):BackC ids ni (.pt (1000+i) sz k j) (.pt id sz k j)
 |owN (i id:Nat) (h:zT ni id=some i):BackC ids ni (.ow (900+i)) (.ow id)
 |ptN (i id sz k j:Nat) (h:zT ni id=some i):BackC ids ni (.pt (900+i) sz k j) (.pt id sz k j)
 |fn (f m:Nat) (C:Nat→CV) (h:∀i,i<m→zM (C i)=true):BackC ids ni (.fn f m C) (.fn f m C)
inductive zHP(ids ni:List Nat):V1→V1→Prop
 |c {y x:CV} (h:BackC ids ni y x):zHP ids ni (.c y) (.c x)
 |ag {l m:List CV} (h:LeL (BackC ids ni) l m):zHP ids ni (.ag l) (.ag m)
inductive BackA(ids ni:List Nat):AV→AV→Prop
 |c {y x:CV} (h:BackC ids ni y x):BackA ids ni (.c y) (.c x)
 |ag {l m:List CV} (h:LeL (BackC ids ni) l m):BackA ids ni (.ag l) (.ag m)
 |tu {l m:List V1} (h:LeL (zHP ids ni) l m):BackA ids ni (.tu l) (.tu m)
def BackB(ids ni:List Nat):List AB→List AB→Prop
 | [],[]=>True
 |A::l,B::m=>(∃G,A=⟨B.row,B.n,B.sz,B.ty,G⟩∧∀k,k<B.n→∀j,j<B.sz→BackC ids ni (G k j) (B.F k j))∧BackB ids ni l m
 |_,_=>False
theorem zGH{ids ni:List Nat}:∀{l m:List AB},BackB ids ni l m→l.length=m.length∧∀(i:Nat) (B:AB),m[i]?=some B→∃G,l[i]?=some ⟨B.row,B.n,B.sz,B.ty,G⟩∧∀k,k<B.n→∀j,j<B.sz→BackC ids ni (G k j) (B.F k j)
 | [],[],_=>⟨rfl,fun i B h=>by simp at h⟩
 | A::l,B::m,h=>by
   obtain⟨h1,h2⟩:=zGH h.2
   refine⟨by simp[h1],fun i B' hi=> ?_⟩
   cases i with
   |zero=>cases hi;obtain⟨G,rfl,hG⟩:=h.1;exact⟨G,rfl,hG⟩
   |succ i=>simpa using h2 i B' (by simpa using hi)
 | [],_::_,h=>h.elim
 |_::_,[],h=>h.elim
theorem BackC.rep{ids ni:List Nat}{τ σ:Nat→Option Value}{O O':Nat→Prop}{w:World}(hO:∀b,O' b→O b)(h1:∀i id,zT ids id=some i→∀u,τ (1000+i)=some u→σ id=some u)(h2:∀i id,zT ni id=some i→∀u,τ (900+i)=some u→σ id=some u)
 {y x:CV} {u:Value} (h:BackC ids ni y x) (hu:RepC τ O w y u):RepC σ O' w x u:=by
 cases h with
 |imm y hi=>exact zBF hi hu.1 ((zBo hi hu).less hO)
 |any y=>exact⟨hu.1,trivial⟩
 |ow i id hp=>exact⟨hu.1,h1 i id hp _ hu.2.1,hu.2.2⟩
 |pt i id sz k j hp=>obtain⟨g,v,b,e1,e2,e3⟩:=hu;exact⟨g,v,b,h1 i id hp _ e1,e2,e3⟩
 |owN i id hp=>exact⟨hu.1,h2 i id hp _ hu.2.1,hu.2.2⟩
 |ptN i id sz k j hp=>obtain⟨g,v,b,e1,e2,e3⟩:=hu;exact⟨g,v,b,h2 i id hp _ e1,e2,e3⟩
 | fn f m C hi=>
   obtain⟨g,vs,e1,e2,e3⟩:=hu
   refine⟨g,vs,e1,e2,fun i him=> ?_⟩
   obtain⟨v,k1,k2,k3⟩:=e3 i him
   have hi':=hi i him
   refine⟨v,k1,k2,?_⟩
   have:RepC τ O w (C i) v:=by
    refine⟨k2,?_⟩
    cases hC:C i<;>rw[hC]at k3 hi'<;>first|exact k3|cases hi'
   have:=zBF (σ:=σ) hi' k2 ((zBo hi' this).less hO);have h2:=this.2
   cases hC:C i<;>rw[hC]at h2 hi'<;>first|exact h2|cases hi'
theorem BackA.rep{ids ni:List Nat}{τ σ:Nat→Option Value}{O O':Nat→Prop}{w:World}(hO:∀b,O' b→O b)(h1:∀i id,zT ids id=some i→∀u,τ (1000+i)=some u→σ id=some u)(h2:∀i id,zT ni id=some i→∀u,τ (900+i)=some u→σ id=some u)
 {y x:AV} {u:Value} (h:BackA ids ni y x) (hu:RepA τ O w y u):RepA σ O' w x u:=by
 cases h with
 |c h=>exact h.rep hO h1 h2 hu
 | ag h=>
   obtain⟨vs,rfl,e⟩:=hu
   exact⟨vs,rfl,LeL.get (fun x y v hxy hv=>hxy.rep hO h1 h2 hv) h e⟩
 | tu h=>
   obtain⟨vs,rfl,e⟩:=hu
   refine⟨vs,rfl,LeL.get (fun x y v hxy hv=> ?_) h e⟩
   cases hxy with
   |c h=>exact h.rep hO h1 h2 hv
   | ag h=>
     obtain⟨ws,rfl,e⟩:=hv
     exact⟨ws,rfl,LeL.get (fun x y v hxy hv=>hxy.rep hO h1 h2 hv) h e⟩

theorem BackC.mo{ids ni:List Nat}{y x:CV}{b:Nat}{o:Obj}(h:BackC ids ni y x)(hy:zBN y b o):zBN x b o:=by
 obtain⟨hk0,hy⟩:=hy
 refine⟨hk0,?_⟩
 rcases hy with rfl|⟨K,rfl,hK⟩
 ·cases h<;>exact .inl rfl
 ·cases h with
  |imm _ _=>exact .inr ⟨K,rfl,hK⟩
  |any _=>exact .inl rfl
theorem OBk.back{ids ni:List Nat}{τ σ:Nat→Option Value}{O O':Nat→Prop}{w:World}{v:Value}{B:AB}{G:Nat→Nat→CV}(hO:∀b,O' b→O b)(h1:∀i id,zT ids id=some i→∀u,τ (1000+i)=some u→σ id=some u)(h2:∀i id,zT ni id=some i→∀u,τ (900+i)=some u→σ id=some u)
 (hb:∀k,k<B.n→∀j,j<B.sz→BackC ids ni (G k j) (B.F k j)) (h:OBk τ O w v ⟨B.row,B.n,B.sz,B.ty,G⟩):OBk σ O' w v B:=by
 rcases h with h0|⟨b,cap,cs,k1,k2,k3,k4⟩|⟨m1,m2,m3,b,o,rfl,m4,m5⟩
 ·exact .inl h0
 ·exact .inr (.inl ⟨b,cap,cs,k1,k2,k3,fun k hk j hj=>let ⟨u,n1,n2⟩:=k4 k hk j hj;⟨u,n1,(hb k hk j hj).rep hO h1 h2 n2⟩⟩)
 ·replace m2:B.n=1:=m2
  replace m3:B.sz=1:=m3
  exact .inr (.inr ⟨m1,m2,m3,b,o,rfl,m4,(hb 0 (by omega) 0 (by omega)).mo m5⟩)
theorem OBk.lend{ids:List Nat}{σ fix:Nat→Option Value}{O O1:Nat→Prop}{w w1:World}{v:Value}{B:AB}{F:Nat→Nat→CV}(hK:Keep O w w1)(hO:∀b,O1 b→O b∨w.heap.size≤b)(hf:∀i id u,zT ids id=some i→σ id=some u→fix (1000+i)=some u)
 (hb:∀k,k<B.n→∀j,j<B.sz→LentC ids (F k j) (B.F k j)) (hbl:∀b,zAl v=some b→w1.heap[b]?=w.heap[b]?) (h:OBk σ O w v ⟨B.row,B.n,B.sz,B.ty,F⟩):OBk fix O1 w1 v B:=by
 rcases h with h0|⟨b,cap,cs,k1,k2,k3,k4⟩|⟨m1,m2,m3,b,o,rfl,m4,m5⟩
 ·exact .inl h0
 ·refine .inr (.inl ⟨b,cap,cs,k1,(hbl b k1.blk).trans k2,k3,fun k hk j hj=> ?_⟩)
  obtain⟨u,n1,n2⟩:=k4 k hk j hj
  refine⟨u,n1,?_⟩
  rcases hb k hk j hj with ⟨hFe,him⟩|⟨id',i',hFe,hpo,hGe⟩
  ·simp only[hFe]at n2
   exact zBF him n2.1 ((zBo him n2).keep hK hO)
  ·simp only[hFe]at n2
   rw[hGe]
   exact⟨n2.1,hf _ _ _ hpo n2.2.1,n2.2.2⟩
 ·replace m2:B.n=1:=m2
  replace m3:B.sz=1:=m3
  exact .inr (.inr ⟨m1,m2,m3,b,o,rfl,(hbl b rfl).trans m4,(hb 0 (by omega) 0 (by omega)).mo m5⟩)
structure zKE(b0:zN)(σ:Nat→Option Value)(S:St)(ids:List Nat)(w w1:World)(d:Nat)(u:Value)(B:AB):Prop where
 no:σ d=none
 row:B.row=true
 ob:∃b cap cs,OBase B u b cap∧w1.heap[b]?=some (.cells cs B.ty (0,0))∧cs.size=cap*B.sz∧(∀k,k<B.n→∀j,j<B.sz→isP (B.F k j)=true∧∃c,cs[k*B.sz+j]?=some c∧RepC σ (out b0 σ S.h) w1 (B.F k j) c)∧Keep (fun k=>k=b) w w1∧
  (w.heap.size≤b∨∃o n0 F0,S.h o=some ⟨true,n0,B.sz,B.ty,F0⟩∧σ o=some (.slice (some ⟨b,0,none⟩) n0 cap)∧n0≤B.n∧o∉ids∧∀k,k<n0→∀j,j<B.sz→F0 k j=B.F k j)
def exN:Option (Nat×Value×AB)→List Nat
 |none=> []
 |some p=> [p.1]
def exB:Option (Nat×Value×AB)→List AB
 |none=> []
 |some p=> [p.2.2]
def exS(σ:Nat→Option Value):Option (Nat×Value×AB)→Nat→Option Value
 |none=>σ
 |some p=>put σ p.1 (some p.2.1)
def ExP(b0:zN)(σ:Nat→Option Value)(S:St)(ids:List Nat)(w w1:World):Option (Nat×Value×AB)→Prop
 |none=>w1=w
 |some p=>zKE b0 σ S ids w w1 p.1 p.2.1 p.2.2
theorem zJl{l m:List Nat}{id i:Nat}(h:zT l id=some i):zT (l++m) id=some i:=by
 induction l generalizing i with
 |nil=>cases h
 | cons a l ih=>
   unfold zT at h;show zT (a::(l++m)) id=some i;unfold zT
   cases hb:Nat.beq a id with
   |true=>rw[hb]at h;exact h
   | false=>
     rw[hb]at h
     simp only[cond_false]at h⊢
     cases hp:zT l id with
     |none=>rw[hp]at h;cases h
     |some j=>rw[hp]at h;rw[ih hp];exact h
theorem zI7{A B:List (Nat×Option AB)}{h:Nat→Option AB}:zAb (A++B) h=zAb A (zAb B h):=by
 unfold zAb;rw[List.foldr_append]
theorem zEU:∀{l:List Nat} {id:Nat},id∈l→∃i,zT l id=some i
 | a ::l,id,h=>by
   unfold zT
   cases hb:Nat.beq a id with
   |true=>exact⟨0,rfl⟩
   | false=>
     have:id∈l:=(List.mem_cons.1 h).resolve_left fun e=>by subst e;rw[Nat.beq_refl]at hb;cases hb
     obtain⟨i,hi⟩:=zEU this
     exact⟨i+1,by simp[hi]⟩
theorem zHT{f:FuncId}{args:List V1}{ids ni:List Nat}{bs:List AB}{ex:Option (Nat×Value×AB)}{Rl:AV→List AB→List AB→Prop}{b0:zN}{σ:Nat→Option Value}{S:St}{a:Act}{w w1:World}{dst:Option Tmp}
 (h:GE P f (args.map (zDT (ids++exN ex))) (bs++exB ex) Rl) (R:Rel0 b0 σ S a w) (hd:dOk S.n dst=true) (hX:ExP b0 σ S ids w w1 ex)
 {vals:List Value} (hv:RepL (fun x v=>RepV σ (out b0 σ S.h) w x v∨∃d u B,ex=some (d,u,B)∧x=.c (.ow d)∧v=u) args vals) (hL:LendOk2 S ids ids bs) (hnd:zAx ids=true) (hni:zAx ni=true) (hfr:∀id∈ni,S.fr id=true):
 Calls P f vals.toArray w1 fun e w'=>∃v r hs' nw,e=.returned v∧Rl r hs' nw∧∀r' bs' nw',BackA ids ni r r'→BackB ids ni hs' (bs'++exB ex)→BackB ids ni nw nw'→bs'.length=bs.length→nw'.length=ni.length→
  Rel b0 (S.eff dst ⟨r',zO ids bs'++zO ni nw',ni⟩) (a.put dst v) w':=by
 obtain⟨hl,hat⟩:=zI4 hL
 have spl:∀(k id:Nat),(ids++exN ex)[k]?=some id→(ids[k]?=some id∧(bs++exB ex)[k]?=bs[k]?)∨(k=ids.length∧∃u B,ex=some (id,u,B)∧(bs++exB ex)[k]?=some B):=fun k id h=>by
  by_cases hk:k<ids.length
  ·rw[List.getElem?_append_left hk]at h
   exact .inl ⟨h,List.getElem?_append_left (by omega)⟩
  ·rw [List.getElem?_append_right (by omega)]at h
   cases ex with
   |none=>simp[exN]at h
   | some p=>
     obtain⟨d,u,B⟩:=p
     have hk2:k=ids.length:=by
      have:=(List.getElem?_eq_some_iff.1 h).1
      simp[exN]at this
      omega
     subst hk2
     simp[exN]at h
     subst h;exact .inr ⟨rfl,u,B,rfl,by rw[List.getElem?_append_right (by omega)];simp[exB,hl]⟩
 have lenE:(ids++exN ex).length=(bs++exB ex).length:=by
  cases ex<;>simp[exN,exB,hl]
 have own0:∀(k id:Nat),ids[k]?=some id→∃u b,σ id=some u∧zAl u=some b∧own σ S.h b∧S.h id≠none:=fun k id hi=>by
  obtain⟨B,F,_,h2,h3,_⟩:=hat k id hi
  obtain⟨v,e1,e2⟩:=R.hp.blk id _ h2
  have hne:S.h id≠none:=by rw[h2];simp
  rcases e2 with ⟨g0,_,g⟩|⟨b,cap,cs,g1,_⟩|⟨_,_,_,b,o,rfl,_⟩
  ·have:=h3 g0
   have:B.n=0:=g
   omega
  ·exact⟨v,b,e1,g1.blk,⟨id,v,hne,e1,g1.blk⟩,hne⟩
  ·exact⟨_,b,e1,rfl,⟨id,_,hne,e1,rfl⟩,hne⟩
 have s1:∀(id:Nat) (u:Value),σ id=some u→exS σ ex id=some u:=fun id u hu=>by
  cases ex with
  |none=>exact hu
  | some p=>
    have hne:id≠p.1:=fun e=>by
     have h0:σ p.1=none:=hX.no;rw[←e,hu]at h0
     cases h0
    exact(zX _ _ hne).trans hu
 have lat:∀(k id:Nat),(ids++exN ex)[k]?=some id→∃u b,exS σ ex id=some u∧zAl u=some b∧(own σ S.h b∨w.heap.size≤b)∧b<w1.heap.size:=fun k id hk=>by
  rcases spl k id hk with ⟨h1,_⟩|⟨_,u,B,rfl,_⟩
  ·obtain⟨u,b,e1,e2,e3,_⟩:=own0 k id h1
   refine⟨u,b,s1 _ _ e1,e2,.inl e3,Nat.lt_of_lt_of_le (R.hp.lt e3) ?_⟩
   cases ex with
   |none=>rw[show w1=w from hX];exact Nat.le_refl _
   |some p=>obtain⟨b,cap,cs,_,_,_,_,hk,_⟩:=hX.ob;exact hk.size
  ·obtain⟨b,cap,cs,g1,g2,g3,g4,g5,g6⟩:=hX.ob
   refine⟨u,b,zAn _ _ _,g1.blk,?_,(Array.getElem?_eq_some_iff.1 g2).1⟩
   rcases g6 with g6|⟨o,n0,F0,q1,q2,_⟩
   ·exact .inr g6
   ·exact .inl ⟨o,_,by rw[q1];simp,q2,rfl⟩
 have Kw:Keep (own σ S.h) w w1:=by
  cases ex with
  |none=>rw[show w1=w from hX];exact⟨rfl,rfl,rfl,Nat.le_refl _,fun _ _ _=>rfl⟩
  | some p=>
    obtain⟨b,cap,cs,g1,g2,g3,g4,g5,g6⟩:=hX.ob
    refine⟨g5.os,g5.tape,g5.output,g5.size,fun k hk hno=>g5.block k hk fun e=> ?_⟩
    subst e
    rcases g6 with g6|⟨o,n0,F0,q1,q2,_⟩
    ·omega
    ·exact hno ⟨o,_,by rw[q1];simp,q2,rfl⟩
 have sid:∀(k id:Nat),ids[k]?=some id→∀v,exS σ ex id=some v→σ id=some v:=fun k id hk v hv=>by
  obtain⟨u,b,e1,_⟩:=own0 k id hk
  have:=s1 _ _ e1;rw[hv]at this
  cases this
  exact e1
 have exn:∀(d:Nat) (u:Value) (B:AB),ex=some (d,u,B)→d∉ids:=fun d u B he hm=>by
  subst he
  obtain⟨k,hk,rfl⟩:=List.getElem_of_mem hm
  obtain⟨u',b,e1,_⟩:=own0 k _ (List.getElem?_eq_getElem hk)
  have h0:σ ids[k]=none:=hX.no;rw[h0]at e1
  cases e1
 have dist:∀(k1 k2 id1 id2:Nat) (u1 u2:Value) (b:Nat),(ids++exN ex)[k1]?=some id1→(ids++exN ex)[k2]?=some id2→exS σ ex id1=some u1→exS σ ex id2=some u2→zAl u1=some b→zAl u2=some b→k1=k2:=by
  have half:∀(k1 id1:Nat) (u1:Value) (d:Nat) (u:Value) (B:AB) (b:Nat),ids[k1]?=some id1→ex=some (d,u,B)→σ id1=some u1→zAl u1=some b→zAl u=some b→False:=fun k1 id1 u1 d u B b h1 he e1 e2 e3=>by
   subst he
   obtain⟨b',cap,cs,g1,g2,g3,g4,g5,g6⟩:=hX.ob
   have hbb:=g1.blk;rw[e3]at hbb
   cases hbb
   obtain⟨_,_,_,_,_,hne⟩:=own0 k1 id1 h1
   rcases g6 with g6|⟨o,n0,F0,q1,q2,q3,q4,_⟩
   ·have:=R.hp.lt ⟨id1,u1,hne,e1,e2⟩
    omega
   ·have:=R.hp.inj id1 o u1 _ b hne (by rw[q1];simp) e1 q2 e2 rfl
    subst this;exact q4 (List.mem_of_getElem? h1)
  intro k1 k2 id1 id2 u1 u2 b h1 h2 e1 e2 e3 e4
  rcases spl k1 id1 h1 with ⟨a1,_⟩|⟨a1,u,B,he,_⟩
  ·have e1':=sid k1 id1 a1 u1 e1
   rcases spl k2 id2 h2 with ⟨c1,_⟩|⟨c1,u',B',he',_⟩
   ·have e2':=sid k2 id2 c1 u2 e2
    obtain⟨_,_,_,_,_,n1⟩:=own0 k1 id1 a1
    obtain⟨_,_,_,_,_,n2⟩:=own0 k2 id2 c1
    have:=R.hp.inj id1 id2 u1 u2 b n1 n2 e1' e2' e3 e4;subst this;exact zDA hnd a1 c1
   ·exfalso
    have:u'=u2:=by subst he';have h3:put σ id2 (some u') id2=some u2:=e2;rw[zAn]at h3;exact Option.some.inj h3
    subst this;exact half k1 id1 u1 id2 u' B' b a1 he' e1' e3 e4
  ·have hu:u=u1:=by subst he;have h3:put σ id1 (some u) id1=some u1:=e1;rw[zAn]at h3;exact Option.some.inj h3
   subst hu
   rcases spl k2 id2 h2 with ⟨c1,_⟩|⟨c1,u',B',he',_⟩
   ·exfalso
    exact half k2 id2 u2 id1 u B b c1 he (sid k2 id2 c1 u2 e2) e4 e3
   ·omega
 let fix:Nat→Option Value:=fun i=>if 1000≤i then ((ids++exN ex)[i-1000]?).bind (exS σ ex)else none
 have hfix:∀{i:Nat} {v:Value},fix i=some v→1000≤i∧∃id,(ids++exN ex)[i-1000]?=some id∧exS σ ex id=some v:=fun {i v} h=>by
  simp only[fix]at h
  split at h
  ·rename_i h1
   obtain⟨id,e1,e2⟩:=Option.bind_eq_some_iff.1 h
   exact⟨h1,id,e1,e2⟩
  ·cases h
 have fixi:∀{i id:Nat},(ids++exN ex)[i]?=some id→fix (1000+i)=exS σ ex id:=fun {i id} hi=>by
  simp only[fix]
  rw[if_pos (by omega),show 1000+i-1000=i by omega,hi]
  rfl
 let Y:Nat→Prop:=fun b=>∃i v,fix i=some v∧zAl v=some b
 have hYo:∀b,Y b→(own σ S.h b∨w.heap.size≤b)∧b<w1.heap.size:=fun b ⟨i,v,h1,h2⟩=>by
  obtain⟨_,id,e1,e2⟩:=hfix h1
  obtain⟨u,b',a1,a2,a3,a4⟩:=lat _ id e1
  rw[e2]at a1
  cases a1
  rw[h2]at a2
  cases a2
  exact⟨a3,a4⟩
 let b1:zN:=⟨w1,fun b=>out b0 σ S.h b∧¬Y b,Y,fix,fun b hb=>Nat.lt_of_lt_of_le (zDh R hb.1) Kw.size,fun b hb=>(hYo b hb).2,fun b hb=>hb.2,fun i v hi=>by
  obtain⟨h1,id,e1,e2⟩:=hfix hi
  obtain⟨v',b,e3,e4,_⟩:=lat _ id e1
  rw[e2]at e3
  cases e3
  exact⟨h1,b,e4⟩,fun _ _=>False,fun _ _ _=>True,none,fun _ _ h=>h.elim,fun _ _ _ _ _ _ _ _=>trivial⟩
 have dom:∀{i:Nat},zD (zAt 0 (bs++exB ex)) i≠none→∃k id,i=1000+k∧(ids++exN ex)[k]?=some id∧(bs++exB ex)[k]?=zD (zAt 0 (bs++exB ex)) i:=fun {i} hi=>by
  rw[zBR]at hi⊢;by_cases h1:1000+0≤i
  ·rw[if_pos h1]at hi⊢
   have hlt:i-(1000+0)<(bs++exB ex).length:=Nat.lt_of_not_le fun hge=>hi (List.getElem?_eq_none hge)
   exact⟨i-(1000+0),(ids++exN ex)[i-(1000+0)]'(by omega),by omega,List.getElem?_eq_getElem _,rfl⟩
  ·rw[if_neg h1]at hi
   exact absurd rfl hi
 have fixdom:∀{i:Nat} {v:Value},fix i=some v→i<1000+(bs++exB ex).length:=fun {i v} hi=>by
  obtain⟨h1,id,e1,e2⟩:=hfix hi
  have:=(List.getElem?_eq_some_iff.1 e1).1
  omega
 have ownY:∀b,own fix (zD (zAt 0 (bs++exB ex))) b↔Y b:=fun b=>⟨fun ⟨i,v,_,h2,h3⟩=>⟨i,v,h2,h3⟩,fun ⟨i,v,h2,h3⟩=>by
  obtain⟨h1,id,e1,e2⟩:=hfix h2
  have:=fixdom h2
  refine⟨i,v,?_,h2,h3⟩
  rw[zBR,if_pos (by omega),List.getElem?_eq_getElem (by omega)]
  simp⟩
 have outs:∀b,out b1 fix (zD (zAt 0 (bs++exB ex))) b→out b0 σ S.h b∨w.heap.size≤b:=fun b hb=>by
  rcases hb with h|h
  ·exact(hYo b ((ownY b).1 h)).1.imp .inl fun h=>h
  ·exact .inl h.1
 have hKo:Keep (out b0 σ S.h) w w1:=Kw.out;have pfix:∀(i id:Nat) (u:Value),zT (ids++exN ex) id=some i→exS σ ex id=some u→fix (1000+i)=some u:=fun i id u hp hu=>(fixi (zAR hp)).trans hu
 have pfix0:∀(i id:Nat) (u:Value),zT ids id=some i→σ id=some u→fix (1000+i)=some u:=fun i id u hp hu=>pfix i id u (zJl hp) (s1 _ _ hu)
 have toB:∀{x:CV} {u:Value},RepB σ (out b0 σ S.h) w x u→RepB fix (out b1 fix (zD (zAt 0 (bs++exB ex)))) w1 (zAO (ids++exN ex) x) u:=fun {x u} hx=>by
  cases x with
  | pt id sz k j=>
    obtain⟨v,b,e1,e2,e3⟩:=hx
    simp only[zAO]
    cases hp:zT (ids++exN ex) id with
    |none=>exact trivial
    |some i=>exact⟨v,b,pfix i id v hp (s1 _ _ e1),e2,e3⟩
  | ow id=>
    obtain⟨e1,e2⟩:=hx
    simp only[zAO]
    cases hp:zT (ids++exN ex) id with
    |none=>exact trivial
    |some i=>exact⟨pfix i id u hp (s1 _ _ e1),e2⟩
  |fn f m C=>exact trivial
  |_=>exact RepI.keep hKo outs hx
 have toC:∀{x:CV} {u:Value},RepC σ (out b0 σ S.h) w x u→RepC fix (out b1 fix (zD (zAt 0 (bs++exB ex)))) w1 (zEu (ids++exN ex) x) u:=fun {x u} hx=>by
  cases x with
  | fn f m C=>
    obtain⟨g0,vs,g1,g2,g3⟩:=hx
    refine⟨g0,vs,g1,g2,fun i hi=> ?_⟩
    obtain⟨v,k1,k2,k3⟩:=g3 i hi
    exact⟨v,k1,k2,toB k3⟩
  | pt id sz k j=>
    have h2:=toB hx.2
    refine⟨hx.1,?_⟩
    show match zAO (ids++exN ex) (.pt id sz k j)with| .fn f m C=>_|x=>RepB fix _ w1 x u
    simp only[zAO]at h2⊢
    cases hp:zT (ids++exN ex) id<;>rw[hp]at h2<;>exact h2
  | ow id=>
    have h2:=toB hx.2
    refine⟨hx.1,?_⟩
    show match zAO (ids++exN ex) (.ow id)with| .fn f m C=>_|x=>RepB fix _ w1 x u
    simp only[zAO]at h2⊢
    cases hp:zT (ids++exN ex) id<;>rw[hp]at h2<;>exact h2
  |_=>exact⟨hx.1,toB hx.2⟩
 have H1:HRel b1 fix (zD (zAt 0 (bs++exB ex))) w1:=by
  refine⟨fun i B hB=> ?_,fun i j v1 v2 b hi hj h1 h2 e1 e2=> ?_,fun b hb=>.inr ((ownY b).1 hb),fun i v hi=>⟨hi,?_⟩,fun i _ hi=>hi⟩
  ·obtain⟨k,id,rfl,e1,e2⟩:=dom (by rw[hB];simp:zD (zAt 0 (bs++exB ex)) i≠none)
   rw[hB]at e2
   rcases spl k id e1 with ⟨a1,a2⟩|⟨a1,u,B',he,a2⟩
   ·obtain⟨B',F,g1,g2,g3,g4⟩:=hat k id a1
    rw[a2,g1]at e2
    cases e2
    obtain⟨v,k1,k2⟩:=R.hp.blk id _ g2
    refine⟨v,(fixi e1).trans (s1 _ _ k1),k2.lend hKo outs pfix0 g4 fun b hb=> ?_⟩
    cases ex with
    |none=>rw[show w1=w from hX]
    | some p=>
      obtain⟨d,u,Bx⟩:=p
      obtain⟨b',cap,cs,q1,q2,q3,q4,q5,q6⟩:=hX.ob
      have hne:S.h id≠none:=by rw[g2];simp
      refine q5.block b (R.hp.lt ⟨id,v,hne,k1,hb⟩) fun e=> ?_
      subst e;have:=dist k ids.length id d v u b e1 (by simp[exN]) (s1 _ _ k1) (zAn _ _ _) hb q1.blk;have:=(List.getElem?_eq_some_iff.1 a1).1
      omega
   ·rw[a2]at e2
    cases e2
    subst he
    obtain⟨b,cap,cs,q1,q2,q3,q4,q5,q6⟩:=hX.ob
    exact⟨u,(fixi e1).trans (zAn _ _ _),.inr (.inl ⟨b,cap,cs,q1,q2,q3,fun k' hk' j hj=>let ⟨p1,c,p2,p3⟩:=q4 k' hk' j hj;⟨c,p2,zDR p1 p3⟩⟩)⟩
  ·obtain⟨h1',id1,a1,a2⟩:=hfix h1
   obtain⟨h2',id2,c1,c2⟩:=hfix h2
   have:=dist _ _ id1 id2 v1 v2 b a1 c1 a2 c2 e1 e2
   omega
  ·have:=fixdom hi
   have:=(hfix hi).1;rw[zBR,if_pos (by omega),List.getElem?_eq_getElem (by omega)]
   simp
 refine(h b1 vals H1 (fun i v hi=>fixdom hi) (fun b hb=>(ownY b).2 hb) ?_).mono fun e w' ⟨v,τ,r,hs',nw,g1,g2,g3,g4,G,gr,gK⟩=>⟨v,r,hs',nw,g1,g2,fun r' bs' nw' hr' hbs hnw hlb hln=> ?_⟩
 ·refine zA5 (by rw[List.length_map,hv.length]) fun i x u e1 e2=> ?_
  rw[List.getElem?_map,Option.map_eq_some_iff]at e1
  obtain⟨y,e3,rfl⟩:=e1
  obtain⟨u',e4,e5⟩:=hv.get e3
  rw[e2]at e4
  cases e4
  rcases e5 with e5|⟨d,u',B,he,rfl,rfl⟩
  ·cases y with
   |c y=>exact toC e5
   | ag l=>
     obtain⟨vs,rfl,hvs⟩:=e5
     refine⟨vs,rfl,zA5 (by rw[List.length_map,hvs.length]) fun i x u e1 e2=> ?_⟩
     rw[List.getElem?_map,Option.map_eq_some_iff]at e1
     obtain⟨y,e3,rfl⟩:=e1
     obtain⟨u',e4,e5⟩:=hvs.get e3
     rw[e2]at e4
     cases e4
     exact toC e5
  ·subst he
   obtain⟨b,cap,cs,q1,_⟩:=hX.ob
   have hrow:B.row=true:=hX.row
   obtain⟨i,hp⟩:=zEU (l:=ids++ [d]) (id:=d) (by simp)
   have hu:u=.slice (some ⟨b,0,none⟩) B.n cap:=by
    rcases q1 with ⟨_,h,_⟩|⟨h,_⟩
    ·exact h
    ·rw[h]at hrow;cases hrow
   show RepC fix _ w1 (zEu (ids++ [d]) (.ow d)) u
   simp only[zEu,zAO,hp]
   exact⟨by rw[hu];rfl,pfix i d u hp (zAn _ _ _),.inl ⟨_,_,_,hu⟩⟩
 ·have lowN:∀id∈ni,σ id=none∧id<1000:=fun id hid=>R.fr id (hfr id hid)
  have e3l:hs'.length=ids.length+(exN ex).length:=by rw[g3];rw[←lenE];simp
  have τfix:∀i v,fix i=some v→τ i=some v:=fun i v hi=>(G.fx i v hi).1
  obtain⟨hbl0,hbk⟩:=zGH hbs
  obtain⟨hnl,hnk⟩:=zGH hnw
  have hnl':nw.length=ni.length:=hnl.trans hln;have hbl':bs'.length=ids.length:=hlb.trans hl.symm
  let σ':Nat→Option Value:=fun i=>match zT ni i with|some k=>τ (900+k)|none=>σ i
  have σo:∀i,i∉ni→σ' i=σ i:=fun i hi=>by
   simp only[σ']
   cases hp:zT ni i with
   |none=>rfl
   |some k=>exact absurd (List.mem_of_getElem? (zAR hp)) hi
  have σup:∀i u,σ i=some u→σ' i=some u:=fun i u hu=>by
   rw[σo i fun hi=>by rw[(lowN i hi).1]at hu;cases hu];exact hu
  have σn:∀k id,zT ni id=some k→σ' id=τ (900+k):=fun k id hp=>by simp only[σ',hp]
  have hsub:∀i,S.h i≠none→i∉ni:=fun i hi hm=>by
   cases hB:S.h i with
   |none=>exact hi hB
   | some B=>
     obtain⟨v,e,_⟩:=R.hp.blk i B hB
     rw[(lowN i hm).1]at e
     cases e
  have hidn:∀(k id:Nat),ids[k]?=some id→id∉ni:=fun k id hk=>by
   obtain⟨_,_,_,_,_,h0⟩:=own0 k id hk
   exact hsub id h0
  have NB:∀k v b,k<nw.length→τ (900+k)=some v→zAl v=some b→w1.heap.size≤b:=fun k v b hk h1 h2=>by
   have hin:zD (zAy nw hs') (900+k)≠none:=by
    rw[zBP g4,if_neg (by omega),if_pos (by omega),show 900+k-900=k by omega,List.getElem?_eq_getElem hk]
    simp
   rcases G.new b ⟨900+k,v,hin,h1,h2⟩with h|⟨i,v',h3,h4⟩
   ·exact h
   ·have:=G.inj (900+k) i v v' b hin (G.fx i v' h3).2 h1 (τfix i v' h3) h2 h4
    have:=(hfix h3).1
    omega
  have hlook:∀i,(∃k B,zT ids i=some k∧bs'[k]?=some B∧zAb (zO ids bs'++zO ni nw') S.h i=some B)∨(∃k B,zT ni i=some k∧nw'[k]?=some B∧i∉ids∧zAb (zO ids bs'++zO ni nw') S.h i=some B)∨(i∉ids∧i∉ni∧zAb (zO ids bs'++zO ni nw') S.h i=S.h i):=fun i=>by
   rw[zI7];by_cases hm:i∈ids
   ·obtain⟨k,hp⟩:=zEU hm
    have e1:=zAR hp;have hk:=(List.getElem?_eq_some_iff.1 e1).1;have e2:bs'[k]?=some (bs'[k]'(by omega)):=List.getElem?_eq_getElem _;exact .inl ⟨k,_,hp,e2,zD8 hbl'.symm hnd k _ _ _ e1 e2⟩
   ·rw[zD9 i _ hm]
    by_cases hm2:i∈ni
    ·obtain⟨k,hp⟩:=zEU hm2
     have e1:=zAR hp;have hk:=(List.getElem?_eq_some_iff.1 e1).1;have e2:nw'[k]?=some (nw'[k]'(by omega)):=List.getElem?_eq_getElem _;exact .inr (.inl ⟨k,_,hp,e2,hm,zD8 hln.symm hni k _ _ _ e1 e2⟩)
    ·exact .inr (.inr ⟨hm,hm2,zD9 i _ hm2⟩)
  have idlt:∀i k,zT ids i=some k→k<hs'.length:=fun i k hp=>by
   have:=(List.getElem?_eq_some_iff.1 (zAR hp)).1
   omega
  have nilt:∀i k,zT ni i=some k→k<nw.length:=fun i k hp=>by
   have:=(List.getElem?_eq_some_iff.1 (zAR hp)).1
   omega
  have bk1:∀i id,zT ids id=some i→∀u,τ (1000+i)=some u→σ' id=some u:=fun i id hp u hu=>by
   have e1:=zAR hp
   obtain⟨v',b,e2,_⟩:=own0 i id e1
   have:=τfix _ _ (pfix0 i id v' hp e2);rw[hu]at this
   cases this
   exact σup _ _ e2
  have bk2:∀i id,zT ni id=some i→∀u,τ (900+i)=some u→σ' id=some u:=fun i id hp u hu=>(σn i id hp).trans hu
  have O1:∀b,out b0 σ S.h b→out b1 τ (zD (zAy nw hs')) b:=fun b hb=>by
   by_cases hy:Y b
   ·obtain⟨i,v',h1,h2⟩:=hy
    exact .inl ⟨i,v',(G.fx i v' h1).2,τfix i v' h1,h2⟩
   ·exact .inr ⟨hb,hy⟩
  have ownC:∀b,own σ' (zAb (zO ids bs'++zO ni nw') S.h) b→own σ S.h b∨∃k v,k<nw.length∧τ (900+k)=some v∧zAl v=some b:=fun b ⟨i,v',h1,h2,h3⟩=>by
   rcases hlook i with ⟨k,B,hp,_,_⟩|⟨k,B,hp,_,_,_⟩|⟨hn1,hn2,e⟩
   ·have e1:=zAR hp
    obtain⟨u,b',e2,e3,e4,e5⟩:=own0 k i e1
    rw[σup _ _ e2]at h2
    cases h2
    exact .inl ⟨i,v',e5,e2,h3⟩
   ·rw[σn k i hp]at h2
    exact .inr ⟨k,v',nilt i k hp,h2,h3⟩
   ·rw[e]at h1
    rw[σo i hn2]at h2;exact .inl ⟨i,v',h1,h2,h3⟩
  have hO':∀b,out b0 σ' (zAb (zO ids bs'++zO ni nw') S.h) b→out b0 σ S.h b∨w.heap.size≤b:=fun b hb=>by
   rcases hb with hb|hb
   ·rcases ownC b hb with h|⟨k,v',h1,h2,h3⟩
    ·exact .inl (.inl h)
    ·have:=NB k v' b h1 h2 h3
     have:=Kw.size;exact .inr (by omega)
   ·exact .inl (.inr hb)
  have hO2:∀b,out b0 σ' (zAb (zO ids bs'++zO ni nw') S.h) b→out b1 τ (zD (zAy nw hs')) b:=fun b hb=>by
   rcases hb with hb|hb
   ·rcases ownC b hb with h|⟨k,v',h1,h2,h3⟩
    ·exact O1 b (.inl h)
    ·refine .inl ⟨900+k,v',?_,h2,h3⟩
     rw[zBP g4,if_neg (by omega),if_pos (by omega),show 900+k-900=k by omega,List.getElem?_eq_getElem h1]
     simp
   ·exact O1 b (.inr hb)
  have hK:Keep (own σ S.h) w w':=by
   refine⟨gK.os.trans Kw.os,gK.tape.trans Kw.tape,gK.output.trans Kw.output,Nat.le_trans Kw.size gK.size,fun k hk hno=>(gK.block k (Nat.lt_of_lt_of_le hk Kw.size) fun hy=> ?_).trans (Kw.block k hk hno)⟩
   rcases(hYo k hy).1 with h|h
   ·exact hno h
   ·omega
  have H' :HRel b0 σ' (zAb (zO ids bs'++zO ni nw') S.h) w':=by
   refine⟨fun i B hB=> ?_,fun i j v1 v2 b hi hj h1 h2 h3 h4=> ?_,fun b hb=> ?_,fun i v' hi=> ?_,fun i hi hf=> ?_⟩
   ·rcases hlook i with ⟨k,B',hp,e2,e3⟩|⟨k,B',hp,e2,_,e3⟩|⟨hn1,hn2,e⟩
    ·rw[e3]at hB
     cases hB
     obtain⟨G0,q1,q2⟩:=hbk k B (by rw[List.getElem?_append_left (by have:=(List.getElem?_eq_some_iff.1 e2).1;omega)];exact e2)
     have hB1:zD (zAy nw hs') (1000+k)=some ⟨B.row,B.n,B.sz,B.ty,G0⟩:=by rw[zBP g4,if_pos (by omega),show 1000+k-1000=k by omega];exact q1
     obtain⟨v',k1,k2⟩:=G.blk (1000+k) _ hB1
     exact⟨v',bk1 k i hp v' k1,k2.back hO2 bk1 bk2 q2⟩
    ·rw[e3]at hB
     cases hB
     obtain⟨G0,q1,q2⟩:=hnk k B e2
     have hB1:zD (zAy nw hs') (900+k)=some ⟨B.row,B.n,B.sz,B.ty,G0⟩:=by
      have:=nilt i k hp;rw[zBP g4,if_neg (by omega),if_pos (by omega),show 900+k-900=k by omega];exact q1
     obtain⟨v',k1,k2⟩:=G.blk (900+k) _ hB1
     exact⟨v',bk2 k i hp v' k1,k2.back hO2 bk1 bk2 q2⟩
    ·rw [e]at hB
     obtain⟨v',k1,k2⟩:=R.hp.blk i B hB
     have hne:S.h i≠none:=by rw[hB];simp
     have far:∀b,zAl v'=some b→(∀d u Bx,ex=some (d,u,Bx)→zAl u≠some b)→w'.heap[b]?=w.heap[b]?:=fun b hb hex=>by
      have hbo:own σ S.h b:=⟨i,v',hne,k1,hb⟩;have hlt:=R.hp.lt hbo
      refine(gK.block b (Nat.lt_of_lt_of_le hlt Kw.size) fun ⟨j,u,h1,h2⟩=> ?_).trans ?_
      ·obtain⟨_,id,a1,a2⟩:=hfix h1
       rcases spl _ id a1 with ⟨c1,_⟩|⟨_,u',Bx,he,_⟩
       ·obtain⟨_,_,_,_,_,hne2⟩:=own0 _ id c1
        have:=R.hp.inj i id v' u b hne hne2 k1 (sid _ id c1 u a2) hb h2;subst this;exact hn1 (List.mem_of_getElem? c1)
       ·have:u'=u:=by subst he;have h3:put σ id (some u') id=some u:=a2;rw[zAn]at h3;exact Option.some.inj h3
        subst this;exact hex id u' Bx he h2
      ·show w1.heap[b]?=w.heap[b]?
       cases ex with
       |none=>rw[show w1=w from hX]
       | some p=>
         obtain⟨d,u,Bx⟩:=p
         obtain⟨b',cap,cs,q1,q2,q3,q4,q5,q6⟩:=hX.ob
         refine q5.block b hlt fun e=> ?_
         subst e;exact hex d u Bx rfl q1.blk
     by_cases hx:∃d u Bx b,ex=some (d,u,Bx)∧zAl u=some b∧zAl v'=some b
     ·obtain⟨d,u,Bx,b,he,hu,hvb⟩:=hx
      subst he;have hob:=hX.ob;dsimp only at hob
      obtain⟨b',cap,cs,q1,q2,q3,q4,q5,q6⟩:=hob
      have hbb:=q1.blk;rw[hu]at hbb
      cases hbb
      rcases q6 with q6|⟨o,n0,F0,p1,p2,p3,p4,p5⟩
      ·have:=R.hp.lt ⟨i,v',hne,k1,hvb⟩
       omega
      ·have:=R.hp.inj i o v' _ b hne (by rw[p1];simp) k1 p2 hvb rfl
       subst this;rw[p1]at hB
       cases hB
       rw[k1]at p2
       cases p2
       refine⟨_,σup _ _ k1,?_⟩
       obtain⟨G0,r1,r2⟩:=hbk ids.length Bx (by rw[List.getElem?_append_right (by omega)];simp[exB,hbl'])
       have hB1:zD (zAy nw hs') (1000+ids.length)=some ⟨Bx.row,Bx.n,Bx.sz,Bx.ty,G0⟩:=by rw[zBP g4,if_pos (by omega),show 1000+ids.length-1000=ids.length by omega];exact r1
       obtain⟨u',m1,m2⟩:=G.blk _ _ hB1
       have hfu:fix (1000+ids.length)=some u:=(fixi (id:=d) (by simp[exN])).trans (zAn _ _ _);rw[τfix _ _ hfu]at m1
       cases m1
       have hrow:Bx.row=true:=hX.row
       rcases m2.row hrow with ⟨_,m3,_⟩|⟨b2,cap2,cs2,m3,m4,m5,m6⟩
       ·rw[m3]at hu;cases hu
       ·have hb2:=m3.blk
        rw[hu]at hb2
        cases hb2
        dsimp only at m4 m5 m6;have hc2:cap2=cap:=by
         rcases q1 with ⟨_,h1,_⟩|⟨h1,_⟩
         ·rcases m3 with ⟨_,h2,_⟩|⟨h2,_⟩
          ·rw[h1]at h2;cases h2;rfl
          ·replace h2:Bx.row=false:=h2;rw[hrow]at h2;cases h2
         ·rw[hrow]at h1;cases h1
        subst hc2;refine .inr (.inl ⟨b,cap2,cs2,.inl ⟨rfl,rfl,?_,?_⟩,m4,m5,fun k hk j hj=> ?_⟩)
        ·have:=q1.le
         show n0≤cap2
         omega
        ·rcases q1 with ⟨_,_,_,h⟩|⟨h,_⟩
         ·exact h
         ·rw[hrow]at h;cases h
        ·replace hk:k<n0:=hk
         obtain⟨c,s1',s2⟩:=m6 k (show k<Bx.n by omega) j hj
         refine⟨c,s1',?_⟩
         show RepC σ' _ w' (F0 k j) c;have hp:=(q4 k (by omega) j hj).1;have hbc:=r2 k (by omega) j hj;rw[p5 k hk j hj]
         replace s2:RepC τ _ w' (G0 k j) c:=s2
         generalize hG:G0 k j=g at hbc s2;generalize hF:Bx.F k j=x at hbc hp
         cases hbc with
         |imm _ _=>exact zDR hp s2
         |_=>cases hp
     ·exact⟨v',σup _ _ k1,k2.keep hK.out hO' σup fun b hb=>far b hb fun d u Bx he hu=>hx ⟨d,u,Bx,b,he,hu,hb⟩⟩
   · -- no two on one block
     have cls:∀i v b,zAb (zO ids bs'++zO ni nw') S.h i≠none→σ' i=some v→zAl v=some b→(S.h i≠none∧σ i=some v)∨∃k,zT ni i=some k∧k<nw.length∧τ (900+k)=some v:=fun i v b hi hv hb=>by
      rcases hlook i with ⟨k,B',hp,_,_⟩|⟨k,B',hp,_,_,_⟩|⟨hn1,hn2,e⟩
      ·obtain⟨u,b',e2,e3,e4,e5⟩:=own0 k i (zAR hp)
       rw[σup _ _ e2]at hv
       cases hv
       exact .inl ⟨e5,e2⟩
      ·rw[σn k i hp]at hv
       exact .inr ⟨k,hp,nilt i k hp,hv⟩
      ·rw[e]at hi
       rw[σo i hn2]at hv;exact .inl ⟨hi,hv⟩
     have endk:∀k,k<nw.length→zD (zAy nw hs') (900+k)≠none:=fun k hk=>by
      rw[zBP g4,if_neg (by omega),if_pos (by omega),show 900+k-900=k by omega,List.getElem?_eq_getElem hk]
      simp
     rcases cls i v1 b hi h1 h3 with ⟨a1,a2⟩|⟨k1,a1,a2,a3⟩
     ·rcases cls j v2 b hj h2 h4 with ⟨c1,c2⟩|⟨k2,c1,c2,c3⟩
      ·exact R.hp.inj i j v1 v2 b a1 c1 a2 c2 h3 h4
      ·have:=NB k2 v2 b c2 c3 h4
       have:=R.hp.lt ⟨i,v1,a1,a2,h3⟩;have:=Kw.size
       omega
     ·rcases cls j v2 b hj h2 h4 with ⟨c1,c2⟩|⟨k2,c1,c2,c3⟩
      ·have:=NB k1 v1 b a2 a3 h3
       have:=R.hp.lt ⟨j,v2,c1,c2,h4⟩;have:=Kw.size
       omega
      ·have:=G.inj (900+k1) (900+k2) v1 v2 b (endk k1 a2) (endk k2 c2) a3 c3 h3 h4
       obtain rfl:k1=k2:=by omega
       have e1:=zAR a1;rw[zAR c1]at e1
       exact(Option.some.inj e1).symm
   ·rcases ownC b hb with h|⟨k,v',h1,h2,h3⟩
    ·exact R.hp.new b h
    ·have:=NB k v' b h1 h2 h3
     have:=Kw.size;have:=R.ext.size;exact .inl (by omega)
   ·obtain⟨a1,a2⟩:=R.hp.fx i v' hi
    have hn:i∉ni:=hsub i a2
    refine⟨(σo i hn).trans a1,?_⟩
    rcases hlook i with ⟨k,B',hp,_,e3⟩|⟨k,B',hp,_,_,e3⟩|⟨hn1,hn2,e⟩
    ·rw[e3];simp
    ·rw[e3];simp
    ·rw[e];exact a2
   ·rw[σo i fun hm=>by have:=(lowN i hm).2;omega]
    exact R.hp.big i hi hf
  exact⟨σ',R.step (e:=⟨r',zO ids bs'++zO ni nw',ni⟩) hd σup hK H' hO' (fun _=>hr'.rep hO2 bk1 bk2 gr) fun i hi=>by
   by_cases hm:i∈ni
   ·exact .inr hm
   ·rw[σo i hm]at hi;exact .inl hi⟩

inductive FnV(S:St)(z:Operand)(f:FuncId):List V1→Prop
 |fn (m:Nat) (C:Nat→CV) (h:S.opd z=some (.c (.fn f m C))) (hm:((List.range m).all fun i=>noFn (C i))=true):FnV S z f ((List.range m).map fun i=>V1.c (C i))
 |fi (m:Nat) (C:Nat→CV) (h:S.opd z=some (.c (.fi f m C))) (hm:((List.range m).all fun i=>zM (C i))=true):FnV S z f ((List.range m).map fun i=>V1.c (C i))
theorem FnV.func{S:St}{f:FuncId}:FnV S (.func f) f []:=FnV.fn 0 (fun _=>.any) rfl rfl
theorem FnV.congr{S S1:St}{z:Operand}{f:FuncId}{cap:List V1}(h:FnV S z f cap)(he:S1.opd z=S.opd z):FnV S1 z f cap:=by
 cases h with
 |fn m C h hm=>exact .fn m C (he.trans h) hm
 |fi m C h hm=>exact .fi m C (he.trans h) hm
theorem FnV.rep{S:St}{z:Operand}{f:FuncId}{cap:List V1}(h:FnV S z f cap){b0:zN}{σ:Nat→Option Value}{a:Act}{w:World}(R:Rel0 b0 σ S a w):
 ∃vs:List Value,a.eval z=.func (.func f) #[] vs.toArray∧RepL (RepV σ (out b0 σ S.h) w) cap vs:=by
 cases h with
 | fn m C h hm=>
   obtain⟨_,vs,e1,e2,e3⟩:=zW R h
   refine⟨vs,e1,zA5 (by simp[e2]) fun i x u g1 g2=> ?_⟩
   have hlt:i<m:=by have:=(List.getElem?_eq_some_iff.1 g1).1;simpa using this
   rw[List.getElem?_map,List.getElem?_range hlt]at g1
   cases g1
   obtain⟨v,k1,k2,k3⟩:=e3 i hlt
   rw[g2]at k1
   cases k1
   have hnf:=List.all_eq_true.1 hm i (List.mem_range.2 hlt)
   refine⟨k2,?_⟩
   show match C i with| .fn f m C=>_|x=>RepB σ _ w x u
   cases hC:C i<;>rw[hC]at hnf k3<;>first|exact k3|cases hnf
 | fi m C h hm=>
   obtain⟨_,vs,e1,e2,e3⟩:=zW R h
   refine⟨vs,e1,zA5 (by simp[e2]) fun i x u g1 g2=> ?_⟩
   have hlt:i<m:=by have:=(List.getElem?_eq_some_iff.1 g1).1;simpa using this
   rw[List.getElem?_map,List.getElem?_range hlt]at g1
   cases g1
   obtain⟨v,k1,k2,k3⟩:=e3 i hlt
   rw[g2]at k1
   cases k1
   exact zBF (List.all_eq_true.1 hm i (List.mem_range.2 hlt)) k2 k3
theorem RepL.append{α:Type}{R:α→Value→Prop}:∀{l m:List α} {us vs:List Value},RepL R l us→RepL R m vs→RepL R (l++m) (us++vs)
 | [],_,[],_,_,h=>h
 |_::_,_,_::_,_,h,h'=>⟨h.1,RepL.append h.2 h'⟩
 | [],_,_::_,_,h,_=>h.elim
 |_::_,_,[],_,h,_=>h.elim
section ops
variable{ops:Array Oper}{rest:List Oper}{acc:List (List Nat×List Nat)}{S:St}{Q:List (List Nat×List Nat)→St→Prop}{dst:Option Tmp}{ty:TypeId}{pos:String}{after:Array Edge}{guard:Option (Nat×Bool)}
theorem AList.callG{f:FuncId}{fn:Func}{z:Operand}{cap:List V1}{xs:Array Operand}{ats:Array TypeId}{args:List V1}{r r':AV}(ids ni:List Nat)(bs hs' nw bs' nw':List AB)(hw:S.wants ops {dst,op:=.call {callee:=.value z,args:=xs,argTypes:=ats},type:=ty,pos,after,guard}=some true)(hd:dOk S.n dst=true)
 (hz:FnV S z f cap) (ha:S.opds xs.toList=some args) (hf:P.funcs[f]?=some fn) (hb:fn.body.isNone=false) (hnm:(fn.name== "runtime.NumGoroutine")=false) (hL:LendOk2 S ids ids bs)
 (hnd:(zAx ids && zAx ni && ni.all (fun i=>S.fr i) && Nat.beq bs'.length bs.length && Nat.beq nw'.length ni.length)=true) (hr:BackA ids ni r r') (hbk:BackB ids ni hs' bs') (hnw:BackB ids ni nw nw')
 (hc:zCg P f ((args++cap).map (zDT ids)) bs r hs' nw)
 (hn:AList P ops rest ((ids++ni,(zO ids bs'++zO ni nw').map (·.1)++ni)::acc) (S.eff dst ⟨r',zO ids bs'++zO ni nw',ni⟩) Q):AList P ops ({dst,op:=.call {callee:=.value z,args:=xs,argTypes:=ats},type:=ty,pos,after,guard}::rest) acc S Q:=
 AList.cons ids ⟨r',zO ids bs'++zO ni nw',ni⟩ (LStep.of hw fun S1 hA hr1 hal b0 σ a w R=>by
  simp only[Bool.and_eq_true]at hnd
  obtain⟨⟨⟨⟨n1,n2⟩,n3⟩,n4⟩,n5⟩:=hnd
  have h2:S1.opds xs.toList=some args:=(zCJ fun x hx=>hA.op x (by simp only[Op.operands,Call.operands];simp;exact .inr (by simpa using hx))).trans ha
  obtain⟨vs,e1,e2⟩:=(hz.congr (hA.op z (by simp[Op.operands,Call.operands]))).rep R
  have:=zHT (ex:=none) (w1:=w) (ni:=ni) (dst:=dst) (Rl:=GEq r hs' nw) (args:=args++cap) (by simp only[exN,exB,List.append_nil];exact hc) R (by rw[hA.n];exact hd) rfl
   ((RepL.append (zBT R h2) e2).mono fun x v h=>.inl h) (zG6 hr1 hL) n1 n2 (fun id hid=>(hal id hid).trans (List.all_eq_true.1 n3 id hid))
  rw[zCc f fn hf hb hnm #[] vs.toArray e1 w]
  simp only[Goes]
  rw[show(#[]++xs.map a.eval++vs.toArray:Array Value)=(xs.toList.map a.eval++vs).toArray from Array.ext' (by simp)];exact this.mono fun e w' ⟨v,r0,hs0,nw0,g1,⟨h1,h2,h3⟩,g3⟩=>by
   subst h1 h2 h3
   exact⟨v,g1,g3 r' bs' nw' hr (by rw[exB,List.append_nil];exact hbk) hnw (Nat.eq_of_beq_eq_true n4) (Nat.eq_of_beq_eq_true n5)⟩) hn
end ops
section txt
variable{ops:Array Oper}{rest:List Oper}{S:St}{Q:St→Prop}{dst:Option Tmp}{ty:TypeId}{pos:String}{after:Array Edge}{guard:Option (Nat×Bool)}
theorem AText.callG{f:FuncId}{fn:Func}{z:Operand}{cap:List V1}{xs:Array Operand}{ats:Array TypeId}{args:List V1}{Rl:AV→List AB→List AB→Prop}(ids ni:List Nat)(bs:List AB)(hw:S.wants ops {dst,op:=.call {callee:=.value z,args:=xs,argTypes:=ats},type:=ty,pos,after,guard}=some true)(hd:dOk S.n dst=true)
 (hz:FnV S z f cap) (ha:S.opds xs.toList=some args) (hf:P.funcs[f]?=some fn) (hb:fn.body.isNone=false) (hnm:(fn.name== "runtime.NumGoroutine")=false) (hL:LendOk2 S ids ids bs)
 (hnd:(zAx ids && zAx ni && ni.all (fun i=>S.fr i))=true) (hc:GE P f ((args++cap).map (zDT ids)) bs Rl)
 (hn:∀r hs' nw,Rl r hs' nw→∃r' bs' nw',BackA ids ni r r'∧BackB ids ni hs' bs'∧BackB ids ni nw nw'∧(Nat.beq bs'.length bs.length && Nat.beq nw'.length ni.length)=true∧AText P ops rest (S.eff dst ⟨r',zO ids bs'++zO ni nw',ni⟩) Q):
 AText P ops ({dst,op:=.call {callee:=.value z,args:=xs,argTypes:=ats},type:=ty,pos,after,guard}::rest) S Q:=⟨fun rd b0 a w K hR hK=>by
 obtain⟨σ,R0⟩:=hR
 unfold wpListIn;rw[if_pos (zC8 R0 hw)]
 refine⟨fun _ _=>trivial,?_⟩
 simp only[Bool.and_eq_true]at hnd
 obtain⟨⟨n1,n2⟩,n3⟩:=hnd
 obtain⟨vs,e1,e2⟩:=hz.rep R0
 have:=zHT (ex:=none) (w1:=w) (ni:=ni) (dst:=dst) (Rl:=Rl) (args:=args++cap) (by simp only[exN,exB,List.append_nil];exact hc) R0 hd rfl
  ((RepL.append (zBT R0 ha) e2).mono fun x v h=>.inl h) hL n1 n2 (fun id hid=>List.all_eq_true.1 n3 id hid)
 rw[Oper.semAt_eq _ _ _ (fun c hc=>by cases hc),zCc f fn hf hb hnm #[] vs.toArray e1 w];rw[Oper.uponIn_enter]
 refine⟨fun hd=>(by cases hd),?_⟩
 rw[show(#[]++xs.map a.eval++vs.toArray:Array Value)=(xs.toList.map a.eval++vs).toArray from Array.ext' (by simp)]
 exact(zE9 rd).calls (this.mono fun e w' ⟨v,r0,hs0,nw0,g1,g2,g3⟩=>by
  subst g1
  obtain⟨r',bs',nw',k1,k2,k3,k4,k5⟩:=hn r0 hs0 nw0 g2
  rw[Bool.and_eq_true]at k4;exact k5.get rd b0 _ _ K (g3 r' bs' nw' k1 (by rw[exB,List.append_nil];exact k2) k3 (Nat.eq_of_beq_eq_true k4.1) (Nat.eq_of_beq_eq_true k4.2)) hK)⟩
end txt
end
end Go.AV
end
section
namespace Go.AV
open Go Go.RowKit Go.Flow Go.ChangeMaps
open Go.WideMaps (KeyLaw)
section
variable{P:Program}{tab:List (TypeId×TD)}
def KM(P:Program)(kt:TypeId)(g:Value→Bool)(es:Array MapEntry)(_:Nat):Prop:=∀e∈es.toList,(∃l,keyOf P kt e.key=some l)∧e.val=.bool (g e.key)
def KH(P:Program)(kt:TypeId)(g:Value→Bool)(key:Value)(has:Bool)(es:Array MapEntry)(c:Nat):Prop:=KM P kt g es c∧(has=true↔∃e∈es.toList,e.key=key)
def zQ0(K:Array MapEntry→Nat→Prop)(_:Nat)(o:Obj):Prop:=∃es c,o=.map es c∧K es c
def moF(K:Array MapEntry→Nat→Prop)(_ _:Nat):CV:=.mo (zQ0 K)
abbrev moB(ty:TypeId)(K:Array MapEntry→Nat→Prop):AB:=⟨false,1,1,ty,moF K⟩
theorem zKJ{kt:TypeId}{g:Value→Bool}:KM P kt g #[] 0:=fun e he=>by simp at he
theorem zPD{b0:zN}{σ:Nat→Option Value}{h:Nat→Option AB}{w:World}(H:HRel b0 σ h w){id:Nat}{ty:TypeId}{K:Array MapEntry→Nat→Prop}(hh:h id=some (moB ty K)){u:Value}(hu:RepC σ (out b0 σ h) w (.ow id) u)(hm:∀A n c,u≠ .slice A n c):
 ∃b es c,u=.map (some b)∧σ id=some u∧w.heap[b]?=some (.map es c)∧K es c:=by
 obtain⟨v,e1,e2⟩:=H.blk id _ hh
 have e0:=hu.2.1;rw[e0]at e1
 cases e1
 rcases hu.2.2 with ⟨A,n,c,h1⟩|⟨b,rfl⟩
 ·exact absurd h1 (hm A n c)
 ·rcases e2 with ⟨h1,_⟩|⟨b',cap,cs,h1,_⟩|⟨_,_,_,b',o,h1,h2,h3⟩
  ·cases h1
  ·rcases h1 with ⟨_,h1,_⟩|⟨_,h1,_⟩<;>cases h1
  ·cases h1
   rcases h3.2 with h3|⟨K',h3,h4⟩
   ·cases h3
   ·cases h3
    obtain⟨es,c,rfl,h4⟩:=h4
    exact⟨b,es,c,rfl,e0,h2,h4⟩
theorem zLb{b0:zN}{σ:Nat→Option Value}{h:Nat→Option AB}{w:World}(H:HRel b0 σ h w){id:Nat}{ty:TypeId}{K:Array MapEntry→Nat→Prop}(hh:h id=some (moB ty K)){u:Value}(hu:RepC σ (out b0 σ h) w (.ow id) u):
 ∃b es c,u=.map (some b)∧σ id=some u∧w.heap[b]?=some (.map es c)∧K es c:=by
 refine zPD H hh hu fun A n c e=> ?_
 subst e
 obtain⟨v,e1,e2⟩:=H.blk id _ hh
 have e0:=hu.2.1;rw[e0]at e1
 cases e1
 rcases e2 with ⟨h1,_⟩|⟨b',cap,cs,h1,_⟩|⟨_,_,_,b',o,h1,h2,h3⟩
 ·cases h1
 ·rcases h1 with ⟨h1,_⟩|⟨_,h1,_⟩<;>cases h1
 ·cases h1
section ops
variable{ops:Array Oper}{rest:List Oper}{acc:List (List Nat×List Nat)}{S:St}{Q:List (List Nat×List Nat)→St→Prop}{dst:Option Tmp}{ty:TypeId}{pos:String}{after:Array Edge}{guard:Option (Nat×Bool)}
theorem AList.makeMap{id:Nat}{t:TypeId}(K:Array MapEntry→Nat→Prop)(h0:K #[] 0)(hw:S.wants ops {dst:=some id,op:=.makeMap t none,type:=ty,pos,after,guard}=some true)(hd:dOk S.n (some id)=true)(hf:S.fr id=true)
 (hn:AList P ops rest (([id],[id,id])::acc) (S.eff (some id) ⟨.c (.ow id),[(id,some (moB t K))],[id]⟩) Q):AList P ops ({dst:=some id,op:=.makeMap t none,type:=ty,pos,after,guard}::rest) acc S Q:=
 AList.cons [] ⟨.c (.ow id),[(id,some (moB t K))],[id]⟩ (LStep.of hw fun S1 hA _ hal b0 σ a w R=>by
  obtain⟨hno,hlow⟩:=R.fr id ((hal id (by simp)).trans hf)
  have hrun:(execOp a.eval {dst:=some id,op:=.makeMap t none,type:=ty,pos,after,guard}).run P w=.ok (.value (.map (some w.heap.size))) (w.alloc (.map #[] 0)):=by
   simp only[execOp,Option.map_none,run_makeMap,Sem.run_bind,Result.andThen_ok,Sem.run_pure]
  rw[hrun];have hE:Ext w (w.alloc (.map #[] 0)):=(Ext.refl w).alloc _;have hsub:∀i u,σ i=some u→put σ id (some (.map (some w.heap.size))) i=some u:=fun i u h=>by
   rw[zX _ _ (fun e=>by rw[e,hno]at h;cases h)];exact h
  obtain⟨H,_,hO⟩:=R.hp.put (id:=id) (B':=moB t K) (v':=.map (some w.heap.size)) (σ':=put σ id (some (.map (some w.heap.size)))) (h':=zAb [(id,some (moB t K))] S1.h) (w':=w.alloc (.map #[] 0)) hsub (zAn _ _ _) (zAn _ _ _) (fun i hi=>.inr (zX _ _ hi)) (Keep.of_ext hE)
   (fun i u hi=>by
     have h1:=(b0.one i u hi).1;rw[zBS,zX _ _ (by omega)]
     exact(R.hp.fx i u hi).2) (fun i hi=>zX _ _ (by omega))
   (fun i u b hi h1 h2 h3=>by
     have h1':S1.h i≠none:=by rw[zBS,zX _ _ hi]at h1;exact h1
     exact Below.block hE b (R.hp.lt ⟨i,u,h1',h2,h3⟩))
   (.inr<| .inr ⟨rfl,rfl,rfl,w.heap.size,.map #[] 0,rfl,heap_alloc_new w _,rfl,.inr ⟨_,rfl, #[],0,rfl,h0⟩⟩)
   (fun b hb=>by
     cases hb
     refine⟨.inl R.ext.size,.inr (Nat.le_refl _),fun i u hi h1 h2 h3=> ?_⟩
     have h1':S1.h i≠none:=by rw[zBS,zX _ _ hi]at h1;exact h1
     have:=R.hp.lt ⟨i,u,h1',h2,h3⟩
     omega)
  exact⟨put σ id (some (.map (some w.heap.size))),R.step (e:=⟨.c (.ow id),[(id,some (moB t K))],[id]⟩) (by rw[hA.n];exact hd) hsub (Keep.of_ext hE) H hO (fun _=>⟨rfl,zAn _ _ _,.inr ⟨_,rfl⟩⟩) (fun i hi=>by
   by_cases e:i=id
   ·exact .inr (by simp[e])
   ·rw[zX _ _ e]at hi;exact .inl hi)⟩) hn
theorem zKg{kt:TypeId}(L:KeyLaw P kt){m x:Operand}{id:Nat}{t et:TypeId}{g:Value→Bool}{has:Bool}{l:List CV}{vs:List Value}{kl:Lit}{bt:TypeId}(hw:S.wants ops {dst,op:=.lookup t m x true,type:=ty,pos,after,guard}=some true)(hd:dOk S.n dst=true)
 (hm:S.opd m=some (.c (.ow id))) (hx:S.opd x=some (.ag l)) (hl:l=vs.map .p) (hh:S.h id=some (moB bt (KH P kt g (.agg vs.toArray) has))) (ht:P.underlying t=some (.map kt et)) (he:P.underlying et=some .bool) (hz:∀w:World,(zeroValue et).run P w=.ok (.bool false) w) (hk:keyOf P kt (.agg vs.toArray)=some kl)
 (hn:AList P ops rest (([id],[])::acc) (S.eff dst ⟨.tu [.c (.p (.bool (has && g (.agg vs.toArray)))),.c (.p (.bool has))],[],[]⟩) Q):AList P ops ({dst,op:=.lookup t m x true,type:=ty,pos,after,guard}::rest) acc S Q:=
 AList.val [id] _ hw hd (fun S1 h1 hr b0 σ a w R=>by
  obtain⟨b,es,c,e1,-,e3,hKM,hhas⟩:=zLb R.hp ((hr id (by simp)).trans hh) (zW R ((h1 m (by simp[Op.operands])).trans hm))
  obtain⟨us,f1,f2⟩:=zW R ((h1 x (by simp[Op.operands])).trans hx)
  have hus:us=vs:=by
   subst hl;refine List.ext_getElem? fun i=> ?_
   by_cases hi:i<vs.length
   ·obtain⟨v,k1,k2⟩:=f2.get (i:=i) (x:=.p vs[i]) (by simp[hi])
    rw[k1,List.getElem?_eq_getElem hi,show v=vs[i]from k2.2]
   ·have:=f2.length
    rw[List.length_map]at this;rw[List.getElem?_eq_none (by omega),List.getElem?_eq_none (by omega)]
  subst hus
  rcases L.find w hk es.toList (fun e he=>(hKM e he).1)with ⟨k1,k2⟩|⟨j,e0,k1,k2,k3⟩
  ·have h0:has=false:=by
    cases hc:has with
    |false=>rfl
    |true=>obtain⟨e,q1,q2⟩:=hhas.1 hc;exact absurd q2 (k2 e q1)
   subst h0
   refine⟨.tuple #[.bool false,.bool false],?_,[_,_],rfl,⟨rfl,rfl⟩,⟨rfl,rfl⟩,trivial⟩
   simp[execOp,e1,f1,Instr.lookup,run_underlying ht,MapKept.run_getObj_map e3,L.check w _ hk,k1,hz,Result.andThen]
  ·have hmem:e0∈es.toList:=List.mem_of_getElem? k2
   have h0:has=true:=hhas.2 ⟨e0,hmem,k3⟩;subst h0;have hv:=(hKM e0 hmem).2;rw[k3]at hv
   refine⟨.tuple #[.bool (g (.agg us.toArray)),.bool true],?_,[_,_],rfl,⟨rfl,rfl⟩,⟨rfl,rfl⟩,trivial⟩
   rw[hv]at k1
   simp[execOp,e1,f1,Instr.lookup,run_underlying ht,MapKept.run_getObj_map e3,L.check w _ hk,k1,Result.andThen]) hn
theorem zOs{kt:TypeId}(L:KeyLaw P kt){m x v:Operand}{id:Nat}{t et:TypeId}{g:Value→Bool}{K:Array MapEntry→Nat→Prop}{l:List CV}{vs:List Value}{kl:Lit}{bt:TypeId}(hw:S.wants ops {dst:=none,op:=.mapUpdate t m x v,type:=ty,pos,after,guard}=some true)
 (hm:S.opd m=some (.c (.ow id))) (hx:S.opd x=some (.ag l)) (hl:l=vs.map .p) (hv:S.opd v=some (.c (.p (.bool (g (.agg vs.toArray)))))) (hh:S.h id=some (moB bt K)) (hK:∀es c,K es c→KM P kt g es c) (ht:P.underlying t=some (.map kt et)) (hk:keyOf P kt (.agg vs.toArray)=some kl)
 (hn:AList P ops rest (([id],[id])::acc) (S.eff none ⟨.tu [],[(id,some (moB bt (KM P kt g)))],[]⟩) Q):AList P ops ({dst:=none,op:=.mapUpdate t m x v,type:=ty,pos,after,guard}::rest) acc S Q:=
 AList.cons [id] ⟨.tu [],[(id,some (moB bt (KM P kt g)))],[]⟩ (LStep.of hw fun S1 hA hr1 _ b0 σ a w R=>by
  have hh1:=(hr1 id (by simp)).trans hh
  obtain⟨b,es,c,e1,hσ,e3,hKe⟩:=zLb R.hp hh1 (zW R ((hA.op m (by simp[Op.operands])).trans hm))
  have hKM:=hK es c hKe
  obtain⟨us,f1,f2⟩:=zW R ((hA.op x (by simp[Op.operands])).trans hx)
  have f3:a.eval v=_:=(zW R ((hA.op v (by simp[Op.operands])).trans hv)).2;have hus:us=vs:=by
   subst hl;refine List.ext_getElem? fun i=> ?_
   by_cases hi:i<vs.length
   ·obtain⟨v,k1,k2⟩:=f2.get (i:=i) (x:=.p vs[i]) (by simp[hi])
    rw[k1,List.getElem?_eq_getElem hi,show v=vs[i]from k2.2]
   ·have:=f2.length
    rw[List.length_map]at this;rw[List.getElem?_eq_none (by omega),List.getElem?_eq_none (by omega)]
  subst hus;rw[e1]at hσ
  obtain⟨es',c',hrun,hKM'⟩:∃es' c',(execOp a.eval {dst:=none,op:=.mapUpdate t m x v,type:=ty,pos,after,guard}).run P w=.ok .skip (setBlock w b (.map es' c'))∧KM P kt g es' c':=by
   rcases L.find w hk es.toList (fun e he=>(hKM e he).1)with ⟨k1,k2⟩|⟨j,e0,k1,k2,k3⟩
   ·refine⟨es.push ⟨.agg us.toArray,.bool (g (.agg us.toArray)),c⟩,c+1,?_,fun e he=> ?_⟩
    ·simp[execOp,e1,f1,f3,Instr.mapUpdate,run_underlying ht,MapKept.run_getObj_map e3,L.check w false hk,k1,MapKept.run_setObj_map _ e3,Result.andThen,setBlock]
    ·rw[Array.toList_push,List.mem_append]at he
     rcases he with he|he
     ·exact hKM e he
     ·simp at he
      subst he
      exact⟨⟨kl,hk⟩,rfl⟩
   ·have hj:es[j]?=some e0:=by simpa using k2
    refine⟨es.modify j fun e=>{e with key:=.agg us.toArray,val:=.bool (g (.agg us.toArray))},c,?_,fun e he=> ?_⟩
    ·simp[execOp,e1,f1,f3,Instr.mapUpdate,run_underlying ht,MapKept.run_getObj_map e3,L.check w false hk,k1,hj,k3,L.stays w hk,MapKept.run_setObj_map _ e3,Result.andThen,setBlock]
    ·obtain⟨i,hi,rfl⟩:=List.getElem_of_mem he
     simp only[Array.length_toList,Array.size_modify]at hi
     rw[Array.getElem_toList,Array.getElem_modify];by_cases hij:j=i
     ·rw[if_pos hij]
      exact⟨⟨kl,hk⟩,rfl⟩
     ·rw[if_neg hij]
      exact hKM _ (Array.getElem_mem_toList _)
  rw[hrun];have hobj:(setBlock w b (.map es' c')).heap[b]?=some (.map es' c'):=by
   have:=(Array.getElem?_eq_some_iff.1 e3).1
   simp[setBlock,this]
  have hoth:∀i,i≠b→(setBlock w b (.map es' c')).heap[i]?=w.heap[i]?:=fun i hi=>by
   simp only[setBlock]
   rw[Array.getElem?_setIfInBounds_ne (Ne.symm hi)]
  have hbo:own σ S1.h b:=⟨id,_,by rw[hh1];simp,hσ,rfl⟩
  have hK':Keep (own σ S1.h) w (setBlock w b (.map es' c')):=⟨rfl,rfl,rfl,by simp[setBlock],fun i _ ho=>hoth i fun e=>ho (e▸hbo)⟩
  obtain⟨H,_,hO⟩:=R.hp.put (id:=id) (B':=moB bt (KM P kt g)) (v':=.map (some b)) (σ':=σ) (h':=zAb [(id,some (moB bt (KM P kt g)))] S1.h) (w':=setBlock w b (.map es' c'))
   (fun _ _ h=>h) (zAn _ _ _) hσ (fun i hi=>.inr (zX _ _ hi)) hK'
   (fun i u hi=>by
     by_cases h1:i=id
     ·subst h1;rw[zBS,zAn];simp
     ·rw[zBS,zX _ _ h1];exact(R.hp.fx i u hi).2) (fun _ _=>rfl)
   (fun i u c hi h1 h2 h3=>hoth c fun e=>by
     subst e;have h1':S1.h i≠none:=by rw[zBS,zX _ _ hi]at h1;exact h1
     exact hi (R.hp.inj i id u _ c h1' (by rw[hh1];simp) h2 hσ h3 rfl))
   (.inr<| .inr ⟨rfl,rfl,rfl,b,.map es' c',rfl,hobj,rfl,.inr ⟨_,rfl,es',c',rfl,hKM'⟩⟩)
   (fun c hc=>by
     cases hc
     exact⟨R.hp.new b hbo,.inl hbo,fun i u hi h1 h2 h3=>by
      have h1':S1.h i≠none:=by rw[zBS,zX _ _ hi]at h1;exact h1
      exact hi (R.hp.inj i id u _ b h1' (by rw[hh1];simp) h2 hσ h3 rfl)⟩)
  exact⟨σ,R.step (e:=⟨.tu [],[(id,some (moB bt (KM P kt g)))],[]⟩) rfl (fun _ _ h=>h) hK' H hO (fun h=>absurd rfl h) fun i h=>.inl h⟩) hn
end ops
theorem zOt{kt:TypeId}{c:Code}{Q:Exit→St→Prop}{S:St}{id:Nat}{g:Value→Bool}{bt:TypeId}(key:Value)(hh:S.h id=some (moB bt (KM P kt g)))
 (h:∀has,AWp P c Q (S.eff none ⟨.tu [],[(id,some (moB bt (KH P kt g key has)))],[]⟩)):AWp P c Q S:=⟨fun b0 a w ⟨σ,R⟩=>by
 classical
 obtain⟨v,e1,e2⟩:=R.hp.blk id _ hh
 obtain⟨b,es,cl,rfl,hb,hK⟩:∃b es cl,v=.map (some b)∧w.heap[b]?=some (.map es cl)∧KM P kt g es cl:=by
  rcases e2 with ⟨h1,_⟩|⟨b',cap,cs,h1,h2,h3,h4⟩|⟨_,_,_,b',o,h1,h2,h3⟩
  ·cases h1
  ·exfalso
   obtain⟨u,_,k2⟩:=h4 0 (show 0<1 by omega) 0 (show 0<1 by omega)
   exact k2.2
  ·rcases h3.2 with h3|⟨K',h3,h4⟩
   ·cases h3
   ·cases h3
    obtain⟨es,c,rfl,h4⟩:=h4
    exact⟨b',es,c,h1,h2,h4⟩
 refine(h (decide (∃e∈es.toList,e.key=key))).get b0 a w ⟨σ,?_⟩
 have hput:∀i,i≠id→(S.eff none ⟨.tu [],[(id,some (moB bt (KH P kt g key (decide (∃e∈es.toList,e.key=key)))))],[]⟩).h i=S.h i:=fun i hi=>zX _ _ hi
 have hsame:(S.eff none ⟨.tu [],[(id,some (moB bt (KH P kt g key (decide (∃e∈es.toList,e.key=key)))))],[]⟩).h id=some (moB bt (KH P kt g key (decide (∃e∈es.toList,e.key=key)))):=zAn _ _ _;have hne:∀i,(S.eff none ⟨.tu [],[(id,some (moB bt (KH P kt g key (decide (∃e∈es.toList,e.key=key)))))],[]⟩).h i≠none↔S.h i≠none:=fun i=>by
  by_cases hi:i=id
  ·subst hi;rw[hsame,hh];simp
  ·rw[hput i hi]
 have hown:∀b,own σ (S.eff none ⟨.tu [],[(id,some (moB bt (KH P kt g key (decide (∃e∈es.toList,e.key=key)))))],[]⟩).h b↔own σ S.h b:=fun b=>⟨fun ⟨i,v,h1,h2,h3⟩=>⟨i,v,(hne i).1 h1,h2,h3⟩,fun ⟨i,v,h1,h2,h3⟩=>⟨i,v,(hne i).2 h1,h2,h3⟩⟩
 have hout:∀b,out b0 σ (S.eff none ⟨.tu [],[(id,some (moB bt (KH P kt g key (decide (∃e∈es.toList,e.key=key)))))],[]⟩).h b→out b0 σ S.h b:=fun b hb=>hb.imp (hown b).1 fun h=>h
 refine⟨R.df,R.sz,R.ext,⟨fun i B hB=> ?_,fun i j v1 v2 b hi hj=>R.hp.inj i j v1 v2 b ((hne i).1 hi) ((hne j).1 hj),fun b hb=>R.hp.new b ((hown b).1 hb),fun i v hi=>⟨(R.hp.fx i v hi).1,(hne i).2 (R.hp.fx i v hi).2⟩,R.hp.big⟩,fun t x hx=>(R.sl t x hx).less hout,fun i hi=>R.fr i (by simpa[St.eff]using hi),R.le,R.gd,R.gh⟩
 by_cases hi:i=id
 ·subst hi
  rw[hsame]at hB
  cases hB
  exact⟨_,e1,.inr<| .inr ⟨rfl,rfl,rfl,b,.map es cl,rfl,hb,rfl,.inr ⟨_,rfl,es,cl,rfl,hK,by simp⟩⟩⟩
 ·rw[hput i hi]at hB
  obtain⟨v,k1,k2⟩:=R.hp.blk i B hB
  exact⟨v,k1,k2.less hout⟩⟩
end
end Go.AV
end
