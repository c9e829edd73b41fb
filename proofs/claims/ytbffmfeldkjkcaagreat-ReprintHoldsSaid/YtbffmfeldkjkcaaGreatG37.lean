/- Parts of the proof: AMov, ARangeM. -/
import Derived.Test.YtbffmfeldkjkcaaGreatG24
set_option linter.unusedSimpArgs false
set_option linter.unusedVariables false
set_option maxHeartbeats 0
section
namespace Go.AV
open Go Go.RowKit Go.Flow
section
variable{P:Program}
def zFS:Nat→List AB→List (Nat×AB)
 |_,[]=> []
 |i,B::bs=>(800+i,B)::zFS (i+1) bs
theorem zMR:∀{bs:List AB} {n i:Nat},zD (zFS n bs) i=if 800+n≤i then bs[i-(800+n)]? else none
 | [],n,i=>by simp[zFS,zD]
 | B ::bs,n,i=>by
   unfold zFS zD
   cases hb:Nat.beq i (800+n)with
   | true=>
     have:=Nat.eq_of_beq_eq_true hb;subst this
     simp
   | false=>
     have hne:i≠800+n:=fun e=>by rw[e,Nat.beq_refl]at hb;cases hb
     simp only[cond_false]
     rw[zMR];by_cases h:800+(n+1)≤i
     ·rw[if_pos h,if_pos (by omega),show i-(800+n)=(i-(800+(n+1)))+1 by omega,List.getElem?_cons_succ]
     ·rw[if_neg h,if_neg (by omega)]
def zA6(mv hs:List AB):List (Nat×AB):=zFS 0 mv++zAt 0 hs
theorem zFy{mv hs:List AB}(hn:mv.length≤100)(i:Nat):zD (zA6 mv hs) i=if 1000≤i then hs[i-1000]? else if 800≤i then mv[i-800]? else none:=by
 unfold zA6;rw[zCC,zMR,zBR];by_cases h1:1000≤i
 ·simp only[show 800+0≤i by omega,show 1000+0≤i by omega,h1,if_true]
  rw[List.getElem?_eq_none (by omega)]
 ·simp only[show ¬1000+0≤i by omega,h1,if_false]
  by_cases h2:800≤i
  ·simp only[show 800+0≤i by omega,h2,if_true,Nat.add_zero]
   cases mv[i-800]?<;>rfl
  ·simp only[show ¬800+0≤i by omega,h2,if_false]
def GMc(Cl:List Value→World→(Ending→World→Prop)→Prop)(Pre:zN→Prop)(V:Nat→Prop)(args:List V1)(hs mv:List AB)(R:AV→List AB→List AB→Prop):Prop:=
 ∀ (b0:zN) (σ:Nat→Option Value) (vals:List Value),Pre b0→(∀b,V b→b0.X b)→HRel b0 σ (zD (zA6 mv hs)) b0.w→(∀i v,b0.fix i=some v→i<1000+hs.length)→(∀i v,σ i=some v→b0.fix i=some v∨(800≤i∧i<900))→(∀b,b0.Y b→own σ (zD (zA6 mv hs)) b)→RepL (RepV σ (out b0 σ (zD (zA6 mv hs))) b0.w) args vals→
   Cl vals b0.w fun e w'=>∃v τ r hs' nw,e=.returned v∧R r hs' nw∧hs'.length=hs.length∧nw.length≤100∧HRel b0 τ (zD (zAy nw hs')) w'∧RepA τ (out b0 τ (zD (zAy nw hs'))) w' r v∧Keep (fun b=>b0.Y b∨V b) b0.w w'
abbrev zMf(P:Program)(f:FuncId):List Value→World→(Ending→World→Prop)→Prop:=fun vals w Q=>Calls P f vals.toArray w Q
abbrev GM(P:Program)(f:FuncId)(args:List V1)(hs mv:List AB)(R:AV→List AB→List AB→Prop):Prop:=GMc (zMf P f) (fun _=>True) (fun _=>False) args hs mv R
abbrev zFl(P:Program)(f:FuncId)(args:List V1)(hs mv:List AB)(r:AV)(hs' nw:List AB):Prop:=GM P f args hs mv (GEq r hs' nw)
theorem GM.mono{f:FuncId}{args:List V1}{hs mv:List AB}{R R':AV→List AB→List AB→Prop}(h:GM P f args hs mv R)(hR:∀r hs' nw,R r hs' nw→R' r hs' nw):GM P f args hs mv R':=fun b0 σ vals h0 hV h1 h2 h3 h4 h5=>
 (h b0 σ vals h0 hV h1 h2 h3 h4 h5).mono fun e w' ⟨v,τ,r,hs',nw,g1,g2,g3⟩=>⟨v,τ,r,hs',nw,g1,hR _ _ _ g2,g3⟩
def zDO(n ln:Nat)(args:List V1)(hs:List (Nat×AB)):St:={n,ln,t:=fun i=>(args[i]?).map V1.av,h:=zD hs,fr:=fun id=>Nat.blt id 800||(Nat.ble 900 id && Nat.blt id 1000),G:=fun b=>b.rd=none,gs:=0,dd:=false}
abbrev GMP(P:Program)(f:FuncId)(pre:(Nat→Option Value)→Prop)(args:List V1)(hs mv:List AB)(R:AV→List AB→List AB→Prop):Prop:=GMc (zMf P f) (fun b=>pre b.fix) (fun _=>False) args hs mv R
def zIH(Gd:zN→Prop)(n ln:Nat)(args:List V1)(hs:List (Nat×AB)):St:={zDO n ln args hs with G:=Gd}
theorem zQv{pre:(Nat→Option Value)→Prop}{Gd:zN→Prop}(hGd:∀b:zN,b.rd=none→pre b.fix→Gd b){f:FuncId}{fn:Func}{c:Code}{rs:List ResultVar}{args:List V1}{hs mv:List AB}{R:AV→List AB→List AB→Prop}(hf:P.funcs[f]?=some fn)(hb:fn.body=some c)(hr:fn.results=rs.toArray)(hn:args.length≤fn.ntmps)(hmv:mv.length≤100)
 (h:AWp P c (zFo P rs R hs.length) (zIH Gd fn.ntmps hs.length args (zA6 mv hs))):GMP P f pre args hs mv R:=fun b0 σ0 vals hpre _ hH hle hσ hY hv=>by
 have hl:=hv.length
 let b2:zN:=⟨b0.w,b0.X,b0.Y,b0.fix,b0.lt,b0.ylt,b0.dis,b0.one,fun _ _=>False,fun _ _ _=>True,none,fun _ _ h=>h.elim,fun _ _ _ _ _ _ _ _=>trivial⟩
 have up:∀{σ h w},HRel b0 σ h w→HRel b2 σ h w:=fun H=>⟨H.blk,H.inj,H.new,H.fx,H.big⟩
 have dn:∀{σ h w},HRel b2 σ h w→HRel b0 σ h w:=fun H=>⟨H.blk,H.inj,H.new,H.fx,H.big⟩
 refine zDL (b0:=b2) hf hb rfl h ⟨σ0,trivial,?_,⟨rfl,rfl,rfl,Nat.le_refl _,fun _ _ _=>rfl⟩,up hH,fun t x hx=> ?_,fun id hid=> ?_,fun i v hi=> ?_,hGd b2 rfl hpre,trivial⟩ (fun e S hQ=>by cases e<;>first|exact .inl rfl|exact .inr rfl|exact hQ.elim) fun e a w S hR hQ hd=> ?_
 ·simp[zIH,zDO,hl];omega
 ·obtain⟨y,e1,rfl⟩:∃y,args[t]?=some y∧y.av=x:=by simpa[zIH,zDO,Option.map_eq_some_iff]using hx
  obtain⟨v,e2,e3⟩:=hv.get e1
  have ht:(vals.toArray++Array.replicate (fn.ntmps-vals.toArray.size) undef).getD t undef=v:=by
   have hlt:=(List.getElem?_eq_some_iff.1 e2).1;have:=(List.getElem?_eq_some_iff.1 e2).2
   simp[Array.getD_eq_getD_getElem?,Array.getElem?_append,hlt,this]
  rw[ht];exact e3.av
 ·have hid':(Nat.blt id 800||(Nat.ble 900 id && Nat.blt id 1000))=true:=hid
  have h1:id<800∨(900≤id∧id<1000):=by
   rw[Bool.or_eq_true,Bool.and_eq_true]at hid';exact hid'.imp (fun h=>Nat.blt_eq.mp h) fun h=>⟨Nat.ble_eq.mp h.1,Nat.blt_eq.mp h.2⟩
  refine⟨?_,by omega⟩
  cases hc:σ0 id with
  |none=>rfl
  | some v=>
    rcases hσ id v hc with h|h
    ·have:=(b0.one id v h).1;omega
    ·omega
 ·exact hle i v hi
 ·obtain⟨S',loc,r,hs',nw,hR0,hln,hw,hS',hlc,hS⟩:zGr P rs R hs.length S:=by cases e<;>first|exact hQ|exact hQ.elim
  rw[Bool.and_eq_true]at hln;have hl1:=Nat.eq_of_beq_eq_true hln.1;have hl2:=Nat.ble_eq.mp hln.2
  obtain⟨σ,R1⟩:=hw b2 a w hR
  obtain⟨v,h1,h2⟩:=hS.run hr R1
  have hH0:=R1.hp;rw[hS']at hH0 h2;have low:∀i B,zD loc i=some B→i<900:=fun i B h=>Nat.blt_eq.mp (List.all_eq_true.1 hlc _ (zBe h))
  have high:∀i,zD (zAy nw hs') i≠none→900≤i:=fun i hi=>by
   rw[zBP hl2]at hi;by_cases h1:1000≤i
   ·omega
   ·rw[if_neg h1]at hi
    by_cases h2:900≤i
    ·exact h2
    ·rw[if_neg h2]at hi;exact absurd rfl hi
  obtain⟨H',hsub⟩:=hH0.part (h':=zD (zAy nw hs')) (fun i hi=>by
   rw[zCC]
   cases hc:zD loc i with
   |none=>rfl
   | some B=>
     have:=low i B hc;have:=high i hi
     omega) (fun i v hi=>by
   have h0:=(b0.one i v hi).1;have h3:=hle i v hi;rw[zBP hl2,if_pos h0,List.getElem?_eq_getElem (by omega)]
   simp)
  refine⟨v,h1,v,σ,r,hs',nw,rfl,hR0,hl1,hl2,dn H',h2.less fun b (hb:out b2 σ (zD (zAy nw hs')) b)=>hb.imp (hsub b) fun h=>h,R1.ext.less fun b hb=>.inl (hb.elim id fun h=>h.elim)⟩
theorem zQu{f:FuncId}{fn:Func}{c:Code}{rs:List ResultVar}{args:List V1}{hs mv:List AB}{R:AV→List AB→List AB→Prop}(hf:P.funcs[f]?=some fn)(hb:fn.body=some c)(hr:fn.results=rs.toArray)(hn:args.length≤fn.ntmps)(hmv:mv.length≤100)
 (h:AWp P c (zFo P rs R hs.length) (zDO fn.ntmps hs.length args (zA6 mv hs))):GM P f args hs mv R:=
 zQv (pre:=fun _=>True) (Gd:=fun b=>b.rd=none) (fun _ h _=>h) hf hb hr hn hmv h
theorem zGY{f:FuncId}{fn:Func}{c:Code}{rs:List ResultVar}{args:List V1}{hs mv:List AB}{R:AV→List AB→List AB→Prop}{n:Nat}(hf:P.funcs[f]?=some fn)(hb:fn.body=some c)(hr:fn.results=rs.toArray)(hn:fn.ntmps=n)(hl:(Nat.ble args.length n && Nat.ble mv.length 100)=true)
 (h:AWp P c (zFo P rs R hs.length) (zDO n hs.length args (zA6 mv hs))):GM P f args hs mv R:=by
 subst hn;rw[Bool.and_eq_true]at hl;exact zQu hf hb hr (Nat.ble_eq.mp hl.1) (Nat.ble_eq.mp hl.2) h
inductive LentB(ids mids:List Nat):CV→CV→Prop
 |imm (x:CV) (h:zM x=true):LentB ids mids x x
 |ow (id i:Nat) (h:zT ids id=some i):LentB ids mids (.ow id) (.ow (1000+i))
 |mv (id i:Nat) (h:zT mids id=some i):LentB ids mids (.ow id) (.ow (800+i))
 |pt (id i sz k j:Nat) (h:zT ids id=some i):LentB ids mids (.pt id sz k j) (.pt (1000+i) sz k j)
inductive LentM(ids mids:List Nat):CV→CV→Prop
 |b {x y:CV} (h:LentB ids mids x y):LentM ids mids x y
 |any (x:CV):LentM ids mids x .any
 |fn (f m:Nat) (C D:Nat→CV) (h:∀i,i<m→LentB ids mids (C i) (D i)):LentM ids mids (.fn f m C) (.fn f m D)
inductive zCP(ids mids:List Nat):V1→V1→Prop
 |c {y x:CV} (h:LentM ids mids y x):zCP ids mids (.c y) (.c x)
 |ag {l m:List CV} (h:LeL (LentM ids mids) l m):zCP ids mids (.ag l) (.ag m)
theorem LentB.noFn{ids mids:List Nat}{x y:CV}(h:LentB ids mids x y):(∀f m C,x≠ .fn f m C)∧∀f m C,y≠ .fn f m C:=by
 cases h with
 |imm x h=>exact⟨fun f m C e=>(by subst e;cases h),fun f m C e=>(by subst e;cases h)⟩
 |ow=>exact⟨fun _ _ _ e=>(by cases e),fun _ _ _ e=>(by cases e)⟩
 |mv=>exact⟨fun _ _ _ e=>(by cases e),fun _ _ _ e=>(by cases e)⟩
 |pt=>exact⟨fun _ _ _ e=>(by cases e),fun _ _ _ e=>(by cases e)⟩
theorem LentM.mo{ids mids:List Nat}{x y:CV}{b:Nat}{o:Obj}(h:LentM ids mids x y)(hx:zBN x b o):zBN y b o:=by
 obtain⟨hk,hx⟩:=hx
 cases h with
 | b h=>cases h with
   |imm x h=>exact⟨hk,hx⟩
   |ow=>rcases hx with h|⟨K,h,_⟩<;>cases h
   |mv=>rcases hx with h|⟨K,h,_⟩<;>cases h
   |pt=>rcases hx with h|⟨K,h,_⟩<;>cases h
 |any x=>exact⟨hk,.inl rfl⟩
 |fn=>rcases hx with h|⟨K,h,_⟩<;>cases h
theorem zNr{σ:Nat→Option Value}{O:Nat→Prop}{w:World}{x:CV}{u:Value}(hx:∀f m C,x≠ .fn f m C)(h:RepC σ O w x u):RepB σ O w x u:=by
 cases x with
 |fn f m C=>exact absurd rfl (hx f m C)
 |_=>exact h.2
theorem zJu{σ:Nat→Option Value}{O:Nat→Prop}{w:World}{x:CV}{u:Value}(hx:∀f m C,x≠ .fn f m C)(h1:u.oneCell'=true)(h:RepB σ O w x u):RepC σ O w x u:=by
 cases x with
 |fn f m C=>exact absurd rfl (hx f m C)
 |_=>exact⟨h1,h⟩
theorem LentB.rep{ids mids:List Nat}{σ τ:Nat→Option Value}{O O':Nat→Prop}{w:World}(hO:∀b,O' b→O b)(h1:∀i id,zT ids id=some i→∀u,σ id=some u→τ (1000+i)=some u)(h2:∀i id,zT mids id=some i→∀u,σ id=some u→τ (800+i)=some u)
 {x y:CV} {u:Value} (h:LentB ids mids x y) (hu:RepC σ O w x u):RepC τ O' w y u:=by
 cases h with
 |imm x hi=>exact zBF hi hu.1 ((zBo hi hu).less hO)
 |ow id i hp=>exact⟨hu.1,h1 i id hp _ hu.2.1,hu.2.2⟩
 |mv id i hp=>exact⟨hu.1,h2 i id hp _ hu.2.1,hu.2.2⟩
 |pt id i sz k j hp=>obtain⟨g,v,b,e1,e2,e3⟩:=hu;exact⟨g,v,b,h1 i id hp _ e1,e2,e3⟩
theorem LentM.rep{ids mids:List Nat}{σ τ:Nat→Option Value}{O O':Nat→Prop}{w:World}(hO:∀b,O' b→O b)(h1:∀i id,zT ids id=some i→∀u,σ id=some u→τ (1000+i)=some u)(h2:∀i id,zT mids id=some i→∀u,σ id=some u→τ (800+i)=some u)
 {x y:CV} {u:Value} (h:LentM ids mids x y) (hu:RepC σ O w x u):RepC τ O' w y u:=by
 cases h with
 |b h=>exact h.rep hO h1 h2 hu
 |any x=>exact⟨hu.1,trivial⟩
 | fn f m C D hc=>
   obtain⟨g,vs,e1,e2,e3⟩:=hu
   refine⟨g,vs,e1,e2,fun i hi=> ?_⟩
   obtain⟨v,k1,k2,k3⟩:=e3 i hi
   obtain⟨n1,n2⟩:=(hc i hi).noFn
   exact⟨v,k1,k2,zNr n2 ((hc i hi).rep hO h1 h2 (zJu n1 k2 k3))⟩
theorem OBk.lendM{σ τ:Nat→Option Value}{O O':Nat→Prop}{w:World}{v:Value}{B:AB}{F:Nat→Nat→CV}(hc:∀k,k<B.n→∀j,j<B.sz→∀u,RepC σ O w (F k j) u→RepC τ O' w (B.F k j) u)(hm:∀k,k<B.n→∀j,j<B.sz→∀b o,zBN (F k j) b o→zBN (B.F k j) b o)
 (h:OBk σ O w v ⟨B.row,B.n,B.sz,B.ty,F⟩):OBk τ O' w v B:=by
 rcases h with h0|⟨b,cap,cs,k1,k2,k3,k4⟩|⟨m1,m2,m3,b,o,rfl,m4,m5⟩
 ·exact .inl h0
 ·exact .inr (.inl ⟨b,cap,cs,k1,k2,k3,fun k hk j hj=>let ⟨u,n1,n2⟩:=k4 k hk j hj;⟨u,n1,hc k hk j hj u n2⟩⟩)
 ·replace m2:B.n=1:=m2
  replace m3:B.sz=1:=m3
  exact .inr (.inr ⟨m1,m2,m3,b,o,rfl,m4,hm 0 (by omega) 0 (by omega) b o m5⟩)
def zBm(S:St)(ids mids:List Nat):List Nat→List AB→Prop
 | [],[]=>True
 |id::l,B::bs=>(∃F,S.h id=some ⟨B.row,B.n,B.sz,B.ty,F⟩∧(B.row=true→0<B.n)∧∀k,k<B.n→∀j,j<B.sz→LentM ids mids (F k j) (B.F k j))∧zBm S ids mids l bs
 |_,_=>False
theorem zMG{S:St}{ids mids:List Nat}:∀{l:List Nat} {bs:List AB},zBm S ids mids l bs→l.length=bs.length∧∀(i id:Nat),l[i]?=some id→∃B F,bs[i]?=some B∧S.h id=some ⟨B.row,B.n,B.sz,B.ty,F⟩∧(B.row=true→0<B.n)∧∀k,k<B.n→∀j,j<B.sz→LentM ids mids (F k j) (B.F k j)
 | [],[],_=>⟨rfl,fun i id h=>by simp at h⟩
 | id::l,B::bs,h=>by
   obtain⟨h1,h2⟩:=zMG h.2
   refine⟨by simp[h1],fun i id' hi=> ?_⟩
   cases i with
   |zero=>cases hi;obtain⟨F,hF⟩:=h.1;exact⟨B,F,rfl,hF⟩
   |succ i=>simpa using h2 i id' (by simpa using hi)
 | [],_::_,h=>h.elim
 |_::_,[],h=>h.elim
def zCQ(S:St):List Nat→List AB→Prop
 | [],[]=>True
 |id::l,B::bs=>(∃F,S.h id=some ⟨true,B.n,B.sz,B.ty,F⟩∧B.row=true∧∀k,k<B.n→∀j,j<B.sz→F k j=B.F k j∧zM (B.F k j)=true)∧zCQ S l bs
 |_,_=>False
theorem zMS{S:St}:∀{l:List Nat} {bs:List AB},zCQ S l bs→l.length=bs.length∧∀(i id:Nat),l[i]?=some id→∃B F,bs[i]?=some B∧S.h id=some ⟨true,B.n,B.sz,B.ty,F⟩∧B.row=true∧∀k,k<B.n→∀j,j<B.sz→F k j=B.F k j∧zM (B.F k j)=true
 | [],[],_=>⟨rfl,fun i id h=>by simp at h⟩
 | id::l,B::bs,h=>by
   obtain⟨h1,h2⟩:=zMS h.2
   refine⟨by simp[h1],fun i id' hi=> ?_⟩
   cases i with
   |zero=>cases hi;obtain⟨F,hF⟩:=h.1;exact⟨B,F,rfl,hF⟩
   |succ i=>simpa using h2 i id' (by simpa using hi)
 | [],_::_,h=>h.elim
 |_::_,[],h=>h.elim
inductive BackM(ids ni:List Nat):CV→CV→Prop
 |b {y x:CV} (h:BackC ids ni y x):BackM ids ni y x
 |fn (f m:Nat) (C D:Nat→CV) (h:∀i,i<m→BackC ids ni (C i) (D i)∧(∀f m E,C i≠ .fn f m E)∧∀f m E,D i≠ .fn f m E):BackM ids ni (.fn f m C) (.fn f m D)
theorem BackM.rep{ids ni:List Nat}{τ σ:Nat→Option Value}{O O':Nat→Prop}{w:World}(hO:∀b,O' b→O b)(h1:∀i id,zT ids id=some i→∀u,τ (1000+i)=some u→σ id=some u)(h2:∀i id,zT ni id=some i→∀u,τ (900+i)=some u→σ id=some u)
 {y x:CV} {u:Value} (h:BackM ids ni y x) (hu:RepC τ O w y u):RepC σ O' w x u:=by
 cases h with
 |b h=>exact h.rep hO h1 h2 hu
 | fn f m C D hc=>
   obtain⟨g,vs,e1,e2,e3⟩:=hu
   refine⟨g,vs,e1,e2,fun i hi=> ?_⟩
   obtain⟨v,k1,k2,k3⟩:=e3 i hi
   obtain⟨n0,n1,n2⟩:=hc i hi
   exact⟨v,k1,k2,zNr n2 (n0.rep hO h1 h2 (zJu n1 k2 k3))⟩
theorem BackM.mo{ids ni:List Nat}{y x:CV}{b:Nat}{o:Obj}(h:BackM ids ni y x)(hy:zBN y b o):zBN x b o:=by
 cases h with
 |b h=>exact h.mo hy
 |fn=>rcases hy.2 with h|⟨K,h,_⟩<;>cases h
def zBq(ids ni:List Nat):List AB→List AB→Prop
 | [],[]=>True
 |A::l,B::m=>(∃G,A=⟨B.row,B.n,B.sz,B.ty,G⟩∧∀k,k<B.n→∀j,j<B.sz→BackM ids ni (G k j) (B.F k j))∧zBq ids ni l m
 |_,_=>False
theorem zLd{ids ni:List Nat}:∀{l m:List AB},zBq ids ni l m→l.length=m.length∧∀(i:Nat) (B:AB),m[i]?=some B→∃G,l[i]?=some ⟨B.row,B.n,B.sz,B.ty,G⟩∧∀k,k<B.n→∀j,j<B.sz→BackM ids ni (G k j) (B.F k j)
 | [],[],_=>⟨rfl,fun i B h=>by simp at h⟩
 | A::l,B::m,h=>by
   obtain⟨h1,h2⟩:=zLd h.2
   refine⟨by simp[h1],fun i B' hi=> ?_⟩
   cases i with
   |zero=>cases hi;obtain⟨G,rfl,hG⟩:=h.1;exact⟨G,rfl,hG⟩
   |succ i=>simpa using h2 i B' (by simpa using hi)
 | [],_::_,h=>h.elim
 |_::_,[],h=>h.elim
def zA7(mids:List Nat):List (Nat×Option AB):=mids.map fun i=>(i,none)
theorem zL2:∀{mids:List Nat} {h:Nat→Option AB} {i:Nat},i∈mids→zAb (zA7 mids) h i=none
 | m::l,h,i,hi=>by
   show put (zAb (zA7 l) h) m none i=none;by_cases e:i=m
   ·subst e;exact zAn _ _ _
   ·rw[zX _ _ e]
    exact zL2 ((List.mem_cons.1 hi).resolve_left e)
theorem zQb{mids:List Nat}{h:Nat→Option AB}{i:Nat}(hi:i∉mids):zAb (zA7 mids) h i=h i:=
 zEQ (by unfold zA7;simpa using hi)
theorem zRc{l m:List Nat}(h:zAx (l++m)=true):zAx l=true∧zAx m=true∧∀x,x∈l→x∉m:=by
 have inj:∀{i j x:Nat},(l++m)[i]?=some x→(l++m)[j]?=some x→i=j:=fun a b=>zDA h a b
 have h1:∀{l m:List Nat},zAx (l++m)=true→zAx l=true∧zAx m=true:=by
  intro l
  induction l with
  |nil=>intro m h;exact⟨rfl,h⟩
  | cons a l ih=>
    intro m h;rw[List.cons_append]at h;unfold zAx at h;rw[Bool.and_eq_true]at h
    obtain⟨k1,k2⟩:=ih h.2
    refine⟨?_,k2⟩
    unfold zAx;rw[Bool.and_eq_true]
    refine⟨?_,k1⟩
    have:=h.1;rw[List.any_append,Bool.not_or,Bool.and_eq_true]at this;exact this.1
 refine⟨(h1 h).1,(h1 h).2,fun x h1 h2=> ?_⟩
 obtain⟨i,hi,e1⟩:=List.getElem_of_mem h1
 obtain⟨j,hj,e2⟩:=List.getElem_of_mem h2
 have:=inj (i:=i) (j:=l.length+j) (x:=x) (by rw[List.getElem?_append_left hi,List.getElem?_eq_getElem hi,e1]) (by rw[List.getElem?_append_right (by omega),Nat.add_sub_cancel_left,List.getElem?_eq_getElem hj,e2])
 omega
def zDI(V:Nat→Prop)(w:World):Prop:=∀b,V b→∀cs t p,w.heap[b]?≠some (.cells cs t p)
theorem zPR{w:World}{a:Addr}{v:Value}(h:w.cell? a=some v):∃cs t p,w.heap[a.block]?=some (.cells cs t p):=by
 unfold World.cell? at h
 split at h
 ·rename_i cs t p hc
  exact⟨cs,t,p,hc⟩
 ·cases h
theorem RepI.more{O V:Nat→Prop}{w:World}(hV:zDI V w):∀{x:CV} {u:Value},RepI O w x u→RepI (fun b=>O b∨V b) w x u:=by
 have no:∀{ad:Addr} {i:Nat} {v:Value},w.cell? (ad.add i)=some v→¬O ad.block→¬(O ad.block∨V ad.block):=fun {ad i v} hc hO hb=>by
  obtain⟨cs,t,p,h⟩:=zPR hc
  rw[zBu]at h;exact hb.elim hO fun h'=>hV _ h' _ _ _ h
 intro x
 induction x with
 | ls n sz F ih=>
   rintro u ⟨A,cap,rfl,hcap,hc⟩
   refine⟨A,cap,rfl,hcap,fun k hk j hj=> ?_⟩
   obtain⟨ad,v,e1,e2,e3,e4,e5⟩:=hc k hk j hj
   exact⟨ad,v,e1,no e3 e2,e3,e4,ih k j e5⟩
 | pl n sz F k j ih=>
   rintro u ⟨ad,rfl,hkn,hc⟩
   refine⟨ad,rfl,hkn,fun k hk j hj=> ?_⟩
   obtain⟨v,e2,e3,e4,e5⟩:=hc k hk j hj
   exact⟨v,no e3 e2,e3,e4,ih k j e5⟩
 | fs f m C ih=>
   rintro u ⟨vs,e1,e2,e3⟩
   exact⟨vs,e1,e2,fun i hi=>let ⟨v,a,b,c⟩:=e3 i hi;⟨v,a,b,ih i c⟩⟩
 | fi f m C ih=>
   rintro u ⟨vs,e1,e2,e3⟩
   exact⟨vs,e1,e2,fun i hi=>let ⟨v,a,b,c⟩:=e3 i hi;⟨v,a,b,ih i c⟩⟩
 | lf n sz F ih=>
   rintro u ⟨A,rfl,hc⟩
   refine⟨A,rfl,fun k hk j hj=> ?_⟩
   obtain⟨ad,v,e1,e2,e3,e4,e5⟩:=hc k hk j hj
   exact⟨ad,v,e1,no e3 e2,e3,e4,ih k j e5⟩
 |p v=>exact fun h=>h
 |any=>exact fun _=>trivial
 |_=>exact fun h=>h.elim
theorem RepB.more{σ:Nat→Option Value}{O V:Nat→Prop}{w:World}(hV:zDI V w){x:CV}{u:Value}(h:RepB σ O w x u):RepB σ (fun b=>O b∨V b) w x u:=by
 cases x with
 |pt id sz k j=>exact h
 |ow id=>exact h
 |_=>exact RepI.more hV h
theorem RepC.more{σ:Nat→Option Value}{O V:Nat→Prop}{w:World}(hV:zDI V w){x:CV}{u:Value}(h:RepC σ O w x u):RepC σ (fun b=>O b∨V b) w x u:=by
 refine⟨h.1,?_⟩
 have h2:=h.2
 cases x with
 | fn f m C=>
   obtain⟨vs,e1,e2,e3⟩:=h2
   exact⟨vs,e1,e2,fun i hi=>let ⟨v,a,b,c⟩:=e3 i hi;⟨v,a,b,c.more hV⟩⟩
 |_=>exact RepB.more hV h2
theorem RepV.more{σ:Nat→Option Value}{O V:Nat→Prop}{w:World}(hV:zDI V w){x:V1}{u:Value}(h:RepV σ O w x u):RepV σ (fun b=>O b∨V b) w x u:=by
 cases x with
 |c x=>exact RepC.more hV h
 |ag l=>obtain⟨vs,e,hl⟩:=h;exact⟨vs,e,hl.mono fun _ _ h1=>h1.more hV⟩
theorem RepA.more{σ:Nat→Option Value}{O V:Nat→Prop}{w:World}(hV:zDI V w){x:AV}{u:Value}(h:RepA σ O w x u):RepA σ (fun b=>O b∨V b) w x u:=by
 cases x with
 |c x=>exact RepC.more hV h
 |ag l=>obtain⟨vs,e,hl⟩:=h;exact⟨vs,e,hl.mono fun _ _ h1=>h1.more hV⟩
 |tu l=>obtain⟨vs,e,hl⟩:=h;exact⟨vs,e,hl.mono fun _ _ h1=>h1.more hV⟩
theorem OBk.more{σ:Nat→Option Value}{O V:Nat→Prop}{w:World}(hV:zDI V w){v:Value}{B:AB}(h:OBk σ O w v B):OBk σ (fun b=>O b∨V b) w v B:=
 h.lendM (F:=B.F) (fun _ _ _ _ _ hu=>hu.more hV) (fun _ _ _ _ _ _ h=>h)
theorem HRel.noLoop{b0:zN}{σ:Nat→Option Value}{h:Nat→Option AB}{w:World}(H:HRel b0 σ h w){b:Nat}{o:Loop}(hb:w.heap[b]?=some (.loop o)):¬own σ h b:=fun ⟨i,v,h1,h2,h3⟩=>by
 cases hB:h i with
 |none=>exact absurd hB h1
 | some B=>
   obtain⟨v',e1,e2⟩:=H.blk i B hB
   rw[h2]at e1
   cases e1
   rcases e2 with ⟨_,rfl,_⟩|⟨b',cap,cs,g1,g2,_⟩|⟨_,_,_,b',o,rfl,g2,g5⟩
   ·cases h3
   ·rw[g1.blk]at h3
    cases h3
    rw[g2]at hb
    cases hb
   ·cases h3
    rw[g2]at hb
    cases hb
    cases g5.1
structure zKD(b0:zN)(σ:Nat→Option Value)(S:St)(V:Nat→Prop)(hE:List (Nat×Option AB))(ni:List Nat)(r':AV)(v:Value)(w w':World)(σ':Nat→Option Value):Prop where
 up:∀i u,σ i=some u→σ' i=some u
 keep:Keep (fun b=>own σ S.h b∨V b) w w'
 hp:HRel b0 σ' (zAb hE S.h) w'
 outs:∀b,out b0 σ' (zAb hE S.h) b→out b0 σ S.h b∨w.heap.size≤b
 rep:RepA σ' (out b0 σ' (zAb hE S.h)) w' r' v
 dom:∀i,σ' i≠none→σ i≠none∨i∈ni
theorem zGs{Cl:List Value→World→(Ending→World→Prop)→Prop}{Pre:zN→Prop}{V:Nat→Prop}{args zBd:List V1}{ids mids ni:List Nat}{bs mv:List AB}{Rl:AV→List AB→List AB→Prop}{b0:zN}{σ:Nat→Option Value}{S:St}{a:Act}{w:World}
 (hmono:∀vals w Q Q',(∀e w,Q e w→Q' e w)→Cl vals w Q→Cl vals w Q') (h:GMc Cl Pre V zBd bs mv Rl) (hVl:∀b,V b→∃o:Loop,w.heap[b]?=some (.loop o)) (hPre:∀b1:zN,b1.w=w→(∀k id,ids[k]?=some id→b1.fix (1000+k)=σ id)→(∀b,b1.X b∨b1.Y b→out b0 σ S.h b∨V b)→(∀b,b1.Y b→own σ S.h b)→(∀b,out b0 σ S.h b→b1.X b∨b1.Y b)→Pre b1) (R:Rel0 b0 σ S a w)
 {vals:List Value} (hv:RepL (RepV σ (out b0 σ S.h) w) args vals) (hla:LeL (zCP ids mids) args zBd) (hL:zBm S ids mids ids bs) (hM:zCQ S mids mv) (hnd:zAx (ids++mids)=true) (hlow:mids.all (fun m=>Nat.blt m 1000)=true) (hml:mv.length≤100) (hni:zAx ni=true) (hfr:∀id∈ni,S.fr id=true):
 Cl vals w fun e w'=>∃v r hs' nw,e=.returned v∧Rl r hs' nw∧∀r' bs' nw',BackA ids ni r r'→zBq ids ni hs' bs'→BackB ids ni nw nw'→bs'.length=bs.length→nw'.length=ni.length→
  ∃σ',zKD b0 σ S V (zO ids bs'++(zO ni nw'++zA7 mids)) ni r' v w w' σ':=by
 obtain⟨hl,hat⟩:=zMG hL
 obtain⟨hl2,hmt⟩:=zMS hM
 obtain⟨hnd1,hnd2,hdis⟩:=zRc hnd
 have own0:∀(k id:Nat),ids[k]?=some id→∃u b,σ id=some u∧zAl u=some b∧own σ S.h b∧S.h id≠none:=fun k id hi=>by
  obtain⟨B,F,_,h2,h3,_⟩:=hat k id hi
  obtain⟨v,e1,e2⟩:=R.hp.blk id _ h2
  have hne:S.h id≠none:=by rw[h2];simp
  rcases e2 with ⟨g0,_,g⟩|⟨b,cap,cs,g1,_⟩|⟨_,_,_,b,o,rfl,_⟩
  ·have:=h3 g0
   have:B.n=0:=g
   omega
  ·exact⟨v,b,e1,g1.blk,⟨id,v,hne,e1,g1.blk⟩,hne⟩
  ·exact⟨_,b,e1,rfl,⟨id,_,hne,e1,rfl⟩,hne⟩
 have mov0:∀(k id:Nat),mids[k]?=some id→(∃u,σ id=some u)∧S.h id≠none∧id<1000:=fun k id hi=>by
  obtain⟨B,F,_,h2,_⟩:=hmt k id hi
  obtain⟨v,e1,_⟩:=R.hp.blk id _ h2
  exact⟨⟨v,e1⟩,by rw[h2];simp,Nat.blt_eq.mp (List.all_eq_true.1 hlow id (List.mem_of_getElem? hi))⟩
 let σ1:Nat→Option Value:=fun i=>if 1000≤i then (ids[i-1000]?).bind σ else if 800≤i then (mids[i-800]?).bind σ else none
 let fix:Nat→Option Value:=fun i=>if 1000≤i then (ids[i-1000]?).bind σ else none
 have hfix:∀{i:Nat} {v:Value},fix i=some v→1000≤i∧∃id,ids[i-1000]?=some id∧σ id=some v:=fun {i v} h=>by
  simp only[fix]at h
  split at h
  ·rename_i h1
   obtain⟨id,e1,e2⟩:=Option.bind_eq_some_iff.1 h
   exact⟨h1,id,e1,e2⟩
  ·cases h
 have hσ1:∀{i:Nat} {v:Value},σ1 i=some v→(1000≤i∧∃id,ids[i-1000]?=some id∧σ id=some v)∨(800≤i∧i<900∧∃id,mids[i-800]?=some id∧σ id=some v):=fun {i v} h=>by
  simp only[σ1]at h
  split at h
  ·rename_i h1
   obtain⟨id,e1,e2⟩:=Option.bind_eq_some_iff.1 h
   exact .inl ⟨h1,id,e1,e2⟩
  ·split at h
   ·rename_i h0 h1
    obtain⟨id,e1,e2⟩:=Option.bind_eq_some_iff.1 h
    have:=(List.getElem?_eq_some_iff.1 e1).1;exact .inr ⟨h1,by omega,id,e1,e2⟩
   ·cases h
 have s1l:∀(k id:Nat),ids[k]?=some id→σ1 (1000+k)=σ id:=fun k id hk=>by
  simp only[σ1]
  rw[if_pos (by omega),show 1000+k-1000=k by omega,hk]
  rfl
 have s1m:∀(k id:Nat),mids[k]?=some id→σ1 (800+k)=σ id:=fun k id hk=>by
  have:=(List.getElem?_eq_some_iff.1 hk).1
  simp only[σ1]
  rw[if_neg (by omega),if_pos (by omega),show 800+k-800=k by omega,hk]
  rfl
 have fixl:∀(k id:Nat),ids[k]?=some id→fix (1000+k)=σ id:=fun k id hk=>by
  simp only[fix]
  rw[if_pos (by omega),show 1000+k-1000=k by omega,hk]
  rfl
 have fixσ:∀i v,fix i=some v→σ1 i=some v:=fun i v hi=>by
  have h1:=(hfix hi).1
  simp only[fix,if_pos h1]at hi
  simp only[σ1,if_pos h1]
  exact hi
 let Y:Nat→Prop:=fun b=>∃i v,σ1 i=some v∧zAl v=some b
 have hYo:∀b,Y b→own σ S.h b:=fun b ⟨i,v,h1,h2⟩=>by
  rcases hσ1 h1 with ⟨_,id,e1,e2⟩|⟨_,_,id,e1,e2⟩
  ·obtain⟨_,_,_,_,_,hne⟩:=own0 _ id e1
   exact⟨id,v,hne,e2,h2⟩
  ·exact⟨id,v,(mov0 _ id e1).2.1,e2,h2⟩
 have hVno:∀b,V b→¬own σ S.h b:=fun b hb=>let ⟨_,ho⟩:=hVl b hb;R.hp.noLoop ho
 have hVn:zDI V w:=fun b hb cs t p h=>by
  obtain⟨o,ho⟩:=hVl b hb
  rw[ho]at h
  cases h
 let b1:zN:=⟨w,fun b=>(out b0 σ S.h b∧¬Y b)∨V b,Y,fix,fun b hb=>hb.elim (fun h=>zDh R h.1) (fun h=>let ⟨_,ho⟩:=hVl b h;(Array.getElem?_eq_some_iff.1 ho).1),fun b hb=>R.hp.lt (hYo b hb),fun b hb hy=>hb.elim (fun h=>h.2 hy) (fun h=>hVno b h (hYo b hy)),fun i v hi=>by
  obtain⟨h1,id,e1,e2⟩:=hfix hi
  obtain⟨v',b,e3,e4,_⟩:=own0 _ id e1
  rw[e2]at e3
  cases e3
  exact⟨h1,b,e4⟩,fun _ _=>False,fun _ _ _=>True,none,fun _ _ h=>h.elim,fun _ _ _ _ _ _ _ _=>trivial⟩
 have begl:∀(k id:Nat),ids[k]?=some id→zD (zA6 mv bs) (1000+k)=bs[k]?:=fun k id hk=>by
  rw[zFy hml,if_pos (by omega),show 1000+k-1000=k by omega]
 have begm:∀(k id:Nat),mids[k]?=some id→zD (zA6 mv bs) (800+k)=mv[k]?:=fun k id hk=>by
  have:=(List.getElem?_eq_some_iff.1 hk).1;rw[zFy hml,if_neg (by omega),if_pos (by omega),show 800+k-800=k by omega]
 have begn:∀{i:Nat} {v:Value},σ1 i=some v→zD (zA6 mv bs) i≠none:=fun {i v} hi=>by
  rcases hσ1 hi with ⟨h1,id,e1,e2⟩|⟨h1,h2,id,e1,e2⟩
  ·have:=(List.getElem?_eq_some_iff.1 e1).1
   rw[zFy hml,if_pos h1,List.getElem?_eq_getElem (by omega)]
   simp
  ·have:=(List.getElem?_eq_some_iff.1 e1).1
   rw[zFy hml,if_neg (by omega),if_pos h1,List.getElem?_eq_getElem (by omega)]
   simp
 have ownY:∀b,own σ1 (zD (zA6 mv bs)) b↔Y b:=fun b=>⟨fun ⟨i,v,_,h2,h3⟩=>⟨i,v,h2,h3⟩,fun ⟨i,v,h2,h3⟩=>⟨i,v,begn h2,h2,h3⟩⟩
 have outs:∀b,out b1 σ1 (zD (zA6 mv bs)) b→out b0 σ S.h b∨V b:=fun b hb=>by
  rcases hb with h|h|h
  ·exact .inl (.inl (hYo b ((ownY b).1 h)))
  ·exact .inl h.1
  ·exact .inr h
 have p1:∀i id,zT ids id=some i→∀u,σ id=some u→σ1 (1000+i)=some u:=fun i id hp u hu=>(s1l i id (zAR hp)).trans hu
 have p2:∀i id,zT mids id=some i→∀u,σ id=some u→σ1 (800+i)=some u:=fun i id hp u hu=>(s1m i id (zAR hp)).trans hu
 have back:∀{i:Nat} {v:Value},σ1 i=some v→∃id,S.h id≠none∧σ id=some v∧((1000≤i∧ids[i-1000]?=some id)∨(800≤i∧i<900∧mids[i-800]?=some id)):=fun {i v} hi=>by
  rcases hσ1 hi with ⟨h1,id,e1,e2⟩|⟨h1,h2,id,e1,e2⟩
  ·obtain⟨_,_,_,_,_,hne⟩:=own0 _ id e1
   exact⟨id,hne,e2,.inl ⟨h1,e1⟩⟩
  ·exact⟨id,(mov0 _ id e1).2.1,e2,.inr ⟨h1,h2,e1⟩⟩
 have inj1:∀(i j:Nat) (v1 v2:Value) (b:Nat),σ1 i=some v1→σ1 j=some v2→zAl v1=some b→zAl v2=some b→i=j:=fun i j v1 v2 b h1 h2 e1 e2=>by
  obtain⟨id1,n1,s1,c1⟩:=back h1
  obtain⟨id2,n2,s2,c2⟩:=back h2
  have:=R.hp.inj id1 id2 v1 v2 b n1 n2 s1 s2 e1 e2;subst this
  rcases c1 with ⟨a1,a2⟩|⟨a1,a2,a3⟩
  ·rcases c2 with ⟨d1,d2⟩|⟨d1,d2,d3⟩
   ·have:=zDA hnd1 a2 d2
    omega
   ·exact absurd (List.mem_of_getElem? d3) (hdis id1 (List.mem_of_getElem? a2))
  ·rcases c2 with ⟨d1,d2⟩|⟨d1,d2,d3⟩
   ·exact absurd (List.mem_of_getElem? a3) (hdis id1 (List.mem_of_getElem? d2))
   ·have:=zDA hnd2 a3 d3
    omega
 have H1:HRel b1 σ1 (zD (zA6 mv bs)) w:=by
  refine⟨fun i B hB=> ?_,fun i j v1 v2 b hi hj h1 h2 e1 e2=>inj1 i j v1 v2 b h1 h2 e1 e2,fun b hb=>.inr ((ownY b).1 hb),fun i v hi=>⟨fixσ i v hi,begn (fixσ i v hi)⟩,fun i hi hf=> ?_⟩
  ·rw [zFy hml]at hB
   by_cases h1:1000≤i
   ·rw[if_pos h1]at hB
    have hlt:=(List.getElem?_eq_some_iff.1 hB).1
    obtain⟨id,hid⟩:∃id,ids[i-1000]?=some id:=⟨_,List.getElem?_eq_getElem (by omega)⟩
    obtain⟨B',F,g1,g2,g3,g4⟩:=hat _ id hid
    rw[g1]at hB
    cases hB
    obtain⟨v,k1,k2⟩:=R.hp.blk id _ g2
    refine⟨v,?_,k2.lendM (fun k hk j hj u hu=>(g4 k hk j hj).rep outs p1 p2 (hu.more hVn)) fun k hk j hj b o ho=>(g4 k hk j hj).mo ho⟩
    have:=s1l _ id hid;rw[show 1000+(i-1000)=i by omega]at this;exact this.trans k1
   ·rw[if_neg h1]at hB
    by_cases h2:800≤i
    ·rw[if_pos h2]at hB
     have hlt:=(List.getElem?_eq_some_iff.1 hB).1
     obtain⟨id,hid⟩:∃id,mids[i-800]?=some id:=⟨_,List.getElem?_eq_getElem (by omega)⟩
     obtain⟨B',F,g1,g2,g3,g4⟩:=hmt _ id hid
     rw[g1]at hB
     cases hB
     obtain⟨v,k1,k2⟩:=R.hp.blk id _ g2
     rw[←g3]at k2
     refine⟨v,?_,k2.lendM (fun k hk j hj u hu=> ?_) fun k hk j hj b o ho=> ?_⟩
     ·have:=s1m _ id hid
      rw[show 800+(i-800)=i by omega]at this;exact this.trans k1
     ·obtain⟨q1,q2⟩:=g4 k hk j hj
      rw[q1]at hu;exact zBF q2 hu.1 ((zBo q2 (hu.more hVn)).less outs)
     ·obtain⟨q1,q2⟩:=g4 k hk j hj
      rwa [q1]at ho
    ·rw[if_neg h2]at hB;cases hB
  ·simp only[b1,fix,if_pos hi]at hf
   simp only[σ1,if_pos hi]
   exact hf
 have hXo:∀b,b0.X b→¬own σ S.h b:=fun b hX ho=>by
  rcases R.hp.new b ho with h|h
  ·have:=b0.lt b hX;omega
  ·exact b0.dis b hX h
 refine hmono _ _ _ _ (fun e w' ⟨v,τ,r,hs',nw,g1,g2,g3,g4,G,gr,gK⟩=>⟨v,r,hs',nw,g1,g2,fun r' bs' nw' hr' hbs hnw hlb hln=> ?_⟩) (h b1 σ1 vals (hPre b1 rfl (fun k id hk=>fixl k id hk) (fun b hb=>hb.elim (fun h=>h.elim (fun h=>.inl h.1) .inr) fun h=>.inl (.inl (hYo b h))) hYo (fun b hb=>(Classical.em (Y b)).elim .inr fun h=>.inl (.inl ⟨hb,h⟩))) (fun b hb=>.inr hb) H1 (fun i v hi=> ?_) (fun i v hi=> ?_) (fun b hb=>(ownY b).2 hb) ?_)
 ·obtain⟨h1,id,e1,_⟩:=hfix hi
  have:=(List.getElem?_eq_some_iff.1 e1).1
  omega
 ·rcases hσ1 hi with ⟨h1,id,e1,e2⟩|⟨h1,h2,_⟩
  ·left
   have:=fixl _ id e1;rw[show 1000+(i-1000)=i by omega]at this;exact this.trans e2
  ·exact .inr ⟨h1,h2⟩
 ·have rv:∀{x y:V1} {u:Value},zCP ids mids x y→RepV σ (out b0 σ S.h) w x u→RepV σ1 (out b1 σ1 (zD (zA6 mv bs))) w y u:=fun {x y u} hxy hu=>by
   cases hxy with
   |c h=>exact h.rep outs p1 p2 (RepC.more hVn hu)
   |ag h=>obtain⟨vs,rfl,e⟩:=hu;exact⟨vs,rfl,LeL.get (fun x y v hxy hv=>hxy.rep outs p1 p2 (RepC.more hVn hv)) h e⟩
  have rvL:∀{l m:List V1} {us:List Value},LeL (zCP ids mids) l m→RepL (RepV σ (out b0 σ S.h) w) l us→RepL (RepV σ1 (out b1 σ1 (zD (zA6 mv bs))) w) m us:=fun {l}=>by
   induction l with
   | nil=>intro m us h hu;cases m with
     | nil=>cases us with
       |nil=>trivial
       |cons=>exact hu.elim
     |cons=>exact h.elim
   | cons x l ih=>intro m us h hu;cases m with
     |nil=>exact h.elim
     | cons y m=>cases us with
       |nil=>exact hu.elim
       |cons u us=>exact⟨rv h.1 hu.1,ih h.2 hu.2⟩
  exact rvL hla hv
 ·have lowN:∀id∈ni,σ id=none∧id<1000:=fun id hid=>R.fr id (hfr id hid)
  have e3l:hs'.length=ids.length:=by rw[g3,hl]
  have τfix:∀i v,fix i=some v→τ i=some v:=fun i v hi=>(G.fx i v hi).1
  obtain⟨hbl0,hbk⟩:=zLd hbs
  obtain⟨hnl,hnk⟩:=zGH hnw
  have hnl':nw.length=ni.length:=hnl.trans hln;have hbl':bs'.length=ids.length:=hlb.trans hl.symm
  let σ':Nat→Option Value:=fun i=>match zT ni i with|some k=>τ (900+k)|none=>σ i
  have σo:∀i,i∉ni→σ' i=σ i:=fun i hi=>by
   simp only[σ']
   cases hp:zT ni i with
   |none=>rfl
   |some k=>exact absurd (List.mem_of_getElem? (zAR hp)) hi
  have σup:∀i u,σ i=some u→σ' i=some u:=fun i u hu=>by
   rw[σo i fun hi=>by rw[(lowN i hi).1]at hu;cases hu];exact hu
  have σn:∀k id,zT ni id=some k→σ' id=τ (900+k):=fun k id hp=>by simp only[σ',hp]
  have hsub:∀i,S.h i≠none→i∉ni:=fun i hi hm=>by
   cases hB:S.h i with
   |none=>exact hi hB
   | some B=>
     obtain⟨v,e,_⟩:=R.hp.blk i B hB
     rw[(lowN i hm).1]at e
     cases e
  have endk:∀k,k<nw.length→zD (zAy nw hs') (900+k)≠none:=fun k hk=>by
   rw[zBP g4,if_neg (by omega),if_pos (by omega),show 900+k-900=k by omega,List.getElem?_eq_getElem hk]
   simp
  have NB:∀k v b,k<nw.length→τ (900+k)=some v→zAl v=some b→w.heap.size≤b∨∃mid u,mid∈mids∧σ mid=some u∧zAl u=some b:=fun k v b hk h1 h2=>by
   rcases G.new b ⟨900+k,v,endk k hk,h1,h2⟩with h|⟨i,v',h3,h4⟩
   ·exact .inl h
   ·rcases hσ1 h3 with ⟨i1,id,e1,e2⟩|⟨_,_,id,e1,e2⟩
    ·exfalso
     have hf:fix i=some v':=by
      have:=fixl _ id e1;rw[show 1000+(i-1000)=i by omega]at this;exact this.trans e2
     have:=G.inj (900+k) i v v' b (endk k hk) (G.fx i v' hf).2 h1 (τfix i v' hf) h2 h4
     omega
    ·exact .inr ⟨id,v',List.mem_of_getElem? e1,e2,h4⟩
  have hlook:∀i,(∃k B,zT ids i=some k∧bs'[k]?=some B∧zAb (zO ids bs'++(zO ni nw'++zA7 mids)) S.h i=some B)∨(∃k B,zT ni i=some k∧nw'[k]?=some B∧i∉ids∧zAb (zO ids bs'++(zO ni nw'++zA7 mids)) S.h i=some B)∨(i∉ids∧i∉ni∧i∈mids∧zAb (zO ids bs'++(zO ni nw'++zA7 mids)) S.h i=none)∨(i∉ids∧i∉ni∧i∉mids∧zAb (zO ids bs'++(zO ni nw'++zA7 mids)) S.h i=S.h i):=fun i=>by
   rw[zI7,zI7];by_cases hm:i∈ids
   ·obtain⟨k,hp⟩:=zEU hm
    have e1:=zAR hp;have hk:=(List.getElem?_eq_some_iff.1 e1).1;have e2:bs'[k]?=some (bs'[k]'(by omega)):=List.getElem?_eq_getElem _;exact .inl ⟨k,_,hp,e2,zD8 hbl'.symm hnd1 k _ _ _ e1 e2⟩
   ·rw[zD9 i _ hm]
    by_cases hm2:i∈ni
    ·obtain⟨k,hp⟩:=zEU hm2
     have e1:=zAR hp;have hk:=(List.getElem?_eq_some_iff.1 e1).1;have e2:nw'[k]?=some (nw'[k]'(by omega)):=List.getElem?_eq_getElem _;exact .inr (.inl ⟨k,_,hp,e2,hm,zD8 hln.symm hni k _ _ _ e1 e2⟩)
    ·rw[zD9 i _ hm2]
     by_cases hm3:i∈mids
     ·exact .inr (.inr (.inl ⟨hm,hm2,hm3,zL2 hm3⟩))
     ·exact .inr (.inr (.inr ⟨hm,hm2,hm3,zQb hm3⟩))
  have nilt:∀i k,zT ni i=some k→k<nw.length:=fun i k hp=>by
   have:=(List.getElem?_eq_some_iff.1 (zAR hp)).1
   omega
  have bk1:∀i id,zT ids id=some i→∀u,τ (1000+i)=some u→σ' id=some u:=fun i id hp u hu=>by
   have e1:=zAR hp
   obtain⟨v',b,e2,_⟩:=own0 i id e1
   have:=τfix _ _ ((fixl i id e1).trans e2);rw[hu]at this
   cases this
   exact σup _ _ e2
  have bk2:∀i id,zT ni id=some i→∀u,τ (900+i)=some u→σ' id=some u:=fun i id hp u hu=>(σn i id hp).trans hu
  have cls:∀i v b,zAb (zO ids bs'++(zO ni nw'++zA7 mids)) S.h i≠none→σ' i=some v→zAl v=some b→(S.h i≠none∧σ i=some v∧i∉mids)∨∃k,zT ni i=some k∧k<nw.length∧τ (900+k)=some v:=fun i v b hi hv hb=>by
   rcases hlook i with ⟨k,B',hp,_,_⟩|⟨k,B',hp,_,_,_⟩|⟨_,_,_,e⟩|⟨hn1,hn2,hn3,e⟩
   ·obtain⟨u,b',e2,e3,e4,e5⟩:=own0 k i (zAR hp)
    rw[σup _ _ e2]at hv
    cases hv
    exact .inl ⟨e5,e2,hdis i (List.mem_of_getElem? (zAR hp))⟩
   ·rw[σn k i hp]at hv
    exact .inr ⟨k,hp,nilt i k hp,hv⟩
   ·exact absurd e hi
   ·rw[e]at hi
    rw[σo i hn2]at hv;exact .inl ⟨hi,hv,hn3⟩
  have ownC:∀b,own σ' (zAb (zO ids bs'++(zO ni nw'++zA7 mids)) S.h) b→(own σ S.h b∧∀mid u,mid∈mids→σ mid=some u→zAl u≠some b)∨∃k v,k<nw.length∧τ (900+k)=some v∧zAl v=some b:=fun b ⟨i,v',h1,h2,h3⟩=>by
   rcases cls i v' b h1 h2 h3 with ⟨a1,a2,a3⟩|⟨k,a1,a2,a3⟩
   ·refine .inl ⟨⟨i,v',a1,a2,h3⟩,fun mid u hm hu hb=>a3 ?_⟩
    obtain⟨k,hk,rfl⟩:=List.getElem_of_mem hm
    have:=R.hp.inj i mids[k] v' u b a1 (mov0 k _ (List.getElem?_eq_getElem hk)).2.1 a2 hu h3 hb;rw[this];exact hm
   ·exact .inr ⟨k,v',a2,a3,h3⟩
  have ownM:∀mid u b,mid∈mids→σ mid=some u→zAl u=some b→own σ S.h b:=fun mid u b hm hu hb=>by
   obtain⟨k,hk,rfl⟩:=List.getElem_of_mem hm
   exact⟨mids[k],u,(mov0 k _ (List.getElem?_eq_getElem hk)).2.1,hu,hb⟩
  have hO':∀b,out b0 σ' (zAb (zO ids bs'++(zO ni nw'++zA7 mids)) S.h) b→out b0 σ S.h b∨w.heap.size≤b:=fun b hb=>by
   rcases hb with hb|hb
   ·rcases ownC b hb with h|⟨k,v',h1,h2,h3⟩
    ·exact .inl (.inl h.1)
    ·rcases NB k v' b h1 h2 h3 with h|⟨mid,u,q1,q2,q3⟩
     ·exact .inr h
     ·exact .inl (.inl (ownM mid u b q1 q2 q3))
   ·exact .inl (.inr hb)
  have O1:∀b,out b0 σ S.h b→(∀mid u,mid∈mids→σ mid=some u→zAl u≠some b)→out b1 τ (zD (zAy nw hs')) b:=fun b hb hno=>by
   by_cases hy:Y b
   ·obtain⟨i,v',h1,h2⟩:=hy
    rcases hσ1 h1 with ⟨i1,id,e1,e2⟩|⟨_,_,id,e1,e2⟩
    ·have hf:fix i=some v':=by
      have:=fixl _ id e1;rw[show 1000+(i-1000)=i by omega]at this;exact this.trans e2
     exact .inl ⟨i,v',(G.fx i v' hf).2,τfix i v' hf,h2⟩
    ·exact absurd h2 (hno id v' (List.mem_of_getElem? e1) e2)
   ·exact .inr (.inl ⟨hb,hy⟩)
  have hXM:∀b,b0.X b→∀mid u,mid∈mids→σ mid=some u→zAl u≠some b:=fun b hX mid u hm hu hb=>hXo b hX (ownM mid u b hm hu hb)
  have hO2:∀b,out b0 σ' (zAb (zO ids bs'++(zO ni nw'++zA7 mids)) S.h) b→out b1 τ (zD (zAy nw hs')) b:=fun b hb=>by
   rcases hb with hb|hb
   ·rcases ownC b hb with ⟨h1,h2⟩|⟨k,v',h1,h2,h3⟩
    ·exact O1 b (.inl h1) h2
    ·exact .inl ⟨900+k,v',endk k h1,h2,h3⟩
   ·exact O1 b (.inr hb) (hXM b hb)
  have hK:Keep (fun b=>own σ S.h b∨V b) w w':=⟨gK.os,gK.tape,gK.output,gK.size,fun k hk hno=>gK.block k hk fun hy=>hno (hy.imp (hYo k) id)⟩;have hKo:Keep (fun b=>out b0 σ S.h b∨V b) w w':=hK.less fun b hb=>hb.imp .inl id
  have H':HRel b0 σ' (zAb (zO ids bs'++(zO ni nw'++zA7 mids)) S.h) w':=by
   refine⟨fun i B hB=> ?_,fun i j v1 v2 b hi hj h1 h2 h3 h4=> ?_,fun b hb=> ?_,fun i v' hi=> ?_,fun i hi hf=> ?_⟩
   ·rcases hlook i with ⟨k,B',hp,e2,e3⟩|⟨k,B',hp,e2,_,e3⟩|⟨_,_,_,e⟩|⟨hn1,hn2,hn3,e⟩
    ·rw[e3]at hB
     cases hB
     obtain⟨G0,q1,q2⟩:=hbk k B e2
     have hB1:zD (zAy nw hs') (1000+k)=some ⟨B.row,B.n,B.sz,B.ty,G0⟩:=by rw[zBP g4,if_pos (by omega),show 1000+k-1000=k by omega];exact q1
     obtain⟨v',k1,k2⟩:=G.blk (1000+k) _ hB1
     exact⟨v',bk1 k i hp v' k1,k2.lendM (fun k hk j hj u hu=>(q2 k hk j hj).rep hO2 bk1 bk2 hu) fun k hk j hj b o ho=>(q2 k hk j hj).mo ho⟩
    ·rw[e3]at hB
     cases hB
     obtain⟨G0,q1,q2⟩:=hnk k B e2
     have hB1:zD (zAy nw hs') (900+k)=some ⟨B.row,B.n,B.sz,B.ty,G0⟩:=by
      have:=nilt i k hp;rw[zBP g4,if_neg (by omega),if_pos (by omega),show 900+k-900=k by omega];exact q1
     obtain⟨v',k1,k2⟩:=G.blk (900+k) _ hB1
     exact⟨v',bk2 k i hp v' k1,k2.back hO2 bk1 bk2 q2⟩
    ·rw[e]at hB;cases hB
    ·rw[e]at hB
     obtain⟨v',k1,k2⟩:=R.hp.blk i B hB
     have hne:S.h i≠none:=by rw[hB];simp
     refine⟨v',σup _ _ k1,(k2.more hVn).keep hKo (fun b hb=>(hO' b hb).imp .inl id) σup fun b hb=> ?_⟩
     have hbo:own σ S.h b:=⟨i,v',hne,k1,hb⟩;refine gK.block b (R.hp.lt hbo) fun hyv=> ?_
     obtain⟨j,u,h1,h2⟩:=hyv.resolve_right fun h=>hVno b h hbo
     obtain⟨id,c0,c1,c2⟩:=back h1
     have:=R.hp.inj i id v' u b hne c0 k1 c1 hb h2;subst this
     rcases c2 with ⟨_,c2⟩|⟨_,_,c2⟩
     ·exact hn1 (List.mem_of_getElem? c2)
     ·exact hn3 (List.mem_of_getElem? c2)
   · -- no two on one block
     have mix:∀i k v1 v2,S.h i≠none→σ i=some v1→i∉mids→k<nw.length→τ (900+k)=some v2→zAl v1=some b→zAl v2=some b→False:=fun i k v1 v2 a1 a2 a3 c2 c3 h3 h4=>by
      rcases NB k v2 b c2 c3 h4 with h|⟨mid,u,q1,q2,q3⟩
      ·have:=R.hp.lt ⟨i,v1,a1,a2,h3⟩
       omega
      ·obtain⟨k,hk,rfl⟩:=List.getElem_of_mem q1
       have:=R.hp.inj i mids[k] v1 u b a1 (mov0 k _ (List.getElem?_eq_getElem hk)).2.1 a2 q2 h3 q3;exact a3 (by rw[this];exact q1)
     rcases cls i v1 b hi h1 h3 with ⟨a1,a2,a3⟩|⟨k1,a1,a2,a3⟩
     ·rcases cls j v2 b hj h2 h4 with ⟨c1,c2,c3⟩|⟨k2,c1,c2,c3⟩
      ·exact R.hp.inj i j v1 v2 b a1 c1 a2 c2 h3 h4
      ·exact(mix i k2 v1 v2 a1 a2 a3 c2 c3 h3 h4).elim
     ·rcases cls j v2 b hj h2 h4 with ⟨c1,c2,c3⟩|⟨k2,c1,c2,c3⟩
      ·exact(mix j k1 v2 v1 c1 c2 c3 a2 a3 h4 h3).elim
      ·have:=G.inj (900+k1) (900+k2) v1 v2 b (endk k1 a2) (endk k2 c2) a3 c3 h3 h4
       obtain rfl:k1=k2:=by omega
       have e1:=zAR a1;rw[zAR c1]at e1
       exact(Option.some.inj e1).symm
   ·rcases ownC b hb with h|⟨k,v',h1,h2,h3⟩
    ·exact R.hp.new b h.1
    ·rcases NB k v' b h1 h2 h3 with h|⟨mid,u,q1,q2,q3⟩
     ·have:=R.ext.size
      exact .inl (by omega)
     ·exact R.hp.new b (ownM mid u b q1 q2 q3)
   ·obtain⟨a1,a2⟩:=R.hp.fx i v' hi
    have hn:i∉ni:=hsub i a2;have hm:i∉mids:=fun hm=>by
     obtain⟨k,hk,rfl⟩:=List.getElem_of_mem hm
     have:=(mov0 k _ (List.getElem?_eq_getElem hk)).2.2;have:=(b0.one _ v' hi).1
     omega
    refine⟨(σo i hn).trans a1,?_⟩
    rcases hlook i with ⟨k,B',hp,_,e3⟩|⟨k,B',hp,_,_,e3⟩|⟨_,_,h3,_⟩|⟨hn1,hn2,_,e⟩
    ·rw[e3];simp
    ·rw[e3];simp
    ·exact absurd h3 hm
    ·rw[e];exact a2
   ·rw[σo i fun hm=>by have:=(lowN i hm).2;omega]
    exact R.hp.big i hi hf
  exact⟨σ',σup,hK,H',hO',hr'.rep hO2 bk1 bk2 gr,fun i hi=>by
   by_cases hm:i∈ni
   ·exact .inr hm
   ·rw[σo i hm]at hi;exact .inl hi⟩
theorem zOO{pre:(Nat→Option Value)→Prop}{f:FuncId}{args zBd:List V1}{ids mids ni:List Nat}{bs mv:List AB}{Rl:AV→List AB→List AB→Prop}{b0:zN}{σ:Nat→Option Value}{S:St}{a:Act}{w:World}{dst:Option Tmp}
 (h:GMP P f pre zBd bs mv Rl) (R:Rel0 b0 σ S a w) (hpre:∀fx:Nat→Option Value,(∀k id,ids[k]?=some id→fx (1000+k)=σ id)→pre fx) (hd:dOk S.n dst=true)
 {vals:List Value} (hv:RepL (RepV σ (out b0 σ S.h) w) args vals) (hla:LeL (zCP ids mids) args zBd) (hL:zBm S ids mids ids bs) (hM:zCQ S mids mv) (hnd:zAx (ids++mids)=true) (hlow:mids.all (fun m=>Nat.blt m 1000)=true) (hml:mv.length≤100) (hni:zAx ni=true) (hfr:∀id∈ni,S.fr id=true):
 Calls P f vals.toArray w fun e w'=>∃v r hs' nw,e=.returned v∧Rl r hs' nw∧∀r' bs' nw',BackA ids ni r r'→zBq ids ni hs' bs'→BackB ids ni nw nw'→bs'.length=bs.length→nw'.length=ni.length→
  Rel b0 (S.eff dst ⟨r',zO ids bs'++(zO ni nw'++zA7 mids),ni⟩) (a.put dst v) w':=
 (zGs (fun vals w Q Q' hq h=>h.mono hq) h (fun _ h=>h.elim) (fun b1 _ e2 _ _ _=>hpre b1.fix e2) R hv hla hL hM hnd hlow hml hni hfr).mono fun e w' ⟨v,r,hs',nw,g1,g2,g3⟩=>⟨v,r,hs',nw,g1,g2,fun r' bs' nw' k1 k2 k3 k4 k5=>by
   obtain⟨σ',C⟩:=g3 r' bs' nw' k1 k2 k3 k4 k5
   exact⟨σ',R.step (e:=⟨r',zO ids bs'++(zO ni nw'++zA7 mids),ni⟩) hd C.up (C.keep.less fun b hb=>hb.elim id fun h=>h.elim) C.hp C.outs (fun _=>C.rep) C.dom⟩⟩
theorem zON{f:FuncId}{args zBd:List V1}{ids mids ni:List Nat}{bs mv:List AB}{Rl:AV→List AB→List AB→Prop}{b0:zN}{σ:Nat→Option Value}{S:St}{a:Act}{w:World}{dst:Option Tmp}
 (h:GM P f zBd bs mv Rl) (R:Rel0 b0 σ S a w) (hd:dOk S.n dst=true)
 {vals:List Value} (hv:RepL (RepV σ (out b0 σ S.h) w) args vals) (hla:LeL (zCP ids mids) args zBd) (hL:zBm S ids mids ids bs) (hM:zCQ S mids mv) (hnd:zAx (ids++mids)=true) (hlow:mids.all (fun m=>Nat.blt m 1000)=true) (hml:mv.length≤100) (hni:zAx ni=true) (hfr:∀id∈ni,S.fr id=true):
 Calls P f vals.toArray w fun e w'=>∃v r hs' nw,e=.returned v∧Rl r hs' nw∧∀r' bs' nw',BackA ids ni r r'→zBq ids ni hs' bs'→BackB ids ni nw nw'→bs'.length=bs.length→nw'.length=ni.length→
  Rel b0 (S.eff dst ⟨r',zO ids bs'++(zO ni nw'++zA7 mids),ni⟩) (a.put dst v) w':=
 zOO (pre:=fun _=>True) h R (fun _ _=>trivial) hd hv hla hL hM hnd hlow hml hni hfr
section ops
variable{ops:Array Oper}{rest:List Oper}{acc:List (List Nat×List Nat)}{S:St}{Q:List (List Nat×List Nat)→St→Prop}{dst:Option Tmp}{ty:TypeId}{pos:String}{after:Array Edge}{guard:Option (Nat×Bool)}
theorem zMH{S S1:St}{ids mids:List Nat}:∀{l:List Nat} {bs:List AB},(∀id∈l,S1.h id=S.h id)→zBm S ids mids l bs→zBm S1 ids mids l bs
 | [],[],_,_=>trivial
 |id::l,B::bs,hh,h=>⟨by rw[hh id (by simp)];exact h.1,zMH (fun i hi=>hh i (by simp[hi])) h.2⟩
 | [],_::_,_,h=>h.elim
 |_::_,[],_,h=>h.elim
theorem zMT{S S1:St}:∀{l:List Nat} {bs:List AB},(∀id∈l,S1.h id=S.h id)→zCQ S l bs→zCQ S1 l bs
 | [],[],_,_=>trivial
 |id::l,B::bs,hh,h=>⟨by rw[hh id (by simp)];exact h.1,zMT (fun i hi=>hh i (by simp[hi])) h.2⟩
 | [],_::_,_,h=>h.elim
 |_::_,[],_,h=>h.elim
theorem zCM{f:FuncId}{fn:Func}{z:Operand}{cap:List V1}{xs:Array Operand}{ats:Array TypeId}{args zBd:List V1}{r r':AV}(ids mids ni:List Nat)(bs mv hs' nw bs' nw':List AB)(hw:S.wants ops {dst,op:=.call {callee:=.value z,args:=xs,argTypes:=ats},type:=ty,pos,after,guard}=some true)(hd:dOk S.n dst=true)
 (hz:FnV S z f cap) (ha:S.opds xs.toList=some args) (hf:P.funcs[f]?=some fn) (hb:fn.body.isNone=false) (hnm:(fn.name== "runtime.NumGoroutine")=false) (hL:zBm S ids mids ids bs) (hM:zCQ S mids mv)
 (hnd:(zAx (ids++mids) && mids.all (fun m=>Nat.blt m 1000) && Nat.ble mv.length 100 && zAx ni && ni.all (fun i=>S.fr i) && Nat.beq bs'.length bs.length && Nat.beq nw'.length ni.length)=true) (hla:LeL (zCP ids mids) (args++cap) zBd) (hr:BackA ids ni r r') (hbk:zBq ids ni hs' bs') (hnw:BackB ids ni nw nw')
 (hc:zFl P f zBd bs mv r hs' nw)
 (hn:AList P ops rest ((ids++mids++ni,(zO ids bs'++(zO ni nw'++zA7 mids)).map (·.1)++ni)::acc) (S.eff dst ⟨r',zO ids bs'++(zO ni nw'++zA7 mids),ni⟩) Q):AList P ops ({dst,op:=.call {callee:=.value z,args:=xs,argTypes:=ats},type:=ty,pos,after,guard}::rest) acc S Q:=
 AList.cons (ids++mids) ⟨r',zO ids bs'++(zO ni nw'++zA7 mids),ni⟩ (LStep.of hw fun S1 hA hr1 hal b0 σ a w R=>by
  simp only[Bool.and_eq_true]at hnd
  obtain⟨⟨⟨⟨⟨⟨n1,n2⟩,n3⟩,n4⟩,n5⟩,n6⟩,n7⟩:=hnd
  have h2:S1.opds xs.toList=some args:=(zCJ fun x hx=>hA.op x (by simp only[Op.operands,Call.operands];simp;exact .inr (by simpa using hx))).trans ha
  obtain⟨vs,e1,e2⟩:=(hz.congr (hA.op z (by simp[Op.operands,Call.operands]))).rep R
  have:=zON (dst:=dst) hc R (by rw[hA.n];exact hd) (RepL.append (zBT R h2) e2) hla (zMH (fun id hid=>hr1 id (by simp[hid])) hL) (zMT (fun id hid=>hr1 id (by simp[hid])) hM) n1 n2 (Nat.ble_eq.mp n3) n4 (fun id hid=>(hal id hid).trans (List.all_eq_true.1 n5 id hid))
  rw[zCc f fn hf hb hnm #[] vs.toArray e1 w]
  simp only[Goes]
  rw[show(#[]++xs.map a.eval++vs.toArray:Array Value)=(xs.toList.map a.eval++vs).toArray from Array.ext' (by simp)];exact this.mono fun e w' ⟨v,r0,hs0,nw0,g1,⟨h1,h2,h3⟩,g3⟩=>by
   subst h1 h2 h3
   exact⟨v,g1,g3 r' bs' nw' hr hbk hnw (Nat.eq_of_beq_eq_true n6) (Nat.eq_of_beq_eq_true n7)⟩) hn
end ops
end
section
variable{P:Program}
structure RM where
 nb:Nat
 ys:Nat→List V1
 hB:Nat→List AB
 hE:Nat→List AB
 mv:Nat→List AB
 la:Nat→List AB
def yCl(P:Program)(b:zN)(l i:Nat)(g:Bool):List Value→World→(Ending→World→Prop)→Prop:=fun vals W Q=>YieldAt Fence.wide 0 P l vals.toArray W fun e W'=>Q e W'∧b.J (i+1) (!g) W'
def yPre(b:zN)(i nb:Nat)(b2:zN):Prop:=b.J i false b2.w∧Keep (fun k=>b.Y k∨b.V false k) b.w b2.w∧(∀k,k<nb→b2.fix (1000+k)=b.fix (1000+k))∧(∀k,b2.X k∨b2.Y k→b.X k∨b.Y k∨b.w.heap.size≤k)∧∀k,b.V true k→b2.X k
def YOk(P:Program)(b:zN)(l:Nat)(A:RM)(N:Nat)(stop:Bool):Prop:=∀i,i<N→
 GMc (yCl P b l i (zAs N stop i)) (yPre b i A.nb) (b.V (!zAs N stop i)) (A.ys i) (A.hB i++A.la i) (A.mv i) (fun r a c=>r=.c (.p (.bool (zAs N stop i)))∧a=A.hE (i+1)++A.la i∧c=A.mv (i+1))
def zKX(b:zN):Prop:=(∀k,b.V false k→b.V true k)∧∀i d W,b.J i d W→∀k,b.V true k→∃o:Loop,W.heap[k]?=some (.loop o)
def itM(P:Program)(l:Nat)(A:RM)(N:Nat)(stop:Bool)(b:zN):Prop:=b.rd=none∧zKX b∧YOk P b l A N stop
def St.yieldedM(S:St)(dst:Option Tmp)(g:Bool)(hE:List (Nat×Option AB))(ni:List Nat):St:={S.eff dst ⟨.c (.p (.bool g)),hE,ni⟩with gs:=S.gs+1,dd:= !g}
theorem Rel0.yieldM{b0:zN}{σ σ':Nat→Option Value}{S:St}{a:Act}{w w':World}{dst:Option Tmp}{g:Bool}{hE:List (Nat×Option AB)}{ni:List Nat}(R:Rel0 b0 σ S a w)(hd:dOk S.n dst=true)(hdd:S.dd=false)(hV:∀k,b0.V false k→b0.V true k)
 (hVl:∀k,b0.V (!g) k→∃o:Loop,w.heap[k]?=some (.loop o)) (C:zKD b0 σ S (b0.V (!g)) hE ni (.c (.p (.bool g))) (.bool g) w w' σ') (hJ:b0.J (S.gs+1) (!g) w'):Rel0 b0 σ' (S.yieldedM dst g hE ni) (a.put dst (.bool g)) w':=by
 have hVn:zDI (b0.V (!g)) w:=fun b hb cs t p h=>by
  obtain⟨o,ho⟩:=hVl b hb
  rw[ho]at h
  cases h
 have hext:=R.ext;unfold zC9 at hext;rw[hdd]at hext;have hKc:Keep (fun b=>out b0 σ S.h b∨b0.V (!g) b) w w':=C.keep.less fun b hb=>hb.imp .inl id
 have sl:∀{t x},S.t t=some x→RepA σ' (out b0 σ' (zAb hE S.h)) w' x (a.tmps.getD t undef):=fun h=>((R.sl _ _ h).more hVn).keep hKc (fun b hb=>(C.outs b hb).imp .inl id) C.up
 have hdf:Marks b0.w.heap.size a.defers w':=by
  refine R.df.keep C.keep fun D hD=> ?_
  rcases hD with h|h
  ·exact R.hp.nodef h
  ·intro e
   obtain⟨o,ho⟩:=hVl D h
   rw[ho]at e
   cases e
 refine⟨by rw[zEN];exact hdf,size_put.trans R.sz,?_,C.hp,fun t x ht=> ?_,fun id hid=> ?_,R.le,R.gd,hJ⟩
 ·refine(hext.less (O':=zC9 b0 (S.yieldedM dst g hE ni)) fun b hb=> ?_).trans C.keep fun i h=> ?_
  ·refine hb.imp id fun h=> ?_
   show b0.V (!g) b
   cases g with
   |true=>exact h
   |false=>exact hV b h
  ·rcases h with h|h
   ·exact(R.hp.new i h).imp id .inl
   ·exact .inr (.inr h)
 ·replace ht:(S.eff dst ⟨.c (.p (.bool g)),hE,ni⟩).t t=some x:=ht
  cases dst with
  |none=>exact sl ht
  | some d=>
    have hlt:d<a.tmps.size:=by rw[R.sz];exact Nat.blt_eq.mp hd
    rw[zFM hlt]
    simp only[St.eff]at ht
    by_cases e:t=d
    ·subst e
     rw[zAn]at ht
     cases ht
     rw[if_pos rfl];exact C.rep
    ·rw[zX _ _ e]at ht
     rw[if_neg e];exact sl ht
 ·replace hid:(S.fr id && !(ni.any (Nat.beq id)))=true:=hid
  rw[Bool.and_eq_true,Bool.not_eq_true']at hid
  refine⟨?_,(R.fr id hid.1).2⟩
  cases hc:σ' id with
  |none=>rfl
  | some v=>
    rcases C.dom id (by simp[hc])with h1|h1
    ·exact absurd (R.fr id hid.1).1 h1
    ·have h2:ni.any (Nat.beq id)=true:=List.any_eq_true.2 ⟨id,h1,Nat.beq_refl id⟩
     rw[h2]at hid
     cases hid.2
section ops
variable{ops:Array Oper}{rest:List Oper}{S:St}{Q:St→Prop}{dst:Option Tmp}{ty:TypeId}{pos:String}{after:Array Edge}{guard:Option (Nat×Bool)}
theorem AText.yieldM{l N i:Nat}{stop:Bool}{A:RM}{args:List V1}{z:Operand}{avs:Array Operand}{ats:Array TypeId}(g:Bool)(ids mids ni:List Nat)(bs' nw':List AB)(hw:S.wants ops {dst,op:=.call {callee:=.value z,args:=avs,argTypes:=ats},type:=ty,pos,after,guard}=some true)(hd:dOk S.n dst=true)
 (hz:S.opd z=some (.c (.p (yv l)))) (ha:S.opds avs.toList=some args) (hG:∀b,S.G b→itM P l A N stop b) (hgs:S.gs=i) (hdd:S.dd=false) (hi:i<N) (hg:zAs N stop i=g) (hids:∀k,k<A.nb→ids[k]?=some (1000+k))
 (hL:zBm S ids mids ids (A.hB i++A.la i)) (hM:zCQ S mids (A.mv i)) (hnd:(zAx (ids++mids) && mids.all (fun m=>Nat.blt m 1000) && Nat.ble (A.mv i).length 100 && zAx ni && ni.all (fun i=>S.fr i) && Nat.beq bs'.length (A.hB i++A.la i).length && Nat.beq nw'.length ni.length)=true) (hla:LeL (zCP ids mids) args (A.ys i))
 (hbk:zBq ids ni (A.hE (i+1)++A.la i) bs') (hnw:BackB ids ni (A.mv (i+1)) nw')
 (hn:AText P ops rest (S.yieldedM dst g (zO ids bs'++(zO ni nw'++zA7 mids)) ni) Q):AText P ops ({dst,op:=.call {callee:=.value z,args:=avs,argTypes:=ats},type:=ty,pos,after,guard}::rest) S Q:=⟨fun rd b0 a w K hR hK=>by
 obtain⟨σ,R0⟩:=hR
 obtain⟨_,⟨hV,hVJ⟩,hYo⟩:=hG b0 R0.gd
 simp only[Bool.and_eq_true]at hnd
 obtain⟨⟨⟨⟨⟨⟨n1,n2⟩,n3⟩,n4⟩,n5⟩,n6⟩,n7⟩:=hnd
 unfold wpListIn;rw[if_pos (zC8 R0 hw)]
 refine⟨fun _ _=>trivial,?_⟩
 have hzv:a.eval z=yv l:=(zW R0 hz).2;have hext:=R0.ext;unfold zC9 at hext;rw[hdd]at hext;have hgh:=R0.gh;rw[hgs,hdd]at hgh;subst hg;have hVt:∀k,b0.V (!zAs N stop i) k→b0.V true k:=fun k hk=>by
  cases hgo:zAs N stop i with
  |true=>rw[hgo]at hk;exact hV k hk
  |false=>rw[hgo]at hk;exact hk
 have hVl:∀k,b0.V (!zAs N stop i) k→∃o:Loop,w.heap[k]?=some (.loop o):=fun k hk=>hVJ _ _ _ hgh k (hVt k hk)
 have hcore:=zGs (ids:=ids) (mids:=mids) (ni:=ni) (Cl:=yCl P b0 l i (zAs N stop i)) (vals:=avs.toList.map a.eval) (fun vals W Q Q' hq ⟨fn,tmps,assign,body,e1,e2⟩=>⟨fn,tmps,assign,body,e1,e2.mono fun e W' h=>⟨hq _ _ h.1,h.2⟩⟩) (hYo i hi) hVl (fun b1 e1 e2 e3 e4 e5=>by
  refine⟨by rw[e1];exact hgh,by rw[e1];exact hext,fun k hk=> ?_,fun k hk=> ?_,fun k hk=> ?_⟩
  ·rw[e2 k _ (hids k hk)]
   cases hf:b0.fix (1000+k)with
   |none=>exact R0.hp.big _ (by omega) hf
   |some v=>exact(R0.hp.fx _ v hf).1
  ·rcases e3 k hk with (h|h)|h
   ·exact(R0.hp.new k h).elim (fun h=>.inr (.inr h)) fun h=>.inr (.inl h)
   ·exact .inl h
   ·exact .inl (b0.vx _ _ h)
  ·refine(e5 k (.inr (b0.vx _ _ hk))).resolve_right fun h=> ?_
   obtain⟨o,ho⟩:=hVJ _ _ _ hgh k hk
   exact R0.hp.noLoop ho (e4 k h)) R0 (zBT R0 ha) hla hL hM n1 n2 (Nat.ble_eq.mp n3) n4 (fun id hid=>List.all_eq_true.1 n5 id hid)
 obtain⟨fn,tmps,assign,body,e1,e2⟩:=hcore
 rw[Oper.semAt_eq _ _ _ (fun c hc=>by cases hc)];have hrun:(execOp a.eval {dst,op:=.call {callee:=.value z,args:=avs,argTypes:=ats},type:=ty,pos,after,guard}).run P w=.ok (.round l fn tmps assign body) w:=by
  have hm:avs.map a.eval=(avs.toList.map a.eval).toArray:=Array.ext' (by simp)
  simp only[execOp,resolve,hzv,hm,Deferred.ofValue,Sem.run_bind,Sem.run_pure,Result.andThen_ok]
  simp[invoke]at e1⊢
  exact e1
 rw[hrun,Oper.uponIn_round]
 refine⟨fun hd=>(by cases hd),RoundIn.mono (F:=fnc rd) e2 fun e w' ⟨⟨v,r,hs',nw,h1,⟨h2,h3,h4⟩,h5⟩,h6⟩=> ?_⟩
 subst h1 h2 h3 h4
 obtain⟨σ',C⟩:=h5 (.c (.p (.bool (zAs N stop i)))) bs' nw' (.c (.imm _ rfl)) hbk hnw (Nat.eq_of_beq_eq_true n6) (Nat.eq_of_beq_eq_true n7)
 obtain rfl:v=.bool (zAs N stop i):=C.rep.2;exact hn.get rd b0 _ _ K ⟨σ',R0.yieldM hd hdd hV hVl C (by rw[hgs];exact h6)⟩ hK⟩
end ops
def zHV(P:Program)(gf:FuncId)(cs:List V1)(A:RM)(M N:Nat)(stop:Bool):Prop:=
 ∀ (b0:zN) (σ:Nat→Option Value) (l:Nat) (vals:List Value),b0.rd=none→zKX b0→HRel b0 σ (zD (zA6 (A.mv 0) (A.hB 0))) b0.w→(∀i v,b0.fix i=some v→i<1000+A.nb)→(∀i v,σ i=some v→b0.fix i=some v∨(800≤i∧i<900))→(∀b,b0.Y b→own σ (zD (zA6 (A.mv 0) (A.hB 0))) b)→
   (stop=true→0<N∧N≤M)→(stop=false→N=M)→YOk P b0 l A N stop→b0.J 0 false b0.w→RepL (RepV σ (out b0 σ (zD (zA6 (A.mv 0) (A.hB 0)))) b0.w) cs vals→
   Calls P gf (yv l::vals).toArray b0.w fun e w'=>e=.returned (.tuple #[])∧b0.J N stop w'∧∃τ,HRel b0 τ (zD (zAy (A.mv N) (A.hE N))) w'∧Keep (fun b=>b0.Y b∨b0.V stop b) b0.w w'
def zHS(A:RM)(N:Nat)(stop:Bool)(S:St):Prop:=(S.gs=N∧S.dd=stop)∧∃S' loc,Wk S S'∧S'.h=zD (loc++zAy (A.mv N) (A.hE N))∧loc.all (fun p=>Nat.blt p.1 900)=true
def zO6(A:RM)(N:Nat)(stop:Bool):Exit→St→Prop
 | .ret,S=>zHS A N stop S
 | .normal,S=>zHS A N stop S
 |_,_=>False
def zIG(G:zN→Prop)(n ln:Nat)(args:List V1)(hs:List (Nat×AB)):St:={zDO n ln args hs with G:=G}
theorem zQO{gf:FuncId}{fn:Func}{c:Code}{cs:List V1}{A:RM}{M N n:Nat}{stop:Bool}(hf:P.funcs[gf]?=some fn)(hb:fn.body=some c)(hr:fn.results= #[])(hn:fn.ntmps=n)(hl:Nat.ble (cs.length+1) n=true)(hmE:∀N,N≤M→(A.mv N).length≤100)(hhE:∀N,N≤M→(A.hE N).length=A.nb)
 (h:∀(l:Nat),(stop=true→0<N∧N≤M)→(stop=false→N=M)→AWp P c (zO6 A N stop) (zIG (itM P l A N stop) n A.nb (.c (.p (yv l))::cs) (zA6 (A.mv 0) (A.hB 0)))):zHV P gf cs A M N stop:=fun b0 σ0 l vals hrd hV hH hle hσ hY h1 h2 hYo hJ hv=>by
 subst hn;have hl':=hv.length;have hNM:N≤M:=by cases stop with
  |true=>exact(h1 rfl).2
  |false=>exact Nat.le_of_eq (h2 rfl)
 refine zDL (b0:=b0) hf hb hrd (h l h1 h2) ⟨σ0,trivial,?_,⟨rfl,rfl,rfl,Nat.le_refl _,fun _ _ _=>rfl⟩,hH,fun t x hx=> ?_,fun id hid=> ?_,fun i v hi=>hle i v hi,⟨hrd,hV,hYo⟩,hJ⟩ (fun e S hQ=>by cases e<;>first|exact .inl rfl|exact .inr rfl|exact hQ.elim) fun e a w S hR hQ hd=> ?_
 ·have:=Nat.ble_eq.mp hl
  simp[zIG,zDO,hl'];omega
 ·have hv':RepL (RepV σ0 (out b0 σ0 (zD (zA6 (A.mv 0) (A.hB 0)))) b0.w) (.c (.p (yv l))::cs) (yv l::vals):=⟨⟨rfl,rfl⟩,hv⟩
  obtain⟨y,e1,rfl⟩:∃y,(V1.c (.p (yv l))::cs)[t]?=some y∧y.av=x:=by simpa[zIG,zDO,Option.map_eq_some_iff]using hx
  obtain⟨v,e2,e3⟩:=hv'.get e1
  have ht:((yv l::vals).toArray++Array.replicate (fn.ntmps-(yv l::vals).toArray.size) undef).getD t undef=v:=by
   have hlt:=(List.getElem?_eq_some_iff.1 e2).1;have:=(List.getElem?_eq_some_iff.1 e2).2
   simp only[Array.getD_eq_getD_getElem?,Array.getElem?_append,List.size_toArray,hlt,if_true,List.getElem?_toArray,e2,Option.getD_some]
  rw[ht];exact e3.av
 ·have hid':(Nat.blt id 800||(Nat.ble 900 id && Nat.blt id 1000))=true:=hid
  have h1:id<800∨(900≤id∧id<1000):=by
   rw[Bool.or_eq_true,Bool.and_eq_true]at hid';exact hid'.imp (fun h=>Nat.blt_eq.mp h) fun h=>⟨Nat.ble_eq.mp h.1,Nat.blt_eq.mp h.2⟩
  refine⟨?_,by omega⟩
  cases hc:σ0 id with
  |none=>rfl
  | some v=>
    rcases hσ id v hc with h|h
    ·have:=(b0.one id v h).1;omega
    ·omega
 ·obtain⟨⟨g1,g2⟩,S',loc,hw,hS',hlc⟩:zHS A N stop S:=by cases e<;>first|exact hQ|exact hQ.elim
  have hR0:=hR
  obtain⟨σ,R⟩:=hR
  obtain⟨σ4,R1⟩:=hw b0 a w hR0
  have hext:=R.ext;have hgh:=R.gh;unfold zC9 at hext;rw[g1,g2]at hgh;rw[g2]at hext;have hH0:=R1.hp;rw[hS']at hH0;have hl2:=hmE N hNM;have hl3:=hhE N hNM;have low:∀i B,zD loc i=some B→i<900:=fun i B h=>Nat.blt_eq.mp (List.all_eq_true.1 hlc _ (zBe h))
  have high:∀i,zD (zAy (A.mv N) (A.hE N)) i≠none→900≤i:=fun i hi=>by
   rw[zBP hl2]at hi;by_cases h1:1000≤i
   ·omega
   ·rw[if_neg h1]at hi
    by_cases h2:900≤i
    ·exact h2
    ·rw[if_neg h2]at hi;exact absurd rfl hi
  obtain⟨H',hsub⟩:=hH0.part (h':=zD (zAy (A.mv N) (A.hE N))) (fun i hi=>by
   rw[zCC]
   cases hc:zD loc i with
   |none=>rfl
   | some B=>
     have:=low i B hc;have:=high i hi
     omega) (fun i v hi=>by
   have h0:=(b0.one i v hi).1;have h3:=hle i v hi;rw[zBP hl2,if_pos h0,List.getElem?_eq_getElem (by omega)]
   simp)
  exact⟨.tuple #[],by rw[zEZ,hr];simp,rfl,hgh,σ4,H',hext⟩
end
end Go.AV
end
