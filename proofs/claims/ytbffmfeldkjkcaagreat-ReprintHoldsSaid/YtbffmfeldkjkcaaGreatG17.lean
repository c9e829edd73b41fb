/- Parts of the proof: AMemD, A24l, A24ma, A24n, A24m, A24o. -/
import Derived.Test.YtbffmfeldkjkcaaGreatG16
set_option linter.unusedSimpArgs false
set_option linter.unusedVariables false
set_option maxHeartbeats 0
set_option maxRecDepth 100000
section
namespace Go.AV
open Go Go.RowKit Go.Flow
section
variable{P:Program}
def zCW:CV→Bool
 | .ow id=>Nat.ble 1000 id
 |x=>zM x
theorem zQj{x:CV}(h:zCW x=true):zM x=true∨∃id,1000≤id∧x=.ow id:=by
 cases x with
 |ow id=>exact .inr ⟨id,Nat.ble_eq.mp h,rfl⟩
 |_=>exact .inl h
theorem zSy{b0:zN}{σ:Nat→Option Value}{hs:List (Nat×AB)}{w:World}(H:HRel b0 σ (zD hs) w)(hk:zDS hs=true)(hb:∀p∈hs,∀k j,k<p.2.n→j<p.2.sz→zCW (p.2.F k j)=true):HRel b0 b0.fix (zD hs) w∧∀b,own σ (zD hs) b↔own b0.fix (zD hs) b:=by
 have hown:∀b,own σ (zD hs) b↔own b0.fix (zD hs) b:=fun b=>⟨fun ⟨i,v,h1,h2,h3⟩=>⟨i,v,h1,by rw[(zDe H hk h1).1];exact h2,h3⟩,fun ⟨i,v,h1,h2,h3⟩=>⟨i,v,h1,by rw[←(zDe H hk h1).1];exact h2,h3⟩⟩
 have hout:∀b,out b0 b0.fix (zD hs) b→out b0 σ (zD hs) b:=fun b hb=>hb.imp (hown b).2 fun h=>h
 refine⟨⟨fun i B hB=> ?_,fun i j v1 v2 b hi hj h1 h2=>H.inj i j v1 v2 b hi hj (by rw[←(zDe H hk hi).1];exact h1) (by rw[←(zDe H hk hj).1];exact h2),fun b hb=>H.new b ((hown b).2 hb),fun i v hi=>⟨hi,(H.fx i v hi).2⟩,fun i _ hf=>hf⟩,hown⟩
 have hne:zD hs i≠none:=by rw[hB];simp
 obtain⟨v,e1,e2⟩:=H.blk i B hB
 refine⟨v,(zDe H hk hne).1.trans e1,?_⟩
 rcases e2 with h0|⟨b,cap,cs,k1,k2,k3,k4⟩|hm
 ·exact .inl h0
 rotate_left
 ·exact .inr (.inr hm)
 ·refine .inr (.inl ⟨b,cap,cs,k1,k2,k3,fun k hk' j hj=> ?_⟩)
  obtain⟨u,g1,g2⟩:=k4 k hk' j hj
  have him:=hb _ (zBe hB) k j hk' hj
  refine⟨u,g1,?_⟩
  rcases zQj him with him|⟨id,h1,h2⟩
  ·exact zBF him g2.1 ((zBo him g2).less hout)
  ·replace h2:B.F k j=.ow id:=h2
   rw[h2]at g2;rw[h2]
   refine⟨g2.1,?_,g2.2.2⟩
   have hs:=g2.2.1
   cases hf:b0.fix id with
   |none=>rw[H.big id h1 hf]at hs;cases hs
   |some u'=>rw[(H.fx id u' hf).1]at hs;exact hs
theorem zQF{f:FuncId}{fn:Func}{c:Code}{rs:List ResultVar}{args:List V1}{hs hs':List (Nat×AB)}{r:AV}(hf:P.funcs[f]?=some fn)(hb:fn.body=some c)(hr:fn.results=rs.toArray)(hn:args.length≤fn.ntmps)
 (hk:zDS hs'=true) (him:∀p∈hs',∀k j,k<p.2.n→j<p.2.sz→zCW (p.2.F k j)=true)
 (h:AWp P c (zFp P rs r hs') (zBQ fn.ntmps args hs)):HCalls P f args hs r hs':=fun b0 vals hH hle hY hv=>by
 have hl:=hv.length
 let b2:zN:=⟨b0.w,b0.X,b0.Y,b0.fix,b0.lt,b0.ylt,b0.dis,b0.one,fun _ _=>False,fun _ _ _=>True,none,fun _ _ h=>h.elim,fun _ _ _ _ _ _ _ _=>trivial⟩
 have up:∀{σ h w},HRel b0 σ h w→HRel b2 σ h w:=fun H=>⟨H.blk,H.inj,H.new,H.fx,H.big⟩
 have dn:∀{σ h w},HRel b2 σ h w→HRel b0 σ h w:=fun H=>⟨H.blk,H.inj,H.new,H.fx,H.big⟩
 refine zDL (b0:=b2) hf hb rfl h ⟨b0.fix,trivial,?_,⟨rfl,rfl,rfl,Nat.le_refl _,fun _ _ _=>rfl⟩,up hH,fun t x hx=> ?_,fun id hid=> ?_,hle,rfl,trivial⟩ (fun e S hQ=>by cases e<;>first|exact .inl rfl|exact .inr rfl|exact hQ.elim) fun e a w S hR hQ hd=> ?_
 ·simp[zBQ,hl];omega
 ·obtain⟨y,e1,rfl⟩:∃y,args[t]?=some y∧y.av=x:=by simpa[zBQ,Option.map_eq_some_iff]using hx
  obtain⟨v,e2,e3⟩:=hv.get e1
  have ht:(vals.toArray++Array.replicate (fn.ntmps-vals.toArray.size) undef).getD t undef=v:=by
   have hlt:=(List.getElem?_eq_some_iff.1 e2).1;have:=(List.getElem?_eq_some_iff.1 e2).2
   simp[Array.getD_eq_getD_getElem?,Array.getElem?_append,hlt,this]
  rw[ht];exact e3.av
 ·have h1:id<1000:=Nat.blt_eq.mp hid
  refine⟨?_,h1⟩
  cases hc:b0.fix id with
  |none=>rfl
  |some v=>have:=(b0.one id v hc).1;omega
 ·obtain⟨S',loc,hw,hS',hlc,hS⟩:∃S' loc,Wk S S'∧S'.h=zD (loc++hs')∧loc.all (fun p=>Nat.blt p.1 1000)=true∧ARets P S' rs r:=by cases e<;>first|exact hQ|exact hQ.elim
  obtain⟨σ,R⟩:=hw b2 a w hR
  obtain⟨v,h1,h2⟩:=hS.run hr R
  have hH0:=R.hp;rw[hS']at hH0 h2
  obtain⟨hH',hsub⟩:=hH0.lent hlc hk
  replace h2:=h2.keep (σ':=fun _=>none) ⟨rfl,rfl,rfl,Nat.le_refl _,fun _ _ _=>rfl⟩ (fun b (hb:out b2 σ (zD hs') b)=>.inl (hb.imp (hsub b) fun h=>h)) fun _ _ h=>h
  obtain⟨g1,g2⟩:=zSy hH' hk him
  refine⟨v,h1,v,rfl,h2.keep ⟨rfl,rfl,rfl,Nat.le_refl _,fun _ _ _=>rfl⟩ (fun b hb=>.inl ?_) (fun _ _ h=>h),dn g1,R.ext.less fun b hb=>hb.elim id fun h=>h.elim⟩
  rcases hb with ⟨i,u,k1,k2,k3⟩|hb
  ·exact .inl ((g2 b).2 ⟨i,u,(g1.fx i u k2).2,k2,k3⟩)
  ·exact .inr hb
theorem zMq{f:FuncId}{fn:Func}{c:Code}{rs:List ResultVar}{args:List V1}{hs hs':List (Nat×AB)}{r:AV}{n:Nat}(hf:P.funcs[f]?=some fn)(hb:fn.body=some c)(hr:fn.results=rs.toArray)(hn:fn.ntmps=n)(hl:Nat.ble args.length n=true)
 (hk:zDS hs'=true) (him:∀p∈hs',∀k j,k<p.2.n→j<p.2.sz→zCW (p.2.F k j)=true) (h:AWp P c (zFp P rs r hs') (zBQ n args hs)):HCalls P f args hs r hs':=by
 subst hn;exact zQF hf hb hr (Nat.ble_eq.mp hl) hk him h

def LentC(ids:List Nat)(x y:CV):Prop:=(x=y∧zM y=true)∨∃id i,x=.ow id∧zT ids id=some i∧y=.ow (1000+i)
theorem LentC.mo{ids:List Nat}{x y:CV}{b:Nat}{o:Obj}(h:LentC ids x y)(hx:zBN x b o):zBN y b o:=by
 rcases h with ⟨rfl,_⟩|⟨id,i,rfl,_,_⟩
 ·exact hx
 ·rcases hx.2 with h|⟨K,h,_⟩<;>cases h
theorem LentC.mo'{ids:List Nat}{x y:CV}{b:Nat}{o:Obj}(h:LentC ids x y)(hx:zBN y b o):zBN x b o:=by
 rcases h with ⟨rfl,_⟩|⟨id,i,_,_,rfl⟩
 ·exact hx
 ·rcases hx.2 with h|⟨K,h,_⟩<;>cases h
def LendOk2(S:St)(all:List Nat):List Nat→List AB→Prop
 | [],[]=>True
 |id::ids,B::bs=>(∃F,S.h id=some ⟨B.row,B.n,B.sz,B.ty,F⟩∧(B.row=true→0<B.n)∧∀k,k<B.n→∀j,j<B.sz→LentC all (F k j) (B.F k j))∧LendOk2 S all ids bs
 |_,_=>False
theorem zI4{S:St}{all:List Nat}:∀{ids:List Nat} {bs:List AB},LendOk2 S all ids bs→ids.length=bs.length∧∀(i id:Nat),ids[i]?=some id→∃B F,bs[i]?=some B∧S.h id=some ⟨B.row,B.n,B.sz,B.ty,F⟩∧(B.row=true→0<B.n)∧∀k,k<B.n→∀j,j<B.sz→LentC all (F k j) (B.F k j)
 | [],[],_=>⟨rfl,fun i id h=>by simp at h⟩
 | id::ids,B::bs,h=>by
   obtain⟨h1,h2⟩:=zI4 h.2
   refine⟨by simp[h1],fun i id' hi=> ?_⟩
   cases i with
   |zero=>cases hi;obtain⟨F,hF⟩:=h.1;exact⟨B,F,rfl,hF⟩
   |succ i=>simpa using h2 i id' (by simpa using hi)
 | [],_::_,h=>h.elim
 |_::_,[],h=>h.elim
def BackOk(all:List Nat):List AB→List AB→Prop
 | [],[]=>True
 |A::l,B::m=>(∃G,A=⟨B.row,B.n,B.sz,B.ty,G⟩∧∀k,k<B.n→∀j,j<B.sz→LentC all (B.F k j) (G k j))∧BackOk all l m
 |_,_=>False
theorem zLe{all:List Nat}:∀{l m:List AB},BackOk all l m→l.length=m.length∧∀(i:Nat) (B:AB),m[i]?=some B→∃G,l[i]?=some ⟨B.row,B.n,B.sz,B.ty,G⟩∧∀k,k<B.n→∀j,j<B.sz→LentC all (B.F k j) (G k j)
 | [],[],_=>⟨rfl,fun i B h=>by simp at h⟩
 | A::l,B::m,h=>by
   obtain⟨h1,h2⟩:=zLe h.2
   refine⟨by simp[h1],fun i B' hi=> ?_⟩
   cases i with
   |zero=>cases hi;obtain⟨G,rfl,hG⟩:=h.1;exact⟨G,rfl,hG⟩
   |succ i=>simpa using h2 i B' (by simpa using hi)
 | [],_::_,h=>h.elim
 |_::_,[],h=>h.elim
theorem HCalls.at2{f:FuncId}{args:List V1}{ids:List Nat}{bs bs1 bs':List AB}{r:AV}{b0:zN}{σ:Nat→Option Value}{S:St}{a:Act}{w:World}{dst:Option Tmp}(h:HCalls P f (args.map (zDT ids)) (zAt 0 bs) r (zAt 0 bs1))(R:Rel0 b0 σ S a w)(hd:dOk S.n dst=true)
 {vals:List Value} (hv:RepL (RepV σ (out b0 σ S.h) w) args vals) (hL:LendOk2 S ids ids bs) (hnd:zAx ids=true) (hlen:bs'.length=bs.length) (hI:BackOk ids bs1 bs'):
 Calls P f vals.toArray w fun e w'=>∃v,e=.returned v∧Rel b0 (S.eff dst ⟨r,zO ids bs',[]⟩) (a.put dst v) w':=by
 obtain⟨hl,hat⟩:=zI4 hL
 obtain⟨hl1,hbk⟩:=zLe hI
 have hσ:∀(i id:Nat),ids[i]?=some id→∃v b,σ id=some v∧zAl v=some b:=fun i id hi=>by
  obtain⟨B,F,_,h2,h3,_⟩:=hat i id hi
  obtain⟨v,e1,e2⟩:=R.hp.blk id _ h2
  rcases e2 with ⟨g0,_,g⟩|⟨b,cap,cs,g1,_⟩|⟨_,_,_,b,o,rfl,_⟩
  ·have:=h3 g0
   have:B.n=0:=g
   omega
  ·exact⟨v,b,e1,g1.blk⟩
  ·exact⟨_,b,e1,rfl⟩
 let fix:Nat→Option Value:=fun i=>if 1000≤i then (ids[i-1000]?).bind σ else none
 have hfix:∀{i:Nat} {v:Value},fix i=some v→1000≤i∧∃id,ids[i-1000]?=some id∧σ id=some v:=fun {i v} h=>by
  simp only[fix]at h
  split at h
  ·rename_i h1
   obtain⟨id,e1,e2⟩:=Option.bind_eq_some_iff.1 h
   exact⟨h1,id,e1,e2⟩
  ·cases h
 have fixi:∀{i id:Nat},ids[i]?=some id→fix (1000+i)=σ id:=fun {i id} hi=>by
  simp only[fix]
  rw[if_pos (by omega),show 1000+i-1000=i by omega,hi]
  rfl
 let Y:Nat→Prop:=fun b=>∃i v,fix i=some v∧zAl v=some b
 have hYo:∀b,Y b→own σ S.h b:=fun b ⟨i,v,h1,h2⟩=>by
  obtain⟨_,id,e1,e2⟩:=hfix h1
  obtain⟨B,F,_,h3,_⟩:=hat _ id e1
  exact⟨id,v,by rw[h3];simp,e2,h2⟩
 let b1:zN:=⟨w,fun b=>out b0 σ S.h b∧¬Y b,Y,fix,fun b hb=>zDh R hb.1,fun b hb=>zDh R (.inl (hYo b hb)),fun b hb=>hb.2,fun i v hi=>by
  obtain⟨h1,id,e1,e2⟩:=hfix hi
  obtain⟨v',b,e3,e4⟩:=hσ _ id e1
  rw[e2]at e3
  cases e3
  exact⟨h1,b,e4⟩,fun _ _=>False,fun _ _ _=>True,none,fun _ _ h=>h.elim,fun _ _ _ _ _ _ _ _=>trivial⟩
 have dom:∀{bs:List AB} {i:Nat},bs.length=ids.length→zD (zAt 0 bs) i≠none→∃k id,i=1000+k∧ids[k]?=some id∧bs[k]?=zD (zAt 0 bs) i:=fun {bs i} hbl hi=>by
  rw[zBR]at hi⊢;by_cases h1:1000+0≤i
  ·rw[if_pos h1]at hi⊢
   have hlt:i-(1000+0)<bs.length:=Nat.lt_of_not_le fun hge=>hi (List.getElem?_eq_none hge)
   exact⟨i-(1000+0),ids[i-(1000+0)]'(by omega),by omega,List.getElem?_eq_getElem _,rfl⟩
  ·rw[if_neg h1]at hi
   exact absurd rfl hi
 have ownY:∀{bs:List AB},bs.length=ids.length→∀b,own fix (zD (zAt 0 bs)) b↔Y b:=fun {bs} hbl b=>⟨fun ⟨i,v,_,h2,h3⟩=>⟨i,v,h2,h3⟩,fun ⟨i,v,h2,h3⟩=>by
  obtain⟨h1,id,e1,e2⟩:=hfix h2
  refine⟨i,v,?_,h2,h3⟩
  rw[zBR,if_pos (by omega)];have:=(List.getElem?_eq_some_iff.1 e1).1;rw[List.getElem?_eq_getElem (by omega)]
  simp⟩
 have outs:∀{bs:List AB},bs.length=ids.length→∀b,out b1 fix (zD (zAt 0 bs)) b↔out b0 σ S.h b:=fun {bs} hbl b=>by
  constructor
  ·rintro(h|h)
   ·exact .inl (hYo b ((ownY hbl b).1 h))
   ·exact h.1
  ·intro h
   by_cases hy:Y b
   ·exact .inl ((ownY hbl b).2 hy)
   ·exact .inr ⟨h,hy⟩
 have toB:∀{x:CV} {u:Value},RepB σ (out b0 σ S.h) w x u→RepB fix (out b1 fix (zD (zAt 0 bs))) w (zAO ids x) u:=fun {x u} hx=>by
  cases x with
  | pt id sz k j=>
    obtain⟨v,b,e1,e2,e3⟩:=hx
    simp only[zAO]
    cases hp:zT ids id with
    |none=>exact trivial
    |some i=>exact⟨v,b,(fixi (zAR hp)).trans e1,e2,e3⟩
  | ow id=>
    obtain⟨e1,e2⟩:=hx
    simp only[zAO]
    cases hp:zT ids id with
    |none=>exact trivial
    |some i=>exact⟨(fixi (zAR hp)).trans e1,e2⟩
  |fn f m C=>exact trivial
  |_=>exact RepI.less (fun b hb=>(outs hl.symm b).1 hb) hx
 have toC:∀{x:CV} {u:Value},RepC σ (out b0 σ S.h) w x u→RepC fix (out b1 fix (zD (zAt 0 bs))) w (zEu ids x) u:=fun {x u} hx=>by
  cases x with
  | fn f m C=>
    obtain⟨g0,vs,g1,g2,g3⟩:=hx
    refine⟨g0,vs,g1,g2,fun i hi=> ?_⟩
    obtain⟨v,k1,k2,k3⟩:=g3 i hi
    exact⟨v,k1,k2,toB k3⟩
  | pt id sz k j=>
    have h2:=toB hx.2
    refine⟨hx.1,?_⟩
    show match zAO ids (.pt id sz k j)with| .fn f m C=>_|x=>RepB fix _ w x u
    simp only[zAO]at h2⊢
    cases hp:zT ids id<;>rw[hp]at h2<;>exact h2
  | ow id=>
    have h2:=toB hx.2
    refine⟨hx.1,?_⟩
    show match zAO ids (.ow id)with| .fn f m C=>_|x=>RepB fix _ w x u
    simp only[zAO]at h2⊢
    cases hp:zT ids id<;>rw[hp]at h2<;>exact h2
  |_=>exact⟨hx.1,toB hx.2⟩
 have H1:HRel b1 fix (zD (zAt 0 bs)) w:=by
  refine⟨fun i B hB=> ?_,fun i j v1 v2 b hi hj h1 h2 e1 e2=> ?_,fun b hb=>.inr ((ownY hl.symm b).1 hb),fun i v hi=>⟨hi,?_⟩,fun i _ hi=>hi⟩
  ·obtain⟨k,id,rfl,e1,e2⟩:=dom hl.symm (by rw[hB];simp:zD (zAt 0 bs) i≠none)
   obtain⟨B',F,g1,g2,g3,g4⟩:=hat k id e1
   rw[hB,g1]at e2
   cases e2
   obtain⟨v,k1,k2⟩:=R.hp.blk id _ g2
   refine⟨v,(fixi e1).trans k1,?_⟩
   rcases k2 with ⟨h0,_,h5⟩|⟨b,cap,cs,m1,m2,m3,m4⟩|⟨m1,m2,m3,b,o,rfl,m4,m5⟩
   ·have:=g3 h0
    have:B.n=0:=h5
    omega
   rotate_left
   ·replace m2:B.n=1:=m2
    replace m3:B.sz=1:=m3
    exact .inr (.inr ⟨m1,m2,m3,b,o,rfl,m4,(g4 0 (by omega) 0 (by omega)).mo m5⟩)
   ·refine .inr (.inl ⟨b,cap,cs,m1,m2,m3,fun k' hk' j hj=> ?_⟩)
    ·obtain⟨u,n1,n2⟩:=m4 k' hk' j hj
     rcases g4 k' hk' j hj with ⟨hFe,him⟩|⟨id',i',hFe,hpo,hGe⟩
     ·simp only[hFe]at n2
      exact⟨u,n1,zBF him n2.1 ((zBo him n2).less fun b hb=>(outs hl.symm b).1 hb)⟩
     ·simp only[hFe]at n2
      refine⟨u,n1,?_⟩
      simp only[hGe]
      exact⟨n2.1,(fixi (zAR hpo)).trans n2.2.1,n2.2.2⟩
  ·obtain⟨h1',id1,a1,a2⟩:=hfix h1
   obtain⟨h2',id2,c1,c2⟩:=hfix h2
   obtain⟨B1,F1,_,d1,_⟩:=hat _ id1 a1
   obtain⟨B2,F2,_,d2,_⟩:=hat _ id2 c1
   have:=R.hp.inj id1 id2 v1 v2 b (by rw[d1];simp) (by rw[d2];simp) a2 c2 e1 e2
   subst this;have:=zDA hnd a1 c1
   omega
  ·obtain⟨h1',id1,a1,a2⟩:=hfix hi
   rw[zBR,if_pos (by omega)];have:=(List.getElem?_eq_some_iff.1 a1).1;rw[List.getElem?_eq_getElem (by omega)]
   simp
 refine(h b1 vals H1 (fun i v hi=>by
  obtain⟨h1',id1,a1,a2⟩:=hfix hi
  have:=(List.getElem?_eq_some_iff.1 a1).1;rw[zG7]
  omega) (fun b hb=>(ownY hl.symm b).2 hb) ?_).mono fun e w' ⟨v,g1,g2,g3,g4⟩=>⟨v,g1,?_⟩
 ·refine zA5 (by rw[List.length_map,hv.length]) fun i x u e1 e2=> ?_
  rw[List.getElem?_map,Option.map_eq_some_iff]at e1
  obtain⟨y,e3,rfl⟩:=e1
  obtain⟨u',e4,e5⟩:=hv.get e3
  rw[e2]at e4
  cases e4
  cases y with
  |c y=>exact toC e5
  | ag l=>
    obtain⟨vs,rfl,hvs⟩:=e5
    refine⟨vs,rfl,zA5 (by rw[List.length_map,hvs.length]) fun i x u e1 e2=> ?_⟩
    rw[List.getElem?_map,Option.map_eq_some_iff]at e1
    obtain⟨y,e3,rfl⟩:=e1
    obtain⟨u',e4,e5⟩:=hvs.get e3
    rw[e2]at e4
    cases e4
    exact toC e5
 ·have hbl':bs'.length=ids.length:=hlen.trans hl.symm
  have hbl1:bs1.length=ids.length:=hl1.trans hbl';have hK:Keep (own σ S.h) w w':=⟨g4.os,g4.tape,g4.output,g4.size,fun k hk hno=>g4.block k hk fun hy=>hno (hYo k hy)⟩;have hlook:∀i,(∃k id B,ids[k]?=some id∧bs'[k]?=some B∧i=id∧zAb (zO ids bs') S.h i=some B)∨(i∉ids∧zAb (zO ids bs') S.h i=S.h i):=fun i=>by
   by_cases hm:i∈ids
   ·obtain⟨k,hk,rfl⟩:=List.getElem_of_mem hm
    have e1:ids[k]?=some ids[k]:=List.getElem?_eq_getElem hk;have e2:bs'[k]?=some (bs'[k]'(by omega)):=List.getElem?_eq_getElem _;exact .inl ⟨k,_,_,e1,e2,rfl,zD8 hbl'.symm hnd k _ _ S.h e1 e2⟩
   ·exact .inr ⟨hm,zD9 i S.h hm⟩
  have hne:∀i,zAb (zO ids bs') S.h i≠none↔S.h i≠none:=fun i=>by
   rcases hlook i with ⟨k,id,B,e1,e2,rfl,e3⟩|⟨_,e⟩
   ·obtain⟨B',F',_,d1,_⟩:=hat k i e1
    rw[e3,d1]
    simp
   ·rw[e]
  have hown:∀b,own σ (zAb (zO ids bs') S.h) b↔own σ S.h b:=fun b=>⟨fun ⟨i,v,h1,h2,h3⟩=>⟨i,v,(hne i).1 h1,h2,h3⟩,fun ⟨i,v,h1,h2,h3⟩=>⟨i,v,(hne i).2 h1,h2,h3⟩⟩
  have hout:∀b,out b0 σ (zAb (zO ids bs') S.h) b↔out b0 σ S.h b:=fun b=>or_congr (hown b) Iff.rfl
  have H':HRel b0 σ (zAb (zO ids bs') S.h) w':=by
   refine⟨fun i B hB=> ?_,fun i j v1 v2 b hi hj=>R.hp.inj i j v1 v2 b ((hne i).1 hi) ((hne j).1 hj),fun b hb=>R.hp.new b ((hown b).1 hb),fun i v hi=>⟨(R.hp.fx i v hi).1,(hne i).2 (R.hp.fx i v hi).2⟩,R.hp.big⟩
   rcases hlook i with ⟨k,id,B',e1,e2,rfl,e3⟩|⟨hni,e⟩
   ·rw[e3]at hB
    cases hB
    obtain⟨G,q1,q2⟩:=hbk k B e2
    have hB1:zD (zAt 0 bs1) (1000+k)=some ⟨B.row,B.n,B.sz,B.ty,G⟩:=by rw[zBR,if_pos (by omega),show 1000+k-(1000+0)=k by omega];exact q1
    obtain⟨v,k1,k2⟩:=g3.blk (1000+k) _ hB1
    refine⟨v,(fixi e1).symm.trans k1,?_⟩
    rcases k2 with h0|⟨b,cap,cs,m1,m2,m3,m4⟩|⟨m1,m2,m3,b,o,rfl,m4,m5⟩
    ·exact .inl h0
    rotate_left
    ·replace m2:B.n=1:=m2
     replace m3:B.sz=1:=m3
     exact .inr (.inr ⟨m1,m2,m3,b,o,rfl,m4,(q2 0 (by omega) 0 (by omega)).mo' m5⟩)
    ·refine .inr (.inl ⟨b,cap,cs,m1,m2,m3,fun k' hk' j hj=> ?_⟩)
     obtain⟨u,n1,n2⟩:=m4 k' hk' j hj
     refine⟨u,n1,?_⟩
     rcases q2 k' hk' j hj with ⟨hFe,him⟩|⟨id',i',hFe,hpo,hGe⟩
     ·rw[←hFe]at him
      replace n2:RepC b1.fix (out b1 b1.fix (zD (zAt 0 bs1))) w' (B.F k' j) u:=by rw[hFe];exact n2
      exact zBF him n2.1 ((zBo him n2).less fun b hb=>(outs hbl1 b).2 ((hout b).1 hb))
     ·simp only[hGe]at n2
      rw[hFe]
      exact⟨n2.1,(fixi (zAR hpo)).symm.trans n2.2.1,n2.2.2⟩
   ·rw[e]at hB
    obtain⟨v,k1,k2⟩:=R.hp.blk i B hB
    refine⟨v,k1,k2.keep hK.out (fun b hb=>.inl ((hout b).1 hb)) (fun _ _ h=>h) fun b hb=> ?_⟩
    have hbo:own σ S.h b:=⟨i,v,by rw[hB];simp,k1,hb⟩
    exact g4.block b (R.hp.lt hbo) fun ⟨j,u,h1,h2⟩=>by
     obtain⟨_,id,a1,a2⟩:=hfix h1
     obtain⟨B2,F2,_,d2,_⟩:=hat _ id a1
     have:=R.hp.inj i id v u b (by rw[hB];simp) (by rw[d2];simp) k1 a2 hb h2
     subst this;exact hni (List.mem_of_getElem? a1)
  exact⟨σ,R.step (e:=⟨r,zO ids bs',[]⟩) hd (fun _ _ h=>h) hK H' (fun b hb=>.inl ((hout b).1 hb)) (fun _=>(g2.keep ⟨rfl,rfl,rfl,Nat.le_refl _,fun _ _ _=>rfl⟩ (fun b hb=>.inl ((outs hl.symm b).2 ((hout b).1 hb))) fun _ _ h=>h).some_) fun i h=>.inl h⟩

theorem zG6{S S1:St}{all:List Nat}:∀{ids:List Nat} {bs:List AB},(∀id∈ids,S1.h id=S.h id)→LendOk2 S all ids bs→LendOk2 S1 all ids bs
 | [],[],_,h=>h
 |id::ids,B::bs,he,h=>⟨let ⟨F,h1,h2⟩:=h.1;⟨F,(he id (by simp)).trans h1,h2⟩,zG6 (fun i hi=>he i (by simp[hi])) h.2⟩
 | [],_::_,_,h=>h.elim
 |_::_,[],_,h=>h.elim
section ops
variable{ops:Array Oper}{rest:List Oper}{acc:List (List Nat×List Nat)}{S:St}{Q:List (List Nat×List Nat)→St→Prop}{dst:Option Tmp}{ty:TypeId}{pos:String}{after:Array Edge}{guard:Option (Nat×Bool)}
theorem zJ2{f:FuncId}{fn:Func}{z:Operand}{m:Nat}{C:Nat→CV}{xs:Array Operand}{ats:Array TypeId}{args:List V1}{r:AV}(ids:List Nat)(bs bs1 bs':List AB)(hw:S.wants ops {dst,op:=.call {callee:=.value z,args:=xs,argTypes:=ats},type:=ty,pos,after,guard}=some true)(hd:dOk S.n dst=true)
 (hz:S.opd z=some (.c (.fn f m C))) (ha:S.opds xs.toList=some args) (hm:((List.range m).all fun i=>noFn (C i))=true) (hf:P.funcs[f]?=some fn) (hb:fn.body.isNone=false) (hnm:(fn.name== "runtime.NumGoroutine")=false) (hL:LendOk2 S ids ids bs) (hnd:(zAx ids && Nat.beq bs'.length bs.length)=true) (hI:BackOk ids bs1 bs')
 (hc:HCalls P f ((args++(List.range m).map fun i=>V1.c (C i)).map (zDT ids)) (zAt 0 bs) r (zAt 0 bs1))
 (hn:AList P ops rest ((ids++ [],(zO ids bs').map (·.1)++ [])::acc) (S.eff dst ⟨r,zO ids bs',[]⟩) Q):AList P ops ({dst,op:=.call {callee:=.value z,args:=xs,argTypes:=ats},type:=ty,pos,after,guard}::rest) acc S Q:=
 AList.cons ids ⟨r,zO ids bs',[]⟩ (LStep.of hw fun S1 hA hr _ b0 σ a w R=>by
  rw[Bool.and_eq_true]at hnd;have h2:S1.opds xs.toList=some args:=(zCJ fun x hx=>hA.op x (by simp only[Op.operands,Call.operands];simp;exact .inr (by simpa using hx))).trans ha
  have h3:=zW R ((hA.op z (by simp[Op.operands,Call.operands])).trans hz)
  obtain⟨_,vs,e1,e2,e3⟩:=h3
  have hcap:RepL (RepV σ (out b0 σ S1.h) w) ((List.range m).map fun i=>V1.c (C i)) vs:=zA5 (by simp[e2]) fun i x u g1 g2=>by
   have hlt:i<m:=by have:=(List.getElem?_eq_some_iff.1 g1).1;simpa using this
   rw[List.getElem?_map,List.getElem?_range hlt]at g1
   cases g1
   obtain⟨v,k1,k2,k3⟩:=e3 i hlt
   rw[g2]at k1
   cases k1
   have hnf:=List.all_eq_true.1 hm i (List.mem_range.2 hlt)
   refine⟨k2,?_⟩
   show match C i with| .fn f m C=>_|x=>RepB σ _ w x u
   cases hC:C i<;>rw[hC]at hnf k3<;>first|exact k3|cases hnf
  have happ:∀{l m:List V1} {us vs:List Value},RepL (RepV σ (out b0 σ S1.h) w) l us→RepL (RepV σ (out b0 σ S1.h) w) m vs→RepL (RepV σ (out b0 σ S1.h) w) (l++m) (us++vs):=fun {l}=>by
   induction l with
   |nil=>intro m us vs h1 h2;cases us with|nil=>exact h2|cons _ _=>exact h1.elim
   |cons x l ih=>intro m us vs h1 h2;cases us with|nil=>exact h1.elim|cons u us=>exact⟨h1.1,ih h1.2 h2⟩
  have:=hc.at2 R (dst:=dst) (by rw[hA.n];exact hd) (happ (zBT R h2) hcap) (zG6 hr hL) hnd.1 (Nat.eq_of_beq_eq_true hnd.2) hI
  rw[zCc f fn hf hb hnm #[] vs.toArray e1 w]
  simp only[Goes]
  rw[show(#[]++xs.map a.eval++vs.toArray:Array Value)=(xs.toList.map a.eval++vs).toArray from Array.ext' (by simp)];exact this.mono fun e w' ⟨v,g1,g2⟩=>⟨v,g1,g2⟩) hn
end ops
theorem zIg{R:CV→CV→Prop}{F:Nat→Nat→CV}{sz:Nat}{l:List CV}(hl:LeL R (zAD (F 0) 0 sz) l)(hz:l.length=sz):∀k,k<1→∀j,j<sz→R (F k j) (lF l k j):=fun k hk j hj=>by
 obtain rfl:k=0:=by omega
 have key:∀(l m:List CV),LeL R l m→∀(i:Nat) (x y:CV),l[i]?=some x→m[i]?=some y→R x y:=by
  intro l
  induction l with
  |nil=>intro m h i x y h1;simp at h1
  | cons a l ih=>
    intro m h i x y h1 h2
    cases m with
    |nil=>exact h.elim
    | cons b m=>
      cases i with
      |zero=>simp at h1 h2;exact h1▸h2▸h.1
      |succ i=>exact ih m h.2 i x y (by simpa using h1) (by simpa using h2)
 have h1:=zDM (F 0) sz 0 j hj;rw[Nat.zero_add]at h1;have h2:l[j]?=some (lF l 0 j):=by
  unfold lF;rw[List.getD,List.getElem?_eq_getElem (by omega)]
  rfl
 exact key _ _ hl j _ _ h1 h2
theorem zAe{S:St}{ren:List (Nat×Option Nat)}{id sz:Nat}{ty:TypeId}{F:Nat→Nat→CV}{l:List CV}(hb:Nat.ble 1000 id=true)(hh:S.h id=some ⟨false,1,sz,ty,F⟩)(hl:LeL (LeC S.h ren) (zAD (F 0) 0 sz) l)(hz:l.length=sz):
 HeapOk S ren id ⟨false,1,sz,ty,lF l⟩:=.inr ⟨id,1,F,.inr ⟨Nat.ble_eq.mp hb,rfl⟩,rfl,hh,zIg hl hz⟩
theorem LentC.imm{all:List Nat}{x:CV}(h:zM x=true):LentC all x x:=.inl ⟨rfl,h⟩
theorem LentC.ow{all:List Nat}{id q:Nat}(h:(zT all id).map (fun p=>1000+p)=some q):LentC all (.ow id) (.ow q):=by
 obtain⟨i,h1,rfl⟩:=Option.map_eq_some_iff.1 h
 exact .inr ⟨id,i,rfl,h1,rfl⟩
theorem LendOk2.box{S:St}{all:List Nat}{id sz:Nat}{ty:TypeId}{F:Nat→Nat→CV}{l:List CV}{ids:List Nat}{bs:List AB}(hh:S.h id=some ⟨false,1,sz,ty,F⟩)(hl:LeL (LentC all) (zAD (F 0) 0 sz) l)(hz:l.length=sz)(hr:LendOk2 S all ids bs):LendOk2 S all (id::ids) (⟨false,1,sz,ty,lF l⟩::bs):=
 ⟨⟨F,hh,fun h=>(by cases h),zIg hl hz⟩,hr⟩
theorem LendOk2.row{S:St}{all:List Nat}{id n sz:Nat}{ty:TypeId}{F G:Nat→Nat→CV}{ids:List Nat}{bs:List AB}(hh:S.h id=some ⟨true,n,sz,ty,F⟩)(hn:0<n)(hc:∀k,k<n→∀j,j<sz→F k j=G k j∧zM (G k j)=true)(hr:LendOk2 S all ids bs):LendOk2 S all (id::ids) (⟨true,n,sz,ty,G⟩::bs):=
 ⟨⟨F,hh,fun _=>hn,fun k hk j hj=>.inl (hc k hk j hj)⟩,hr⟩
theorem zLv(f:Nat→CV):∀(n j:Nat),(zAD f j n).length=n
 |0,_=>rfl
 |n+1,j=>congrArg (· + 1) (zLv f n (j+1))
theorem BackOk.box{all:List Nat}{sz:Nat}{ty:TypeId}{l m:List CV}{bs0 bs:List AB}(hl:LeL (LentC all) l m)(hz:Nat.beq l.length sz=true)(hz2:Nat.beq m.length sz=true)(hr:BackOk all bs0 bs):BackOk all (⟨false,1,sz,ty,lF m⟩::bs0) (⟨false,1,sz,ty,lF l⟩::bs):=
 ⟨⟨lF m,rfl,fun k hk j hj=>by
   obtain rfl:k=0:=by have:k<1:=hk;omega
   have e:=Nat.eq_of_beq_eq_true hz;subst e;have hc:zAD (lF l 0) 0 l.length=l:=by
    refine List.ext_getElem (zLv _ _ _) fun i h1 h2=> ?_
    have h3:=zDM (lF l 0) l.length 0 i h2;rw[List.getElem?_eq_getElem h1]at h3;have h4:lF l 0 (0+i)=l[i]:=by
     unfold lF;rw[Nat.zero_add,List.getD,List.getElem?_eq_getElem h2]
     rfl
    rw[h4]at h3;exact Option.some.inj h3
   exact zIg (F:=lF l) (l:=m) (by rw[hc];exact hl) (Nat.eq_of_beq_eq_true hz2) 0 (by omega) j hj⟩,hr⟩
theorem BackOk.row{all:List Nat}{n sz:Nat}{ty:TypeId}{G:Nat→Nat→CV}{bs0 bs:List AB}(hi:∀k,k<n→∀j,j<sz→zM (G k j)=true)(hr:BackOk all bs0 bs):BackOk all (⟨true,n,sz,ty,G⟩::bs0) (⟨true,n,sz,ty,G⟩::bs):=
 ⟨⟨G,rfl,fun k hk j hj=>.inl ⟨rfl,hi k hk j hj⟩⟩,hr⟩
section arr
variable{tab:List (TypeId×TD)}{ops:Array Oper}{rest:List Oper}{acc:List (List Nat×List Nat)}{S:St}{Q:List (List Nat×List Nat)→St→Prop}{dst:Option Tmp}{ty:TypeId}{pos:String}{after:Array Edge}{guard:Option (Nat×Bool)}{x y:Operand}
theorem zBM(T:zAq P tab=true){t:TypeId}{id sz k j i N:Nat}{d e:TD}{el:TypeId}{ki:IntKind}{n:Int}(hw:S.wants ops {dst,op:=.indexAddr t x y,type:=ty,pos,after,guard}=some true)(hd:dOk S.n dst=true)
 (hx:S.opd x=some (.c (.pt id sz k j))) (hy:S.opd y=some (.c (.p (.int ki n)))) (ht:zD tab t=some d) (hk:d.k=.arr N el) (he:zD tab el=some e) (hi:n=(i:Int)) (hlt:i<N)
 (hn:AList P ops rest (([],[])::acc) (S.eff dst ⟨.c (.pt id sz k (j+i*e.size)),[],[]⟩) Q):AList P ops ({dst,op:=.indexAddr t x y,type:=ty,pos,after,guard}::rest) acc S Q:=
 AList.val [] _ hw hd (fun S1 h1 _ b0 σ a w R=>by
  obtain⟨-,v,b,e1,e2,e3⟩:=zW R ((h1 x (by simp[Op.operands])).trans hx)
  have e4:=zAU (zW R ((h1 y (by simp[Op.operands])).trans hy));have g1:=zE7 T ht hk
  obtain⟨inf,z,u,i1,i2,i3,-⟩:=zAS T he
  subst hi
  refine⟨.pointer (some ⟨b,k*sz+(j+i*e.size),none⟩),?_,rfl,v,b,e1,e2,rfl⟩
  have hlt':(i:Int)<N:=by omega
  simp only[execOp,e3,e4,Instr.indexAt,Instr.sureAddr,asIntOf,run_underlying g1,Sem.run_bind,Sem.run_pure,Result.andThen_ok]
  simp[sizeOf,typeInfo,i1,i2,hlt',Addr.add,Nat.add_assoc]) hn
theorem zA4(T:zAq P tab=true){t:TypeId}{m sz k j i N:Nat}{F:Nat→Nat→CV}{d e:TD}{el:TypeId}{ki:IntKind}{n:Int}(hw:S.wants ops {dst,op:=.indexAddr t x y,type:=ty,pos,after,guard}=some true)(hd:dOk S.n dst=true)
 (hx:S.opd x=some (.c (.pl m sz F k j))) (hy:S.opd y=some (.c (.p (.int ki n)))) (ht:zD tab t=some d) (hk:d.k=.arr N el) (he:zD tab el=some e) (hi:n=(i:Int)) (hlt:i<N)
 (hn:AList P ops rest (([],[])::acc) (S.eff dst ⟨.c (.pl m sz F k (j+i*e.size)),[],[]⟩) Q):AList P ops ({dst,op:=.indexAddr t x y,type:=ty,pos,after,guard}::rest) acc S Q:=
 AList.val [] _ hw hd (fun S1 h1 _ b0 σ a w R=>by
  obtain⟨-,ad,e3,e1,e2⟩:=zW R ((h1 x (by simp[Op.operands])).trans hx)
  have e4:=zAU (zW R ((h1 y (by simp[Op.operands])).trans hy));have g1:=zE7 T ht hk
  obtain⟨inf,z,u,i1,i2,i3,-⟩:=zAS T he
  subst hi
  refine⟨.pointer (some (ad.add (k*sz+(j+i*e.size)))),?_,rfl,ad,rfl,e1,e2⟩
  have hlt':(i:Int)<N:=by omega
  simp only[execOp,e3,e4,Instr.indexAt,Instr.sureAddr,asIntOf,run_underlying g1,Sem.run_bind,Sem.run_pure,Result.andThen_ok]
  have e5:(ad.add (k*sz+j)).add (i*e.size)=ad.add (k*sz+(j+i*e.size)):=by rw[zFr,Nat.add_assoc]
  simp[sizeOf,typeInfo,i1,i2,hlt',e5]) hn
theorem zY(T:zAq P tab=true){t:TypeId}{n sz k j:Nat}{F:Nat→Nat→CV}{d:TD}{c:CV}(hl:F k j=c)(hw:S.wants ops {dst,op:=.load t x,type:=ty,pos,after,guard}=some true)(hd:dOk S.n dst=true)
 (hx:S.opd x=some (.c (.pl n sz F k j))) (ht:zD tab t=some d) (hk:zDy d.k=true) (hj:j<sz)
 (hn:AList P ops rest (([],[])::acc) (S.eff dst ⟨.c c,[],[]⟩) Q):AList P ops ({dst,op:=.load t x,type:=ty,pos,after,guard}::rest) acc S Q:=by
 subst hl;exact aV T hw hd hx ht hk hj hn
end arr
end
end Go.AV
end
section
namespace Go.Proofs.YtbffmfeldkjkcaaGreat
open Go.RowKit Go.Flow Go.AV Go.Plain
abbrev prC(a b:Bp)(x y:Bg):List CV:= [iC a.W,iC a.H,.ls a.n 1 (bF a.d),iC b.W,iC b.H,.ls b.n 1 (bF b.d),iC x.lo,iC x.bl,iC x.sh,iC x.st,iC y.lo,iC y.bl,iC y.sh,iC y.st]
theorem zRv(a b:Bp)(x y:Bg)(h:0≤a.W∧a.W≤96):ACalls Tryz.prog 110 [.ag (prC a b (zAk x) (zAk y))] (.c (iC (stN a.W x y))):=by
 have b1:=zB2 x;have b2:=zB2 y;refine zJ Tryz.func110 rfl rfl Tryz.ntmps110 rfl ?_;refine vB [0,1] ?_
 refine⟨zC 15 [(2,.c (iC (stN a.W x y)))] [] [],[],Wk.mk [] rfl rfl rfl ?_ trivial,rfl,rfl,aR1⟩
 exact zB
theorem zRq(a b:Bp)(x y:Bg)(m n:Int)(hm:0≤m∧m≤100000)(hn:0≤n∧n≤100000):ACalls Tryz.prog 111 [.ag (prC a b (zAk x) (zAk y)),.c (iC m),.c (iC n)] (.c (iC (ovN x y m n))):=by
 have b1:=zB2 x;have b2:=zB2 y;refine zJ Tryz.func111 rfl rfl Tryz.ntmps111 rfl ?_;refine vB [0,1] ?_
 refine⟨zC 26 [(6,.c (iC (ovN x y m n)))] [] [],[],Wk.mk [] rfl rfl rfl ?_ trivial,rfl,rfl,aR1⟩
 exact zB
def cF(c0 c1:Nat→Int)(k:Nat):Nat→CV:=lF [iC (c0 k),iC (c1 k)] 0
theorem zBC(c0 c1:Nat→Int)(k j:Nat):zM (cF c0 c1 k j)=true:=zC0 rfl 0 j
def upC(c:Nat→Int)(k:Nat):Nat→Int:=fun i=>if i=k then c i+1 else c i
abbrev cB(n:Nat)(c0 c1:Nat→Int):AB:=⟨true,n,2,25,cF c0 c1⟩
abbrev tB(t0 t1:Int):AB:=⟨false,1,2,25,lF [iC t0,iC t1]⟩
abbrev sB(id:Nat):AB:=⟨false,1,1,170,lF [.ow id]⟩
theorem zPN(c0 c1:Nat→Int)(k:Nat)(n:Nat):∀i,i<n→∀j,j<2→zAw (cF c0 c1) k 0 1 [iC (c0 k+1)] i j=cF (upC c0 k) c1 i j∧zM (zAw (cF c0 c1) k 0 1 [iC (c0 k+1)] i j)=true:=fun i _ j hj=>by
 have e:zAw (cF c0 c1) k 0 1 [iC (c0 k+1)] i j=cF (upC c0 k) c1 i j:=by
  unfold zAw cF upC;by_cases hi:i=k
  ·subst hi
   rw[Nat.beq_refl,if_pos rfl];obtain rfl|rfl:j=0∨j=1:=by omega
   ·rfl
   ·rfl
  ·rw[show Nat.beq i k=false from Bool.eq_false_iff.2 fun h=>hi (Nat.eq_of_beq_eq_true h),if_neg hi]
   rfl
 exact⟨e,by rw[e];exact zBC _ _ _ _⟩
theorem zPO(c0 c1:Nat→Int)(k:Nat)(n:Nat):∀i,i<n→∀j,j<2→zAw (cF c0 c1) k 1 1 [iC (c1 k+1)] i j=cF c0 (upC c1 k) i j∧zM (zAw (cF c0 c1) k 1 1 [iC (c1 k+1)] i j)=true:=fun i _ j hj=>by
 have e:zAw (cF c0 c1) k 1 1 [iC (c1 k+1)] i j=cF c0 (upC c1 k) i j:=by
  unfold zAw cF upC;by_cases hi:i=k
  ·subst hi
   rw[Nat.beq_refl,if_pos rfl];obtain rfl|rfl:j=0∨j=1:=by omega
   ·rfl
   ·rfl
  ·rw[show Nat.beq i k=false from Bool.eq_false_iff.2 fun h=>hi (Nat.eq_of_beq_eq_true h),if_neg hi]
   rfl
 exact⟨e,by rw[e];exact zBC _ _ _ _⟩
theorem zMd{B0 B1 B2:AB}(h0:∀k j,zCW (B0.F k j)=true)(h1:∀k j,zCW (B1.F k j)=true)(h2:∀k j,zCW (B2.F k j)=true):∀p∈ [(1000,B0),(1001,B1),(1002,B2)],∀k j,k<p.2.n→j<p.2.sz→zCW (p.2.F k j)=true:=fun p hp k j _ _=>by
 cases hp with
 |head=>exact h0 k j
 | tail _ hp=>
   cases hp with
   |head=>exact h1 k j
   | tail _ hp=>
     cases hp with
     |head=>exact h2 k j
     |tail _ hp=>cases hp
theorem zGT{x:CV}(h:zM x=true):zCW x=true:=by
 cases x<;>first|exact h|cases h
theorem zNF(k j:Nat):zCW ((sB 1001).F k j)=true:=by
 show zCW (lF [.ow 1001] k j)=true;unfold lF
 cases j with
 |zero=>rfl
 |succ j=>rfl
theorem zPe(n:Nat)(c0 c1:Nat→Int)(t0 t1:Int)(c:Int)(k:Nat)(hn:n≤200)(hk:k<n)(hck:c+4=(k:Int))(hc0:0≤c0 k∧c0 k≤100000)(ht0:0≤t0∧t0≤100000):
 HCalls Tryz.prog 107 [.c (iC 0),.c (iC c),.c (.pt 1000 1 0 0),.c (.pt 1002 2 0 0)] [(1000,sB 1001),(1001,cB n c0 c1),(1002,tB t0 t1)] (.tu []) [(1000,sB 1001),(1001,cB n (upC c0 k) (c1)),(1002,tB (t0+1) (t1))]:=by
 refine zMq Tryz.func107 rfl rfl Tryz.ntmps107 rfl rfl (zMd zNF (fun k j=>zGT (zBC _ _ k j)) (fun k j=>zGT (zC0 rfl k j))) ?_
 repeat (first
  |refine vB [1] ?_
  |(refine AWp.draw (id:=0) zK ?_;refine xE4 ?_;refine zI (zH (k:=k) zA) ?_;refine zBI (zBM zA) ?_;refine xE2 ?_;refine zI (zH (k:=k) zA) ?_;refine zBI (zBM zA) ?_;refine vA ?_;refine aB ⟨by kernel_rfl,?_⟩))
 refine⟨mkL 21 3 [] [(1000,sB 1001),(1001,cB n (upC c0 k) (c1)),(1002,tB (t0+1) (t1))] [],[],zQ [] rfl rfl rfl rfl rfl trivial ?_,rfl,rfl,ARets.no⟩
 refine⟨zAe rfl rfl ⟨LeC.owB _ rfl,trivial⟩ rfl,zAo rfl rfl (zPN c0 c1 k n),HeapOk.lent rfl rfl rfl rfl,trivial⟩
theorem zPf(n:Nat)(c0 c1:Nat→Int)(t0 t1:Int)(c:Int)(k:Nat)(hn:n≤200)(hk:k<n)(hck:c+4=(k:Int))(hc0:0≤c1 k∧c1 k≤100000)(ht0:0≤t1∧t1≤100000):
 HCalls Tryz.prog 107 [.c (iC 1),.c (iC c),.c (.pt 1000 1 0 0),.c (.pt 1002 2 0 0)] [(1000,sB 1001),(1001,cB n c0 c1),(1002,tB t0 t1)] (.tu []) [(1000,sB 1001),(1001,cB n (c0) (upC c1 k)),(1002,tB (t0) (t1+1))]:=by
 refine zMq Tryz.func107 rfl rfl Tryz.ntmps107 rfl rfl (zMd zNF (fun k j=>zGT (zBC _ _ k j)) (fun k j=>zGT (zC0 rfl k j))) ?_
 repeat (first
  |refine vB [1] ?_
  |(refine AWp.draw (id:=0) zK ?_;refine xE4 ?_;refine zI (zH (k:=k) zA) ?_;refine zBI (zBM zA) ?_;refine xE2 ?_;refine zI (zH (k:=k) zA) ?_;refine zBI (zBM zA) ?_;refine vA ?_;refine aB ⟨by kernel_rfl,?_⟩))
 refine⟨mkL 21 3 [] [(1000,sB 1001),(1001,cB n (c0) (upC c1 k)),(1002,tB (t0) (t1+1))] [],[],zQ [] rfl rfl rfl rfl rfl trivial ?_,rfl,rfl,ARets.no⟩
 refine⟨zAe rfl rfl ⟨LeC.owB _ rfl,trivial⟩ rfl,zAo rfl rfl (zPO c0 c1 k n),HeapOk.lent rfl rfl rfl rfl,trivial⟩
def zAA(B:Nat→Nat→Bool)(W:Nat)(s:Int)(y x k:Nat):Int:=
 if 0≤(k:Int)-4-s∧(k:Int)-4-s<W then cnt (fun j=>B j ((k:Int)-4-s).toNat) y+(if ((k:Int)-4-s<x∧B y ((k:Int)-4-s).toNat=true)then 1 else 0)else 0
def zAM(B:Nat→Nat→Bool)(W y x:Nat):Int:=zAi (fun j=>cnt (B j) W) y+cnt (B y) x
theorem zIy(B:Nat→Nat→Bool)(W:Nat)(s:Int)(k:Nat):zAA B W s 0 0 k=0:=by
 unfold zAA
 split
 ·rename_i h
  rw[zGN,if_neg (fun h2=>by have:=h2.1;omega)]
  rfl
 ·rfl
theorem zIx(B:Nat→Nat→Bool)(W:Nat)(s:Int)(y:Nat):zAA B W s (y+1) 0=zAA B W s y W:=by
 funext k
 unfold zAA;by_cases h:0≤(k:Int)-4-s∧(k:Int)-4-s<W
 ·have e1:¬((k:Int)-4-s<((0:Nat):Int)∧B (y+1) ((k:Int)-4-s).toNat=true):=fun h2=>by have:=h2.1;omega
  rw[if_pos h,if_pos h,zDv,if_neg e1];by_cases hb:B y ((k:Int)-4-s).toNat=true
  ·have e2:(k:Int)-4-s<(W:Int)∧B y ((k:Int)-4-s).toNat=true:=⟨h.2,hb⟩
   rw[if_pos hb,if_pos e2];omega
  ·have e2:¬((k:Int)-4-s<(W:Int)∧B y ((k:Int)-4-s).toNat=true):=fun h2=>hb h2.2
   rw[if_neg hb,if_neg e2];omega
 ·rw[if_neg h,if_neg h]
theorem zLP{B:Nat→Nat→Bool}{W:Nat}{s:Int}{y x:Nat}(hb:B y x=false):zAA B W s y (x+1)=zAA B W s y x:=by
 funext k
 unfold zAA;by_cases h:0≤(k:Int)-4-s∧(k:Int)-4-s<W
 ·rw[if_pos h,if_pos h]
  congr 1
  by_cases hx:((k:Int)-4-s).toNat=x
  ·rw[hx,hb,if_neg (by simp),if_neg (by simp)]
  ·by_cases h2:(k:Int)-4-s<x∧B y ((k:Int)-4-s).toNat=true
   ·rw[if_pos h2,if_pos ⟨by have:=h2.1;omega,h2.2⟩]
   ·rw[if_neg h2,if_neg (fun h3=>h2 ⟨by have:=h3.1;omega,h3.2⟩)]
 ·rw[if_neg h,if_neg h]
theorem zLQ{B:Nat→Nat→Bool}{W:Nat}{s:Int}{y x k0:Nat}(hb:B y x=true)(hx:x<W)(hk:(k0:Int)=x+4+s):upC (zAA B W s y x) k0=zAA B W s y (x+1):=by
 funext k
 unfold upC;by_cases hkk:k=k0
 ·subst hkk
  rw[if_pos rfl];unfold zAA;have e0:0≤(k:Int)-4-s∧(k:Int)-4-s<(W:Int):=by omega
  have e1:¬((k:Int)-4-s<(x:Int)∧B y x=true):=fun h=>by have:=h.1;omega
  have e2:(k:Int)-4-s<((x+1:Nat):Int)∧B y x=true:=⟨by omega,hb⟩;rw[if_pos e0,if_pos e0,show((k:Int)-4-s).toNat=x by omega,if_neg e1,if_pos e2]
  omega
 ·rw[if_neg hkk]
  unfold zAA;by_cases h:0≤(k:Int)-4-s∧(k:Int)-4-s<W
  ·rw[if_pos h,if_pos h]
   congr 1
   by_cases h2:(k:Int)-4-s<x∧B y ((k:Int)-4-s).toNat=true
   ·rw[if_pos h2,if_pos ⟨by have:=h2.1;omega,h2.2⟩]
   ·rw[if_neg h2,if_neg (fun h3=>h2 ⟨by have:=h3.1;omega,h3.2⟩)]
  ·rw[if_neg h,if_neg h]
theorem zIw(B:Nat→Nat→Bool)(W:Nat)(s:Int)(y x k:Nat):0≤zAA B W s y x k∧zAA B W s y x k≤y+1:=by
 unfold zAA
 split
 ·have h1:=Go.Plain.cnt_nonneg (fun j=>B j ((k:Int)-4-s).toNat) y
  have h2:=zCT (fun j=>B j ((k:Int)-4-s).toNat) y
  split<;>omega
 ·omega
theorem zSD(B:Nat→Nat→Bool)(W:Nat):zAM B W 0 0=0:=rfl
theorem zJQ(B:Nat→Nat→Bool)(W y:Nat):zAM B W (y+1) 0=zAM B W y W:=by
 show zAi _ y+cnt (B y) W+0=zAi _ y+cnt (B y) W
 omega
theorem zN4{B:Nat→Nat→Bool}{W y x:Nat}(hb:B y x=false):zAM B W y (x+1)=zAM B W y x:=by
 unfold zAM;rw[zDv,hb,if_neg (by decide)]
 omega
theorem zN5{B:Nat→Nat→Bool}{W y x:Nat}(hb:B y x=true):zAM B W y x+1=zAM B W y (x+1):=by
 unfold zAM;rw[zDv,hb,if_pos rfl]
 omega
theorem zJP(B:Nat→Nat→Bool)(W y x:Nat)(hW:W≤96)(hx:x≤96):0≤zAM B W y x∧zAM B W y x≤96*y+96:=by
 unfold zAM;have h1:=Go.Plain.cnt_nonneg (B y) x;have h2:=zCT (B y) x;have h3:0≤zAi (fun j=>cnt (B j) W) y∧zAi (fun j=>cnt (B j) W) y≤96*y:=by
  refine⟨zDE fun k _=>Go.Plain.cnt_nonneg _ _,?_⟩
  induction y with
  |zero=>exact Int.le_refl _
  | succ m ih=>
    have h1:=ih (Go.Plain.cnt_nonneg _ _) (zCT _ _);have h2:=zCT (B m) W;show zAi _ m+cnt _ W≤_
    omega
 omega
theorem zOi(k j:Nat)(hj:j<2):zF [Value.int .i64 0,Value.int .i64 0] k j=cF (fun _=>0) (fun _=>0) k j:=by
 obtain rfl|rfl:j=0∨j=1:=by omega
 ·rfl
 ·rfl
def wS(c:Nat→Int)(i t:Nat):Int:=zAi (fun k=>c (i+k)) t
theorem zGn(c:Nat→Int)(i t:Nat):wS c i (t+1)=wS c i t+c (i+t):=rfl
theorem zN9(c:Nat→Int)(i t:Nat):wS c (i+1) t=wS c i t+(c (i+t)-c i):=by
 induction t with
 | zero=>
   show(0:Int)=0+(c (i+0)-c i)
   rw[Nat.add_zero];omega
 | succ t ih=>
   rw[zGn,zGn,ih,show i+1+t=i+(t+1) by omega]
   omega
theorem zE8{c:Nat→Int}{m:Int}(h:∀k,0≤c k∧c k≤m)(i:Nat):∀t:Nat,0≤wS c i t∧wS c i t≤m*t
 |0=>⟨Int.le_refl _,by show(0:Int)≤m*0;omega⟩
 | t+1=>by
   have h1:=zE8 h i t;have h2:=h (i+t);rw[zGn];have e:m*((t+1:Nat):Int)=m*(t:Int)+m:=by
    rw[show((t+1:Nat):Int)=(t:Int)+1 by omega,Int.mul_add,Int.mul_one]
   omega
theorem zNX(x:Int)(q:Prop)[Decidable q](fr:Int):∀t:Nat,zAi (fun k=>if fr+(k:Int)=x∧q then (1:Int)else 0) t=if fr≤x∧x<fr+t∧q then 1 else 0
 | 0=>by
   rw[if_neg (fun h=>by have:=h.1;have:=h.2.1;omega)]
   rfl
 | t +1=>by
   show zAi _ t+(if fr+(t:Int)=x∧q then (1:Int)else 0)=_;rw[zNX x q fr t];by_cases hq:q
   ·by_cases h1:fr+(t:Int)=x
    ·rw[if_neg (fun h=>by have:=h.2.1;omega),if_pos ⟨h1,hq⟩,if_pos ⟨by omega,by omega,hq⟩];rfl
    ·rw[if_neg (show ¬(fr+(t:Int)=x∧q)from fun h=>h1 h.1)]
     by_cases h2:fr≤x∧x<fr+t∧q
     ·rw[if_pos h2,if_pos ⟨h2.1,by have:=h2.2.1;omega,hq⟩];rfl
     ·rw[if_neg h2,if_neg (fun h=>h2 ⟨h.1,by have:=h.2.1;omega,hq⟩)];rfl
   ·rw[if_neg (fun h=>hq h.2.2),if_neg (fun h=>hq h.2),if_neg (fun h=>hq h.2.2)];rfl
theorem zJJ{f g:Nat→Int}(h:∀k,f k=g k)(t:Nat):zAi f t=zAi g t:=by rw[show f=g from funext h]
theorem zJK:∀t:Nat,zAi (fun _=>(0:Int)) t=0
 |0=>rfl
 |t+1=>by show zAi _ t+0=0;rw[zJK t];rfl
def inW(b:Nat→Bool)(fr:Int)(t x:Nat):Bool:=b x && (decide (fr≤(x:Int)) && decide ((x:Int)<fr+t))
def zDX(b:Nat→Bool)(fr:Int)(t x:Nat):Bool:=b x && (decide ((x:Int)<fr)||decide (fr+t≤(x:Int)))
theorem zLO(b:Nat→Bool)(fr:Int)(t:Nat):∀W:Nat,zAi (fun k=>if 0≤fr+(k:Int)∧fr+(k:Int)<W∧b (fr+(k:Int)).toNat=true then (1:Int)else 0) t=cnt (inW b fr t) W
 | 0=>by
   rw[zGN,zJJ (g:=fun _=>0) (fun k=>if_neg (fun h=>by have:=h.1;have:=h.2.1;omega)),zJK]
 | W +1=>by
   rw[zDv,←zLO b fr t W];rw[zJJ (g:=fun k=>(if 0≤fr+(k:Int)∧fr+(k:Int)<W∧b (fr+(k:Int)).toNat=true then (1:Int)else 0)+(if fr+(k:Int)=(W:Int)∧b W=true then (1:Int)else 0)) (fun k=> ?_),zHv,zNX]
   ·congr 1
    by_cases h:fr≤(W:Int)∧(W:Int)<fr+t∧b W=true
    ·rw[if_pos h,if_pos (by unfold inW;rw[h.2.2,decide_eq_true h.1,decide_eq_true h.2.1];rfl)]
    ·rw[if_neg h,if_neg (fun h2=>h (by unfold inW at h2;simp only[Bool.and_eq_true,decide_eq_true_eq]at h2;exact⟨h2.2.1,h2.2.2,h2.1⟩))]
   ·by_cases h1:fr+(k:Int)=(W:Int)
    ·have e:(fr+(k:Int)).toNat=W:=by omega
     rw[e];rw[if_neg (show ¬(0≤fr+(k:Int)∧fr+(k:Int)<(W:Int)∧b W=true)from fun h=>by have:=h.2.1;omega)]
     by_cases hb:b W=true
     ·rw[if_pos ⟨by omega,by omega,hb⟩,if_pos ⟨h1,hb⟩];rfl
     ·rw[if_neg (fun h=>hb h.2.2),if_neg (fun h=>hb h.2)];rfl
    ·rw[if_neg (show ¬(fr+(k:Int)=(W:Int)∧b W=true)from fun h=>h1 h.1),Int.add_zero]
     by_cases h2:0≤fr+(k:Int)∧fr+(k:Int)<W∧b (fr+(k:Int)).toNat=true
     ·rw[if_pos h2,if_pos ⟨h2.1,by have:=h2.2.1;omega,h2.2.2⟩]
     ·rw[if_neg h2,if_neg (fun h=>h2 ⟨h.1,by have:=h.2.1;omega,h.2.2⟩)]
theorem zLN(b:Nat→Bool)(fr:Int)(t:Nat):∀W:Nat,cnt b W=cnt (inW b fr t) W+cnt (zDX b fr t) W
 |0=>rfl
 | W +1=>by
   rw[zDv,zDv,zDv,zLN b fr t W];unfold inW zDX
   cases b W with
   |false=>simp
   | true=>
     by_cases h1:fr≤(W:Int)
     ·by_cases h2:(W:Int)<fr+t
      ·simp[h1,h2,show ¬(W:Int)<fr by omega,show ¬fr+(t:Int)≤W by omega];omega
      ·simp[h1,h2,show ¬(W:Int)<fr by omega,show fr+(t:Int)≤W by omega];omega
     ·simp[h1,show(W:Int)<fr by omega];omega
theorem zST{c d:Nat→Int}(h:∀k,c k=d k)(i t:Nat):wS c i t=wS d i t:=by rw[show c=d from funext h]
theorem zHD(B:Nat→Nat→Bool)(W:Nat)(s fr:Int)(i t:Nat)(hfr:fr=(i:Int)-4-s):∀H:Nat,zAM B W H 0-wS (zAA B W s H 0) i t=zAi (fun j=>cnt (zDX (B j) fr t) W) H
 | 0=>by
   rw[zSD,zST (d:=fun _=>0) (zIy B W s)]
   show(0:Int)-zAi (fun _=>0) t=0
   rw[zJK];rfl
 | H +1=>by
   show _=zAi _ H+cnt (zDX (B H) fr t) W;rw[←zHD B W s fr i t hfr H,zJQ];have e1:zAM B W H W=zAM B W H 0+cnt (B H) W:=by
    unfold zAM;rw[zGN];omega
   have e2:wS (zAA B W s (H+1) 0) i t=wS (zAA B W s H 0) i t+cnt (inW (B H) fr t) W:=by
    rw[←zLO (B H) fr t W];unfold wS;rw[←zHv];refine zJJ (fun k=> ?_) t;rw[zIx];unfold zAA;have ek:((i+k:Nat):Int)-4-s=fr+k:=by omega
    rw[ek];by_cases h:0≤fr+(k:Int)∧fr+(k:Int)<W
    ·rw[if_pos h,if_pos h,if_neg (show ¬(fr+(k:Int)<((0:Nat):Int)∧B H (fr+(k:Int)).toNat=true)from fun h2=>by have:=h2.1;omega)]
     by_cases hb:B H (fr+(k:Int)).toNat=true
     ·rw[if_pos ⟨h.2,hb⟩,if_pos ⟨h.1,h.2,hb⟩];omega
     ·rw[if_neg (fun h2=>hb h2.2),if_neg (fun h2=>hb h2.2.2)];omega
    ·rw[if_neg h,if_neg h,if_neg (fun h2=>h ⟨h2.1,h2.2.1⟩)];rfl
   rw[e1,e2,zLN (B H) fr t W]
   omega
theorem zM4(a b:Bp)(dx dy fr:Int)(t j:Nat):onB a b dx dy fr (fr+t) j=zDX (alB a b dx dy j) fr t:=by
 funext i
 unfold onB zDX alB
 cases zAu a.W a.H a.d i j<;>cases zAu b.W b.H b.d ((i:Int)-dx) ((j:Int)-dy)<;>simp
def stX(x y:Bg)(t:Nat)(c0 c1:Nat→Int)(t0 t1:Int)(i:Nat):List Value:= [.int .i64 ((i:Int)-4),.int .i64 (ovN x y (t0-wS c0 i t) (t1-wS c1 i t))]
theorem zSb(a b:Bp)(x y:Bg)(d:Int×Int)(Wn Hn t:Nat)(hW:a.W=Wn)(hH:a.H=Hn)(hWb:b.W=a.W)(hHb:b.H=a.H)(ht:stN a.W x y=t)(i:Nat):
 stX x y t (zAA (alB a b d.1 d.2) Wn 0 Hn 0) (zAA (alB b a (-d.1) (-d.2)) Wn d.1 Hn 0) (zAM (alB a b d.1 d.2) Wn Hn 0) (zAM (alB b a (-d.1) (-d.2)) Wn Hn 0) i= [.int .i64 ((i:Int)-4),.int .i64 (xsV a b x y ⟨d.1,d.2,(i:Int)-4⟩)]:=by
 unfold stX xsV;rw[zHD _ Wn 0 ((i:Int)-4) i t xD Hn,zHD _ Wn d.1 ((i:Int)-4-d.1) i t rfl Hn,ht];unfold zB5;have e1:∀j,zDX (alB a b d.1 d.2 j) ((i:Int)-4) t=onB a b d.1 d.2 ((i:Int)-4) ((i:Int)-4+t) j:=fun j=>(zM4 a b d.1 d.2 _ t j).symm
 have e2:∀j,zDX (alB b a (-d.1) (-d.2) j) ((i:Int)-4-d.1) t=onB b a (-d.1) (-d.2) ((i:Int)-4-d.1) ((i:Int)-4-d.1+t) j:=fun j=>(zM4 b a (-d.1) (-d.2) _ t j).symm
 simp only[e1,e2,hWb,hHb,hW,hH,Int.toNat_natCast]
theorem zCp{h:Nat→Option AB}{ren:List (Nat×Option Nat)}{o sz:Nat}{ty:TypeId}{F:Nat→Nat→CV}{l:List CV}(hh:h o=some ⟨false,1,sz,ty,F⟩)(hr:zCK ren o=true)(hc:zAD (F 0) 0 sz=l)(hi:l.all zM=true):LeC h ren (.pt o sz 0 0) (.pl 1 sz (lF l) 0 0):=
 .frzP o 1 sz 0 0 false ty F (lF l) hh xD (fun k hk j hj=>by rw[zG5 hc k hk j hj];exact zC0 hi k j) (fun k hk j hj=>zG5 hc k hk j hj) (zNo hr) (zNp hr)
theorem Wk.trans{A B C:St}(h1:Wk A B)(h2:Wk B C):Wk A C:=fun b0 a w h=>h2 b0 a w (h1 b0 a w h)
theorem zKt{P:Program}{x y:Code}{Q:Exit→St→Prop}{S:St}(S1:St)(h:AWp P x (zCe (AWp P y (fun e S'=>e=.normal∧Wk S' S1)) (fun e S'=>e=.normal∧Wk S' S1)) S)(hz:∀S',Wk S' S1→Q .normal S'):
 AWp P x (zCe (AWp P y Q) Q) S:=h.mono fun e S' h=>by
 cases e with
 |normal=>exact AWp.mono h fun e S' ⟨he,hw⟩=>by subst he;exact hz S' hw
 |_=>cases h.1
abbrev zEj(i:Nat):CV:= [CV.pt 5 1 0 0,CV.pt 6 2 0 0].getD i .any
theorem zDg{h:Nat→Option AB}{ren:List (Nat×Option Nat)}{C:Nat→CV}(hc:∀i,C i=zEj i)(h5:zD ren 5=some (some 5))(h6:zD ren 6=some (some 6)):LeC h ren (.fn 107 2 C) (.fn 107 2 zEj):=by
 obtain rfl:C=zEj:=funext hc;refine LeC.fn _ _ _ _ (fun i hi=> ?_) (fun i hi=> ?_)
 ·obtain rfl|rfl:i=0∨i=1:=by omega
  ·exact⟨trivial,trivial⟩
  ·exact⟨trivial,trivial⟩
 ·obtain rfl|rfl:i=0∨i=1:=by omega
  ·exact .pt 5 5 1 0 0 h5
  ·exact .pt 6 6 2 0 0 h6
abbrev itC(a b:Bp)(x y:Bg)(n:Nat)(c0 c1:Nat→Int)(t0 t1:Int)(i:Nat):CV:=
 [CV.pl 1 14 (lF (prC a b (zAk x) (zAk y))) 0 0,CV.pl 1 1 (lF [.ls n 2 (cF c0 c1)]) 0 0,CV.pl 1 2 (lF [iC t0,iC t1]) 0 0].getD i .any
theorem zSi(a b:Bp)(x y:Bg)(d:Int×Int)(Wn Hn:Nat)(ha:chk a.W a.H a.n=0)(hb:chk b.W b.H b.n=0)(hWn:a.W=Wn)(hHn:a.H=Hn)(hWb:b.W=a.W)(hHb:b.H=a.H)(hd:(-4≤d.1∧d.1≤4)∧-4≤d.2∧d.2≤4):
 ACalls Tryz.prog 95 [.ag (prC a b (zAk x) (zAk y)),.ag (mvC d)]
  (.c (.fn 109 3 (itC a b x y (Wn+40) (zAA (alB a b d.1 d.2) Wn 0 Hn 0) (zAA (alB b a (-d.1) (-d.2)) Wn d.1 Hn 0) (zAM (alB a b d.1 d.2) Wn Hn 0) (zAM (alB b a (-d.1) (-d.2)) Wn Hn 0)))):=by
 obtain⟨hw0,hw1,hh0,hh1,hn⟩:=okB ha
 obtain⟨-,-,-,-,hnb⟩:=okB hb
 rw[hWb,hHb]at hnb;rw[hWn,hHn]at hn hnb
 obtain⟨A0,hA0⟩:∃A0,alB a b d.1 d.2=A0:=⟨_,rfl⟩
 obtain⟨A1,hA1⟩:∃A1,alB b a (-d.1) (-d.2)=A1:=⟨_,rfl⟩
 rw[hA0,hA1]
 obtain⟨n,hnn⟩:∃n,Wn+40=n:=⟨_,rfl⟩
 rw[hnn];have hW96:Wn≤96:=by omega
 have hH96:Hn≤96:=by omega
 refine zJ Tryz.func95 rfl rfl Tryz.ntmps95 rfl ?_
 repeat (first
  |refine vB [0,2,4] ?_
  | (refine rG 1 ?_
     refine xE5 ?_;refine zC5 (zCN (n:=n) zA) ?_;refine xE2 ?_;refine aB ?_)
  | (refine rG 3 ?_
     refine qr5 zEH ?_;refine vA ?_;refine aB ?_))
 refine AWp.round (fun r:Nat=>zC 93 [(2,.c (.pt 2 14 0 0)),(3,.c (.pt 3 2 0 0)),(5,.c (.pt 5 1 0 0)),(6,.c (.pt 6 2 0 0)),(7,.c (.fn 107 2 zEj)),(19,.c (iC Hn)),(20,.c (iC r))] [(2,⟨false,1,14,155,lF (prC a b (zAk x) (zAk y))⟩),(3,⟨false,1,2,159,lF (mvC d)⟩),(5,sB 15),(15,cB n (zAA A0 Wn 0 r 0) (zAA A1 Wn d.1 r 0)),(6,tB (zAM A0 Wn r 0) (zAM A1 Wn r 0))] [2,3,5,15,6])
  (fun r=>r≤Hn) (fun r=>Hn-r) 0 (Nat.zero_le _) ?_ (fun r hr=> ?_)
 ·refine Wk.mk [(2,some 2),(3,some 3),(5,some 5),(15,some 15),(6,some 6)] rfl rfl rfl ?_ ?_
  ·repeat (first|exact trivial|refine⟨⟨_,rfl,by first|exact LeA.c (zDg (fun i=>rfl) rfl rfl)|exact leT⟩,?_⟩)
  ·refine⟨hSm,hSm,HeapOk.box rfl rfl ⟨LeC.ow _ _ rfl,trivial⟩ rfl,HeapOk.row rfl rfl rfl (fun k _ j hj=> ?_),hSm,trivial⟩
   rw[show zAA A0 Wn 0 0 0=fun _=>0 from funext fun k=>zIy _ _ _ k,show zAA A1 Wn d.1 0 0=fun _=>0 from funext fun k=>zIy _ _ _ k,←zOi k j hj]
   exact⟨rfl,by rw[zOi k j hj];exact zBC _ _ k j⟩
 ·by_cases hrl:r<Hn
  ·have hrow0 :=zIx A0 Wn 0 r
   have hrow1:=zIx A1 Wn d.1 r;have hrt0:=zJQ A0 Wn r;have hrt1:=zJQ A1 Wn r;refine vB [5,6,7] ?_;refine AWp.round (fun c:Nat=>zC 93 [(2,.c (.pt 2 14 0 0)),(3,.c (.pt 3 2 0 0)),(5,.c (.pt 5 1 0 0)),(6,.c (.pt 6 2 0 0)),(7,.c (.fn 107 2 zEj)),(8,.c (iC r)),(19,.c (iC Hn)),(20,.c (iC r)),(25,.c (iC Wn)),(26,.c (iC c))] [(2,⟨false,1,14,155,lF (prC a b (zAk x) (zAk y))⟩),(3,⟨false,1,2,159,lF (mvC d)⟩),(5,sB 15),(15,cB n (zAA A0 Wn 0 r c) (zAA A1 Wn d.1 r c)),(6,tB (zAM A0 Wn r c) (zAM A1 Wn r c))] [2,3,5,15,6])
    (fun c=>c≤Wn) (fun c=>Wn-c) 0 (Nat.zero_le _) ?_ (fun c hc=> ?_)
   ·refine Wk.mk [(2,some 2),(3,some 3),(5,some 5),(15,some 15),(6,some 6)] rfl rfl rfl ?_ ?_
    ·repeat (first|exact trivial|refine⟨⟨_,rfl,by first|exact LeA.c (zDg (fun i=>rfl) rfl rfl)|exact leT⟩,?_⟩)
    ·refine⟨hSm,hSm,HeapOk.box rfl rfl ⟨LeC.ow _ _ rfl,trivial⟩ rfl,HeapOk.row rfl rfl rfl (fun k _ j _=>⟨rfl,zBC _ _ k j⟩),hSm,trivial⟩
   ·by_cases hcl:c<Wn
    ·obtain ⟨p,hp⟩:∃p,r*Wn+c=p:=⟨_,rfl⟩
     have hpi:(r:Int)*a.W+(c:Int)=(p:Int):=by rw[←hp,hWn];simp
     have hpi2:(r:Int)*b.W+(c:Int)=(p:Int):=by rw[hWb];exact hpi
     have hrW:(0:Int)≤(r:Int)*a.W:=Int.mul_nonneg xD xD;have hpl:r*Wn+Wn≤Wn*Hn:=by
      have:=Nat.mul_le_mul_right Wn (show r+1≤Hn by omega);rw[Nat.succ_mul,Nat.mul_comm Hn]at this;exact this
     have hWH:(Wn*Hn:Nat)≤9216:=Nat.mul_le_mul hW96 hH96;have hna:a.n=Wn*Hn:=by omega
     have hnb':b.n=Wn*Hn:=by omega
     have hGb:=zLc b.W b.H b.n b.d ((c:Int)-d.1) ((r:Int)-d.2) hb;have hGa:=zLc a.W a.H a.n a.d ((c:Int)+d.1) ((r:Int)+d.2) ha;have hv0:A0 r c=(a.d p && !zAu b.W b.H b.d ((c:Int)-d.1) ((r:Int)-d.2)):=by
      rw[←hA0]
      show(zAu a.W a.H a.d c r && !zAu b.W b.H b.d ((c:Int)-d.1) ((r:Int)-d.2))=_
      rw[zIZ xD xD xD xD,hpi,Int.toNat_natCast]
     have hv1:A1 r c=(b.d p && !zAu a.W a.H a.d ((c:Int)+d.1) ((r:Int)+d.2)):=by
      rw[←hA1]
      show(zAu b.W b.H b.d c r && !zAu a.W a.H a.d ((c:Int) - -d.1) ((r:Int) - -d.2))=_
      rw[zIZ xD xD xD xD,hpi2,Int.toNat_natCast,Int.sub_neg,Int.sub_neg]
     obtain⟨k1,hk1⟩:=Int.eq_ofNat_of_zero_le (show 0≤(c:Int)+d.1+4 by omega)
     have b0:=zIw A0 Wn 0 r c (c+4);have b1:=zIw A1 Wn d.1 r c k1;have b2:=zJP A0 Wn r c hW96 xD;have b3:=zJP A1 Wn r c hW96 xD;have s0:=fun (h:A0 r c=true)=>zLQ (s:=0) h hcl (show((c+4:Nat):Int)=c+4+0 by omega)
     have s1:=fun (h:A1 r c=true)=>zLQ (s:=d.1) h hcl (show((k1:Nat):Int)=c+4+d.1 by omega)
     have n0:=fun (h:A0 r c=false)=>zLP (W:=Wn) (s:=0) h
     have n1:=fun (h:A1 r c=false)=>zLP (W:=Wn) (s:=d.1) h
     have u0:=fun (h:A0 r c=true)=>zN5 (W:=Wn) h
     have u1:=fun (h:A1 r c=true)=>zN5 (W:=Wn) h
     have v0:=fun (h:A0 r c=false)=>zN4 (W:=Wn) h
     have v1:=fun (h:A1 r c=false)=>zN4 (W:=Wn) h
     obtain⟨c0n,hc0n⟩:∃q,zAA A0 Wn 0 r (c+1)=q:=⟨_,rfl⟩
     obtain⟨c1n,hc1n⟩:∃q,zAA A1 Wn d.1 r (c+1)=q:=⟨_,rfl⟩
     obtain⟨t0n,ht0n⟩:∃q,zAM A0 Wn r (c+1)=q:=⟨_,rfl⟩
     obtain⟨t1n,ht1n⟩:∃q,zAM A1 Wn r (c+1)=q:=⟨_,rfl⟩
     rw[hc0n]at s0 n0;rw[hc1n]at s1 n1;rw[ht0n]at u0 v0;rw[ht1n]at u1 v1
     obtain⟨c0,hc0⟩:∃q,zAA A0 Wn 0 r c=q:=⟨_,rfl⟩
     obtain⟨c1,hc1⟩:∃q,zAA A1 Wn d.1 r c=q:=⟨_,rfl⟩
     obtain⟨t0,ht0⟩:∃q,zAM A0 Wn r c=q:=⟨_,rfl⟩
     obtain⟨t1,ht1⟩:∃q,zAM A1 Wn r c=q:=⟨_,rfl⟩
     rw[hc0]at s0 n0 b0;rw[hc1]at s1 n1 b1;rw[ht0]at u0 v0 b2;rw[ht1]at u1 v1 b3;rw[hc0,hc1,ht0,ht1];have hK0:A0 r c=true→HCalls Tryz.prog 107 [.c (iC 0),.c (iC c),.c (.pt 1000 1 0 0),.c (.pt 1002 2 0 0)] [(1000,sB 1001),(1001,cB n c0 c1),(1002,tB t0 t1)] (.tu []) [(1000,sB 1001),(1001,cB n c0n c1),(1002,tB t0n t1)]:=fun h=>by
      have:=zPe n c0 c1 t0 t1 c (c+4) xD xD xD ⟨b0.1,by omega⟩ ⟨b2.1,by omega⟩;rw[s0 h,u0 h]at this;exact this
     have hK1:A1 r c=true→HCalls Tryz.prog 107 [.c (iC 1),.c (iC ((c:Int)+d.1)),.c (.pt 1000 1 0 0),.c (.pt 1002 2 0 0)] [(1000,sB 1001),(1001,cB n c0n c1),(1002,tB t0n t1)] (.tu []) [(1000,sB 1001),(1001,cB n c0n c1n),(1002,tB t0n t1n)]:=fun h=>by
      have:=zPf n c0n c1 t0n t1 ((c:Int)+d.1) k1 xD xD xD ⟨b1.1,by omega⟩ ⟨b3.1,by omega⟩;rw[s1 h,u1 h]at this;exact this
     clear s0 s1 u0 u1 hA0 hA1 hrow0 hrow1 hrt0 hrt1;refine vB [8,9] ?_;refine zEd (zC 93 [(2,.c (.pt 2 14 0 0)),(3,.c (.pt 3 2 0 0)),(5,.c (.pt 5 1 0 0)),(6,.c (.pt 6 2 0 0)),(7,.c (.fn 107 2 zEj)),(8,.c (iC r)),(9,.c (iC c)),(19,.c (iC Hn)),(20,.c (iC r)),(25,.c (iC Wn)),(26,.c (iC c))] [(2,⟨false,1,14,155,lF (prC a b (zAk x) (zAk y))⟩),(3,⟨false,1,2,159,lF (mvC d)⟩),(5,sB 15),(15,cB n c0n c1),(6,tB t0n t1)] [2,3,5,15,6]) ?_ ?_
     ·cases hd0:a.d p with
      | false=>
        have hv:A0 r c=false:=by rw[hv0,hd0];rfl
        have q0:=n0 hv;have q1:=v0 hv;subst q0 q1
        repeat (first
         |refine vB [] ?_
         | (refine rG 10 ?_
            refine zB4 ?_;refine zG (aP (k:=p) zA) ?_;refine zY zA (congrArg (fun q=>CV.p (.bool q)) hd0) rfl rfl rfl rfl rfl oM ?_;refine zFb ?_;refine aB ?_))
        refine⟨rfl,Wk.mk [(2,some 2),(3,some 3),(5,some 5),(15,some 15),(6,some 6)] rfl rfl rfl ?_ ?_⟩
        ·repeat (first|exact trivial|refine⟨⟨_,rfl,by first|exact LeA.c (zDg (fun i=>rfl) rfl rfl)|exact leT⟩,?_⟩)
        ·refine⟨hSm,hSm,HeapOk.box rfl rfl ⟨LeC.ow _ _ rfl,trivial⟩ rfl,HeapOk.row rfl rfl rfl (fun k _ j _=>⟨rfl,zBC _ _ k j⟩),hSm,trivial⟩
      | true=>
        cases hg0:zAu b.W b.H b.d ((c:Int)-d.1) ((r:Int)-d.2)with
        | true=>
          rw[hg0]at hGb;have hv:A0 r c=false:=by rw[hv0,hd0,hg0];rfl
          have q0:=n0 hv;have q1:=v0 hv;subst q0 q1
          repeat (first
           |refine vB [] ?_
           | (refine rG 10 ?_
              refine zB4 ?_;refine zG (aP (k:=p) zA) ?_;refine zY zA (congrArg (fun q=>CV.p (.bool q)) hd0) rfl rfl rfl rfl rfl oM ?_;refine zCn ?_;refine xB Tryz.func108 hGb ?_;refine xE2 ?_;refine aB ?_))
          refine⟨rfl,Wk.mk [(2,some 2),(3,some 3),(5,some 5),(15,some 15),(6,some 6)] rfl rfl rfl ?_ ?_⟩
          ·repeat (first|exact trivial|refine⟨⟨_,rfl,by first|exact LeA.c (zDg (fun i=>rfl) rfl rfl)|exact leT⟩,?_⟩)
          ·refine⟨hSm,hSm,HeapOk.box rfl rfl ⟨LeC.ow _ _ rfl,trivial⟩ rfl,HeapOk.row rfl rfl rfl (fun k _ j _=>⟨rfl,zBC _ _ k j⟩),hSm,trivial⟩
        | false=>
          rw[hg0]at hGb;have hv:A0 r c=true:=by rw[hv0,hd0,hg0];rfl
          repeat (first
           |refine vB [] ?_
           | (refine rG 10 ?_
              refine zB4 ?_;refine zG (aP (k:=p) zA) ?_;refine zY zA (congrArg (fun q=>CV.p (.bool q)) hd0) rfl rfl rfl rfl rfl oM ?_;refine zCn ?_;refine xB Tryz.func108 hGb ?_;refine xE2 ?_;refine aB ?_)
           | (refine rG 11 ?_
              refine xE2 ?_;refine zJ2 [5,15,6] [sB 1001,cB n c0 c1,tB t0 t1] [sB 1001,cB n c0n c1,tB t0n t1] [sB 15,cB n c0n c1,tB t0n t1] rfl rfl rfl rfl rfl Tryz.func107 rfl xC (LendOk2.box rfl ⟨LentC.ow rfl,trivial⟩ rfl (LendOk2.row rfl xD (fun k _ j _=>⟨rfl,zBC _ _ k j⟩) (LendOk2.box rfl ⟨LentC.imm rfl,LentC.imm rfl,trivial⟩ rfl trivial))) rfl (BackOk.box ⟨LentC.ow rfl,trivial⟩ rfl rfl (BackOk.row (fun k _ j _=>zBC _ _ k j) (BackOk.box ⟨LentC.imm rfl,LentC.imm rfl,trivial⟩ rfl rfl trivial))) (hK0 hv) ?_;refine aB ?_))
          refine⟨rfl,Wk.mk [(2,some 2),(3,some 3),(5,some 5),(15,some 15),(6,some 6)] rfl rfl rfl ?_ ?_⟩
          ·repeat (first|exact trivial|refine⟨⟨_,rfl,by first|exact LeA.c (zDg (fun i=>rfl) rfl rfl)|exact leT⟩,?_⟩)
          ·refine⟨hSm,hSm,HeapOk.box rfl rfl ⟨LeC.ow _ _ rfl,trivial⟩ rfl,HeapOk.row rfl rfl rfl (fun k _ j _=>⟨rfl,zBC _ _ k j⟩),hSm,trivial⟩
     refine uA ?_;refine zKt (zC 93 [(2,.c (.pt 2 14 0 0)),(3,.c (.pt 3 2 0 0)),(5,.c (.pt 5 1 0 0)),(6,.c (.pt 6 2 0 0)),(7,.c (.fn 107 2 zEj)),(8,.c (iC r)),(9,.c (iC c)),(19,.c (iC Hn)),(20,.c (iC r)),(25,.c (iC Wn)),(26,.c (iC c))] [(2,⟨false,1,14,155,lF (prC a b (zAk x) (zAk y))⟩),(3,⟨false,1,2,159,lF (mvC d)⟩),(5,sB 15),(15,cB n c0n c1n),(6,tB t0n t1n)] [2,3,5,15,6]) ?_ (fun S2 hw2=>AWp.weak hw2 ?_)
     ·cases hd1:b.d p with
      | false=>
        have hv:A1 r c=false:=by rw[hv1,hd1];rfl
        have q0:=n1 hv;have q1:=v1 hv;subst q0 q1
        repeat (first
         |refine vB [] ?_
         | (refine rG 12 ?_
            refine zB4 ?_;refine zG (aP (k:=p) zA) ?_;refine zY zA (congrArg (fun q=>CV.p (.bool q)) hd1) rfl rfl rfl rfl rfl oM ?_;refine zFb ?_;refine aB ?_))
        refine⟨rfl,Wk.mk [(2,some 2),(3,some 3),(5,some 5),(15,some 15),(6,some 6)] rfl rfl rfl ?_ ?_⟩
        ·repeat (first|exact trivial|refine⟨⟨_,rfl,by first|exact LeA.c (zDg (fun i=>rfl) rfl rfl)|exact leT⟩,?_⟩)
        ·refine⟨hSm,hSm,HeapOk.box rfl rfl ⟨LeC.ow _ _ rfl,trivial⟩ rfl,HeapOk.row rfl rfl rfl (fun k _ j _=>⟨rfl,zBC _ _ k j⟩),hSm,trivial⟩
      | true=>
        cases hg1:zAu a.W a.H a.d ((c:Int)+d.1) ((r:Int)+d.2)with
        | true=>
          rw[hg1]at hGa;have hv:A1 r c=false:=by rw[hv1,hd1,hg1];rfl
          have q0:=n1 hv;have q1:=v1 hv;subst q0 q1
          repeat (first
           |refine vB [] ?_
           | (refine rG 12 ?_
              refine zB4 ?_;refine zG (aP (k:=p) zA) ?_;refine zY zA (congrArg (fun q=>CV.p (.bool q)) hd1) rfl rfl rfl rfl rfl oM ?_;refine zCn ?_;refine xB Tryz.func108 hGa ?_;refine xE2 ?_;refine aB ?_))
          refine⟨rfl,Wk.mk [(2,some 2),(3,some 3),(5,some 5),(15,some 15),(6,some 6)] rfl rfl rfl ?_ ?_⟩
          ·repeat (first|exact trivial|refine⟨⟨_,rfl,by first|exact LeA.c (zDg (fun i=>rfl) rfl rfl)|exact leT⟩,?_⟩)
          ·refine⟨hSm,hSm,HeapOk.box rfl rfl ⟨LeC.ow _ _ rfl,trivial⟩ rfl,HeapOk.row rfl rfl rfl (fun k _ j _=>⟨rfl,zBC _ _ k j⟩),hSm,trivial⟩
        | false=>
          rw[hg1]at hGa;have hv:A1 r c=true:=by rw[hv1,hd1,hg1];rfl
          repeat (first
           |refine vB [] ?_
           | (refine rG 12 ?_
              refine zB4 ?_;refine zG (aP (k:=p) zA) ?_;refine zY zA (congrArg (fun q=>CV.p (.bool q)) hd1) rfl rfl rfl rfl rfl oM ?_;refine zCn ?_;refine xB Tryz.func108 hGa ?_;refine xE2 ?_;refine aB ?_)
           | (refine rG 13 ?_
              refine xE5 ?_;refine zJ2 [5,15,6] [sB 1001,cB n c0n c1,tB t0n t1] [sB 1001,cB n c0n c1n,tB t0n t1n] [sB 15,cB n c0n c1n,tB t0n t1n] rfl rfl rfl rfl rfl Tryz.func107 rfl xC (LendOk2.box rfl ⟨LentC.ow rfl,trivial⟩ rfl (LendOk2.row rfl xD (fun k _ j _=>⟨rfl,zBC _ _ k j⟩) (LendOk2.box rfl ⟨LentC.imm rfl,LentC.imm rfl,trivial⟩ rfl trivial))) rfl (BackOk.box ⟨LentC.ow rfl,trivial⟩ rfl rfl (BackOk.row (fun k _ j _=>zBC _ _ k j) (BackOk.box ⟨LentC.imm rfl,LentC.imm rfl,trivial⟩ rfl rfl trivial))) (hK1 hv) ?_;refine aB ?_))
          refine⟨rfl,Wk.mk [(2,some 2),(3,some 3),(5,some 5),(15,some 15),(6,some 6)] rfl rfl rfl ?_ ?_⟩
          ·repeat (first|exact trivial|refine⟨⟨_,rfl,by first|exact LeA.c (zDg (fun i=>rfl) rfl rfl)|exact leT⟩,?_⟩)
          ·refine⟨hSm,hSm,HeapOk.box rfl rfl ⟨LeC.ow _ _ rfl,trivial⟩ rfl,HeapOk.row rfl rfl rfl (fun k _ j _=>⟨rfl,zBC _ _ k j⟩),hSm,trivial⟩
     refine vB [14] ?_
     refine⟨c+1,by omega,Wk.mk [(2,some 2),(3,some 3),(5,some 5),(15,some 15),(6,some 6)] rfl rfl rfl ?_ ?_,by omega⟩
     ·repeat (first|exact trivial|refine⟨⟨_,rfl,by first|exact LeA.c (zDg (fun i=>rfl) rfl rfl)|exact leT⟩,?_⟩)
     ·rw[hc0n,hc1n,ht0n,ht1n]
      refine⟨hSm,hSm,HeapOk.box rfl rfl ⟨LeC.ow _ _ rfl,trivial⟩ rfl,HeapOk.row rfl rfl rfl (fun k _ j _=>⟨rfl,zBC _ _ k j⟩),hSm,trivial⟩
    ·obtain rfl:c=Wn:=by omega
     refine vB [8,15] ?_
     refine⟨r+1,hrl,Wk.mk [(2,some 2),(3,some 3),(5,some 5),(15,some 15),(6,some 6)] rfl rfl rfl ?_ ?_,by omega⟩
     ·repeat (first|exact trivial|refine⟨⟨_,rfl,by first|exact LeA.c (zDg (fun i=>rfl) rfl rfl)|exact leT⟩,?_⟩)
     ·rw[hrow0,hrow1,hrt0,hrt1]
      refine⟨hSm,hSm,HeapOk.box rfl rfl ⟨LeC.ow _ _ rfl,trivial⟩ rfl,HeapOk.row rfl rfl rfl (fun k _ j _=>⟨rfl,zBC _ _ k j⟩),hSm,trivial⟩
  ·obtain rfl:r=Hn:=by omega
   repeat (first
    |refine vB [5] ?_
    | (refine rG 16 ?_
       refine qr5 zEH ?_;refine vA ?_;refine aB ?_))
   have hn0:0<n:=by omega
   refine⟨zC 93 [(4,.c (.fn 109 3 (itC a b x y n (zAA A0 Wn 0 r 0) (zAA A1 Wn d.1 r 0) (zAM A0 Wn r 0) (zAM A1 Wn r 0))))] [] [],[],?_,rfl,rfl,ARets.one (x:=.c _) (ARes.fn rfl fun i hi=> ?_)⟩
   ·refine Wk.trans (B:=zC 93 [(4,.c (.fn 109 3 fun i=> [CV.pt 2 14 0 0,CV.pt 5 1 0 0,CV.pt 6 2 0 0].getD i .any))] [(2,⟨false,1,14,155,lF (prC a b (zAk x) (zAk y))⟩),(5,⟨false,1,1,170,lF [.ls n 2 (cF (zAA A0 Wn 0 r 0) (zAA A1 Wn d.1 r 0))]⟩),(6,tB (zAM A0 Wn r 0) (zAM A1 Wn r 0))] [2,5,6]) (Wk.mk [(2,some 2),(5,some 5),(6,some 6)] rfl rfl rfl ⟨⟨_,rfl,.c (LeC.fn _ _ _ _ (fun i hi=> ?_) (fun i hi=> ?_))⟩,trivial⟩ ⟨hSm,HeapOk.box rfl rfl ⟨zZ rfl rfl rfl (fun k _ j _=>⟨rfl,zBC _ _ k j⟩),trivial⟩ rfl,hSm,trivial⟩) (Wk.mk [] rfl rfl rfl ⟨⟨_,rfl,.c (LeC.fn _ _ _ _ (fun i hi=> ?_) (fun i hi=> ?_))⟩,trivial⟩ trivial)
    ·have hi3:i<3:=hi
     obtain rfl|rfl|rfl:i=0∨i=1∨i=2:=by omega
     all_goals exact⟨trivial,trivial⟩
    ·have hi3:i<3:=hi
     obtain rfl|rfl|rfl:i=0∨i=1∨i=2:=by omega
     ·exact .pt 2 2 14 0 0 rfl
     ·exact .pt 5 5 1 0 0 rfl
     ·exact .pt 6 6 2 0 0 rfl
    ·have hi3:i<3:=hi
     obtain rfl|rfl|rfl:i=0∨i=1∨i=2:=by omega
     all_goals exact⟨trivial,trivial⟩
    ·have hi3:i<3:=hi
     obtain rfl|rfl|rfl:i=0∨i=1∨i=2:=by omega
     ·exact zCp rfl rfl rfl rfl
     ·exact zCp rfl rfl rfl rfl
     ·exact zCp rfl rfl rfl rfl
   ·have hi3:i<3:=hi
    obtain rfl|rfl|rfl:i=0∨i=1∨i=2:=by omega
    all_goals rfl
abbrev zHu(a b:Bp)(x y:Bg)(n:Nat)(c0 c1:Nat→Int)(t0 t1:Int):List CV:= [CV.pl 1 14 (lF (prC a b (zAk x) (zAk y))) 0 0,CV.pl 1 1 (lF [.ls n 2 (cF c0 c1)]) 0 0,CV.pl 1 2 (lF [iC t0,iC t1]) 0 0]
theorem zSh(a b:Bp)(x y:Bg)(n t M Wn:Nat)(c0 c1:Nat→Int)(t0 t1:Int)(hw:a.W=Wn)(hw96:Wn≤96)(hn:n=Wn+40)(ht:stN a.W x y=t)(hM:M+t=Wn+9)(hc0:∀k,0≤c0 k∧c0 k≤97)(hc1:∀k,0≤c1 k∧c1 k≤97)(ht0:∀i,0≤t0-wS c0 i t∧t0-wS c0 i t≤100000)(ht1:∀i,0≤t1-wS c1 i t∧t1-wS c1 i t≤100000):
 zGv Tryz.prog 109 ((zHu a b x y n c0 c1 t0 t1).map .c) (stX x y t c0 c1 t0 t1) M:=by
 have hb:=zE3 x y (show 0≤a.W by omega);have ht16:t≤16∧t≤Wn+8:=by omega
 have hst:=zRv a b x y xD;rw[ht]at hst;refine zQN Tryz.func109 rfl rfl Tryz.ntmps109 rfl fun l N stop hN1 hN2=> ?_
 repeat (first
  |refine vB [1,2] ?_
  | (refine rG 0 ?_
     refine vA ?_;refine xB Tryz.func110 hst ?_;refine vA ?_;refine aB ?_))
 refine AWp.round (fun k:Nat=>mkG (itG Tryz.prog l (stX x y t c0 c1 t0 t1) N stop) 0 false 90 0 [(0,.c (.p (yv l))),(1,.c (.pl 1 14 (lF (prC a b (zAk x) (zAk y))) 0 0)),(2,.c (.pl 1 1 (lF [.ls n 2 (cF c0 c1)]) 0 0)),(3,.c (.pl 1 2 (lF [iC t0,iC t1]) 0 0)),(5,.c (iC t)),(6,.c (.pt 6 2 0 0)),(13,.c (iC t)),(14,.c (iC k))] [(6,⟨false,1,2,25,lF [iC (wS c0 0 k),iC (wS c1 0 k)]⟩)] [6])
  (fun k=>k≤t) (fun k=>t-k) 0 (Nat.zero_le _) ?_ (fun k hk=> ?_)
 ·refine Wk.mkG [(6,some 6)] rfl rfl rfl rfl rfl ?_ ?_
  ·exact zB
  ·exact⟨hSm,trivial⟩
 ·by_cases hkl:k<t
  ·have b0:=zE8 hc0 0 k
   have b1:=zE8 hc1 0 k;have d0:=hc0 k;have d1:=hc1 k;have e0:=zGn c0 0 k;have e1:=zGn c1 0 k;rw[Nat.zero_add]at e0 e1
   obtain⟨u0,hu0⟩:∃u,wS c0 0 (k+1)=u:=⟨_,rfl⟩
   obtain⟨u1,hu1⟩:∃u,wS c1 0 (k+1)=u:=⟨_,rfl⟩
   rw[hu0]at e0;rw[hu1]at e1;generalize wS c0 0 k=v0 at *;generalize wS c1 0 k=v1 at *
   repeat (first
    |refine vB [3,4,7] ?_
    |(refine AWp.draw (id:=5) zK ?_;refine xE4 ?_;refine zG (aP (k:=k) zA) ?_;refine zBI (zA4 zA) ?_;refine xE4 ?_;refine aB ⟨by kernel_rfl,?_⟩)
    |(refine AWp.draw (id:=6) zK ?_;refine xE4 ?_;refine zG (aP (k:=k) zA) ?_;refine zBI (zA4 zA) ?_;refine xE4 ?_;refine aB ⟨by kernel_rfl,?_⟩))
   refine⟨k+1,hkl,Wk.mkG [(6,some 6)] rfl rfl rfl rfl rfl ?_ ?_,by omega⟩
   ·exact zB
   ·rw[hu0,hu1,e0,e1]
    exact⟨hSm,trivial⟩
  ·obtain rfl:k=t:=by omega
   refine vB [3,8] ?_;refine AWp.round (fun i:Nat=>mkG (itG Tryz.prog l (stX x y k c0 c1 t0 t1) N stop) i false 90 0 [(0,.c (.p (yv l))),(1,.c (.pl 1 14 (lF (prC a b (zAk x) (zAk y))) 0 0)),(2,.c (.pl 1 1 (lF [.ls n 2 (cF c0 c1)]) 0 0)),(3,.c (.pl 1 2 (lF [iC t0,iC t1]) 0 0)),(5,.c (iC k)),(6,.c (.pt 6 2 0 0)),(8,.c (iC ((i:Int)-4)))] [(6,⟨false,1,2,25,lF [iC (wS c0 i k),iC (wS c1 i k)]⟩)] [6])
    (fun i=>i<M∧(stop=true→i<N)) (fun i=>M-i) 0 ⟨by omega,fun h=>(hN1 h).1⟩ ?_ (fun i hi=> ?_)
   ·refine Wk.mkG [(6,some 6)] rfl rfl rfl rfl rfl ?_ ?_
    ·exact zB
    ·exact⟨hSm,trivial⟩
   ·obtain⟨hiM,hiN0⟩:=hi
    have hiN:i<N:=by
     cases stop with
     |true=>exact hiN0 rfl
     |false=>rw[hN2 rfl];exact hiM
    have q0:=ht0 i;have q1:=ht1 i;have b0:=zE8 hc0 i k;have b1:=zE8 hc1 i k;have hpe:=zRq a b x y (t0-wS c0 i k) (t1-wS c1 i k) q0 q1
    cases hg1:zAs N stop i with
    | false=>
      obtain⟨hst1,hN⟩:=zQy hg1
      refine vB [] ?_;refine AWp.text ?_;refine AText.split 14 ?_;refine xE3 ?_;refine zBI (zA4 zA) ?_;refine xE4 ?_;refine zBI (zA4 zA) ?_;refine xE4 ?_;refine xB Tryz.func111 hpe ?_;refine aB ?_;refine AText.yield (i:=i) false rfl rfl rfl rfl (fun _ h=>h) rfl rfl (hiN) (rfl) (hg1) ?_;refine AText.all ?_;refine zCn ?_;refine aB ?_;refine vB [] ?_
      exact⟨hN,hst1.symm⟩
    | true=>
      by_cases hlast:i+1=M
      ·have hsf:stop=false:=by
        cases stop with
        |false=>rfl
        |true=>have:=zMo hg1 rfl;have:=hN1 rfl;omega
       refine vB [] ?_;refine AWp.text ?_;refine AText.split 14 ?_;refine xE3 ?_;refine zBI (zA4 zA) ?_;refine xE4 ?_;refine zBI (zA4 zA) ?_;refine xE4 ?_;refine xB Tryz.func111 hpe ?_;refine aB ?_;refine AText.yield (i:=i) true rfl rfl rfl rfl (fun _ h=>h) rfl rfl (hiN) (rfl) (hg1) ?_;refine AText.all ?_;refine zCn ?_;refine aB ?_;refine vB [] ?_
       exact⟨by rw[hN2 hsf];exact hlast,hsf.symm⟩
      ·have hnx0:=zN9 c0 i k
       have hnx1:=zN9 c1 i k;have d0:=hc0 i;have d1:=hc1 i;have d2:=hc0 (i+k);have d3:=hc1 (i+k);refine vB [] ?_;refine AWp.text ?_;refine AText.split 14 ?_;refine xE3 ?_;refine zBI (zA4 zA) ?_;refine xE4 ?_;refine zBI (zA4 zA) ?_;refine xE4 ?_;refine xB Tryz.func111 hpe ?_;refine aB ?_;refine AText.yield (i:=i) true rfl rfl rfl rfl (fun _ h=>h) rfl rfl (hiN) (rfl) (hg1) ?_;refine AText.all ?_;refine zCn ?_;refine aB ?_;refine vB [11] ?_;refine AWp.round (fun z:Nat×Int×Int=>mkG (itG Tryz.prog l (stX x y k c0 c1 t0 t1) N stop) (i+1) false 90 0 [(0,.c (.p (yv l))),(1,.c (.pl 1 14 (lF (prC a b (zAk x) (zAk y))) 0 0)),(2,.c (.pl 1 1 (lF [.ls n 2 (cF c0 c1)]) 0 0)),(3,.c (.pl 1 2 (lF [iC t0,iC t1]) 0 0)),(5,.c (iC k)),(6,.c (.pt 6 2 0 0)),(8,.c (iC ((i:Int)-4))),(64,.c (iC z.1))] [(6,⟨false,1,2,25,lF [iC z.2.1,iC z.2.2]⟩)] [6])
        (fun z=>z=(0,wS c0 i k,wS c1 i k)∨z=(1,wS c0 i k+(c0 (i+k)-c0 i),wS c1 i k)∨z=(2,wS c0 i k+(c0 (i+k)-c0 i),wS c1 i k+(c1 (i+k)-c1 i))) (fun z=>2-z.1) (0,wS c0 i k,wS c1 i k) (.inl rfl) ?_ (fun z hz=> ?_)
       ·refine Wk.mkG [(6,some 6)] rfl rfl rfl rfl rfl ?_ ?_
        ·exact zB
        ·exact⟨hSm,trivial⟩
       ·rcases hz with rfl|rfl|rfl
        ·dsimp only
         generalize wS c0 i k=v0 at *;generalize wS c1 i k=v1 at *
         repeat (first
          |refine vB [12,13,15] ?_
          |(refine AWp.draw (id:=14) zK ?_;refine xE9 ?_;refine zG (aP (k:=i+k) zA) ?_;refine zBI (zA4 zA) ?_;refine xE5 ?_;refine zG (aP (k:=i) zA) ?_;refine zBI (zA4 zA) ?_;refine xE5 ?_;refine aB ⟨by kernel_rfl,?_⟩))
         refine⟨(1,v0+(c0 (i+k)-c0 i),v1),.inr (.inl rfl),Wk.mkG [(6,some 6)] rfl rfl rfl rfl rfl ?_ ?_,by dsimp only;omega⟩
         ·exact zB
         ·exact⟨hSm,trivial⟩
        ·dsimp only
         generalize wS c0 i k=v0 at *;generalize wS c1 i k=v1 at *
         repeat (first
          |refine vB [12,13,15] ?_
          |(refine AWp.draw (id:=14) zK ?_;refine xE9 ?_;refine zG (aP (k:=i+k) zA) ?_;refine zBI (zA4 zA) ?_;refine xE5 ?_;refine zG (aP (k:=i) zA) ?_;refine zBI (zA4 zA) ?_;refine xE5 ?_;refine aB ⟨by kernel_rfl,?_⟩))
         refine⟨(2,v0+(c0 (i+k)-c0 i),v1+(c1 (i+k)-c1 i)),.inr (.inr rfl),Wk.mkG [(6,some 6)] rfl rfl rfl rfl rfl ?_ ?_,by dsimp only;omega⟩
         ·exact zB
         ·exact⟨hSm,trivial⟩
        ·dsimp only
         refine vB [9,12] ?_
         refine⟨i+1,⟨by omega,fun h=> ?_⟩,Wk.mkG [(6,some 6)] rfl rfl rfl rfl rfl ?_ ?_,by omega⟩
         ·have:=zMo hg1 h;have:=hN1 h;omega
         ·exact zB
         ·rw[hnx0,hnx1]
          exact⟨hSm,trivial⟩
end Go.Proofs.YtbffmfeldkjkcaaGreat
end
