/- Parts of the proof: AMemD, A24l, A24ma, A24n, A24m, A24o. -/
import Derived.Test.YtbffmfeldkjkcaaG16
set_option linter.unusedSimpArgs false
set_option linter.unusedVariables false
set_option maxHeartbeats 0
section
namespace Go.AV
open Go Go.RowKit Go.Flow
section
variable{P:Program}
def fixC:CV→Bool
 | .ow id=>Nat.ble 1000 id
 |x=>immC x
theorem fixC_or{x:CV}(h:fixC x=true):immC x=true∨∃id,1000≤id∧x=.ow id:=by
 cases x with
 |ow id=>exact .inr ⟨id,Nat.ble_eq.mp h,rfl⟩
 |_=>exact .inl h
theorem to_fix2{b0:Base}{σ:Nat→Option Value}{hs:List (Nat×AB)}{w:World}(H:HRel b0 σ (assoc hs) w)(hk:keysHi hs=true)(hb:∀p∈hs,∀k j,k<p.2.n→j<p.2.sz→fixC (p.2.F k j)=true):HRel b0 b0.fix (assoc hs) w∧∀b,own σ (assoc hs) b↔own b0.fix (assoc hs) b:=by
 have hown:∀b,own σ (assoc hs) b↔own b0.fix (assoc hs) b:=fun b=>⟨fun ⟨i,v,h1,h2,h3⟩=>⟨i,v,h1,by rw[(fix_eq H hk h1).1];exact h2,h3⟩,fun ⟨i,v,h1,h2,h3⟩=>⟨i,v,h1,by rw[←(fix_eq H hk h1).1];exact h2,h3⟩⟩
 have hout:∀b,out b0 b0.fix (assoc hs) b→out b0 σ (assoc hs) b:=fun b hb=>hb.imp (hown b).2 fun h=>h
 refine⟨⟨fun i B hB=> ?_,fun i j v1 v2 b hi hj h1 h2=>H.inj i j v1 v2 b hi hj (by rw[←(fix_eq H hk hi).1];exact h1) (by rw[←(fix_eq H hk hj).1];exact h2),fun b hb=>H.new b ((hown b).2 hb),fun i v hi=>⟨hi,(H.fx i v hi).2⟩,fun i _ hf=>hf⟩,hown⟩
 have hne:assoc hs i≠none:=by rw[hB];simp
 obtain⟨v,e1,e2⟩:=H.blk i B hB
 refine⟨v,(fix_eq H hk hne).1.trans e1,?_⟩
 rcases e2 with h0|⟨b,cap,cs,k1,k2,k3,k4⟩|hm
 ·exact .inl h0
 rotate_left
 ·exact .inr (.inr hm)
 ·refine .inr (.inl ⟨b,cap,cs,k1,k2,k3,fun k hk' j hj=> ?_⟩)
  obtain⟨u,g1,g2⟩:=k4 k hk' j hj
  have him:=hb _ (assoc_mem hB) k j hk' hj
  refine⟨u,g1,?_⟩
  rcases fixC_or him with him|⟨id,h1,h2⟩
  ·exact repC_imm him g2.1 ((repI_imm him g2).less hout)
  ·replace h2:B.F k j=.ow id:=h2
   rw[h2]at g2
   rw[h2]
   refine⟨g2.1,?_,g2.2.2⟩
   have hs:=g2.2.1
   cases hf:b0.fix id with
   |none=>rw[H.big id h1 hf]at hs;cases hs
   |some u'=>rw[(H.fx id u' hf).1]at hs;exact hs
theorem hcalls_of2{f:FuncId}{fn:Func}{c:Code}{rs:List ResultVar}{args:List V1}{hs hs':List (Nat×AB)}{r:AV}(hf:P.funcs[f]?=some fn)(hb:fn.body=some c)(hr:fn.results=rs.toArray)(hn:args.length≤fn.ntmps)
 (hk:keysHi hs'=true) (him:∀p∈hs',∀k j,k<p.2.n→j<p.2.sz→fixC (p.2.F k j)=true)
 (h:AWp P c (RetOk P rs r hs') (entryL fn.ntmps args hs)):HCalls P f args hs r hs':=fun b0 vals hH hle hY hv=>by
 have hl:=hv.length
 let b2:Base:=⟨b0.w,b0.X,b0.Y,b0.fix,b0.lt,b0.ylt,b0.dis,b0.one,fun _ _=>False,fun _ _ _=>True,none,fun _ _ h=>h.elim,fun _ _ _ _ _ _ _ _=>trivial⟩
 have up:∀{σ h w},HRel b0 σ h w→HRel b2 σ h w:=fun H=>⟨H.blk,H.inj,H.new,H.fx,H.big⟩
 have dn:∀{σ h w},HRel b2 σ h w→HRel b0 σ h w:=fun H=>⟨H.blk,H.inj,H.new,H.fx,H.big⟩
 refine calls_of_awp (b0:=b2) hf hb rfl h ⟨b0.fix,trivial,?_,⟨rfl,rfl,rfl,Nat.le_refl _,fun _ _ _=>rfl⟩,up hH,fun t x hx=> ?_,fun id hid=> ?_,hle,rfl,trivial⟩ (fun e S hQ=>by cases e<;>first|exact .inl rfl|exact .inr rfl|exact hQ.elim) fun e a w S hR hQ hd=> ?_
 ·simp[entryL,hl];omega
 ·obtain⟨y,e1,rfl⟩:∃y,args[t]?=some y∧y.av=x:=by simpa[entryL,Option.map_eq_some_iff]using hx
  obtain⟨v,e2,e3⟩:=hv.get e1
  have ht:(vals.toArray++Array.replicate (fn.ntmps-vals.toArray.size) undef).getD t undef=v:=by
   have hlt:=(List.getElem?_eq_some_iff.1 e2).1
   have:=(List.getElem?_eq_some_iff.1 e2).2
   simp[Array.getD_eq_getD_getElem?,Array.getElem?_append,hlt,this]
  rw[ht]
  exact e3.av
 ·have h1:id<1000:=Nat.blt_eq.mp hid
  refine⟨?_,h1⟩
  cases hc:b0.fix id with
  |none=>rfl
  |some v=>have:=(b0.one id v hc).1;omega
 ·obtain⟨S',loc,hw,hS',hlc,hS⟩:∃S' loc,Wk S S'∧S'.h=assoc (loc++hs')∧loc.all (fun p=>Nat.blt p.1 1000)=true∧ARets P S' rs r:=by cases e<;>first|exact hQ|exact hQ.elim
  obtain⟨σ,R⟩:=hw b2 a w hR
  obtain⟨v,h1,h2⟩:=hS.run hr R
  have hH0:=R.hp
  rw[hS']at hH0 h2
  obtain⟨hH',hsub⟩:=hH0.lent hlc hk
  replace h2:=h2.keep (σ':=fun _=>none) ⟨rfl,rfl,rfl,Nat.le_refl _,fun _ _ _=>rfl⟩ (fun b (hb:out b2 σ (assoc hs') b)=>.inl (hb.imp (hsub b) fun h=>h)) fun _ _ h=>h
  obtain⟨g1,g2⟩:=to_fix2 hH' hk him
  refine⟨v,h1,v,rfl,h2.keep ⟨rfl,rfl,rfl,Nat.le_refl _,fun _ _ _=>rfl⟩ (fun b hb=>.inl ?_) (fun _ _ h=>h),dn g1,R.ext.less fun b hb=>hb.elim id fun h=>h.elim⟩
  rcases hb with ⟨i,u,k1,k2,k3⟩|hb
  ·exact .inl ((g2 b).2 ⟨i,u,(g1.fx i u k2).2,k2,k3⟩)
  ·exact .inr hb
theorem hcalls_at2{f:FuncId}{fn:Func}{c:Code}{rs:List ResultVar}{args:List V1}{hs hs':List (Nat×AB)}{r:AV}{n:Nat}(hf:P.funcs[f]?=some fn)(hb:fn.body=some c)(hr:fn.results=rs.toArray)(hn:fn.ntmps=n)(hl:Nat.ble args.length n=true)
 (hk:keysHi hs'=true) (him:∀p∈hs',∀k j,k<p.2.n→j<p.2.sz→fixC (p.2.F k j)=true) (h:AWp P c (RetOk P rs r hs') (entryL n args hs)):HCalls P f args hs r hs':=by
 subst hn
 exact hcalls_of2 hf hb hr (Nat.ble_eq.mp hl) hk him h

def LentC(ids:List Nat)(x y:CV):Prop:=(x=y∧immC y=true)∨∃id i,x=.ow id∧posOf ids id=some i∧y=.ow (1000+i)
theorem LentC.mo{ids:List Nat}{x y:CV}{b:Nat}{o:Obj}(h:LentC ids x y)(hx:MoOk x b o):MoOk y b o:=by
 rcases h with ⟨rfl,_⟩|⟨id,i,rfl,_,_⟩
 ·exact hx
 ·rcases hx.2 with h|⟨K,h,_⟩<;>cases h
theorem LentC.mo'{ids:List Nat}{x y:CV}{b:Nat}{o:Obj}(h:LentC ids x y)(hx:MoOk y b o):MoOk x b o:=by
 rcases h with ⟨rfl,_⟩|⟨id,i,_,_,rfl⟩
 ·exact hx
 ·rcases hx.2 with h|⟨K,h,_⟩<;>cases h
def LendOk2(S:St)(all:List Nat):List Nat→List AB→Prop
 | [],[]=>True
 |id::ids,B::bs=>(∃F,S.h id=some ⟨B.row,B.n,B.sz,B.ty,F⟩∧(B.row=true→0<B.n)∧∀k,k<B.n→∀j,j<B.sz→LentC all (F k j) (B.F k j))∧LendOk2 S all ids bs
 |_,_=>False
theorem lendOk2_at{S:St}{all:List Nat}:∀{ids:List Nat} {bs:List AB},LendOk2 S all ids bs→ids.length=bs.length∧∀(i id:Nat),ids[i]?=some id→∃B F,bs[i]?=some B∧S.h id=some ⟨B.row,B.n,B.sz,B.ty,F⟩∧(B.row=true→0<B.n)∧∀k,k<B.n→∀j,j<B.sz→LentC all (F k j) (B.F k j)
 | [],[],_=>⟨rfl,fun i id h=>by simp at h⟩
 | id::ids,B::bs,h=>by
   obtain⟨h1,h2⟩:=lendOk2_at h.2
   refine⟨by simp[h1],fun i id' hi=> ?_⟩
   cases i with
   |zero=>cases hi;obtain⟨F,hF⟩:=h.1;exact⟨B,F,rfl,hF⟩
   |succ i=>simpa using h2 i id' (by simpa using hi)
 | [],_::_,h=>h.elim
 |_::_,[],h=>h.elim
def BackOk(all:List Nat):List AB→List AB→Prop
 | [],[]=>True
 |A::l,B::m=>(∃G,A=⟨B.row,B.n,B.sz,B.ty,G⟩∧∀k,k<B.n→∀j,j<B.sz→LentC all (B.F k j) (G k j))∧BackOk all l m
 |_,_=>False
theorem backOk_at{all:List Nat}:∀{l m:List AB},BackOk all l m→l.length=m.length∧∀(i:Nat) (B:AB),m[i]?=some B→∃G,l[i]?=some ⟨B.row,B.n,B.sz,B.ty,G⟩∧∀k,k<B.n→∀j,j<B.sz→LentC all (B.F k j) (G k j)
 | [],[],_=>⟨rfl,fun i B h=>by simp at h⟩
 | A::l,B::m,h=>by
   obtain⟨h1,h2⟩:=backOk_at h.2
   refine⟨by simp[h1],fun i B' hi=> ?_⟩
   cases i with
   |zero=>cases hi;obtain⟨G,rfl,hG⟩:=h.1;exact⟨G,rfl,hG⟩
   |succ i=>simpa using h2 i B' (by simpa using hi)
 | [],_::_,h=>h.elim
 |_::_,[],h=>h.elim
theorem HCalls.at2{f:FuncId}{args:List V1}{ids:List Nat}{bs bs1 bs':List AB}{r:AV}{b0:Base}{σ:Nat→Option Value}{S:St}{a:Act}{w:World}{dst:Option Tmp}(h:HCalls P f (args.map (lendV ids)) (lentL 0 bs) r (lentL 0 bs1))(R:Rel0 b0 σ S a w)(hd:dOk S.n dst=true)
 {vals:List Value} (hv:RepL (RepV σ (out b0 σ S.h) w) args vals) (hL:LendOk2 S ids ids bs) (hnd:nodupB ids=true) (hlen:bs'.length=bs.length) (hI:BackOk ids bs1 bs'):
 Calls P f vals.toArray w fun e w'=>∃v,e=.returned v∧Rel b0 (S.eff dst ⟨r,zipW ids bs',[]⟩) (a.put dst v) w':=by
 obtain⟨hl,hat⟩:=lendOk2_at hL
 obtain⟨hl1,hbk⟩:=backOk_at hI
 have hσ:∀(i id:Nat),ids[i]?=some id→∃v b,σ id=some v∧baseBlk v=some b:=fun i id hi=>by
  obtain⟨B,F,_,h2,h3,_⟩:=hat i id hi
  obtain⟨v,e1,e2⟩:=R.hp.blk id _ h2
  rcases e2 with ⟨g0,_,g⟩|⟨b,cap,cs,g1,_⟩|⟨_,_,_,b,o,rfl,_⟩
  ·have:=h3 g0
   have:B.n=0:=g
   omega
  ·exact⟨v,b,e1,g1.blk⟩
  ·exact⟨_,b,e1,rfl⟩
 let fix:Nat→Option Value:=fun i=>if 1000≤i then (ids[i-1000]?).bind σ else none
 have hfix:∀{i:Nat} {v:Value},fix i=some v→1000≤i∧∃id,ids[i-1000]?=some id∧σ id=some v:=fun {i v} h=>by
  simp only[fix]at h
  split at h
  ·rename_i h1
   obtain⟨id,e1,e2⟩:=Option.bind_eq_some_iff.1 h
   exact⟨h1,id,e1,e2⟩
  ·cases h
 have fixi:∀{i id:Nat},ids[i]?=some id→fix (1000+i)=σ id:=fun {i id} hi=>by
  simp only[fix]
  rw[if_pos (by omega),show 1000+i-1000=i by omega,hi]
  rfl
 let Y:Nat→Prop:=fun b=>∃i v,fix i=some v∧baseBlk v=some b
 have hYo:∀b,Y b→own σ S.h b:=fun b ⟨i,v,h1,h2⟩=>by
  obtain⟨_,id,e1,e2⟩:=hfix h1
  obtain⟨B,F,_,h3,_⟩:=hat _ id e1
  exact⟨id,v,by rw[h3];simp,e2,h2⟩
 let b1:Base:=⟨w,fun b=>out b0 σ S.h b∧¬Y b,Y,fix,fun b hb=>own_lt R hb.1,fun b hb=>own_lt R (.inl (hYo b hb)),fun b hb=>hb.2,fun i v hi=>by
  obtain⟨h1,id,e1,e2⟩:=hfix hi
  obtain⟨v',b,e3,e4⟩:=hσ _ id e1
  rw[e2]at e3
  cases e3
  exact⟨h1,b,e4⟩,fun _ _=>False,fun _ _ _=>True,none,fun _ _ h=>h.elim,fun _ _ _ _ _ _ _ _=>trivial⟩
 have dom:∀{bs:List AB} {i:Nat},bs.length=ids.length→assoc (lentL 0 bs) i≠none→∃k id,i=1000+k∧ids[k]?=some id∧bs[k]?=assoc (lentL 0 bs) i:=fun {bs i} hbl hi=>by
  rw[lentL_at]at hi⊢
  by_cases h1:1000+0≤i
  ·rw[if_pos h1]at hi⊢
   have hlt:i-(1000+0)<bs.length:=Nat.lt_of_not_le fun hge=>hi (List.getElem?_eq_none hge)
   exact⟨i-(1000+0),ids[i-(1000+0)]'(by omega),by omega,List.getElem?_eq_getElem _,rfl⟩
  ·rw[if_neg h1]at hi
   exact absurd rfl hi
 have ownY:∀{bs:List AB},bs.length=ids.length→∀b,own fix (assoc (lentL 0 bs)) b↔Y b:=fun {bs} hbl b=>⟨fun ⟨i,v,_,h2,h3⟩=>⟨i,v,h2,h3⟩,fun ⟨i,v,h2,h3⟩=>by
  obtain⟨h1,id,e1,e2⟩:=hfix h2
  refine⟨i,v,?_,h2,h3⟩
  rw[lentL_at,if_pos (by omega)]
  have:=(List.getElem?_eq_some_iff.1 e1).1
  rw[List.getElem?_eq_getElem (by omega)]
  simp⟩
 have outs:∀{bs:List AB},bs.length=ids.length→∀b,out b1 fix (assoc (lentL 0 bs)) b↔out b0 σ S.h b:=fun {bs} hbl b=>by
  constructor
  ·rintro(h|h)
   ·exact .inl (hYo b ((ownY hbl b).1 h))
   ·exact h.1
  ·intro h
   by_cases hy:Y b
   ·exact .inl ((ownY hbl b).2 hy)
   ·exact .inr ⟨h,hy⟩
 have toB:∀{x:CV} {u:Value},RepB σ (out b0 σ S.h) w x u→RepB fix (out b1 fix (assoc (lentL 0 bs))) w (lendB ids x) u:=fun {x u} hx=>by
  cases x with
  | pt id sz k j=>
    obtain⟨v,b,e1,e2,e3⟩:=hx
    simp only[lendB]
    cases hp:posOf ids id with
    |none=>exact trivial
    |some i=>exact⟨v,b,(fixi (posOf_at hp)).trans e1,e2,e3⟩
  | ow id=>
    obtain⟨e1,e2⟩:=hx
    simp only[lendB]
    cases hp:posOf ids id with
    |none=>exact trivial
    |some i=>exact⟨(fixi (posOf_at hp)).trans e1,e2⟩
  |fn f m C=>exact trivial
  |_=>exact RepI.less (fun b hb=>(outs hl.symm b).1 hb) hx
 have toC:∀{x:CV} {u:Value},RepC σ (out b0 σ S.h) w x u→RepC fix (out b1 fix (assoc (lentL 0 bs))) w (lendC ids x) u:=fun {x u} hx=>by
  cases x with
  | fn f m C=>
    obtain⟨g0,vs,g1,g2,g3⟩:=hx
    refine⟨g0,vs,g1,g2,fun i hi=> ?_⟩
    obtain⟨v,k1,k2,k3⟩:=g3 i hi
    exact⟨v,k1,k2,toB k3⟩
  | pt id sz k j=>
    have h2:=toB hx.2
    refine⟨hx.1,?_⟩
    show match lendB ids (.pt id sz k j)with| .fn f m C=>_|x=>RepB fix _ w x u
    simp only[lendB]at h2⊢
    cases hp:posOf ids id<;>rw[hp]at h2<;>exact h2
  | ow id=>
    have h2:=toB hx.2
    refine⟨hx.1,?_⟩
    show match lendB ids (.ow id)with| .fn f m C=>_|x=>RepB fix _ w x u
    simp only[lendB]at h2⊢
    cases hp:posOf ids id<;>rw[hp]at h2<;>exact h2
  |_=>exact⟨hx.1,toB hx.2⟩
 have H1:HRel b1 fix (assoc (lentL 0 bs)) w:=by
  refine⟨fun i B hB=> ?_,fun i j v1 v2 b hi hj h1 h2 e1 e2=> ?_,fun b hb=>.inr ((ownY hl.symm b).1 hb),fun i v hi=>⟨hi,?_⟩,fun i _ hi=>hi⟩
  ·obtain⟨k,id,rfl,e1,e2⟩:=dom hl.symm (by rw[hB];simp:assoc (lentL 0 bs) i≠none)
   obtain⟨B',F,g1,g2,g3,g4⟩:=hat k id e1
   rw[hB,g1]at e2
   cases e2
   obtain⟨v,k1,k2⟩:=R.hp.blk id _ g2
   refine⟨v,(fixi e1).trans k1,?_⟩
   rcases k2 with ⟨h0,_,h5⟩|⟨b,cap,cs,m1,m2,m3,m4⟩|⟨m1,m2,m3,b,o,rfl,m4,m5⟩
   ·have:=g3 h0
    have:B.n=0:=h5
    omega
   rotate_left
   ·replace m2:B.n=1:=m2
    replace m3:B.sz=1:=m3
    exact .inr (.inr ⟨m1,m2,m3,b,o,rfl,m4,(g4 0 (by omega) 0 (by omega)).mo m5⟩)
   ·refine .inr (.inl ⟨b,cap,cs,m1,m2,m3,fun k' hk' j hj=> ?_⟩)
    ·obtain⟨u,n1,n2⟩:=m4 k' hk' j hj
     rcases g4 k' hk' j hj with ⟨hFe,him⟩|⟨id',i',hFe,hpo,hGe⟩
     ·simp only[hFe]at n2
      exact⟨u,n1,repC_imm him n2.1 ((repI_imm him n2).less fun b hb=>(outs hl.symm b).1 hb)⟩
     ·simp only[hFe]at n2
      refine⟨u,n1,?_⟩
      simp only[hGe]
      exact⟨n2.1,(fixi (posOf_at hpo)).trans n2.2.1,n2.2.2⟩
  ·obtain⟨h1',id1,a1,a2⟩:=hfix h1
   obtain⟨h2',id2,c1,c2⟩:=hfix h2
   obtain⟨B1,F1,_,d1,_⟩:=hat _ id1 a1
   obtain⟨B2,F2,_,d2,_⟩:=hat _ id2 c1
   have:=R.hp.inj id1 id2 v1 v2 b (by rw[d1];simp) (by rw[d2];simp) a2 c2 e1 e2
   subst this
   have:=nodupB_inj hnd a1 c1
   omega
  ·obtain⟨h1',id1,a1,a2⟩:=hfix hi
   rw[lentL_at,if_pos (by omega)]
   have:=(List.getElem?_eq_some_iff.1 a1).1
   rw[List.getElem?_eq_getElem (by omega)]
   simp
 refine(h b1 vals H1 (fun i v hi=>by
  obtain⟨h1',id1,a1,a2⟩:=hfix hi
  have:=(List.getElem?_eq_some_iff.1 a1).1
  rw[lentL_length]
  omega) (fun b hb=>(ownY hl.symm b).2 hb) ?_).mono fun e w' ⟨v,g1,g2,g3,g4⟩=>⟨v,g1,?_⟩
 ·refine RepL.of_get (by rw[List.length_map,hv.length]) fun i x u e1 e2=> ?_
  rw[List.getElem?_map,Option.map_eq_some_iff]at e1
  obtain⟨y,e3,rfl⟩:=e1
  obtain⟨u',e4,e5⟩:=hv.get e3
  rw[e2]at e4
  cases e4
  cases y with
  |c y=>exact toC e5
  | ag l=>
    obtain⟨vs,rfl,hvs⟩:=e5
    refine⟨vs,rfl,RepL.of_get (by rw[List.length_map,hvs.length]) fun i x u e1 e2=> ?_⟩
    rw[List.getElem?_map,Option.map_eq_some_iff]at e1
    obtain⟨y,e3,rfl⟩:=e1
    obtain⟨u',e4,e5⟩:=hvs.get e3
    rw[e2]at e4
    cases e4
    exact toC e5
 ·have hbl':bs'.length=ids.length:=hlen.trans hl.symm
  have hbl1:bs1.length=ids.length:=hl1.trans hbl'
  have hK:Keep (own σ S.h) w w':=⟨g4.os,g4.tape,g4.output,g4.size,fun k hk hno=>g4.block k hk fun hy=>hno (hYo k hy)⟩
  have hlook:∀i,(∃k id B,ids[k]?=some id∧bs'[k]?=some B∧i=id∧look (zipW ids bs') S.h i=some B)∨(i∉ids∧look (zipW ids bs') S.h i=S.h i):=fun i=>by
   by_cases hm:i∈ids
   ·obtain⟨k,hk,rfl⟩:=List.getElem_of_mem hm
    have e1:ids[k]?=some ids[k]:=List.getElem?_eq_getElem hk
    have e2:bs'[k]?=some (bs'[k]'(by omega)):=List.getElem?_eq_getElem _
    exact .inl ⟨k,_,_,e1,e2,rfl,zipW_in hbl'.symm hnd k _ _ S.h e1 e2⟩
   ·exact .inr ⟨hm,zipW_out i S.h hm⟩
  have hne:∀i,look (zipW ids bs') S.h i≠none↔S.h i≠none:=fun i=>by
   rcases hlook i with ⟨k,id,B,e1,e2,rfl,e3⟩|⟨_,e⟩
   ·obtain⟨B',F',_,d1,_⟩:=hat k i e1
    rw[e3,d1]
    simp
   ·rw[e]
  have hown:∀b,own σ (look (zipW ids bs') S.h) b↔own σ S.h b:=fun b=>⟨fun ⟨i,v,h1,h2,h3⟩=>⟨i,v,(hne i).1 h1,h2,h3⟩,fun ⟨i,v,h1,h2,h3⟩=>⟨i,v,(hne i).2 h1,h2,h3⟩⟩
  have hout:∀b,out b0 σ (look (zipW ids bs') S.h) b↔out b0 σ S.h b:=fun b=>or_congr (hown b) Iff.rfl
  have H':HRel b0 σ (look (zipW ids bs') S.h) w':=by
   refine⟨fun i B hB=> ?_,fun i j v1 v2 b hi hj=>R.hp.inj i j v1 v2 b ((hne i).1 hi) ((hne j).1 hj),fun b hb=>R.hp.new b ((hown b).1 hb),fun i v hi=>⟨(R.hp.fx i v hi).1,(hne i).2 (R.hp.fx i v hi).2⟩,R.hp.big⟩
   rcases hlook i with ⟨k,id,B',e1,e2,rfl,e3⟩|⟨hni,e⟩
   ·rw[e3]at hB
    cases hB
    obtain⟨G,q1,q2⟩:=hbk k B e2
    have hB1:assoc (lentL 0 bs1) (1000+k)=some ⟨B.row,B.n,B.sz,B.ty,G⟩:=by rw[lentL_at,if_pos (by omega),show 1000+k-(1000+0)=k by omega];exact q1
    obtain⟨v,k1,k2⟩:=g3.blk (1000+k) _ hB1
    refine⟨v,(fixi e1).symm.trans k1,?_⟩
    rcases k2 with h0|⟨b,cap,cs,m1,m2,m3,m4⟩|⟨m1,m2,m3,b,o,rfl,m4,m5⟩
    ·exact .inl h0
    rotate_left
    ·replace m2:B.n=1:=m2
     replace m3:B.sz=1:=m3
     exact .inr (.inr ⟨m1,m2,m3,b,o,rfl,m4,(q2 0 (by omega) 0 (by omega)).mo' m5⟩)
    ·refine .inr (.inl ⟨b,cap,cs,m1,m2,m3,fun k' hk' j hj=> ?_⟩)
     obtain⟨u,n1,n2⟩:=m4 k' hk' j hj
     refine⟨u,n1,?_⟩
     rcases q2 k' hk' j hj with ⟨hFe,him⟩|⟨id',i',hFe,hpo,hGe⟩
     ·rw[←hFe]at him
      replace n2:RepC b1.fix (out b1 b1.fix (assoc (lentL 0 bs1))) w' (B.F k' j) u:=by rw[hFe];exact n2
      exact repC_imm him n2.1 ((repI_imm him n2).less fun b hb=>(outs hbl1 b).2 ((hout b).1 hb))
     ·simp only[hGe]at n2
      rw[hFe]
      exact⟨n2.1,(fixi (posOf_at hpo)).symm.trans n2.2.1,n2.2.2⟩
   ·rw[e]at hB
    obtain⟨v,k1,k2⟩:=R.hp.blk i B hB
    refine⟨v,k1,k2.keep hK.out (fun b hb=>.inl ((hout b).1 hb)) (fun _ _ h=>h) fun b hb=> ?_⟩
    have hbo:own σ S.h b:=⟨i,v,by rw[hB];simp,k1,hb⟩
    exact g4.block b (R.hp.lt hbo) fun ⟨j,u,h1,h2⟩=>by
     obtain⟨_,id,a1,a2⟩:=hfix h1
     obtain⟨B2,F2,_,d2,_⟩:=hat _ id a1
     have:=R.hp.inj i id v u b (by rw[hB];simp) (by rw[d2];simp) k1 a2 hb h2
     subst this
     exact hni (List.mem_of_getElem? a1)
  exact⟨σ,R.step (e:=⟨r,zipW ids bs',[]⟩) hd (fun _ _ h=>h) hK H' (fun b hb=>.inl ((hout b).1 hb)) (fun _=>(g2.keep ⟨rfl,rfl,rfl,Nat.le_refl _,fun _ _ _=>rfl⟩ (fun b hb=>.inl ((outs hl.symm b).2 ((hout b).1 hb))) fun _ _ h=>h).some_) fun i h=>.inl h⟩

theorem lendOk2_congr{S S1:St}{all:List Nat}:∀{ids:List Nat} {bs:List AB},(∀id∈ids,S1.h id=S.h id)→LendOk2 S all ids bs→LendOk2 S1 all ids bs
 | [],[],_,h=>h
 |id::ids,B::bs,he,h=>⟨let ⟨F,h1,h2⟩:=h.1;⟨F,(he id (by simp)).trans h1,h2⟩,lendOk2_congr (fun i hi=>he i (by simp[hi])) h.2⟩
 | [],_::_,_,h=>h.elim
 |_::_,[],_,h=>h.elim
section ops
variable{ops:Array Oper}{rest:List Oper}{acc:List (List Nat×List Nat)}{S:St}{Q:List (List Nat×List Nat)→St→Prop}{dst:Option Tmp}{ty:TypeId}{pos:String}{after:Array Edge}{guard:Option (Nat×Bool)}
theorem AList.callC{f:FuncId}{fn:Func}{z:Operand}{m:Nat}{C:Nat→CV}{xs:Array Operand}{ats:Array TypeId}{args:List V1}{r:AV}(ids:List Nat)(bs bs1 bs':List AB)(hw:S.wants ops {dst,op:=.call {callee:=.value z,args:=xs,argTypes:=ats},type:=ty,pos,after,guard}=some true)(hd:dOk S.n dst=true)
 (hz:S.opd z=some (.c (.fn f m C))) (ha:S.opds xs.toList=some args) (hm:((List.range m).all fun i=>noFn (C i))=true) (hf:P.funcs[f]?=some fn) (hb:fn.body.isNone=false) (hnm:(fn.name== "runtime.NumGoroutine")=false) (hL:LendOk2 S ids ids bs) (hnd:(nodupB ids && Nat.beq bs'.length bs.length)=true) (hI:BackOk ids bs1 bs')
 (hc:HCalls P f ((args++(List.range m).map fun i=>V1.c (C i)).map (lendV ids)) (lentL 0 bs) r (lentL 0 bs1))
 (hn:AList P ops rest ((ids++ [],(zipW ids bs').map (·.1)++ [])::acc) (S.eff dst ⟨r,zipW ids bs',[]⟩) Q):AList P ops ({dst,op:=.call {callee:=.value z,args:=xs,argTypes:=ats},type:=ty,pos,after,guard}::rest) acc S Q:=
 AList.cons ids ⟨r,zipW ids bs',[]⟩ (LStep.of hw fun S1 hA hr _ b0 σ a w R=>by
  rw[Bool.and_eq_true]at hnd
  have h2:S1.opds xs.toList=some args:=(opds_congr fun x hx=>hA.op x (by simp only[Op.operands,Call.operands];simp;exact .inr (by simpa using hx))).trans ha
  have h3:=opd_rep R ((hA.op z (by simp[Op.operands,Call.operands])).trans hz)
  obtain⟨_,vs,e1,e2,e3⟩:=h3
  have hcap:RepL (RepV σ (out b0 σ S1.h) w) ((List.range m).map fun i=>V1.c (C i)) vs:=RepL.of_get (by simp[e2]) fun i x u g1 g2=>by
   have hlt:i<m:=by have:=(List.getElem?_eq_some_iff.1 g1).1;simpa using this
   rw[List.getElem?_map,List.getElem?_range hlt]at g1
   cases g1
   obtain⟨v,k1,k2,k3⟩:=e3 i hlt
   rw[g2]at k1
   cases k1
   have hnf:=List.all_eq_true.1 hm i (List.mem_range.2 hlt)
   refine⟨k2,?_⟩
   show match C i with| .fn f m C=>_|x=>RepB σ _ w x u
   cases hC:C i<;>rw[hC]at hnf k3<;>first|exact k3|cases hnf
  have happ:∀{l m:List V1} {us vs:List Value},RepL (RepV σ (out b0 σ S1.h) w) l us→RepL (RepV σ (out b0 σ S1.h) w) m vs→RepL (RepV σ (out b0 σ S1.h) w) (l++m) (us++vs):=fun {l}=>by
   induction l with
   |nil=>intro m us vs h1 h2;cases us with|nil=>exact h2|cons _ _=>exact h1.elim
   |cons x l ih=>intro m us vs h1 h2;cases us with|nil=>exact h1.elim|cons u us=>exact⟨h1.1,ih h1.2 h2⟩
  have:=hc.at2 R (dst:=dst) (by rw[hA.n];exact hd) (happ (opds_rep R h2) hcap) (lendOk2_congr hr hL) hnd.1 (Nat.eq_of_beq_eq_true hnd.2) hI
  rw[run_callf f fn hf hb hnm #[] vs.toArray e1 w]
  simp only[Goes]
  rw[show(#[]++xs.map a.eval++vs.toArray:Array Value)=(xs.toList.map a.eval++vs).toArray from Array.ext' (by simp)]
  exact this.mono fun e w' ⟨v,g1,g2⟩=>⟨v,g1,g2⟩) hn
end ops
theorem boxL{R:CV→CV→Prop}{F:Nat→Nat→CV}{sz:Nat}{l:List CV}(hl:LeL R (cellsFrom (F 0) 0 sz) l)(hz:l.length=sz):∀k,k<1→∀j,j<sz→R (F k j) (lF l k j):=fun k hk j hj=>by
 obtain rfl:k=0:=by omega
 have key:∀(l m:List CV),LeL R l m→∀(i:Nat) (x y:CV),l[i]?=some x→m[i]?=some y→R x y:=by
  intro l
  induction l with
  |nil=>intro m h i x y h1;simp at h1
  | cons a l ih=>
    intro m h i x y h1 h2
    cases m with
    |nil=>exact h.elim
    | cons b m=>
      cases i with
      |zero=>simp at h1 h2;exact h1▸h2▸h.1
      |succ i=>exact ih m h.2 i x y (by simpa using h1) (by simpa using h2)
 have h1:=cellsFrom_get (F 0) sz 0 j hj
 rw[Nat.zero_add]at h1
 have h2:l[j]?=some (lF l 0 j):=by
  unfold lF
  rw[List.getD,List.getElem?_eq_getElem (by omega)]
  rfl
 exact key _ _ hl j _ _ h1 h2
theorem HeapOk.lentC{S:St}{ren:List (Nat×Option Nat)}{id sz:Nat}{ty:TypeId}{F:Nat→Nat→CV}{l:List CV}(hb:Nat.ble 1000 id=true)(hh:S.h id=some ⟨false,1,sz,ty,F⟩)(hl:LeL (LeC S.h ren) (cellsFrom (F 0) 0 sz) l)(hz:l.length=sz):
 HeapOk S ren id ⟨false,1,sz,ty,lF l⟩:=.inr ⟨id,1,F,.inr ⟨Nat.ble_eq.mp hb,rfl⟩,rfl,hh,boxL hl hz⟩
theorem LentC.imm{all:List Nat}{x:CV}(h:immC x=true):LentC all x x:=.inl ⟨rfl,h⟩
theorem LentC.ow{all:List Nat}{id q:Nat}(h:(posOf all id).map (fun p=>1000+p)=some q):LentC all (.ow id) (.ow q):=by
 obtain⟨i,h1,rfl⟩:=Option.map_eq_some_iff.1 h
 exact .inr ⟨id,i,rfl,h1,rfl⟩
theorem LendOk2.box{S:St}{all:List Nat}{id sz:Nat}{ty:TypeId}{F:Nat→Nat→CV}{l:List CV}{ids:List Nat}{bs:List AB}(hh:S.h id=some ⟨false,1,sz,ty,F⟩)(hl:LeL (LentC all) (cellsFrom (F 0) 0 sz) l)(hz:l.length=sz)(hr:LendOk2 S all ids bs):LendOk2 S all (id::ids) (⟨false,1,sz,ty,lF l⟩::bs):=
 ⟨⟨F,hh,fun h=>(by cases h),boxL hl hz⟩,hr⟩
theorem LendOk2.row{S:St}{all:List Nat}{id n sz:Nat}{ty:TypeId}{F G:Nat→Nat→CV}{ids:List Nat}{bs:List AB}(hh:S.h id=some ⟨true,n,sz,ty,F⟩)(hn:0<n)(hc:∀k,k<n→∀j,j<sz→F k j=G k j∧immC (G k j)=true)(hr:LendOk2 S all ids bs):LendOk2 S all (id::ids) (⟨true,n,sz,ty,G⟩::bs):=
 ⟨⟨F,hh,fun _=>hn,fun k hk j hj=>.inl (hc k hk j hj)⟩,hr⟩
theorem cellsFrom_len(f:Nat→CV):∀(n j:Nat),(cellsFrom f j n).length=n
 |0,_=>rfl
 |n+1,j=>congrArg (· + 1) (cellsFrom_len f n (j+1))
theorem BackOk.box{all:List Nat}{sz:Nat}{ty:TypeId}{l m:List CV}{bs0 bs:List AB}(hl:LeL (LentC all) l m)(hz:Nat.beq l.length sz=true)(hz2:Nat.beq m.length sz=true)(hr:BackOk all bs0 bs):BackOk all (⟨false,1,sz,ty,lF m⟩::bs0) (⟨false,1,sz,ty,lF l⟩::bs):=
 ⟨⟨lF m,rfl,fun k hk j hj=>by
   obtain rfl:k=0:=by have:k<1:=hk;omega
   have e:=Nat.eq_of_beq_eq_true hz
   subst e
   have hc:cellsFrom (lF l 0) 0 l.length=l:=by
    refine List.ext_getElem (cellsFrom_len _ _ _) fun i h1 h2=> ?_
    have h3:=cellsFrom_get (lF l 0) l.length 0 i h2
    rw[List.getElem?_eq_getElem h1]at h3
    have h4:lF l 0 (0+i)=l[i]:=by
     unfold lF
     rw[Nat.zero_add,List.getD,List.getElem?_eq_getElem h2]
     rfl
    rw[h4]at h3
    exact Option.some.inj h3
   exact boxL (F:=lF l) (l:=m) (by rw[hc];exact hl) (Nat.eq_of_beq_eq_true hz2) 0 (by omega) j hj⟩,hr⟩
theorem BackOk.row{all:List Nat}{n sz:Nat}{ty:TypeId}{G:Nat→Nat→CV}{bs0 bs:List AB}(hi:∀k,k<n→∀j,j<sz→immC (G k j)=true)(hr:BackOk all bs0 bs):BackOk all (⟨true,n,sz,ty,G⟩::bs0) (⟨true,n,sz,ty,G⟩::bs):=
 ⟨⟨G,rfl,fun k hk j hj=>.inl ⟨rfl,hi k hk j hj⟩⟩,hr⟩
section arr
variable{tab:List (TypeId×TD)}{ops:Array Oper}{rest:List Oper}{acc:List (List Nat×List Nat)}{S:St}{Q:List (List Nat×List Nat)→St→Prop}{dst:Option Tmp}{ty:TypeId}{pos:String}{after:Array Edge}{guard:Option (Nat×Bool)}{x y:Operand}
theorem AList.idxArrP(T:tabOk P tab=true){t:TypeId}{id sz k j i N:Nat}{d e:TD}{el:TypeId}{ki:IntKind}{n:Int}(hw:S.wants ops {dst,op:=.indexAddr t x y,type:=ty,pos,after,guard}=some true)(hd:dOk S.n dst=true)
 (hx:S.opd x=some (.c (.pt id sz k j))) (hy:S.opd y=some (.c (.p (.int ki n)))) (ht:assoc tab t=some d) (hk:d.k=.arr N el) (he:assoc tab el=some e) (hi:n=(i:Int)) (hlt:i<N)
 (hn:AList P ops rest (([],[])::acc) (S.eff dst ⟨.c (.pt id sz k (j+i*e.size)),[],[]⟩) Q):AList P ops ({dst,op:=.indexAddr t x y,type:=ty,pos,after,guard}::rest) acc S Q:=
 AList.val [] _ hw hd (fun S1 h1 _ b0 σ a w R=>by
  obtain⟨-,v,b,e1,e2,e3⟩:=opd_rep R ((h1 x (by simp[Op.operands])).trans hx)
  have e4:=rep_int (opd_rep R ((h1 y (by simp[Op.operands])).trans hy))
  have g1:=ty_arr T ht hk
  obtain⟨inf,z,u,i1,i2,i3,-⟩:=ty_info T he
  subst hi
  refine⟨.pointer (some ⟨b,k*sz+(j+i*e.size),none⟩),?_,rfl,v,b,e1,e2,rfl⟩
  have hlt':(i:Int)<N:=by omega
  simp only[execOp,e3,e4,Instr.indexAt,Instr.sureAddr,asIntOf,run_underlying g1,Sem.run_bind,Sem.run_pure,Result.andThen_ok]
  simp[sizeOf,typeInfo,i1,i2,hlt',Addr.add,Nat.add_assoc]) hn
theorem AList.idxArrL(T:tabOk P tab=true){t:TypeId}{m sz k j i N:Nat}{F:Nat→Nat→CV}{d e:TD}{el:TypeId}{ki:IntKind}{n:Int}(hw:S.wants ops {dst,op:=.indexAddr t x y,type:=ty,pos,after,guard}=some true)(hd:dOk S.n dst=true)
 (hx:S.opd x=some (.c (.pl m sz F k j))) (hy:S.opd y=some (.c (.p (.int ki n)))) (ht:assoc tab t=some d) (hk:d.k=.arr N el) (he:assoc tab el=some e) (hi:n=(i:Int)) (hlt:i<N)
 (hn:AList P ops rest (([],[])::acc) (S.eff dst ⟨.c (.pl m sz F k (j+i*e.size)),[],[]⟩) Q):AList P ops ({dst,op:=.indexAddr t x y,type:=ty,pos,after,guard}::rest) acc S Q:=
 AList.val [] _ hw hd (fun S1 h1 _ b0 σ a w R=>by
  obtain⟨-,ad,e3,e1,e2⟩:=opd_rep R ((h1 x (by simp[Op.operands])).trans hx)
  have e4:=rep_int (opd_rep R ((h1 y (by simp[Op.operands])).trans hy))
  have g1:=ty_arr T ht hk
  obtain⟨inf,z,u,i1,i2,i3,-⟩:=ty_info T he
  subst hi
  refine⟨.pointer (some (ad.add (k*sz+(j+i*e.size)))),?_,rfl,ad,rfl,e1,e2⟩
  have hlt':(i:Int)<N:=by omega
  simp only[execOp,e3,e4,Instr.indexAt,Instr.sureAddr,asIntOf,run_underlying g1,Sem.run_bind,Sem.run_pure,Result.andThen_ok]
  have e5:(ad.add (k*sz+j)).add (i*e.size)=ad.add (k*sz+(j+i*e.size)):=by rw[add_two,Nat.add_assoc]
  simp[sizeOf,typeInfo,i1,i2,hlt',e5]) hn
theorem AList.load1lE(T:tabOk P tab=true){t:TypeId}{n sz k j:Nat}{F:Nat→Nat→CV}{d:TD}{c:CV}(hl:F k j=c)(hw:S.wants ops {dst,op:=.load t x,type:=ty,pos,after,guard}=some true)(hd:dOk S.n dst=true)
 (hx:S.opd x=some (.c (.pl n sz F k j))) (ht:assoc tab t=some d) (hk:isOne d.k=true) (hj:j<sz)
 (hn:AList P ops rest (([],[])::acc) (S.eff dst ⟨.c c,[],[]⟩) Q):AList P ops ({dst,op:=.load t x,type:=ty,pos,after,guard}::rest) acc S Q:=by
 subst hl
 exact aV T hw hd hx ht hk hj hn
end arr
end
end Go.AV
end
section
namespace Go.Proofs.Ytbffmfeldkjkcaa
open Go.RowKit Go.Flow Go.AV Go.Plain
abbrev prC(a b:Bp)(x y:Bg):List CV:= [iC a.W,iC a.H,.ls a.n 1 (bF a.d),iC b.W,iC b.H,.ls b.n 1 (bF b.d),iC x.lo,iC x.bl,iC x.sh,iC x.st,iC y.lo,iC y.bl,iC y.sh,iC y.st]
set_option maxRecDepth 100000 in
theorem pstrip_A(a b:Bp)(x y:Bg)(h:0≤a.W∧a.W≤96):ACalls Try.prog 99 [.ag (prC a b (lim4 x) (lim4 y))] (.c (iC (stN a.W x y))):=by
 have b1:=lim_bds x
 have b2:=lim_bds y
 refine acalls_at Try.func99 rfl rfl Try.ntmps99 rfl ?_
 refine vB [0,1] ?_
 refine⟨mkSt 15 [(2,.c (iC (stN a.W x y)))] [] [],[],Wk.mk [] rfl rfl rfl ?_ trivial,rfl,rfl,aR1⟩
 exact allT
set_option maxRecDepth 100000 in
theorem pexcess_A(a b:Bp)(x y:Bg)(m n:Int)(hm:0≤m∧m≤100000)(hn:0≤n∧n≤100000):ACalls Try.prog 100 [.ag (prC a b (lim4 x) (lim4 y)),.c (iC m),.c (iC n)] (.c (iC (ovN x y m n))):=by
 have b1:=lim_bds x
 have b2:=lim_bds y
 refine acalls_at Try.func100 rfl rfl Try.ntmps100 rfl ?_
 refine vB [0,1] ?_
 refine⟨mkSt 26 [(6,.c (iC (ovN x y m n)))] [] [],[],Wk.mk [] rfl rfl rfl ?_ trivial,rfl,rfl,aR1⟩
 exact allT
def cF(c0 c1:Nat→Int)(k:Nat):Nat→CV:=lF [iC (c0 k),iC (c1 k)] 0
theorem cF_imm(c0 c1:Nat→Int)(k j:Nat):immC (cF c0 c1 k j)=true:=lF_imm rfl 0 j
def upC(c:Nat→Int)(k:Nat):Nat→Int:=fun i=>if i=k then c i+1 else c i
abbrev cB(n:Nat)(c0 c1:Nat→Int):AB:=⟨true,n,2,25,cF c0 c1⟩
abbrev tB(t0 t1:Int):AB:=⟨false,1,2,25,lF [iC t0,iC t1]⟩
abbrev sB(id:Nat):AB:=⟨false,1,1,166,lF [.ow id]⟩
theorem cF_up0(c0 c1:Nat→Int)(k:Nat)(n:Nat):∀i,i<n→∀j,j<2→setF (cF c0 c1) k 0 1 [iC (c0 k+1)] i j=cF (upC c0 k) c1 i j∧immC (setF (cF c0 c1) k 0 1 [iC (c0 k+1)] i j)=true:=fun i _ j hj=>by
 have e:setF (cF c0 c1) k 0 1 [iC (c0 k+1)] i j=cF (upC c0 k) c1 i j:=by
  unfold setF cF upC
  by_cases hi:i=k
  ·subst hi
   rw[Nat.beq_refl,if_pos rfl]
   obtain rfl|rfl:j=0∨j=1:=by omega
   ·rfl
   ·rfl
  ·rw[show Nat.beq i k=false from Bool.eq_false_iff.2 fun h=>hi (Nat.eq_of_beq_eq_true h),if_neg hi]
   rfl
 exact⟨e,by rw[e];exact cF_imm _ _ _ _⟩
theorem cF_up1(c0 c1:Nat→Int)(k:Nat)(n:Nat):∀i,i<n→∀j,j<2→setF (cF c0 c1) k 1 1 [iC (c1 k+1)] i j=cF c0 (upC c1 k) i j∧immC (setF (cF c0 c1) k 1 1 [iC (c1 k+1)] i j)=true:=fun i _ j hj=>by
 have e:setF (cF c0 c1) k 1 1 [iC (c1 k+1)] i j=cF c0 (upC c1 k) i j:=by
  unfold setF cF upC
  by_cases hi:i=k
  ·subst hi
   rw[Nat.beq_refl,if_pos rfl]
   obtain rfl|rfl:j=0∨j=1:=by omega
   ·rfl
   ·rfl
  ·rw[show Nat.beq i k=false from Bool.eq_false_iff.2 fun h=>hi (Nat.eq_of_beq_eq_true h),if_neg hi]
   rfl
 exact⟨e,by rw[e];exact cF_imm _ _ _ _⟩
theorem fix_bs{B0 B1 B2:AB}(h0:∀k j,fixC (B0.F k j)=true)(h1:∀k j,fixC (B1.F k j)=true)(h2:∀k j,fixC (B2.F k j)=true):∀p∈ [(1000,B0),(1001,B1),(1002,B2)],∀k j,k<p.2.n→j<p.2.sz→fixC (p.2.F k j)=true:=fun p hp k j _ _=>by
 cases hp with
 |head=>exact h0 k j
 | tail _ hp=>
   cases hp with
   |head=>exact h1 k j
   | tail _ hp=>
     cases hp with
     |head=>exact h2 k j
     |tail _ hp=>cases hp
theorem fixC_imm{x:CV}(h:immC x=true):fixC x=true:=by
 cases x<;>first|exact h|cases h
theorem sB_fix(k j:Nat):fixC ((sB 1001).F k j)=true:=by
 show fixC (lF [.ow 1001] k j)=true
 unfold lF
 cases j with
 |zero=>rfl
 |succ j=>rfl
set_option maxRecDepth 100000 in
theorem add0_H(n:Nat)(c0 c1:Nat→Int)(t0 t1:Int)(c:Int)(k:Nat)(hn:n≤200)(hk:k<n)(hck:c+4=(k:Int))(hc0:0≤c0 k∧c0 k≤100000)(ht0:0≤t0∧t0≤100000):
 HCalls Try.prog 96 [.c (iC 0),.c (iC c),.c (.pt 1000 1 0 0),.c (.pt 1002 2 0 0)] [(1000,sB 1001),(1001,cB n c0 c1),(1002,tB t0 t1)] (.tu []) [(1000,sB 1001),(1001,cB n (upC c0 k) (c1)),(1002,tB (t0+1) (t1))]:=by
 refine hcalls_at2 Try.func96 rfl rfl Try.ntmps96 rfl rfl (fix_bs sB_fix (fun k j=>fixC_imm (cF_imm _ _ k j)) (fun k j=>fixC_imm (lF_imm rfl k j))) ?_
 repeat (first
  |refine vB [1] ?_
  |(refine AWp.draw (id:=0) mixed ?_;(iterate 4 refine vA ?_);refine qr10eo (AList.idxOw (k:=k) tyOk) ?_;refine qr8o (AList.idxArrP tyOk) ?_;(iterate 2 refine vA ?_);refine qr10eo (AList.idxOw (k:=k) tyOk) ?_;refine qr8o (AList.idxArrP tyOk) ?_;refine vA ?_;refine aB ⟨by kernel_rfl,?_⟩))
 refine⟨mkL 21 3 [] [(1000,sB 1001),(1001,cB n (upC c0 k) (c1)),(1002,tB (t0+1) (t1))] [],[],Wk.mkL [] rfl rfl rfl rfl rfl trivial ?_,rfl,rfl,ARets.no⟩
 refine⟨HeapOk.lentC rfl rfl ⟨LeC.owB _ rfl,trivial⟩ rfl,HeapOk.lentRow rfl rfl (cF_up0 c0 c1 k n),HeapOk.lent rfl rfl rfl rfl,trivial⟩
set_option maxRecDepth 100000 in
theorem add1_H(n:Nat)(c0 c1:Nat→Int)(t0 t1:Int)(c:Int)(k:Nat)(hn:n≤200)(hk:k<n)(hck:c+4=(k:Int))(hc0:0≤c1 k∧c1 k≤100000)(ht0:0≤t1∧t1≤100000):
 HCalls Try.prog 96 [.c (iC 1),.c (iC c),.c (.pt 1000 1 0 0),.c (.pt 1002 2 0 0)] [(1000,sB 1001),(1001,cB n c0 c1),(1002,tB t0 t1)] (.tu []) [(1000,sB 1001),(1001,cB n (c0) (upC c1 k)),(1002,tB (t0) (t1+1))]:=by
 refine hcalls_at2 Try.func96 rfl rfl Try.ntmps96 rfl rfl (fix_bs sB_fix (fun k j=>fixC_imm (cF_imm _ _ k j)) (fun k j=>fixC_imm (lF_imm rfl k j))) ?_
 repeat (first
  |refine vB [1] ?_
  |(refine AWp.draw (id:=0) mixed ?_;(iterate 4 refine vA ?_);refine qr10eo (AList.idxOw (k:=k) tyOk) ?_;refine qr8o (AList.idxArrP tyOk) ?_;(iterate 2 refine vA ?_);refine qr10eo (AList.idxOw (k:=k) tyOk) ?_;refine qr8o (AList.idxArrP tyOk) ?_;refine vA ?_;refine aB ⟨by kernel_rfl,?_⟩))
 refine⟨mkL 21 3 [] [(1000,sB 1001),(1001,cB n (c0) (upC c1 k)),(1002,tB (t0) (t1+1))] [],[],Wk.mkL [] rfl rfl rfl rfl rfl trivial ?_,rfl,rfl,ARets.no⟩
 refine⟨HeapOk.lentC rfl rfl ⟨LeC.owB _ rfl,trivial⟩ rfl,HeapOk.lentRow rfl rfl (cF_up1 c0 c1 k n),HeapOk.lent rfl rfl rfl rfl,trivial⟩
def colP(B:Nat→Nat→Bool)(W:Nat)(s:Int)(y x k:Nat):Int:=
 if 0≤(k:Int)-4-s∧(k:Int)-4-s<W then cnt (fun j=>B j ((k:Int)-4-s).toNat) y+(if ((k:Int)-4-s<x∧B y ((k:Int)-4-s).toNat=true)then 1 else 0)else 0
def totP(B:Nat→Nat→Bool)(W y x:Nat):Int:=sumTo (fun j=>cnt (B j) W) y+cnt (B y) x
theorem colP_zero(B:Nat→Nat→Bool)(W:Nat)(s:Int)(k:Nat):colP B W s 0 0 k=0:=by
 unfold colP
 split
 ·rename_i h
  rw[cnt_zero,if_neg (fun h2=>by have:=h2.1;omega)]
  rfl
 ·rfl
theorem colP_row(B:Nat→Nat→Bool)(W:Nat)(s:Int)(y:Nat):colP B W s (y+1) 0=colP B W s y W:=by
 funext k
 unfold colP
 by_cases h:0≤(k:Int)-4-s∧(k:Int)-4-s<W
 ·have e1:¬((k:Int)-4-s<((0:Nat):Int)∧B (y+1) ((k:Int)-4-s).toNat=true):=fun h2=>by have:=h2.1;omega
  rw[if_pos h,if_pos h,cnt_succ,if_neg e1]
  by_cases hb:B y ((k:Int)-4-s).toNat=true
  ·have e2:(k:Int)-4-s<(W:Int)∧B y ((k:Int)-4-s).toNat=true:=⟨h.2,hb⟩
   rw[if_pos hb,if_pos e2];omega
  ·have e2:¬((k:Int)-4-s<(W:Int)∧B y ((k:Int)-4-s).toNat=true):=fun h2=>hb h2.2
   rw[if_neg hb,if_neg e2];omega
 ·rw[if_neg h,if_neg h]
theorem colP_skip{B:Nat→Nat→Bool}{W:Nat}{s:Int}{y x:Nat}(hb:B y x=false):colP B W s y (x+1)=colP B W s y x:=by
 funext k
 unfold colP
 by_cases h:0≤(k:Int)-4-s∧(k:Int)-4-s<W
 ·rw[if_pos h,if_pos h]
  congr 1
  by_cases hx:((k:Int)-4-s).toNat=x
  ·rw[hx,hb,if_neg (by simp),if_neg (by simp)]
  ·by_cases h2:(k:Int)-4-s<x∧B y ((k:Int)-4-s).toNat=true
   ·rw[if_pos h2,if_pos ⟨by have:=h2.1;omega,h2.2⟩]
   ·rw[if_neg h2,if_neg (fun h3=>h2 ⟨by have:=h3.1;omega,h3.2⟩)]
 ·rw[if_neg h,if_neg h]
theorem colP_step{B:Nat→Nat→Bool}{W:Nat}{s:Int}{y x k0:Nat}(hb:B y x=true)(hx:x<W)(hk:(k0:Int)=x+4+s):upC (colP B W s y x) k0=colP B W s y (x+1):=by
 funext k
 unfold upC
 by_cases hkk:k=k0
 ·subst hkk
  rw[if_pos rfl]
  unfold colP
  have e0:0≤(k:Int)-4-s∧(k:Int)-4-s<(W:Int):=by omega
  have e1:¬((k:Int)-4-s<(x:Int)∧B y x=true):=fun h=>by have:=h.1;omega
  have e2:(k:Int)-4-s<((x+1:Nat):Int)∧B y x=true:=⟨by omega,hb⟩
  rw[if_pos e0,if_pos e0,show((k:Int)-4-s).toNat=x by omega,if_neg e1,if_pos e2]
  omega
 ·rw[if_neg hkk]
  unfold colP
  by_cases h:0≤(k:Int)-4-s∧(k:Int)-4-s<W
  ·rw[if_pos h,if_pos h]
   congr 1
   by_cases h2:(k:Int)-4-s<x∧B y ((k:Int)-4-s).toNat=true
   ·rw[if_pos h2,if_pos ⟨by have:=h2.1;omega,h2.2⟩]
   ·rw[if_neg h2,if_neg (fun h3=>h2 ⟨by have:=h3.1;omega,h3.2⟩)]
  ·rw[if_neg h,if_neg h]
theorem colP_bd(B:Nat→Nat→Bool)(W:Nat)(s:Int)(y x k:Nat):0≤colP B W s y x k∧colP B W s y x k≤y+1:=by
 unfold colP
 split
 ·have h1:=Go.Plain.cnt_nonneg (fun j=>B j ((k:Int)-4-s).toNat) y
  have h2:=cnt_le (fun j=>B j ((k:Int)-4-s).toNat) y
  split<;>omega
 ·omega
theorem totP_zero(B:Nat→Nat→Bool)(W:Nat):totP B W 0 0=0:=rfl
theorem totP_row(B:Nat→Nat→Bool)(W y:Nat):totP B W (y+1) 0=totP B W y W:=by
 show sumTo _ y+cnt (B y) W+0=sumTo _ y+cnt (B y) W
 omega
theorem totP_skip{B:Nat→Nat→Bool}{W y x:Nat}(hb:B y x=false):totP B W y (x+1)=totP B W y x:=by
 unfold totP
 rw[cnt_succ,hb,if_neg (by decide)]
 omega
theorem totP_step{B:Nat→Nat→Bool}{W y x:Nat}(hb:B y x=true):totP B W y x+1=totP B W y (x+1):=by
 unfold totP
 rw[cnt_succ,hb,if_pos rfl]
 omega
theorem totP_bd(B:Nat→Nat→Bool)(W y x:Nat)(hW:W≤96)(hx:x≤96):0≤totP B W y x∧totP B W y x≤96*y+96:=by
 unfold totP
 have h1:=Go.Plain.cnt_nonneg (B y) x
 have h2:=cnt_le (B y) x
 have h3:0≤sumTo (fun j=>cnt (B j) W) y∧sumTo (fun j=>cnt (B j) W) y≤96*y:=by
  refine⟨sumTo_nonneg fun k _=>Go.Plain.cnt_nonneg _ _,?_⟩
  induction y with
  |zero=>exact Int.le_refl _
  | succ m ih=>
    have h1:=ih (Go.Plain.cnt_nonneg _ _) (cnt_le _ _)
    have h2:=cnt_le (B m) W
    show sumTo _ m+cnt _ W≤_
    omega
 omega
theorem zF_cF(k j:Nat)(hj:j<2):zF [Value.int .i64 0,Value.int .i64 0] k j=cF (fun _=>0) (fun _=>0) k j:=by
 obtain rfl|rfl:j=0∨j=1:=by omega
 ·rfl
 ·rfl
def wS(c:Nat→Int)(i t:Nat):Int:=sumTo (fun k=>c (i+k)) t
theorem wS_more(c:Nat→Int)(i t:Nat):wS c i (t+1)=wS c i t+c (i+t):=rfl
theorem wS_next(c:Nat→Int)(i t:Nat):wS c (i+1) t=wS c i t+(c (i+t)-c i):=by
 induction t with
 | zero=>
   show(0:Int)=0+(c (i+0)-c i)
   rw[Nat.add_zero];omega
 | succ t ih=>
   rw[wS_more,wS_more,ih,show i+1+t=i+(t+1) by omega]
   omega
theorem wS_bd{c:Nat→Int}{m:Int}(h:∀k,0≤c k∧c k≤m)(i:Nat):∀t:Nat,0≤wS c i t∧wS c i t≤m*t
 |0=>⟨Int.le_refl _,by show(0:Int)≤m*0;omega⟩
 | t+1=>by
   have h1:=wS_bd h i t
   have h2:=h (i+t)
   rw[wS_more]
   have e:m*((t+1:Nat):Int)=m*(t:Int)+m:=by
    rw[show((t+1:Nat):Int)=(t:Int)+1 by omega,Int.mul_add,Int.mul_one]
   omega
theorem sum_one(x:Int)(q:Prop)[Decidable q](fr:Int):∀t:Nat,sumTo (fun k=>if fr+(k:Int)=x∧q then (1:Int)else 0) t=if fr≤x∧x<fr+t∧q then 1 else 0
 | 0=>by
   rw[if_neg (fun h=>by have:=h.1;have:=h.2.1;omega)]
   rfl
 | t +1=>by
   show sumTo _ t+(if fr+(t:Int)=x∧q then (1:Int)else 0)=_
   rw[sum_one x q fr t]
   by_cases hq:q
   ·by_cases h1:fr+(t:Int)=x
    ·rw[if_neg (fun h=>by have:=h.2.1;omega),if_pos ⟨h1,hq⟩,if_pos ⟨by omega,by omega,hq⟩];rfl
    ·rw[if_neg (show ¬(fr+(t:Int)=x∧q)from fun h=>h1 h.1)]
     by_cases h2:fr≤x∧x<fr+t∧q
     ·rw[if_pos h2,if_pos ⟨h2.1,by have:=h2.2.1;omega,hq⟩];rfl
     ·rw[if_neg h2,if_neg (fun h=>h2 ⟨h.1,by have:=h.2.1;omega,hq⟩)];rfl
   ·rw[if_neg (fun h=>hq h.2.2),if_neg (fun h=>hq h.2),if_neg (fun h=>hq h.2.2)];rfl
theorem sum_eq{f g:Nat→Int}(h:∀k,f k=g k)(t:Nat):sumTo f t=sumTo g t:=by rw[show f=g from funext h]
theorem sum_zero:∀t:Nat,sumTo (fun _=>(0:Int)) t=0
 |0=>rfl
 |t+1=>by show sumTo _ t+0=0;rw[sum_zero t];rfl
def inW(b:Nat→Bool)(fr:Int)(t x:Nat):Bool:=b x && (decide (fr≤(x:Int)) && decide ((x:Int)<fr+t))
def outW(b:Nat→Bool)(fr:Int)(t x:Nat):Bool:=b x && (decide ((x:Int)<fr)||decide (fr+t≤(x:Int)))
theorem cnt_win(b:Nat→Bool)(fr:Int)(t:Nat):∀W:Nat,sumTo (fun k=>if 0≤fr+(k:Int)∧fr+(k:Int)<W∧b (fr+(k:Int)).toNat=true then (1:Int)else 0) t=cnt (inW b fr t) W
 | 0=>by
   rw[cnt_zero,sum_eq (g:=fun _=>0) (fun k=>if_neg (fun h=>by have:=h.1;have:=h.2.1;omega)),sum_zero]
 | W +1=>by
   rw[cnt_succ,←cnt_win b fr t W]
   rw[sum_eq (g:=fun k=>(if 0≤fr+(k:Int)∧fr+(k:Int)<W∧b (fr+(k:Int)).toNat=true then (1:Int)else 0)+(if fr+(k:Int)=(W:Int)∧b W=true then (1:Int)else 0)) (fun k=> ?_),sumTo_add,sum_one]
   ·congr 1
    by_cases h:fr≤(W:Int)∧(W:Int)<fr+t∧b W=true
    ·rw[if_pos h,if_pos (by unfold inW;rw[h.2.2,decide_eq_true h.1,decide_eq_true h.2.1];rfl)]
    ·rw[if_neg h,if_neg (fun h2=>h (by unfold inW at h2;simp only[Bool.and_eq_true,decide_eq_true_eq]at h2;exact⟨h2.2.1,h2.2.2,h2.1⟩))]
   ·by_cases h1:fr+(k:Int)=(W:Int)
    ·have e:(fr+(k:Int)).toNat=W:=by omega
     rw[e]
     rw[if_neg (show ¬(0≤fr+(k:Int)∧fr+(k:Int)<(W:Int)∧b W=true)from fun h=>by have:=h.2.1;omega)]
     by_cases hb:b W=true
     ·rw[if_pos ⟨by omega,by omega,hb⟩,if_pos ⟨h1,hb⟩];rfl
     ·rw[if_neg (fun h=>hb h.2.2),if_neg (fun h=>hb h.2)];rfl
    ·rw[if_neg (show ¬(fr+(k:Int)=(W:Int)∧b W=true)from fun h=>h1 h.1),Int.add_zero]
     by_cases h2:0≤fr+(k:Int)∧fr+(k:Int)<W∧b (fr+(k:Int)).toNat=true
     ·rw[if_pos h2,if_pos ⟨h2.1,by have:=h2.2.1;omega,h2.2.2⟩]
     ·rw[if_neg h2,if_neg (fun h=>h2 ⟨h.1,by have:=h.2.1;omega,h.2.2⟩)]
theorem cnt_inout(b:Nat→Bool)(fr:Int)(t:Nat):∀W:Nat,cnt b W=cnt (inW b fr t) W+cnt (outW b fr t) W
 |0=>rfl
 | W +1=>by
   rw[cnt_succ,cnt_succ,cnt_succ,cnt_inout b fr t W]
   unfold inW outW
   cases b W with
   |false=>simp
   | true=>
     by_cases h1:fr≤(W:Int)
     ·by_cases h2:(W:Int)<fr+t
      ·simp[h1,h2,show ¬(W:Int)<fr by omega,show ¬fr+(t:Int)≤W by omega];omega
      ·simp[h1,h2,show ¬(W:Int)<fr by omega,show fr+(t:Int)≤W by omega];omega
     ·simp[h1,show(W:Int)<fr by omega];omega
theorem wS_eq{c d:Nat→Int}(h:∀k,c k=d k)(i t:Nat):wS c i t=wS d i t:=by rw[show c=d from funext h]
theorem win_law(B:Nat→Nat→Bool)(W:Nat)(s fr:Int)(i t:Nat)(hfr:fr=(i:Int)-4-s):∀H:Nat,totP B W H 0-wS (colP B W s H 0) i t=sumTo (fun j=>cnt (outW (B j) fr t) W) H
 | 0=>by
   rw[totP_zero,wS_eq (d:=fun _=>0) (colP_zero B W s)]
   show(0:Int)-sumTo (fun _=>0) t=0
   rw[sum_zero];rfl
 | H +1=>by
   show _=sumTo _ H+cnt (outW (B H) fr t) W
   rw[←win_law B W s fr i t hfr H,totP_row]
   have e1:totP B W H W=totP B W H 0+cnt (B H) W:=by
    unfold totP
    rw[cnt_zero];omega
   have e2:wS (colP B W s (H+1) 0) i t=wS (colP B W s H 0) i t+cnt (inW (B H) fr t) W:=by
    rw[←cnt_win (B H) fr t W]
    unfold wS
    rw[←sumTo_add]
    refine sum_eq (fun k=> ?_) t
    rw[colP_row]
    unfold colP
    have ek:((i+k:Nat):Int)-4-s=fr+k:=by omega
    rw[ek]
    by_cases h:0≤fr+(k:Int)∧fr+(k:Int)<W
    ·rw[if_pos h,if_pos h,if_neg (show ¬(fr+(k:Int)<((0:Nat):Int)∧B H (fr+(k:Int)).toNat=true)from fun h2=>by have:=h2.1;omega)]
     by_cases hb:B H (fr+(k:Int)).toNat=true
     ·rw[if_pos ⟨h.2,hb⟩,if_pos ⟨h.1,h.2,hb⟩];omega
     ·rw[if_neg (fun h2=>hb h2.2),if_neg (fun h2=>hb h2.2.2)];omega
    ·rw[if_neg h,if_neg h,if_neg (fun h2=>h ⟨h2.1,h2.2.1⟩)];rfl
   rw[e1,e2,cnt_inout (B H) fr t W]
   omega
theorem onB_out(a b:Bp)(dx dy fr:Int)(t j:Nat):onB a b dx dy fr (fr+t) j=outW (alB a b dx dy j) fr t:=by
 funext i
 unfold onB outW alB
 cases hasB a.W a.H a.d i j<;>cases hasB b.W b.H b.d ((i:Int)-dx) ((j:Int)-dy)<;>simp
def stX(x y:Bg)(t:Nat)(c0 c1:Nat→Int)(t0 t1:Int)(i:Nat):List Value:= [.int .i64 ((i:Int)-4),.int .i64 (ovN x y (t0-wS c0 i t) (t1-wS c1 i t))]
theorem stX_xs(a b:Bp)(x y:Bg)(d:Int×Int)(Wn Hn t:Nat)(hW:a.W=Wn)(hH:a.H=Hn)(hWb:b.W=a.W)(hHb:b.H=a.H)(ht:stN a.W x y=t)(i:Nat):
 stX x y t (colP (alB a b d.1 d.2) Wn 0 Hn 0) (colP (alB b a (-d.1) (-d.2)) Wn d.1 Hn 0) (totP (alB a b d.1 d.2) Wn Hn 0) (totP (alB b a (-d.1) (-d.2)) Wn Hn 0) i= [.int .i64 ((i:Int)-4),.int .i64 (xsV a b x y ⟨d.1,d.2,(i:Int)-4⟩)]:=by
 unfold stX xsV
 rw[win_law _ Wn 0 ((i:Int)-4) i t (by omega) Hn,win_law _ Wn d.1 ((i:Int)-4-d.1) i t rfl Hn,ht]
 unfold onlyN
 have e1:∀j,outW (alB a b d.1 d.2 j) ((i:Int)-4) t=onB a b d.1 d.2 ((i:Int)-4) ((i:Int)-4+t) j:=fun j=>(onB_out a b d.1 d.2 _ t j).symm
 have e2:∀j,outW (alB b a (-d.1) (-d.2) j) ((i:Int)-4-d.1) t=onB b a (-d.1) (-d.2) ((i:Int)-4-d.1) ((i:Int)-4-d.1+t) j:=fun j=>(onB_out b a (-d.1) (-d.2) _ t j).symm
 simp only[e1,e2,hWb,hHb,hW,hH,Int.toNat_natCast]
theorem LeC.fzP{h:Nat→Option AB}{ren:List (Nat×Option Nat)}{o sz:Nat}{ty:TypeId}{F:Nat→Nat→CV}{l:List CV}(hh:h o=some ⟨false,1,sz,ty,F⟩)(hr:renNo ren o=true)(hc:cellsFrom (F 0) 0 sz=l)(hi:l.all immC=true):LeC h ren (.pt o sz 0 0) (.pl 1 sz (lF l) 0 0):=
 .frzP o 1 sz 0 0 false ty F (lF l) hh (by omega) (fun k hk j hj=>by rw[lendBox_eq hc k hk j hj];exact lF_imm hi k j) (fun k hk j hj=>lendBox_eq hc k hk j hj) (renNo_at hr) (renNo_lt hr)
theorem Wk.trans{A B C:St}(h1:Wk A B)(h2:Wk B C):Wk A C:=fun b0 a w h=>h2 b0 a w (h1 b0 a w h)
theorem AWp.join3{P:Program}{x y:Code}{Q:Exit→St→Prop}{S:St}(S1:St)(h:AWp P x (thenA (AWp P y (fun e S'=>e=.normal∧Wk S' S1)) (fun e S'=>e=.normal∧Wk S' S1)) S)(hz:∀S',Wk S' S1→Q .normal S'):
 AWp P x (thenA (AWp P y Q) Q) S:=h.mono fun e S' h=>by
 cases e with
 |normal=>exact AWp.mono h fun e S' ⟨he,hw⟩=>by subst he;exact hz S' hw
 |_=>cases h.1
abbrev addC(i:Nat):CV:= [CV.pt 5 1 0 0,CV.pt 6 2 0 0].getD i .any
theorem le_add{h:Nat→Option AB}{ren:List (Nat×Option Nat)}{C:Nat→CV}(hc:∀i,C i=addC i)(h5:assoc ren 5=some (some 5))(h6:assoc ren 6=some (some 6)):LeC h ren (.fn 96 2 C) (.fn 96 2 addC):=by
 obtain rfl:C=addC:=funext hc
 refine LeC.fn _ _ _ _ (fun i hi=> ?_) (fun i hi=> ?_)
 ·obtain rfl|rfl:i=0∨i=1:=by omega
  ·exact⟨trivial,trivial⟩
  ·exact⟨trivial,trivial⟩
 ·obtain rfl|rfl:i=0∨i=1:=by omega
  ·exact .pt 5 5 1 0 0 h5
  ·exact .pt 6 6 2 0 0 h6
abbrev itC(a b:Bp)(x y:Bg)(n:Nat)(c0 c1:Nat→Int)(t0 t1:Int)(i:Nat):CV:=
 [CV.pl 1 14 (lF (prC a b (lim4 x) (lim4 y))) 0 0,CV.pl 1 1 (lF [.ls n 2 (cF c0 c1)]) 0 0,CV.pl 1 2 (lF [iC t0,iC t1]) 0 0].getD i .any
set_option maxRecDepth 100000 in
theorem strips_A(a b:Bp)(x y:Bg)(d:Int×Int)(Wn Hn:Nat)(ha:chk a.W a.H a.n=0)(hb:chk b.W b.H b.n=0)(hWn:a.W=Wn)(hHn:a.H=Hn)(hWb:b.W=a.W)(hHb:b.H=a.H)(hd:(-4≤d.1∧d.1≤4)∧-4≤d.2∧d.2≤4):
 ACalls Try.prog 77 [.ag (prC a b (lim4 x) (lim4 y)),.ag (mvC d)]
  (.c (.fn 98 3 (itC a b x y (Wn+40) (colP (alB a b d.1 d.2) Wn 0 Hn 0) (colP (alB b a (-d.1) (-d.2)) Wn d.1 Hn 0) (totP (alB a b d.1 d.2) Wn Hn 0) (totP (alB b a (-d.1) (-d.2)) Wn Hn 0)))):=by
 obtain⟨hw0,hw1,hh0,hh1,hn⟩:=okB ha
 obtain⟨-,-,-,-,hnb⟩:=okB hb
 rw[hWb,hHb]at hnb
 rw[hWn,hHn]at hn hnb
 obtain⟨A0,hA0⟩:∃A0,alB a b d.1 d.2=A0:=⟨_,rfl⟩
 obtain⟨A1,hA1⟩:∃A1,alB b a (-d.1) (-d.2)=A1:=⟨_,rfl⟩
 rw[hA0,hA1]
 obtain⟨n,hnn⟩:∃n,Wn+40=n:=⟨_,rfl⟩
 rw[hnn]
 have hW96:Wn≤96:=by omega
 have hH96:Hn≤96:=by omega
 refine acalls_at Try.func77 rfl rfl Try.ntmps77 rfl ?_
 repeat (first
  |refine vB [0,2,4] ?_
  | (refine rG 1 ?_
     (iterate 5 refine vA ?_)
     refine qr9e2o2 (AList.makeSl (n:=n) tyOk) ?_
     (iterate 2 refine vA ?_)
     refine aB ?_)
  | (refine rG 3 ?_
     refine qr5 AList.makeFn ?_
     refine vA ?_
     refine aB ?_))
 refine AWp.round (fun r:Nat=>mkSt 93 [(2,.c (.pt 2 14 0 0)),(3,.c (.pt 3 2 0 0)),(5,.c (.pt 5 1 0 0)),(6,.c (.pt 6 2 0 0)),(7,.c (.fn 96 2 addC)),(19,.c (iC Hn)),(20,.c (iC r))] [(2,⟨false,1,14,144,lF (prC a b (lim4 x) (lim4 y))⟩),(3,⟨false,1,2,148,lF (mvC d)⟩),(5,sB 15),(15,cB n (colP A0 Wn 0 r 0) (colP A1 Wn d.1 r 0)),(6,tB (totP A0 Wn r 0) (totP A1 Wn r 0))] [2,3,5,15,6])
  (fun r=>r≤Hn) (fun r=>Hn-r) 0 (Nat.zero_le _) ?_ (fun r hr=> ?_)
 ·refine Wk.mk [(2,some 2),(3,some 3),(5,some 5),(15,some 15),(6,some 6)] rfl rfl rfl ?_ ?_
  ·repeat (first|exact trivial|refine⟨⟨_,rfl,by first|exact LeA.c (le_add (fun i=>rfl) rfl rfl)|exact leT⟩,?_⟩)
  ·refine⟨hSm,hSm,HeapOk.box rfl rfl ⟨LeC.ow _ _ rfl,trivial⟩ rfl,HeapOk.row rfl rfl rfl (fun k _ j hj=> ?_),hSm,trivial⟩
   rw[show colP A0 Wn 0 0 0=fun _=>0 from funext fun k=>colP_zero _ _ _ k,show colP A1 Wn d.1 0 0=fun _=>0 from funext fun k=>colP_zero _ _ _ k,←zF_cF k j hj]
   exact⟨rfl,by rw[zF_cF k j hj];exact cF_imm _ _ k j⟩
 ·by_cases hrl:r<Hn
  ·have hrow0 :=colP_row A0 Wn 0 r
   have hrow1:=colP_row A1 Wn d.1 r
   have hrt0:=totP_row A0 Wn r
   have hrt1:=totP_row A1 Wn r
   refine vB [5,6,7] ?_
   refine AWp.round (fun c:Nat=>mkSt 93 [(2,.c (.pt 2 14 0 0)),(3,.c (.pt 3 2 0 0)),(5,.c (.pt 5 1 0 0)),(6,.c (.pt 6 2 0 0)),(7,.c (.fn 96 2 addC)),(8,.c (iC r)),(19,.c (iC Hn)),(20,.c (iC r)),(25,.c (iC Wn)),(26,.c (iC c))] [(2,⟨false,1,14,144,lF (prC a b (lim4 x) (lim4 y))⟩),(3,⟨false,1,2,148,lF (mvC d)⟩),(5,sB 15),(15,cB n (colP A0 Wn 0 r c) (colP A1 Wn d.1 r c)),(6,tB (totP A0 Wn r c) (totP A1 Wn r c))] [2,3,5,15,6])
    (fun c=>c≤Wn) (fun c=>Wn-c) 0 (Nat.zero_le _) ?_ (fun c hc=> ?_)
   ·refine Wk.mk [(2,some 2),(3,some 3),(5,some 5),(15,some 15),(6,some 6)] rfl rfl rfl ?_ ?_
    ·repeat (first|exact trivial|refine⟨⟨_,rfl,by first|exact LeA.c (le_add (fun i=>rfl) rfl rfl)|exact leT⟩,?_⟩)
    ·refine⟨hSm,hSm,HeapOk.box rfl rfl ⟨LeC.ow _ _ rfl,trivial⟩ rfl,HeapOk.row rfl rfl rfl (fun k _ j _=>⟨rfl,cF_imm _ _ k j⟩),hSm,trivial⟩
   ·by_cases hcl:c<Wn
    ·obtain ⟨p,hp⟩:∃p,r*Wn+c=p:=⟨_,rfl⟩
     have hpi:(r:Int)*a.W+(c:Int)=(p:Int):=by rw[←hp,hWn];simp
     have hpi2:(r:Int)*b.W+(c:Int)=(p:Int):=by rw[hWb];exact hpi
     have hrW:(0:Int)≤(r:Int)*a.W:=Int.mul_nonneg (by omega) (by omega)
     have hpl:r*Wn+Wn≤Wn*Hn:=by
      have:=Nat.mul_le_mul_right Wn (show r+1≤Hn by omega)
      rw[Nat.succ_mul,Nat.mul_comm Hn]at this
      exact this
     have hWH:(Wn*Hn:Nat)≤9216:=Nat.mul_le_mul hW96 hH96
     have hna:a.n=Wn*Hn:=by omega
     have hnb':b.n=Wn*Hn:=by omega
     have hGb:=bGet_A b.W b.H b.n b.d ((c:Int)-d.1) ((r:Int)-d.2) hb
     have hGa:=bGet_A a.W a.H a.n a.d ((c:Int)+d.1) ((r:Int)+d.2) ha
     have hv0:A0 r c=(a.d p && !hasB b.W b.H b.d ((c:Int)-d.1) ((r:Int)-d.2)):=by
      rw[←hA0]
      show(hasB a.W a.H a.d c r && !hasB b.W b.H b.d ((c:Int)-d.1) ((r:Int)-d.2))=_
      rw[hasB_in (by omega) (by omega) (by omega) (by omega),hpi,Int.toNat_natCast]
     have hv1:A1 r c=(b.d p && !hasB a.W a.H a.d ((c:Int)+d.1) ((r:Int)+d.2)):=by
      rw[←hA1]
      show(hasB b.W b.H b.d c r && !hasB a.W a.H a.d ((c:Int) - -d.1) ((r:Int) - -d.2))=_
      rw[hasB_in (by omega) (by omega) (by omega) (by omega),hpi2,Int.toNat_natCast,Int.sub_neg,Int.sub_neg]
     obtain⟨k1,hk1⟩:=Int.eq_ofNat_of_zero_le (show 0≤(c:Int)+d.1+4 by omega)
     have b0:=colP_bd A0 Wn 0 r c (c+4)
     have b1:=colP_bd A1 Wn d.1 r c k1
     have b2:=totP_bd A0 Wn r c hW96 (by omega)
     have b3:=totP_bd A1 Wn r c hW96 (by omega)
     have s0:=fun (h:A0 r c=true)=>colP_step (s:=0) h hcl (show((c+4:Nat):Int)=c+4+0 by omega)
     have s1:=fun (h:A1 r c=true)=>colP_step (s:=d.1) h hcl (show((k1:Nat):Int)=c+4+d.1 by omega)
     have n0:=fun (h:A0 r c=false)=>colP_skip (W:=Wn) (s:=0) h
     have n1:=fun (h:A1 r c=false)=>colP_skip (W:=Wn) (s:=d.1) h
     have u0:=fun (h:A0 r c=true)=>totP_step (W:=Wn) h
     have u1:=fun (h:A1 r c=true)=>totP_step (W:=Wn) h
     have v0:=fun (h:A0 r c=false)=>totP_skip (W:=Wn) h
     have v1:=fun (h:A1 r c=false)=>totP_skip (W:=Wn) h
     obtain⟨c0n,hc0n⟩:∃q,colP A0 Wn 0 r (c+1)=q:=⟨_,rfl⟩
     obtain⟨c1n,hc1n⟩:∃q,colP A1 Wn d.1 r (c+1)=q:=⟨_,rfl⟩
     obtain⟨t0n,ht0n⟩:∃q,totP A0 Wn r (c+1)=q:=⟨_,rfl⟩
     obtain⟨t1n,ht1n⟩:∃q,totP A1 Wn r (c+1)=q:=⟨_,rfl⟩
     rw[hc0n]at s0 n0
     rw[hc1n]at s1 n1
     rw[ht0n]at u0 v0
     rw[ht1n]at u1 v1
     obtain⟨c0,hc0⟩:∃q,colP A0 Wn 0 r c=q:=⟨_,rfl⟩
     obtain⟨c1,hc1⟩:∃q,colP A1 Wn d.1 r c=q:=⟨_,rfl⟩
     obtain⟨t0,ht0⟩:∃q,totP A0 Wn r c=q:=⟨_,rfl⟩
     obtain⟨t1,ht1⟩:∃q,totP A1 Wn r c=q:=⟨_,rfl⟩
     rw[hc0]at s0 n0 b0
     rw[hc1]at s1 n1 b1
     rw[ht0]at u0 v0 b2
     rw[ht1]at u1 v1 b3
     rw[hc0,hc1,ht0,ht1]
     have hK0:A0 r c=true→HCalls Try.prog 96 [.c (iC 0),.c (iC c),.c (.pt 1000 1 0 0),.c (.pt 1002 2 0 0)] [(1000,sB 1001),(1001,cB n c0 c1),(1002,tB t0 t1)] (.tu []) [(1000,sB 1001),(1001,cB n c0n c1),(1002,tB t0n t1)]:=fun h=>by
      have:=add0_H n c0 c1 t0 t1 c (c+4) (by omega) (by omega) (by omega) ⟨b0.1,by omega⟩ ⟨b2.1,by omega⟩
      rw[s0 h,u0 h]at this
      exact this
     have hK1:A1 r c=true→HCalls Try.prog 96 [.c (iC 1),.c (iC ((c:Int)+d.1)),.c (.pt 1000 1 0 0),.c (.pt 1002 2 0 0)] [(1000,sB 1001),(1001,cB n c0n c1),(1002,tB t0n t1)] (.tu []) [(1000,sB 1001),(1001,cB n c0n c1n),(1002,tB t0n t1n)]:=fun h=>by
      have:=add1_H n c0n c1 t0n t1 ((c:Int)+d.1) k1 (by omega) (by omega) (by omega) ⟨b1.1,by omega⟩ ⟨b3.1,by omega⟩
      rw[s1 h,u1 h]at this
      exact this
     clear s0 s1 u0 u1 hA0 hA1 hrow0 hrow1 hrt0 hrt1
     refine vB [8,9] ?_
     refine AWp.join2 (mkSt 93 [(2,.c (.pt 2 14 0 0)),(3,.c (.pt 3 2 0 0)),(5,.c (.pt 5 1 0 0)),(6,.c (.pt 6 2 0 0)),(7,.c (.fn 96 2 addC)),(8,.c (iC r)),(9,.c (iC c)),(19,.c (iC Hn)),(20,.c (iC r)),(25,.c (iC Wn)),(26,.c (iC c))] [(2,⟨false,1,14,144,lF (prC a b (lim4 x) (lim4 y))⟩),(3,⟨false,1,2,148,lF (mvC d)⟩),(5,sB 15),(15,cB n c0n c1),(6,tB t0n t1)] [2,3,5,15,6]) ?_ ?_
     ·cases hd0:a.d p with
      | false=>
        have hv:A0 r c=false:=by rw[hv0,hd0];rfl
        have q0:=n0 hv
        have q1:=v0 hv
        subst q0 q1
        repeat (first
         |refine vB [] ?_
         | (refine rG 10 ?_
            (iterate 10 refine vA ?_)
            refine qr8eo2 (aP (k:=p) tyOk) ?_
            refine AList.load1lE tyOk (congrArg (fun q=>CV.p (.bool q)) hd0) rfl rfl rfl rfl rfl oM ?_
            (iterate 14 refine vA ?_)
            refine aB ?_))
        refine⟨rfl,Wk.mk [(2,some 2),(3,some 3),(5,some 5),(15,some 15),(6,some 6)] rfl rfl rfl ?_ ?_⟩
        ·repeat (first|exact trivial|refine⟨⟨_,rfl,by first|exact LeA.c (le_add (fun i=>rfl) rfl rfl)|exact leT⟩,?_⟩)
        ·refine⟨hSm,hSm,HeapOk.box rfl rfl ⟨LeC.ow _ _ rfl,trivial⟩ rfl,HeapOk.row rfl rfl rfl (fun k _ j _=>⟨rfl,cF_imm _ _ k j⟩),hSm,trivial⟩
      | true=>
        cases hg0:hasB b.W b.H b.d ((c:Int)-d.1) ((r:Int)-d.2)with
        | true=>
          rw[hg0]at hGb
          have hv:A0 r c=false:=by rw[hv0,hd0,hg0];rfl
          have q0:=n0 hv
          have q1:=v0 hv
          subst q0 q1
          repeat (first
           |refine vB [] ?_
           | (refine rG 10 ?_
              (iterate 10 refine vA ?_)
              refine qr8eo2 (aP (k:=p) tyOk) ?_
              refine AList.load1lE tyOk (congrArg (fun q=>CV.p (.bool q)) hd0) rfl rfl rfl rfl rfl oM ?_
              (iterate 11 refine vA ?_)
              refine aH rfl rfl rfl rfl Try.func97 rfl (by kernel_rfl) (hGb) ?_
              (iterate 2 refine vA ?_)
              refine aB ?_))
          refine⟨rfl,Wk.mk [(2,some 2),(3,some 3),(5,some 5),(15,some 15),(6,some 6)] rfl rfl rfl ?_ ?_⟩
          ·repeat (first|exact trivial|refine⟨⟨_,rfl,by first|exact LeA.c (le_add (fun i=>rfl) rfl rfl)|exact leT⟩,?_⟩)
          ·refine⟨hSm,hSm,HeapOk.box rfl rfl ⟨LeC.ow _ _ rfl,trivial⟩ rfl,HeapOk.row rfl rfl rfl (fun k _ j _=>⟨rfl,cF_imm _ _ k j⟩),hSm,trivial⟩
        | false=>
          rw[hg0]at hGb
          have hv:A0 r c=true:=by rw[hv0,hd0,hg0];rfl
          repeat (first
           |refine vB [] ?_
           | (refine rG 10 ?_
              (iterate 10 refine vA ?_)
              refine qr8eo2 (aP (k:=p) tyOk) ?_
              refine AList.load1lE tyOk (congrArg (fun q=>CV.p (.bool q)) hd0) rfl rfl rfl rfl rfl oM ?_
              (iterate 11 refine vA ?_)
              refine aH rfl rfl rfl rfl Try.func97 rfl (by kernel_rfl) (hGb) ?_
              (iterate 2 refine vA ?_)
              refine aB ?_)
           | (refine rG 11 ?_
              (iterate 2 refine vA ?_)
              refine AList.callC [5,15,6] [sB 1001,cB n c0 c1,tB t0 t1] [sB 1001,cB n c0n c1,tB t0n t1] [sB 15,cB n c0n c1,tB t0n t1] rfl rfl rfl rfl rfl Try.func96 rfl (by kernel_rfl) (LendOk2.box rfl ⟨LentC.ow rfl,trivial⟩ rfl (LendOk2.row rfl (by omega) (fun k _ j _=>⟨rfl,cF_imm _ _ k j⟩) (LendOk2.box rfl ⟨LentC.imm rfl,LentC.imm rfl,trivial⟩ rfl trivial))) rfl (BackOk.box ⟨LentC.ow rfl,trivial⟩ rfl rfl (BackOk.row (fun k _ j _=>cF_imm _ _ k j) (BackOk.box ⟨LentC.imm rfl,LentC.imm rfl,trivial⟩ rfl rfl trivial))) (hK0 hv) ?_
              refine aB ?_))
          refine⟨rfl,Wk.mk [(2,some 2),(3,some 3),(5,some 5),(15,some 15),(6,some 6)] rfl rfl rfl ?_ ?_⟩
          ·repeat (first|exact trivial|refine⟨⟨_,rfl,by first|exact LeA.c (le_add (fun i=>rfl) rfl rfl)|exact leT⟩,?_⟩)
          ·refine⟨hSm,hSm,HeapOk.box rfl rfl ⟨LeC.ow _ _ rfl,trivial⟩ rfl,HeapOk.row rfl rfl rfl (fun k _ j _=>⟨rfl,cF_imm _ _ k j⟩),hSm,trivial⟩
     refine uA ?_
     refine AWp.join3 (mkSt 93 [(2,.c (.pt 2 14 0 0)),(3,.c (.pt 3 2 0 0)),(5,.c (.pt 5 1 0 0)),(6,.c (.pt 6 2 0 0)),(7,.c (.fn 96 2 addC)),(8,.c (iC r)),(9,.c (iC c)),(19,.c (iC Hn)),(20,.c (iC r)),(25,.c (iC Wn)),(26,.c (iC c))] [(2,⟨false,1,14,144,lF (prC a b (lim4 x) (lim4 y))⟩),(3,⟨false,1,2,148,lF (mvC d)⟩),(5,sB 15),(15,cB n c0n c1n),(6,tB t0n t1n)] [2,3,5,15,6]) ?_ (fun S2 hw2=>AWp.weak hw2 ?_)
     ·cases hd1:b.d p with
      | false=>
        have hv:A1 r c=false:=by rw[hv1,hd1];rfl
        have q0:=n1 hv
        have q1:=v1 hv
        subst q0 q1
        repeat (first
         |refine vB [] ?_
         | (refine rG 12 ?_
            (iterate 10 refine vA ?_)
            refine qr8eo2 (aP (k:=p) tyOk) ?_
            refine AList.load1lE tyOk (congrArg (fun q=>CV.p (.bool q)) hd1) rfl rfl rfl rfl rfl oM ?_
            (iterate 14 refine vA ?_)
            refine aB ?_))
        refine⟨rfl,Wk.mk [(2,some 2),(3,some 3),(5,some 5),(15,some 15),(6,some 6)] rfl rfl rfl ?_ ?_⟩
        ·repeat (first|exact trivial|refine⟨⟨_,rfl,by first|exact LeA.c (le_add (fun i=>rfl) rfl rfl)|exact leT⟩,?_⟩)
        ·refine⟨hSm,hSm,HeapOk.box rfl rfl ⟨LeC.ow _ _ rfl,trivial⟩ rfl,HeapOk.row rfl rfl rfl (fun k _ j _=>⟨rfl,cF_imm _ _ k j⟩),hSm,trivial⟩
      | true=>
        cases hg1:hasB a.W a.H a.d ((c:Int)+d.1) ((r:Int)+d.2)with
        | true=>
          rw[hg1]at hGa
          have hv:A1 r c=false:=by rw[hv1,hd1,hg1];rfl
          have q0:=n1 hv
          have q1:=v1 hv
          subst q0 q1
          repeat (first
           |refine vB [] ?_
           | (refine rG 12 ?_
              (iterate 10 refine vA ?_)
              refine qr8eo2 (aP (k:=p) tyOk) ?_
              refine AList.load1lE tyOk (congrArg (fun q=>CV.p (.bool q)) hd1) rfl rfl rfl rfl rfl oM ?_
              (iterate 11 refine vA ?_)
              refine aH rfl rfl rfl rfl Try.func97 rfl (by kernel_rfl) (hGa) ?_
              (iterate 2 refine vA ?_)
              refine aB ?_))
          refine⟨rfl,Wk.mk [(2,some 2),(3,some 3),(5,some 5),(15,some 15),(6,some 6)] rfl rfl rfl ?_ ?_⟩
          ·repeat (first|exact trivial|refine⟨⟨_,rfl,by first|exact LeA.c (le_add (fun i=>rfl) rfl rfl)|exact leT⟩,?_⟩)
          ·refine⟨hSm,hSm,HeapOk.box rfl rfl ⟨LeC.ow _ _ rfl,trivial⟩ rfl,HeapOk.row rfl rfl rfl (fun k _ j _=>⟨rfl,cF_imm _ _ k j⟩),hSm,trivial⟩
        | false=>
          rw[hg1]at hGa
          have hv:A1 r c=true:=by rw[hv1,hd1,hg1];rfl
          repeat (first
           |refine vB [] ?_
           | (refine rG 12 ?_
              (iterate 10 refine vA ?_)
              refine qr8eo2 (aP (k:=p) tyOk) ?_
              refine AList.load1lE tyOk (congrArg (fun q=>CV.p (.bool q)) hd1) rfl rfl rfl rfl rfl oM ?_
              (iterate 11 refine vA ?_)
              refine aH rfl rfl rfl rfl Try.func97 rfl (by kernel_rfl) (hGa) ?_
              (iterate 2 refine vA ?_)
              refine aB ?_)
           | (refine rG 13 ?_
              (iterate 5 refine vA ?_)
              refine AList.callC [5,15,6] [sB 1001,cB n c0n c1,tB t0n t1] [sB 1001,cB n c0n c1n,tB t0n t1n] [sB 15,cB n c0n c1n,tB t0n t1n] rfl rfl rfl rfl rfl Try.func96 rfl (by kernel_rfl) (LendOk2.box rfl ⟨LentC.ow rfl,trivial⟩ rfl (LendOk2.row rfl (by omega) (fun k _ j _=>⟨rfl,cF_imm _ _ k j⟩) (LendOk2.box rfl ⟨LentC.imm rfl,LentC.imm rfl,trivial⟩ rfl trivial))) rfl (BackOk.box ⟨LentC.ow rfl,trivial⟩ rfl rfl (BackOk.row (fun k _ j _=>cF_imm _ _ k j) (BackOk.box ⟨LentC.imm rfl,LentC.imm rfl,trivial⟩ rfl rfl trivial))) (hK1 hv) ?_
              refine aB ?_))
          refine⟨rfl,Wk.mk [(2,some 2),(3,some 3),(5,some 5),(15,some 15),(6,some 6)] rfl rfl rfl ?_ ?_⟩
          ·repeat (first|exact trivial|refine⟨⟨_,rfl,by first|exact LeA.c (le_add (fun i=>rfl) rfl rfl)|exact leT⟩,?_⟩)
          ·refine⟨hSm,hSm,HeapOk.box rfl rfl ⟨LeC.ow _ _ rfl,trivial⟩ rfl,HeapOk.row rfl rfl rfl (fun k _ j _=>⟨rfl,cF_imm _ _ k j⟩),hSm,trivial⟩
     refine vB [14] ?_
     refine⟨c+1,by omega,Wk.mk [(2,some 2),(3,some 3),(5,some 5),(15,some 15),(6,some 6)] rfl rfl rfl ?_ ?_,by omega⟩
     ·repeat (first|exact trivial|refine⟨⟨_,rfl,by first|exact LeA.c (le_add (fun i=>rfl) rfl rfl)|exact leT⟩,?_⟩)
     ·rw[hc0n,hc1n,ht0n,ht1n]
      refine⟨hSm,hSm,HeapOk.box rfl rfl ⟨LeC.ow _ _ rfl,trivial⟩ rfl,HeapOk.row rfl rfl rfl (fun k _ j _=>⟨rfl,cF_imm _ _ k j⟩),hSm,trivial⟩
    ·obtain rfl:c=Wn:=by omega
     refine vB [8,15] ?_
     refine⟨r+1,hrl,Wk.mk [(2,some 2),(3,some 3),(5,some 5),(15,some 15),(6,some 6)] rfl rfl rfl ?_ ?_,by omega⟩
     ·repeat (first|exact trivial|refine⟨⟨_,rfl,by first|exact LeA.c (le_add (fun i=>rfl) rfl rfl)|exact leT⟩,?_⟩)
     ·rw[hrow0,hrow1,hrt0,hrt1]
      refine⟨hSm,hSm,HeapOk.box rfl rfl ⟨LeC.ow _ _ rfl,trivial⟩ rfl,HeapOk.row rfl rfl rfl (fun k _ j _=>⟨rfl,cF_imm _ _ k j⟩),hSm,trivial⟩
  ·obtain rfl:r=Hn:=by omega
   repeat (first
    |refine vB [5] ?_
    | (refine rG 16 ?_
       refine qr5 AList.makeFn ?_
       refine vA ?_
       refine aB ?_))
   have hn0:0<n:=by omega
   refine⟨mkSt 93 [(4,.c (.fn 98 3 (itC a b x y n (colP A0 Wn 0 r 0) (colP A1 Wn d.1 r 0) (totP A0 Wn r 0) (totP A1 Wn r 0))))] [] [],[],?_,rfl,rfl,ARets.one (x:=.c _) (ARes.fn rfl fun i hi=> ?_)⟩
   ·refine Wk.trans (B:=mkSt 93 [(4,.c (.fn 98 3 fun i=> [CV.pt 2 14 0 0,CV.pt 5 1 0 0,CV.pt 6 2 0 0].getD i .any))] [(2,⟨false,1,14,144,lF (prC a b (lim4 x) (lim4 y))⟩),(5,⟨false,1,1,166,lF [.ls n 2 (cF (colP A0 Wn 0 r 0) (colP A1 Wn d.1 r 0))]⟩),(6,tB (totP A0 Wn r 0) (totP A1 Wn r 0))] [2,5,6]) (Wk.mk [(2,some 2),(5,some 5),(6,some 6)] rfl rfl rfl ⟨⟨_,rfl,.c (LeC.fn _ _ _ _ (fun i hi=> ?_) (fun i hi=> ?_))⟩,trivial⟩ ⟨hSm,HeapOk.box rfl rfl ⟨LeC.fz rfl rfl rfl (fun k _ j _=>⟨rfl,cF_imm _ _ k j⟩),trivial⟩ rfl,hSm,trivial⟩) (Wk.mk [] rfl rfl rfl ⟨⟨_,rfl,.c (LeC.fn _ _ _ _ (fun i hi=> ?_) (fun i hi=> ?_))⟩,trivial⟩ trivial)
    ·have hi3:i<3:=hi
     obtain rfl|rfl|rfl:i=0∨i=1∨i=2:=by omega
     all_goals exact⟨trivial,trivial⟩
    ·have hi3:i<3:=hi
     obtain rfl|rfl|rfl:i=0∨i=1∨i=2:=by omega
     ·exact .pt 2 2 14 0 0 rfl
     ·exact .pt 5 5 1 0 0 rfl
     ·exact .pt 6 6 2 0 0 rfl
    ·have hi3:i<3:=hi
     obtain rfl|rfl|rfl:i=0∨i=1∨i=2:=by omega
     all_goals exact⟨trivial,trivial⟩
    ·have hi3:i<3:=hi
     obtain rfl|rfl|rfl:i=0∨i=1∨i=2:=by omega
     ·exact LeC.fzP rfl rfl rfl rfl
     ·exact LeC.fzP rfl rfl rfl rfl
     ·exact LeC.fzP rfl rfl rfl rfl
   ·have hi3:i<3:=hi
    obtain rfl|rfl|rfl:i=0∨i=1∨i=2:=by omega
    all_goals rfl
abbrev stYs(a b:Bp)(x y:Bg)(n:Nat)(c0 c1:Nat→Int)(t0 t1:Int):List CV:= [CV.pl 1 14 (lF (prC a b (lim4 x) (lim4 y))) 0 0,CV.pl 1 1 (lF [.ls n 2 (cF c0 c1)]) 0 0,CV.pl 1 2 (lF [iC t0,iC t1]) 0 0]
set_option maxRecDepth 100000 in
theorem stripsIt_A(a b:Bp)(x y:Bg)(n t M Wn:Nat)(c0 c1:Nat→Int)(t0 t1:Int)(hw:a.W=Wn)(hw96:Wn≤96)(hn:n=Wn+40)(ht:stN a.W x y=t)(hM:M+t=Wn+9)(hc0:∀k,0≤c0 k∧c0 k≤97)(hc1:∀k,0≤c1 k∧c1 k≤97)(ht0:∀i,0≤t0-wS c0 i t∧t0-wS c0 i t≤100000)(ht1:∀i,0≤t1-wS c1 i t∧t1-wS c1 i t≤100000):
 ItCalls Try.prog 98 ((stYs a b x y n c0 c1 t0 t1).map .c) (stX x y t c0 c1 t0 t1) M:=by
 have hb:=stN_bd x y (show 0≤a.W by omega)
 have ht16:t≤16∧t≤Wn+8:=by omega
 have hst:=pstrip_A a b x y (by omega)
 rw[ht]at hst
 refine itcalls_of Try.func98 rfl rfl Try.ntmps98 rfl fun l N stop hN1 hN2=> ?_
 repeat (first
  |refine vB [1,2] ?_
  | (refine rG 0 ?_
     refine vA ?_
     refine aH rfl rfl rfl rfl Try.func99 rfl (by kernel_rfl) (hst) ?_
     refine vA ?_
     refine aB ?_))
 refine AWp.round (fun k:Nat=>mkG (itG Try.prog l (stX x y t c0 c1 t0 t1) N stop) 0 false 90 0 [(0,.c (.p (yv l))),(1,.c (.pl 1 14 (lF (prC a b (lim4 x) (lim4 y))) 0 0)),(2,.c (.pl 1 1 (lF [.ls n 2 (cF c0 c1)]) 0 0)),(3,.c (.pl 1 2 (lF [iC t0,iC t1]) 0 0)),(5,.c (iC t)),(6,.c (.pt 6 2 0 0)),(13,.c (iC t)),(14,.c (iC k))] [(6,⟨false,1,2,25,lF [iC (wS c0 0 k),iC (wS c1 0 k)]⟩)] [6])
  (fun k=>k≤t) (fun k=>t-k) 0 (Nat.zero_le _) ?_ (fun k hk=> ?_)
 ·refine Wk.mkG [(6,some 6)] rfl rfl rfl rfl rfl ?_ ?_
  ·exact allT
  ·exact⟨hSm,trivial⟩
 ·by_cases hkl:k<t
  ·have b0:=wS_bd hc0 0 k
   have b1:=wS_bd hc1 0 k
   have d0:=hc0 k
   have d1:=hc1 k
   have e0:=wS_more c0 0 k
   have e1:=wS_more c1 0 k
   rw[Nat.zero_add]at e0 e1
   obtain⟨u0,hu0⟩:∃u,wS c0 0 (k+1)=u:=⟨_,rfl⟩
   obtain⟨u1,hu1⟩:∃u,wS c1 0 (k+1)=u:=⟨_,rfl⟩
   rw[hu0]at e0
   rw[hu1]at e1
   generalize wS c0 0 k=v0 at *
   generalize wS c1 0 k=v1 at *
   repeat (first
    |refine vB [3,4,7] ?_
    |(refine AWp.draw (id:=5) mixed ?_;(iterate 4 refine vA ?_);refine qr8eo2 (aP (k:=k) tyOk) ?_;refine qr8o (AList.idxArrL tyOk) ?_;(iterate 4 refine vA ?_);refine aB ⟨by kernel_rfl,?_⟩)
    |(refine AWp.draw (id:=6) mixed ?_;(iterate 4 refine vA ?_);refine qr8eo2 (aP (k:=k) tyOk) ?_;refine qr8o (AList.idxArrL tyOk) ?_;(iterate 4 refine vA ?_);refine aB ⟨by kernel_rfl,?_⟩))
   refine⟨k+1,hkl,Wk.mkG [(6,some 6)] rfl rfl rfl rfl rfl ?_ ?_,by omega⟩
   ·exact allT
   ·rw[hu0,hu1,e0,e1]
    exact⟨hSm,trivial⟩
  ·obtain rfl:k=t:=by omega
   refine vB [3,8] ?_
   refine AWp.round (fun i:Nat=>mkG (itG Try.prog l (stX x y k c0 c1 t0 t1) N stop) i false 90 0 [(0,.c (.p (yv l))),(1,.c (.pl 1 14 (lF (prC a b (lim4 x) (lim4 y))) 0 0)),(2,.c (.pl 1 1 (lF [.ls n 2 (cF c0 c1)]) 0 0)),(3,.c (.pl 1 2 (lF [iC t0,iC t1]) 0 0)),(5,.c (iC k)),(6,.c (.pt 6 2 0 0)),(8,.c (iC ((i:Int)-4)))] [(6,⟨false,1,2,25,lF [iC (wS c0 i k),iC (wS c1 i k)]⟩)] [6])
    (fun i=>i<M∧(stop=true→i<N)) (fun i=>M-i) 0 ⟨by omega,fun h=>(hN1 h).1⟩ ?_ (fun i hi=> ?_)
   ·refine Wk.mkG [(6,some 6)] rfl rfl rfl rfl rfl ?_ ?_
    ·exact allT
    ·exact⟨hSm,trivial⟩
   ·obtain⟨hiM,hiN0⟩:=hi
    have hiN:i<N:=by
     cases stop with
     |true=>exact hiN0 rfl
     |false=>rw[hN2 rfl];exact hiM
    have q0:=ht0 i
    have q1:=ht1 i
    have b0:=wS_bd hc0 i k
    have b1:=wS_bd hc1 i k
    have hpe:=pexcess_A a b x y (t0-wS c0 i k) (t1-wS c1 i k) q0 q1
    cases hg1:goesB N stop i with
    | false=>
      obtain⟨hst1,hN⟩:=goes_false hg1
      refine vB [] ?_
      refine AWp.text ?_
      refine AText.split 14 ?_
      (iterate 3 refine vA ?_)
      refine qr8o (AList.idxArrL tyOk) ?_
      (iterate 4 refine vA ?_)
      refine qr8o (AList.idxArrL tyOk) ?_
      (iterate 4 refine vA ?_)
      refine aH rfl rfl rfl rfl Try.func100 rfl (by kernel_rfl) (hpe) ?_
      refine aB ?_
      refine AText.yield (i:=i) false rfl rfl rfl rfl (fun _ h=>h) rfl rfl (hiN) (rfl) (hg1) ?_
      refine AText.all ?_
      (iterate 11 refine vA ?_)
      refine aB ?_
      refine vB [] ?_
      exact⟨hN,hst1.symm⟩
    | true=>
      by_cases hlast:i+1=M
      ·have hsf:stop=false:=by
        cases stop with
        |false=>rfl
        |true=>have:=goes_true hg1 rfl;have:=hN1 rfl;omega
       refine vB [] ?_
       refine AWp.text ?_
       refine AText.split 14 ?_
       (iterate 3 refine vA ?_)
       refine qr8o (AList.idxArrL tyOk) ?_
       (iterate 4 refine vA ?_)
       refine qr8o (AList.idxArrL tyOk) ?_
       (iterate 4 refine vA ?_)
       refine aH rfl rfl rfl rfl Try.func100 rfl (by kernel_rfl) (hpe) ?_
       refine aB ?_
       refine AText.yield (i:=i) true rfl rfl rfl rfl (fun _ h=>h) rfl rfl (hiN) (rfl) (hg1) ?_
       refine AText.all ?_
       (iterate 11 refine vA ?_)
       refine aB ?_
       refine vB [] ?_
       exact⟨by rw[hN2 hsf];exact hlast,hsf.symm⟩
      ·have hnx0:=wS_next c0 i k
       have hnx1:=wS_next c1 i k
       have d0:=hc0 i
       have d1:=hc1 i
       have d2:=hc0 (i+k)
       have d3:=hc1 (i+k)
       refine vB [] ?_
       refine AWp.text ?_
       refine AText.split 14 ?_
       (iterate 3 refine vA ?_)
       refine qr8o (AList.idxArrL tyOk) ?_
       (iterate 4 refine vA ?_)
       refine qr8o (AList.idxArrL tyOk) ?_
       (iterate 4 refine vA ?_)
       refine aH rfl rfl rfl rfl Try.func100 rfl (by kernel_rfl) (hpe) ?_
       refine aB ?_
       refine AText.yield (i:=i) true rfl rfl rfl rfl (fun _ h=>h) rfl rfl (hiN) (rfl) (hg1) ?_
       refine AText.all ?_
       (iterate 11 refine vA ?_)
       refine aB ?_
       refine vB [11] ?_
       refine AWp.round (fun z:Nat×Int×Int=>mkG (itG Try.prog l (stX x y k c0 c1 t0 t1) N stop) (i+1) false 90 0 [(0,.c (.p (yv l))),(1,.c (.pl 1 14 (lF (prC a b (lim4 x) (lim4 y))) 0 0)),(2,.c (.pl 1 1 (lF [.ls n 2 (cF c0 c1)]) 0 0)),(3,.c (.pl 1 2 (lF [iC t0,iC t1]) 0 0)),(5,.c (iC k)),(6,.c (.pt 6 2 0 0)),(8,.c (iC ((i:Int)-4))),(64,.c (iC z.1))] [(6,⟨false,1,2,25,lF [iC z.2.1,iC z.2.2]⟩)] [6])
        (fun z=>z=(0,wS c0 i k,wS c1 i k)∨z=(1,wS c0 i k+(c0 (i+k)-c0 i),wS c1 i k)∨z=(2,wS c0 i k+(c0 (i+k)-c0 i),wS c1 i k+(c1 (i+k)-c1 i))) (fun z=>2-z.1) (0,wS c0 i k,wS c1 i k) (.inl rfl) ?_ (fun z hz=> ?_)
       ·refine Wk.mkG [(6,some 6)] rfl rfl rfl rfl rfl ?_ ?_
        ·exact allT
        ·exact⟨hSm,trivial⟩
       ·rcases hz with rfl|rfl|rfl
        ·dsimp only
         generalize wS c0 i k=v0 at *
         generalize wS c1 i k=v1 at *
         repeat (first
          |refine vB [12,13,15] ?_
          |(refine AWp.draw (id:=14) mixed ?_;(iterate 9 refine vA ?_);refine qr8eo2 (aP (k:=i+k) tyOk) ?_;refine qr8o (AList.idxArrL tyOk) ?_;(iterate 5 refine vA ?_);refine qr8eo2 (aP (k:=i) tyOk) ?_;refine qr8o (AList.idxArrL tyOk) ?_;(iterate 5 refine vA ?_);refine aB ⟨by kernel_rfl,?_⟩))
         refine⟨(1,v0+(c0 (i+k)-c0 i),v1),.inr (.inl rfl),Wk.mkG [(6,some 6)] rfl rfl rfl rfl rfl ?_ ?_,by dsimp only;omega⟩
         ·exact allT
         ·exact⟨hSm,trivial⟩
        ·dsimp only
         generalize wS c0 i k=v0 at *
         generalize wS c1 i k=v1 at *
         repeat (first
          |refine vB [12,13,15] ?_
          |(refine AWp.draw (id:=14) mixed ?_;(iterate 9 refine vA ?_);refine qr8eo2 (aP (k:=i+k) tyOk) ?_;refine qr8o (AList.idxArrL tyOk) ?_;(iterate 5 refine vA ?_);refine qr8eo2 (aP (k:=i) tyOk) ?_;refine qr8o (AList.idxArrL tyOk) ?_;(iterate 5 refine vA ?_);refine aB ⟨by kernel_rfl,?_⟩))
         refine⟨(2,v0+(c0 (i+k)-c0 i),v1+(c1 (i+k)-c1 i)),.inr (.inr rfl),Wk.mkG [(6,some 6)] rfl rfl rfl rfl rfl ?_ ?_,by dsimp only;omega⟩
         ·exact allT
         ·exact⟨hSm,trivial⟩
        ·dsimp only
         refine vB [9,12] ?_
         refine⟨i+1,⟨by omega,fun h=> ?_⟩,Wk.mkG [(6,some 6)] rfl rfl rfl rfl rfl ?_ ?_,by omega⟩
         ·have:=goes_true hg1 h;have:=hN1 h;omega
         ·exact allT
         ·rw[hnx0,hnx1]
          exact⟨hSm,trivial⟩
end Go.Proofs.Ytbffmfeldkjkcaa
end
