/- CoreChecks: the statement. No condition. -/
import Derived.Test.YtpefnljgalpllaaGreatHA29rfr06
import Derived.Test.YtpefnljgalpllaaGreatRows
import Derived.Test.YtpefnljgalpllaaGreatHA29rfr03
set_option linter.unusedSimpArgs false
set_option linter.unusedVariables false
set_option maxHeartbeats 0
set_option maxRecDepth 100000
section
namespace Go.Proofs.YtpefnljgalpllaaGreat
open Go.RowKit Go.Flow Go.AV Go.Plain
theorem set_get{α:Type}{L:List α}{m k:Nat}{x z:α}(hm:m<L.length):(L.set m x).getD k z=if k=m then x else L.getD k z:=by
 rw[List.getD_eq_getElem?_getD];by_cases e:k=m
 ·subst e
  rw[List.getElem?_set_self hm,if_pos rfl];rfl
 ·rw[List.getElem?_set_ne (Ne.symm e),if_neg e,←List.getD_eq_getElem?_getD]
def updS(w:Nat)(q:Int)(s:Stp):Stp:=
 match w with
 |2=>⟨q,s.ch,s.wi,s.rd,s.dp,s.cl⟩
 |3=>⟨s.nm,q,s.wi,s.rd,s.dp,s.cl⟩
 |4=>⟨s.nm,s.ch,q,s.rd,s.dp,s.cl⟩
 |5=>⟨s.nm,s.ch,s.wi,q,s.dp,s.cl⟩
 |6=>⟨s.nm,s.ch,s.wi,s.rd, !s.dp,s.cl⟩
 |7=>⟨s.nm,s.ch,s.wi,s.rd,s.dp,⟨q,s.cl.dy,s.cl.col⟩⟩
 |8=>⟨s.nm,s.ch,s.wi,s.rd,s.dp,⟨s.cl.dx,q,s.cl.col⟩⟩
 |_=>⟨s.nm,s.ch,s.wi,s.rd,s.dp,⟨s.cl.dx,s.cl.dy,q⟩⟩
def oddL(l:List Stp)(k w:Nat)(q:Int):List Stp:=
 if w=0 then l.eraseIdx k else if w=1 then l++ [l.getD k stZ]else l.set k (updS w q (l.getD k stZ))
def oddV(l:List Stp)(q0 q1 q2:Int):List Stp:=
 if l.length=0 then [⟨q0,q1,q2,0,false,clZ⟩]else oddL l (q0%(l.length:Int)).toNat (q1%10).toNat q2
theorem oddV_len(l:List Stp)(q0 q1 q2:Int):(oddV l q0 q1 q2).length≤l.length+1:=by
 unfold oddV oddL
 split
 ·simp
 ·split
  ·have:=List.length_eraseIdx_le l (q0%(l.length:Int)).toNat
   omega
  ·split
   ·simp
   ·simp
theorem st_set{l:List Stp}{k f:Nat}{v:CV}{s:Stp}(hk:k<l.length)(hs:∀j,j<8→(stC s).getD j .any=if j=f then v else (stC (l.getD k stZ)).getD j .any):∀i,i<l.length→∀j,j<8→zAD (zS stC stZ l) k f 1 [v] i j=zS stC stZ (l.set k s) i j∧zK (zAD (zS stC stZ l) k f 1 [v] i j)=true:=fun i hi j hj=>by
 have e:zAD (zS stC stZ l) k f 1 [v] i j=zS stC stZ (l.set k s) i j:=by
  rw[zJG];show _=(stC ((l.set k s).getD i stZ)).getD j .any;rw[set_get hk];by_cases c:i=k
  ·subst c
   rw[if_pos rfl,hs j hj];by_cases d:j=f
   ·rw[if_pos ⟨rfl,d⟩,if_pos d]
   ·rw[if_neg (fun h=>d h.2),if_neg d];rfl
  ·rw[if_neg (fun h=>c h.1),if_neg c];rfl
 rw[e]
 exact⟨rfl,zQ zBl _ i j⟩
theorem st_erase{l:List Stp}{k:Nat}(hk:k<l.length):∀i,i<k+(l.length-(k+1))→∀j,j<8→zAh (zS stC stZ l) k (fun i j=>zS stC stZ l (k+1+i) j) i j=zS stC stZ (l.eraseIdx k) i j∧zK (zAh (zS stC stZ l) k (fun i j=>zS stC stZ l (k+1+i) j) i j)=true:=fun i hi j hj=>by
 have e:zAh (zS stC stZ l) k (fun i j=>zS stC stZ l (k+1+i) j) i j=zS stC stZ (l.eraseIdx k) i j:=by
  unfold zAh zS;by_cases h:i<k
  ·rw[Nat.blt_eq.mpr h,List.getD_eq_getElem?_getD (l:=l.eraseIdx k),List.getElem?_eraseIdx,if_pos h,←List.getD_eq_getElem?_getD]
   rfl
  ·rw[show Nat.blt i k=false from Bool.eq_false_iff.2 fun h'=>h (Nat.blt_eq.mp h'),List.getD_eq_getElem?_getD (l:=l.eraseIdx k),List.getElem?_eraseIdx,if_neg h,←List.getD_eq_getElem?_getD]
   show(stC (l.getD (k+1+(i-k)) stZ)).getD j .any=_
   rw[show k+1+(i-k)=i+1 by omega]
 rw[e]
 exact⟨rfl,zQ zBl _ i j⟩
theorem j8{P:Nat→Prop}(h:P 0∧P 1∧P 2∧P 3∧P 4∧P 5∧P 6∧P 7):∀j,j<8→P j:=fun j hj=>by
 obtain⟨h0,h1,h2,h3,h4,h5,h6,h7⟩:=h
 match j,hj with
 |0,_=>exact h0
 |1,_=>exact h1
 |2,_=>exact h2
 |3,_=>exact h3
 |4,_=>exact h4
 |5,_=>exact h5
 |6,_=>exact h6
 |7,_=>exact h7
theorem odd29_A(l:List Stp)(q0 q1 q2:Int)(hl:l.length≤900000):ACalls Tryz.prog 15 [.c (zAm l),.ag [iC q0,iC q1,iC q2]] (.c (zAm (oddV l q0 q1 q2))):=by
 unfold oddV;by_cases h0:l.length=0
 ·rw [if_pos h0]
  have h0':(l.length:Int)=0:=by omega
  refine zH Tryz.func15 rfl rfl Tryz.ntmps15 rfl ?_
  repeat (first
   |refine vB [0,1] ?_
   | (refine rG 2 ?_
      first|refine zAn (aU zA) ?_|refine zAn (zBJ zA) ?_|refine zAn (zA7 zA) ?_
      refine vA ?_
      first|refine zAn (aU zA) ?_|refine zAn (zBJ zA) ?_|refine zAn (zA7 zA) ?_
      refine vA ?_
      first|refine zAn (aU zA) ?_|refine zAn (zBJ zA) ?_|refine zAn (zA7 zA) ?_
      refine xE4 ?_;refine aB ?_))
  refine⟨zC 120 [(4,.c (zAm [⟨q0,q1,q2,0,false,clZ⟩]))] [] [],[],Wk.mk [] rfl rfl rfl ?_ trivial,rfl,rfl,aR1⟩
  exact⟨⟨_,rfl,.c (zEb rfl (fun i hi j hj=>by
   obtain rfl:i=0:=Nat.lt_one_iff.mp hi
   revert j hj
   exact j8 ⟨rfl,rfl,rfl,rfl,rfl,rfl,rfl,rfl⟩))⟩,trivial⟩
 rw[if_neg h0];have h0':¬(l.length:Int)=0:=by omega
 have hm0:=zFt q0 l.length xD xD;have hm1:=zFt q1 10 xD xD;have b1:=Int.emod_nonneg q0 (show(l.length:Int)≠0 by omega);have b2:=Int.emod_lt_of_pos q0 (show 0<(l.length:Int) by omega)
 obtain⟨k,hk⟩:=Int.eq_ofNat_of_zero_le b1
 obtain⟨w,hw⟩:=Int.eq_ofNat_of_zero_le (show 0≤q1%10 by omega)
 have hw10:w<10:=by omega
 rw[hk]at hm0 b2⊢;rw[hw]at hm1⊢;rw[show((k:Int)).toNat=k from rfl,show((w:Int)).toNat=w from rfl];have hkl:k<l.length:=by omega
 clear hk hw b1
 obtain⟨v,hv⟩:∃v,oddL l k w q2=v:=⟨_,rfl⟩
 rw[hv];refine zH Tryz.func15 rfl rfl Tryz.ntmps15 rfl ?_
 repeat (first
  |refine vB [0,1] ?_
  | (refine rG 3 ?_
     refine xE2 ?_;refine xA ?_;refine vA ?_;refine aB ?_)
  | (refine rG 4 ?_
     first|refine zAn (aU zA) ?_|refine zAn (zBJ zA) ?_|refine zAn (zA7 zA) ?_
     refine xE3 ?_
     first|refine xB Tryz.func40 hm0 ?_|refine xB Tryz.func40 hm1 ?_
     refine vA ?_;refine aB ?_)
  | (refine rG 5 ?_
     first|refine zAn (aU zA) ?_|refine zAn (zBJ zA) ?_|refine zAn (zA7 zA) ?_
     refine vA ?_
     first|refine xB Tryz.func40 hm0 ?_|refine xB Tryz.func40 hm1 ?_
     refine aB ?_))
 rcases(show w=0∨w=1∨w=2∨w=3∨w=4∨w=5∨w=6∨w=7∨w=8∨w=9 by omega)with rfl|rfl|rfl|rfl|rfl|rfl|rfl|rfl|rfl|rfl
 ·obtain rfl:l.eraseIdx k=v:=hv
  repeat (first
   |refine vB [6] ?_
   |(refine AWp.draw (id:=7) zI ?_;refine xE2 ?_;refine zHW (m:=k) zA rfl rfl rfl rfl rfl rfl rfl rfl rfl ⟨_,_,rfl,by first|rfl|omega⟩ xD ?_;refine xE3 ?_;refine AList.cut (l:=k+1) (h:=l.length) zA rfl rfl rfl rfl rfl rfl rfl ⟨_,_,rfl,by first|rfl|omega⟩ rfl xD xD ?_;refine xA ?_;refine vA ?_;refine aB ⟨by kernel_rfl,?_⟩))
  refine⟨zC 120 [(4,.c (zAm (l.eraseIdx k)))] [] [],[],Wk.mk [] rfl rfl rfl ?_ trivial,rfl,rfl,aR1⟩
  exact⟨⟨_,rfl,.c (zAl rfl rfl (by rw[List.length_eraseIdx,if_pos hkl];omega) (st_erase hkl))⟩,trivial⟩
 ·obtain rfl:l++ [l.getD k stZ]=v:=hv
  repeat (first
   |refine vB [6,8] ?_
   | (refine rG 9 ?_
      refine xE3 ?_
      first|refine zG (aP (k:=k) zA) ?_|refine zM (zL (k:=k) zA) ?_
      refine xE2 ?_;refine xA ?_;refine vA ?_;refine aB ?_))
  refine⟨zC 120 [(4,.c (zAm (l++ [l.getD k stZ])))] [] [],[],Wk.mk [] rfl rfl rfl ?_ trivial,rfl,rfl,aR1⟩
  exact⟨⟨_,rfl,.c (zAl rfl rfl List.length_append (zB9 (c:=stC) (z:=stZ) l (l.getD k stZ) zBl rfl))⟩,trivial⟩
 ·obtain rfl:l.set k (updS 2 q2 (l.getD k stZ))=v:=hv
  repeat (first
   |refine vB [6,8,10,12,14,16,18,20,22,24,26] ?_
   | (refine rG 11 ?_
      refine xE2 ?_
      first|refine zAn (aU zA) ?_|refine zAn (zBJ zA) ?_|refine zAn (zA7 zA) ?_
      refine vA ?_
      first|refine zG (aP (k:=k) zA) ?_|refine zM (zL (k:=k) zA) ?_
      refine xE2 ?_;refine aB ?_))
  refine⟨zC 120 [(4,.c (zAm (l.set k (updS 2 q2 (l.getD k stZ)))))] [] [],[],Wk.mk [] rfl rfl rfl ?_ trivial,rfl,rfl,aR1⟩
  exact⟨⟨_,rfl,.c (zAl rfl rfl (List.length_set ..) (st_set hkl (j8 ⟨rfl,rfl,rfl,rfl,rfl,rfl,rfl,rfl⟩)))⟩,trivial⟩
 ·obtain rfl:l.set k (updS 3 q2 (l.getD k stZ))=v:=hv
  repeat (first
   |refine vB [6,8,10,12,14,16,18,20,22,24,26] ?_
   | (refine rG 13 ?_
      refine xE2 ?_
      first|refine zAn (aU zA) ?_|refine zAn (zBJ zA) ?_|refine zAn (zA7 zA) ?_
      refine vA ?_
      first|refine zG (aP (k:=k) zA) ?_|refine zM (zL (k:=k) zA) ?_
      refine xE2 ?_;refine aB ?_))
  refine⟨zC 120 [(4,.c (zAm (l.set k (updS 3 q2 (l.getD k stZ)))))] [] [],[],Wk.mk [] rfl rfl rfl ?_ trivial,rfl,rfl,aR1⟩
  exact⟨⟨_,rfl,.c (zAl rfl rfl (List.length_set ..) (st_set hkl (j8 ⟨rfl,rfl,rfl,rfl,rfl,rfl,rfl,rfl⟩)))⟩,trivial⟩
 ·obtain rfl:l.set k (updS 4 q2 (l.getD k stZ))=v:=hv
  repeat (first
   |refine vB [6,8,10,12,14,16,18,20,22,24,26] ?_
   | (refine rG 15 ?_
      refine xE2 ?_
      first|refine zAn (aU zA) ?_|refine zAn (zBJ zA) ?_|refine zAn (zA7 zA) ?_
      refine vA ?_
      first|refine zG (aP (k:=k) zA) ?_|refine zM (zL (k:=k) zA) ?_
      refine xE2 ?_;refine aB ?_))
  refine⟨zC 120 [(4,.c (zAm (l.set k (updS 4 q2 (l.getD k stZ)))))] [] [],[],Wk.mk [] rfl rfl rfl ?_ trivial,rfl,rfl,aR1⟩
  exact⟨⟨_,rfl,.c (zAl rfl rfl (List.length_set ..) (st_set hkl (j8 ⟨rfl,rfl,rfl,rfl,rfl,rfl,rfl,rfl⟩)))⟩,trivial⟩
 ·obtain rfl:l.set k (updS 5 q2 (l.getD k stZ))=v:=hv
  repeat (first
   |refine vB [6,8,10,12,14,16,18,20,22,24,26] ?_
   | (refine rG 17 ?_
      refine xE2 ?_
      first|refine zAn (aU zA) ?_|refine zAn (zBJ zA) ?_|refine zAn (zA7 zA) ?_
      refine vA ?_
      first|refine zG (aP (k:=k) zA) ?_|refine zM (zL (k:=k) zA) ?_
      refine xE2 ?_;refine aB ?_))
  refine⟨zC 120 [(4,.c (zAm (l.set k (updS 5 q2 (l.getD k stZ)))))] [] [],[],Wk.mk [] rfl rfl rfl ?_ trivial,rfl,rfl,aR1⟩
  exact⟨⟨_,rfl,.c (zAl rfl rfl (List.length_set ..) (st_set hkl (j8 ⟨rfl,rfl,rfl,rfl,rfl,rfl,rfl,rfl⟩)))⟩,trivial⟩
 ·obtain rfl:l.set k (updS 6 q2 (l.getD k stZ))=v:=hv
  repeat (first
   |refine vB [6,8,10,12,14,16,18,20,22,24,26] ?_
   | (refine rG 19 ?_
      refine xE4 ?_
      first|refine zG (aP (k:=k) zA) ?_|refine zM (zL (k:=k) zA) ?_
      refine xE3 ?_
      first|refine zG (aP (k:=k) zA) ?_|refine zM (zL (k:=k) zA) ?_
      refine xE2 ?_;refine aB ?_))
  refine⟨zC 120 [(4,.c (zAm (l.set k (updS 6 q2 (l.getD k stZ)))))] [] [],[],Wk.mk [] rfl rfl rfl ?_ trivial,rfl,rfl,aR1⟩
  exact⟨⟨_,rfl,.c (zAl rfl rfl (List.length_set ..) (st_set hkl (j8 ⟨rfl,rfl,rfl,rfl,rfl,rfl,rfl,rfl⟩)))⟩,trivial⟩
 ·obtain rfl:l.set k (updS 7 q2 (l.getD k stZ))=v:=hv
  repeat (first
   |refine vB [6,8,10,12,14,16,18,20,22,24,26] ?_
   | (refine rG 21 ?_
      refine xE2 ?_
      first|refine zAn (aU zA) ?_|refine zAn (zBJ zA) ?_|refine zAn (zA7 zA) ?_
      refine vA ?_
      first|refine zG (aP (k:=k) zA) ?_|refine zM (zL (k:=k) zA) ?_
      refine xE3 ?_;refine aB ?_))
  refine⟨zC 120 [(4,.c (zAm (l.set k (updS 7 q2 (l.getD k stZ)))))] [] [],[],Wk.mk [] rfl rfl rfl ?_ trivial,rfl,rfl,aR1⟩
  exact⟨⟨_,rfl,.c (zAl rfl rfl (List.length_set ..) (st_set hkl (j8 ⟨rfl,rfl,rfl,rfl,rfl,rfl,rfl,rfl⟩)))⟩,trivial⟩
 ·obtain rfl:l.set k (updS 8 q2 (l.getD k stZ))=v:=hv
  repeat (first
   |refine vB [6,8,10,12,14,16,18,20,22,24,26] ?_
   | (refine rG 23 ?_
      refine xE2 ?_
      first|refine zAn (aU zA) ?_|refine zAn (zBJ zA) ?_|refine zAn (zA7 zA) ?_
      refine vA ?_
      first|refine zG (aP (k:=k) zA) ?_|refine zM (zL (k:=k) zA) ?_
      refine xE3 ?_;refine aB ?_))
  refine⟨zC 120 [(4,.c (zAm (l.set k (updS 8 q2 (l.getD k stZ)))))] [] [],[],Wk.mk [] rfl rfl rfl ?_ trivial,rfl,rfl,aR1⟩
  exact⟨⟨_,rfl,.c (zAl rfl rfl (List.length_set ..) (st_set hkl (j8 ⟨rfl,rfl,rfl,rfl,rfl,rfl,rfl,rfl⟩)))⟩,trivial⟩
 ·obtain rfl:l.set k (updS 9 q2 (l.getD k stZ))=v:=hv
  repeat (first
   |refine vB [6,8,10,12,14,16,18,20,22,24,26] ?_
   | (refine rG 25 ?_
      refine xE2 ?_
      first|refine zAn (aU zA) ?_|refine zAn (zBJ zA) ?_|refine zAn (zA7 zA) ?_
      refine vA ?_
      first|refine zG (aP (k:=k) zA) ?_|refine zM (zL (k:=k) zA) ?_
      refine xE3 ?_;refine aB ?_))
  refine⟨zC 120 [(4,.c (zAm (l.set k (updS 9 q2 (l.getD k stZ)))))] [] [],[],Wk.mk [] rfl rfl rfl ?_ trivial,rfl,rfl,aR1⟩
  exact⟨⟨_,rfl,.c (zAl rfl rfl (List.length_set ..) (st_set hkl (j8 ⟨rfl,rfl,rfl,rfl,rfl,rfl,rfl,rfl⟩)))⟩,trivial⟩
end Go.Proofs.YtpefnljgalpllaaGreat
end
section
namespace Go.AV
open Go Go.RowKit Go.Flow
theorem AWp.cvTmp{P:Program}{c:Code}{Q:Exit→St→Prop}{S:St}{t:Nat}{x y:CV}(hx:S.t t=some (.c x))(hc:Cv x y)(h:AWp P c Q ⟨S.n,S.ln,put S.t t (some (.c y)),S.h,S.fr,S.G,S.gs,S.dd⟩):AWp P c Q S:=⟨fun b0 a w ⟨σ,R⟩=>by
 refine h.get b0 a w ⟨σ,R.df,R.sz,R.ext,R.hp,fun u z hz=> ?_,R.fr,R.le,R.gd,R.gh⟩;by_cases e:u=t
 ·subst e
  have hz':put S.t u (some (.c y)) u=some z:=hz;rw[zAk]at hz'
  cases hz'
  exact hc _ _ _ _ (R.sl u _ hx)
 ·have hz':put S.t t (some (.c y)) u=some z:=hz
  rw[zAa _ _ e]at hz';exact R.sl u z hz'⟩
end Go.AV
namespace Go.Proofs.YtpefnljgalpllaaGreat
open Go.RowKit Go.Flow Go.AV Go.Plain
theorem f4{P:Nat→Prop}(h:P 0∧P 1∧P 2∧P 3):∀k,k<4→P k:=fun k hk=>by
 obtain⟨h0,h1,h2,h3⟩:=h
 match k,hk with
 |0,_=>exact h0
 |1,_=>exact h1
 |2,_=>exact h2
 |3,_=>exact h3
end Go.Proofs.YtpefnljgalpllaaGreat
end
section
namespace Go.Proofs.YtpefnljgalpllaaGreat
open Go.RowKit Go.Flow Go.AV Go.Plain
abbrev pR9(p:Pb):AB:=⟨false,1,5,29,lF (pbC p)⟩
def xs4(a b c d:List Stp)(k:Nat):List Stp:= [a,b,c,d].getD k []
abbrev rawC(l:List Stp)(m:Nat):CV:=.ls (m-0) 8 (fun k j=>zS stC stZ l (0+k) j)
theorem xs4_cv(a b c l:List Stp)(m:Nat)(hm:m≤l.length):Cv (.ls 4 1 (sF [zAm a,zAm b,zAm c,rawC l m] 1)) (.ls 4 1 (fun k _=>zAm (xs4 a b c (l.take m) k))):=zDJ fun k hk j hj O w u h=>by
 obtain rfl:j=0:=Nat.lt_one_iff.mp hj
 match k,hk with
 |0,_=>exact h
 |1,_=>exact h
 |2,_=>exact h
 | 3,_=>
   have h1:RepI O w (.ls (m-0) 8 (zS stC stZ (l.take m))) u:=zFZ (fun k hk j hj=>by
    rw[Nat.zero_add];exact zSr (sz:=8) l m k xD j hj) h
   rw[show m-0=(l.take m).length by rw[List.length_take];omega]at h1
   exact h1
theorem CoreChecks_A(ll:List (List Int))(hll:LlOk ll)(q0 q1 q2 q3 q4 q5:Int)(raw:List Stp)(hr:raw.length≤4611686018427387904):
 ACalls Tryz.prog 4 [.c (lsL ll),.ag [iC q0,iC q1,iC q2,iC q3,iC q4,iC q5],.c (zAm raw)] (.c (bC true)):=by
 have hSan:=zSy;have hCut:=zQG ll hll;have hM:=(zPf (zCJ ll) (zQH ll)).cv (args':= [.c (.ls (min ll.length 16) 1 (cuF ll))]) ⟨.c (zQI ll),trivial⟩
 obtain⟨sm,-⟩:=zRt (zCJ ll)
 generalize zFN (zCJ ll)=p at *;have hok:=sm.ok;have hR:=zSa p hok fun _=>sm
 have hlen:(zCt p).1.length≤800000:=by
  unfold zCt;rw[if_pos sm.chk];by_cases hu:zAX p=0
  ·rw[if_pos hu]
   have h1:=zHS (fun l hl=>(sm.Cc l hl).1) p.C.length [];have h2:=zJM sm.C
   show(zBa p p.C.length []).length≤800000
   omega
  ·rw[if_neg hu];exact Nat.zero_le _
 generalize zCt p=o at *
 obtain⟨l,e⟩:=o
 dsimp only at hR hlen;have hO1:=odd29_A l q0 q1 q2 xD;have hl1:=oddV_len l q0 q1 q2;generalize oddV l q0 q1 q2=u at *;have hO2:=odd29_A u q3 q4 q5 xD;have hl2:=oddV_len u q3 q4 q5;generalize oddV u q3 q4 q5=v at *
 obtain⟨m,hm⟩:∃m,m=min raw.length 6:=⟨_,rfl⟩
 have hm':min (raw.length:Int) 6=(m:Int):=by omega
 have hmr:m≤raw.length:=by omega
 have hcv:=xs4_cv l u v raw m hmr;have hln:∀k,k<4→(xs4 l u v (raw.take m) k).length≤1000000:=fun k hk=>by
  match k,hk with
  |0,_=>show l.length≤_;omega
  |1,_=>show u.length≤_;omega
  |2,_=>show v.length≤_;omega
  |3,_=>show(raw.take m).length≤_;rw[List.length_take];omega
 generalize xs4 l u v (raw.take m)=X at *;refine zH Tryz.func4 rfl rfl Tryz.ntmps4 rfl ?_
 repeat (first
  |refine vB [0] ?_
  | (refine rG 1 ?_
     refine xB Tryz.func5 hSan ?_;refine vA ?_;refine aB ?_)
  | (refine rG 2 ?_
     refine vA ?_;refine xB Tryz.func7 hCut ?_;refine xB Tryz.func6 hM ?_;refine xE2 ?_;refine aB ?_)
  | (refine rG 3 ?_
     refine vA ?_;refine xB Tryz.func11 hR ?_;refine xE5 ?_;refine aB ?_)
  | (refine rG 4 ?_
     refine vA ?_
     first|refine zAn (aU zA) ?_|refine zAn (zBJ zA) ?_|refine zAn (zA7 zA) ?_
     refine vA ?_;refine xB Tryz.func15 hO1 ?_;refine vA ?_;refine aB ?_))
 repeat (first
  |refine vB [] ?_
  |(refine AWp.draw (id:=5) zI ?_;refine xE3 ?_;(first|refine zAn (aU zA) ?_|refine zAn (zBJ zA) ?_|refine zAn (zA7 zA) ?_);refine vA ?_;refine xB Tryz.func15 hO2 ?_;refine xE4 ?_;refine AList.cut (l:=0) (h:=m) zA rfl rfl rfl rfl rfl rfl rfl rfl ⟨_,_,rfl,by first|rfl|omega⟩ xD xD ?_;refine xE3 ?_;refine aB ⟨by kernel_rfl,?_⟩))
 refine AWp.weak (S':=zC 53 [(7,.c (bC true)),(8,.c (.pt 8 5 0 0)),(38,.c (.ls 4 1 (sF [zAm l,zAm u,zAm v,rawC raw m] 1))),(39,.c (iC 4)),(40,.c (iC ((0:Nat))))] [(8,pR9 p)] [8]) (Wk.mk [(8,some 8)] rfl rfl rfl ?_ ?_) ?_
 ·repeat (first|exact trivial|refine⟨⟨_,rfl,by first|exact LeA.c (zEb rfl (fun i hi j hj=>by obtain rfl:j=0:=Nat.lt_one_iff.mp hj;revert i;exact f4 ⟨rfl,rfl,rfl,rfl⟩))|exact leT⟩,?_⟩)
 ·exact⟨hSm,trivial⟩
 refine AWp.cvTmp (t:=38) (y:=.ls 4 1 (fun k _=>zAm (X k))) rfl hcv ?_;refine AWp.round (fun k:Nat=>zC 53 [(7,.c (bC true)),(8,.c (.pt 8 5 0 0)),(38,.c (.ls 4 1 (fun k _=>zAm (X k)))),(39,.c (iC 4)),(40,.c (iC (k:Nat)))] [(8,pR9 p)] [8]) (fun k=>k≤4) (fun k=>4-k) 0 (Nat.zero_le _) ?_ (fun k hk=> ?_)
 ·refine Wk.mk [(8,some 8)] rfl rfl rfl ?_ ?_
  ·exact zB
  ·exact⟨hSm,trivial⟩
 by_cases hk4:k<4;rotate_left
 ·have hk4':¬(k:Int)<4:=by omega
  refine vB [6,11] ?_
  refine⟨zC 53 [(6,.c (bC true))] [] [],[],Wk.mk [] rfl rfl rfl ?_ trivial,rfl,rfl,aR1⟩
  exact zB
 have hk4':(k:Int)<4:=by omega
 obtain⟨a,b,hab,h1,h2⟩:∃a b,a=b∧ACalls Tryz.prog 14 [.ag (pbC p),.c (zAm (X k))] (.c (iC a))∧ACalls Tryz.prog 16 [.ag (pbC p),.c (zAm (X k))] (.c (iC b)):=
  ⟨_,_,rfl,zH3 p hok _ (hln k hk4),zR6 p hok (fun _=>sm) _ (hln k hk4)⟩
 have hcx:(fun (k _:Nat)=>zAm (X k)) k 0=zAm (X k):=rfl
 repeat (first
  |refine vB [6,10] ?_
  | (refine rG 7 ?_
     first|refine zG (aP (k:=k) zA) ?_|refine zM (zL (k:=k) zA) ?_
     first|refine zAq zA (hcx) rfl rfl rfl rfl rfl oM ?_|refine zAY zA rfl rfl rfl rfl rfl rfl rfl oM oM (hcx) ?_
     refine vA ?_;refine aB ?_)
  |(refine AWp.draw (id:=8) zI ?_;refine xE2 ?_;refine xB Tryz.func14 h1 ?_;refine xE2 ?_;refine xB Tryz.func16 h2 ?_;refine vA ?_;refine aB ⟨by kernel_rfl,?_⟩))
 refine⟨k+1,hk4,Wk.mk [(8,some 8)] rfl rfl rfl ?_ ?_,by omega⟩
 ·exact zB
 ·exact⟨hSm,trivial⟩
end Go.Proofs.YtpefnljgalpllaaGreat
end
section
namespace Go.Proofs.YtpefnljgalpllaaGreat.coreChecks
open Go.ChangeShapes Go.WideShapes Go.ChangeAt Go.RowKit Go.Flow Go.AV
theorem opn_q32{H:Type}{enc:TypeId×Value→H}{W:World}:Opn enc Tryz.prog W 47 (fun q:(Int×Int×Int)×Int×Int×Int=> [iC q.1.1,iC q.1.2.1,iC q.1.2.2,iC q.2.1,iC q.2.2.1,iC q.2.2.2]) (fun _=>True):=opn_q33.mono fun _ _=>trivial
theorem opn_step{H:Type}{enc:TypeId×Value→H}{W:World}:Opn enc Tryz.prog W 60 stC (fun _=>True):=
 (Opn.struct Tryz.underlying60 (n:=8) xC (.cons opn_int rfl zDt (.cons opn_int rfl zDt (.cons opn_int rfl zDt (.cons opn_int rfl zDt (.cons (Opn.bool Tryz.underlying4) rfl zQp (.cons zRR rfl (by kernel_rfl:Tryz.prog.cellsOf 58=3) .nil))))))).conv fun a h=>⟨⟨a.1,a.2.1,a.2.2.1,a.2.2.2.1,a.2.2.2.2.1,a.2.2.2.2.2.1⟩,trivial,fun _ h=>h⟩
theorem opn_steps{H:Type}{enc:TypeId×Value→H}{W:World}:Opn enc Tryz.prog W 39 (fun L:List Stp=> [zAm L]) (fun L=>L.length≤4611686018427387904):=
 (opn_step.slice stZ Tryz.underlying39 (by kernel_rfl:Tryz.prog.cellsOf 60=8) (by kernel_rfl:Tryz.prog.bytesOf 60=64) (fun _=>rfl) fun _=>rfl).mono fun L h=>by have:=reachBytes_lt;omega
theorem contract(H:Type)(enc:TypeId×Value→H)(W:World)(base:Nat)(args:Array Value)(ds gs:List (DataW H))(before:List MemPlace)
 (hval:∀(j:Nat) t v,Tryz.f4.params[j]?=some t→args[j]?=some v→Value.okWide Tryz.prog W .any base t v)
 (hW:DataW.Whole enc Tryz.prog Tryz.f4.params.toList Rows.coreChecksSpec.vars false W args.toList ds gs before)
 (hsz:(DataW.weightsEach Tryz.prog (Tryz.f4.params.toList++(OpenSpec.ofChange Rows.coreChecksSpec).bare.plain.varTypes Tryz.prog) (ds++gs)).all (·≤reachBytes)=true):
 Calls Tryz.prog 4 args W fun e W'=>∃v,e=.returned v∧Rows.coreChecksSpec.post enc Tryz.prog Tryz.f4 false true false false W args v W':=by
 have hW':=hW
 obtain⟨p,q,hA0,hV,rfl,hfz,hnd⟩:=hW
 have hA:DataW.TrodAll enc Tryz.prog W 0 (fun _=>true) true Tryz.f4.params.toList args.toList ds p:=hA0;have hAk:=hA0;rw[Tryz.params4]at hA hval hsz
 obtain⟨rfl,rfl⟩:=trodVars_none hV
 obtain⟨v0,vs0,d0,ds0,p0,q0,hargs,rfl,rfl,h0,t0⟩:=trodAll_cons hA
 obtain⟨v1,vs1,d1,ds1,p1,q1,rfl,rfl,rfl,h1,t1⟩:=trodAll_cons t0
 obtain⟨v2,vs2,d2,ds2,p2,q2,rfl,rfl,rfl,h2,t2⟩:=trodAll_cons t1
 obtain⟨rfl,rfl,rfl⟩:=trodAll_nil t2
 obtain rfl:args= #[v0,v1,v2]:=by rw[←Array.toList_inj];exact hargs
 have hlt:=fun x hx=>hW'.lt x hx
 simp only[List.append_nil]at hW'
 rw[List.append_nil]at hsz
 obtain⟨a0,ok0,r0⟩:=opn_ll.argC (zLz Tryz.underlying22 (hval 0 22 v0 rfl rfl)) h0 (zJ6 hsz 0 (t:=22) (d:=d0) rfl rfl)
 obtain⟨a1,ok1,r1⟩:=opn_q32.argA Tryz.underlying47 (hval 1 47 v1 rfl rfl) h1 (zJ6 hsz 1 (t:=47) (d:=d1) rfl rfl)
 obtain⟨a2,ok2,r2⟩:=opn_steps.argC (zLz Tryz.underlying39 (hval 2 39 v2 rfl rfl)) h2 (zJ6 hsz 2 (t:=39) (d:=d2) rfl rfl)
 refine((ECalls.of (CoreChecks_A a0 ok0 a1.1.1 a1.1.2.1 a1.1.2.2 a1.2.1 a1.2.2.1 a1.2.2.2 a2 ok2)) O0 W [_,_,_] (fun b h=>h.elim) ⟨r0,r1,r2,trivial⟩).mono fun e W' ⟨v,r,he,hr,hv,hE⟩=> ?_
 subst hr;obtain rfl:v=.bool true:=hv.2;subst he
 exact⟨_,rfl,zR0 (pv:= []) hW' (fun _ _ _=>trodAll_cons_mk (shut_bool Tryz.underlying4 _) trodAll_mk0)
  (fun sp hsp=>zOp zRp hE (by rw[Tryz.params4];intro t ht;simp only[List.mem_cons,List.not_mem_nil,or_false]at ht;rcases ht with rfl|rfl|rfl<;>exact⟨by kernel_rfl,of_decide_eq_true xC⟩) hAk (fun x hx=>hlt x (by rw[List.append_nil];exact hx)) sp (fun x hx=>hsp x (by simpa only[List.append_nil]using hx)))
  (fun _ _=>rfl) (by simp) hE (ok_one xC rfl (okWide_bool_mk Tryz.underlying4 _))⟩
theorem own:ownKnob Tryz.prog.godebug=none:=by kernel_rfl
theorem lifted(os:Os)(started:os.Started)(H:Type)(enc:TypeId×Value→H):
 ReturnsInHanded {} Tryz.checked os 4 .any (Rows.coreChecksSpec.pre6 enc Tryz.prog Tryz.f4 Rows.coreChecksRow.domain false) (Rows.coreChecksSpec.post enc Tryz.prog Tryz.f4 false true false false):=by
 refine returnsInHanded_of_change_sized (C:=Tryz.checked) own started xC Tryz.func4
  (ChangeSpec.witness6 (enc:=enc) (C:=Tryz.checked) false ⟨#[], #[.slice none 0 0,.agg #[.int .i64 0,.int .i64 0,.int .i64 0,.int .i64 0,.int .i64 0,.int .i64 0],.slice none 0 0],[]⟩ 8 xC xC xC xC) ?_
 intro W base args ds gs before hval hW _ hsz _;exact contract H enc W base args ds gs before hval hW hsz
theorem said:Rows.CoreChecksSaid:=
 OpenClaim.holds_of_wide 4 Tryz.f4 rfl rfl rfl rfl rfl rfl rfl ⟨rfl,rfl,rfl,rfl,rfl⟩ rfl rfl rfl rfl rfl xC Tryz.func4 xC
  (of_decide_eq_true xC) (by unfold Func.isWrapper;first|(rw[if_pos (by decide +kernel)];kernel_rfl)|(rw[if_neg (by decide +kernel)];exact⟨rfl,rfl⟩))
  (fun os started H enc _=>lifted os started H enc)
end Go.Proofs.YtpefnljgalpllaaGreat.coreChecks
end
