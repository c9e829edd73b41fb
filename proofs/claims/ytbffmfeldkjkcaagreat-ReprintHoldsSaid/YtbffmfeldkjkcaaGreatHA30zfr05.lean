/- Parts of the proof: A28zj, A28zk, A28zm, A29f, A30a, A30b, A30e, A30g, A30t, A30zb, A29y, A29za, A29ze, A29ra. -/
import Derived.Test.YtbffmfeldkjkcaaGreatHA30zfr04
import Derived.Test.YtbffmfeldkjkcaaGreatG46
set_option linter.unusedSimpArgs false
set_option linter.unusedVariables false
set_option maxHeartbeats 0
set_option maxRecDepth 100000
section
namespace Go.Proofs.YtbffmfeldkjkcaaGreat
open Go.RowKit Go.Flow Go.AV Go.Plain
def zTi(p:Pb)(f:Nat→Int)(k:Nat):Prop:=
 (∀j,j<p.F.length→(zBO p.R ((p.C.getD k []).getD (f k).toNat bpZ) (p.F.getD j bpZ) (p.O.getD k bgZ) (p.T.getD j bgZ)).2.2=false)∧
 ∀j,j<k→(zBO p.R ((p.C.getD k []).getD (f k).toNat bpZ) ((p.C.getD j []).getD (f j).toNat bpZ) (p.O.getD k bgZ) (p.O.getD j bgZ)).2.2=false
theorem zTB{p:Pb}{f:Nat→Int}{k:Nat}:zAW p k f (f k)=true↔zTi p f k:=by
 rw[freeV_iff];have hk:¬((k:Nat):Int)<0:=by omega
 refine and_congr (forall_congr' fun j=>forall_congr' fun _=> ?_) (forall_congr' fun j=>forall_congr' fun _=> ?_)
 ·unfold pkV zBZ zB0
  rw[if_neg hk,if_pos (show(-1:Int)<0 by decide),if_neg hk,if_pos (show(-1:Int)<0 by decide)]
  rfl
 ·have hj:¬((j:Nat):Int)<0:=by omega
  unfold pkV zBZ zB0;rw[if_neg hk,if_neg hj,if_neg hk,if_neg hj]
  rfl
theorem zTU{p:Pb}{f:Nat→Int}{k:Nat}:zED p f k=true↔(0≤f k∧f k<(p.C.getD k []).length)∧zTi p f k:=by
 rw[stepOk_iff,zTB]
def cpF(C:List (List Bp))(m id:Nat)(k _:Nat):CV:=if k=m then .ow id else lsB (C.getD k [])
def cpL(C:List (List Bp))(m k:Nat):List Bp:=if m<k then C.getD m []else []
abbrev chM(C:List (List Bp))(m id k:Nat):AB:=⟨true,k,1,31,cpF C m id⟩
theorem zK6{F G:Nat→Nat→CV}{n i j:Nat}(h:i<n):zAj F n G i j=F i j:=by
 unfold zAj;rw[show Nat.blt i n=true from Nat.blt_eq.mpr h]
 rfl
theorem zK5{F G:Nat→Nat→CV}{n i j:Nat}(h:n≤i):zAj F n G i j=G (i-n) j:=by
 unfold zAj;rw[show Nat.blt i n=false from Bool.eq_false_iff.2 fun e=>by have:=Nat.blt_eq.mp e;omega]
 rfl
abbrev zFC(p:Pb)(m:Nat):List AB:= [rdB p.R,chM p.C m 905 p.C.length,bpB p.F,bgB p.O,bgB p.T,bpB (cpL p.C m p.C.length)]
abbrev zLX:AV:=.ag [.ow 900,.ow 901,.ow 902,.ow 903,.ow 904]
theorem zKC(p:Pb)(hp:p.ok)(m:Nat):zCg Tryz.prog 22 [.ag (pbC p)] [] zLX [] (zFC p m):=by
 obtain⟨hrd,lR,lC,lF',lO,lT,lc⟩:=hp
 refine zBw Tryz.func22 rfl rfl Tryz.ntmps22 rfl ?_
 repeat (first
  |refine vB [0,2] ?_
  |(refine AWp.draw (id:=1) zK ?_;refine xE3 ?_;refine zAT zA rfl rfl rfl rfl rfl rfl rfl rfl rfl rfl oM oM ?_;refine xE3 ?_;refine zAT zA rfl rfl rfl rfl rfl rfl rfl rfl rfl rfl oM oM ?_;refine xE3 ?_;refine zAT zA rfl rfl rfl rfl rfl rfl rfl rfl rfl rfl oM oM ?_;refine xE3 ?_;refine zAT zA rfl rfl rfl rfl rfl rfl rfl rfl rfl rfl oM oM ?_;refine xE3 ?_;refine aB ⟨by kernel_rfl,?_⟩))
 refine AWp.round (fun k:Nat=>
  zC 42 [(1,.c (.pt 1 5 0 0)),(2,.c (.pt 2 5 0 0)),(3,.c (.pt 3 5 0 0)),(4,.c (iC (k:Nat)))] [(1,⟨false,1,5,34,lF (pbC p)⟩),(2,⟨false,1,5,34,lF [nl8,nl8,nl8,nl8,nl8]⟩),(3,⟨false,1,5,34,lF [.ow 8,.ow 22,.ow 12,.ow 16,.ow 20]⟩),(8,rdB p.R),(12,bpB p.F),(16,bgB p.O),(20,bgB p.T),(22,chM p.C m 23 (k:Nat)),(23,bpB (cpL p.C m (k:Nat)))] [1,2,3,8,12,16,20,22,23]
  ) (fun k=>k≤p.C.length) (fun k=>p.C.length-k) 0 (Nat.zero_le _) ?_ (fun k hk=> ?_)
 ·refine Wk.mk [(1,some 1),(2,some 2),(3,some 3),(8,some 8),(12,some 12),(16,some 16),(20,some 20),(22,none),(23,none)] rfl rfl rfl ?_ ?_
  ·exact zB
  ·exact⟨hSm,hSm,HeapOk.box rfl rfl ⟨LeC.ow _ _ rfl,LeC.nil _ rfl,LeC.ow _ _ rfl,LeC.ow _ _ rfl,LeC.ow _ _ rfl,trivial⟩ rfl,
   hrF zAF,hrF zAm,hrF zU,hrF zU
   ,HeapOk.nil rfl rfl,HeapOk.nil rfl (by unfold cpL;rw[if_neg (Nat.not_lt_zero _)];rfl),trivial⟩
 by_cases hkl:k<p.C.length
 ·have hkl':(k:Int)<p.C.length:=by omega
  obtain⟨L,hL⟩:∃L,p.C.getD k []=L:=⟨_,rfl⟩
  have hcF:chF p.C k 0=lsB L:=by rw[←hL]
  have hLl:L.length≤1000000:=by rw[←hL];exact lc _ (zAB hkl)
  repeat (first
   |refine vB [3,4] ?_
   |(refine AWp.draw (id:=5) zK ?_;refine xE6 ?_;refine zG (aP (k:=k) zA) ?_;refine zY zA (hcF) rfl rfl rfl rfl rfl oM ?_;refine zAT zA rfl rfl rfl rfl rfl rfl rfl rfl rfl rfl oM oM ?_;refine zF1 (zHG zA) ?_;refine zGq zA rfl rfl rfl rfl rfl rfl rfl rfl rfl rfl rfl oM oM ?_;refine xE2 ?_;refine aB ⟨by kernel_rfl,?_⟩))
  have hrow:∀(S:St) (ren:List (Nat×Option Nat)) (x:Nat),S.h 37=some (bpB L)→(∀i,i<k→i=m→zD ren 23=some (some 23))→(if k=m then zD ren 23=some (some 37)else zCK ren 37=true)→
   ∀i,i<k+1→∀j,j<1→LeC S.h ren (zAj (cpF p.C m 23) k (sF [.ow 37] 1) i j) (cpF p.C m 23 i j):=fun S ren x hh h1 h2 i hi j hj=>by
   obtain rfl:j=0:=Nat.lt_one_iff.mp hj;by_cases hik:i<k
   ·rw[zK6 hik]
    unfold cpF;by_cases him:i=m
    ·rw[if_pos him]
     exact LeC.ow _ _ (h1 i hik him)
    ·rw[if_neg him]
     exact LeC.refl _ rfl
   ·obtain rfl:i=k:=by omega
    rw[zK5 (Nat.le_refl _),Nat.sub_self];unfold cpF;by_cases him:i=m
    ·rw[if_pos him]at h2⊢
     exact LeC.ow _ _ h2
    ·rw[if_neg him]at h2⊢
     rw[hL];exact zZ hh h2 rfl (fun i _ j _=>⟨rfl,zL zAm _ i j⟩)
  by_cases hkm:k=m
  ·have hl1:cpL p.C m (k+1)=L:=by unfold cpL;rw[if_pos xD,←hkm,hL]
   refine⟨k+1,hkl,?_,by omega⟩
   rw[hl1];refine Wk.mk [(1,some 1),(2,some 2),(3,some 3),(8,some 8),(12,some 12),(16,some 16),(20,some 20),(22,some 39),(23,some 37)] rfl rfl rfl ?_ ?_
   ·exact zB
   ·exact⟨hSm,hSm,HeapOk.box rfl rfl ⟨LeC.ow _ _ rfl,LeC.ow _ _ rfl,LeC.ow _ _ rfl,LeC.ow _ _ rfl,LeC.ow _ _ rfl,trivial⟩ rfl,
    hrF zAF,hrF zAm,hrF zU,hrF zU
    ,.inr ⟨39,k+1,_,.inl rfl,rfl,rfl,hrow _ _ 0 rfl (fun i h1 h2=>by omega) (by rw[if_pos hkm];rfl)⟩,hrF zAm,trivial⟩
  ·have hl1:cpL p.C m (k+1)=cpL p.C m k:=by
    unfold cpL;by_cases h:m<k
    ·rw[if_pos h,if_pos xD]
    ·rw[if_neg h,if_neg xD]
   refine⟨k+1,hkl,?_,by omega⟩
   rw[hl1];refine Wk.mk [(1,some 1),(2,some 2),(3,some 3),(8,some 8),(12,some 12),(16,some 16),(20,some 20),(22,some 39),(23,some 23)] rfl rfl rfl ?_ ?_
   ·exact zB
   ·exact⟨hSm,hSm,HeapOk.box rfl rfl ⟨LeC.ow _ _ rfl,LeC.ow _ _ rfl,LeC.ow _ _ rfl,LeC.ow _ _ rfl,LeC.ow _ _ rfl,trivial⟩ rfl,
    hrF zAF,hrF zAm,hrF zU,hrF zU
    ,.inr ⟨39,k+1,_,.inl rfl,rfl,rfl,hrow _ _ 0 rfl (fun i h1 h2=>rfl) (by rw[if_neg hkm];rfl)⟩,hrF zAm,trivial⟩
 have hkl':¬(k:Int)<p.C.length:=by omega
 obtain rfl:k=p.C.length:=by omega
 refine vB [3,6] ?_
 refine⟨zC 42 [(2,.c (.pt 2 5 0 0))] [(2,⟨false,1,5,34,lF [.ow 900,.ow 901,.ow 902,.ow 903,.ow 904]⟩),(900,rdB p.R),(901,chM p.C m 905 p.C.length),(902,bpB p.F),(903,bgB p.O),(904,bgB p.T),(905,bpB (cpL p.C m p.C.length))] [2,900,901,902,903,904,905],[(2,⟨false,1,5,34,lF [.ow 900,.ow 901,.ow 902,.ow 903,.ow 904]⟩)],_,[],zFC p m,⟨rfl,rfl,rfl⟩,rfl,Wk.mk [(2,some 2),(900,some 8),(901,some 22),(902,some 12),(903,some 16),(904,some 20),(905,some 23)] rfl rfl rfl ?_ ?_,rfl,rfl,GRets.one (x:=.ag _) (GRes.box zA rfl rfl rfl rfl rfl rfl)⟩
 ·exact zB
 ·exact⟨HeapOk.box rfl rfl ⟨LeC.ow _ _ rfl,LeC.ow _ _ rfl,LeC.ow _ _ rfl,LeC.ow _ _ rfl,LeC.ow _ _ rfl,trivial⟩ rfl,hrF zAF,.inr ⟨22,p.C.length,_,.inl rfl,rfl,rfl,fun i hi j hj=>by
   show LeC _ _ (cpF p.C m 23 i j) (cpF p.C m 905 i j);unfold cpF;by_cases him:i=m
   ·rw[if_pos him,if_pos him]
    exact LeC.ow _ _ rfl
   ·rw[if_neg him,if_neg him]
    exact LeC.refl _ rfl⟩,hrF zAm,hrF zU,hrF zU,hrF zAm,trivial⟩
abbrev zIA(p:Pb)(m id:Nat):List AB:= [rdB p.R,chM p.C m id p.C.length,bpB p.F,bgB p.O,bgB p.T,bpB (cpL p.C m p.C.length)]
theorem zLV{p:Pb}{m id:Nat}{ni:List Nat}(h:zT ni id=some 5):BackB [] ni (zFC p m) (zIA p m id):=
 BackB.same (fun i _ j _=>zL zAF _ i j) ⟨⟨_,rfl,fun i _ j _=>by
  show BackC [] ni (cpF p.C m 905 i j) (cpF p.C m id i j);unfold cpF;by_cases him:i=m
  ·rw[if_pos him,if_pos him]
   exact .owN 5 id h
  ·rw[if_neg him,if_neg him]
   exact .imm _ rfl⟩,BackB.same (fun i _ j _=>zL zAm _ i j) (BackB.same (fun i _ j _=>zL zU _ i j) (BackB.same (fun i _ j _=>zL zU _ i j) (BackB.same (fun i _ j _=>zL zAm _ i j) trivial)))⟩
theorem zLU{a b c d e f:Nat}(h1:zT [a,b,c,d,e,f] a=some 0)(h2:zT [a,b,c,d,e,f] b=some 1)(h3:zT [a,b,c,d,e,f] c=some 2)(h4:zT [a,b,c,d,e,f] d=some 3)(h5:zT [a,b,c,d,e,f] e=some 4):BackA [] [a,b,c,d,e,f] zLX (.ag [.ow a,.ow b,.ow c,.ow d,.ow e]):=
 .ag ⟨.owN 0 a h1,.owN 1 b h2,.owN 2 c h3,.owN 3 d h4,.owN 4 e h5,trivial⟩
theorem fzR{h:Nat→Option AB}{ren:List (Nat×Option Nat)}{id:Nat}{L:List Rd}(hh:h id=some (rdB L))(hr:zCK ren id=true):LeC h ren (.ow id) (lsR L):=zZ hh hr rfl (fun i _ j _=>⟨rfl,zL zAF _ i j⟩)
theorem fzB{h:Nat→Option AB}{ren:List (Nat×Option Nat)}{id:Nat}{L:List Bp}(hh:h id=some (bpB L))(hr:zCK ren id=true):LeC h ren (.ow id) (lsB L):=zZ hh hr rfl (fun i _ j _=>⟨rfl,zL zAm _ i j⟩)
theorem fzG{h:Nat→Option AB}{ren:List (Nat×Option Nat)}{id:Nat}{L:List Bg}(hh:h id=some (bgB L))(hr:zCK ren id=true):LeC h ren (.ow id) (lsG L):=zZ hh hr rfl (fun i _ j _=>⟨rfl,zL zU _ i j⟩)
theorem zSA{n k m:Nat}(h:k≤m):∃r,zBA n m=zBA n k++r:=by
 induction m with
 |zero=>obtain rfl:k=0:=Nat.le_zero.1 h;exact⟨[],rfl⟩
 | succ m ih=>
   by_cases e:k=m+1
   ·subst e;exact⟨[],(List.append_nil _).symm⟩
   ·obtain⟨r,hr⟩:=ih xD
    exact⟨r++zBz n m,by show zBA n m++_=_;rw[hr,List.append_assoc]⟩
theorem zSz{n k i:Nat}{bad:List Int→Bool}(hk:k≤n)(h0:(zBA n k).find? bad=none)(hi:i<(zBz n k).length)(hb:bad ((zBz n k).getD i [])=true)(hl:∀j,j<i→bad ((zBz n k).getD j [])=false):(zBA n (n+1)).find? bad=some ((zBz n k).getD i []):=by
 obtain⟨r,hr⟩:=zSA (n:=n) (show k+1≤n+1 by omega)
 rw[hr]
 show((zBA n k++zBz n k)++r).find? bad=_
 rw[List.append_assoc,List.find?_append,h0,List.find?_append,zIM hi hb hl]
 rfl
theorem zSB{n k:Nat}{bad:List Int→Bool}(h0:(zBA n k).find? bad=none)(h1:∀j,j<(zBz n k).length→bad ((zBz n k).getD j [])=false):(zBA n (k+1)).find? bad=none:=by
 show(zBA n k++zBz n k).find? bad=none
 rw[List.find?_append,h0];exact zL7 h1
theorem zQI(s:List Int)(x:Int)(hl:s.length≤1000000):ACalls Tryz.prog 41 [.c (lsI s),.c (iC x)] (.c (bC (decide (x∈s)))):=by
 obtain⟨v,hv⟩:∃v,decide (x∈s)=v:=⟨_,rfl⟩
 rw[hv];refine zJ Tryz.func41 rfl rfl Tryz.ntmps41 rfl ?_;refine vB [0,1] ?_;refine AWp.round (fun k:Nat=>zC 18 [(0,.c (lsI s)),(1,.c (iC x)),(5,.c (iC (k:Nat)))] [] []) (fun k=>k≤s.length∧∀j,j<k→¬fI s j=x) (fun k=>s.length-k) 0 ⟨Nat.zero_le _,fun j hj=>absurd hj (Nat.not_lt_zero _)⟩ ?_ (fun k hk=> ?_)
 ·refine Wk.mk [] rfl rfl rfl ?_ trivial
  exact zB
 obtain⟨hk,hno⟩:=hk
 by_cases hks:k<s.length
 ·have hkl:(k:Int)<s.length:=by omega
  obtain⟨y,hy⟩:∃y,fI s k=y:=⟨_,rfl⟩
  have hcy:iF (fI s) k 0=iC y:=by rw[←hy]
  by_cases hxy:y=x
  ·obtain rfl:true=v:=by rw[←hv];exact(decide_eq_true (mem_fI.2 ⟨k,hks,hy.trans hxy⟩)).symm
   repeat (first
    |refine vB [2,5] ?_
    | (refine rG 4 ?_
       refine xE2 ?_
       first|refine zG (aP (k:=k) zA) ?_|refine zI (zH (k:=k) zA) ?_
       first|refine zY zA (hcy) rfl rfl rfl rfl rfl oM ?_|refine zAp zA rfl rfl rfl rfl rfl rfl rfl oM oM (hcy) ?_
       refine xE2 ?_;refine aB ?_))
   refine⟨zC 18 [(4,.c (bC true))] [] [],[],Wk.mk [] rfl rfl rfl ?_ trivial,rfl,rfl,aR1⟩
   exact zB
  · -- ax 16 ref30.in
    repeat (first
     |refine vB [2,3] ?_
     | (refine rG 4 ?_
        refine xE2 ?_
        first|refine zG (aP (k:=k) zA) ?_|refine zI (zH (k:=k) zA) ?_
        first|refine zY zA (hcy) rfl rfl rfl rfl rfl oM ?_|refine zAp zA rfl rfl rfl rfl rfl rfl rfl oM oM (hcy) ?_
        refine xE2 ?_;refine aB ?_))
    refine⟨k+1,⟨hks,fun j hj=> ?_⟩,Wk.mk [] rfl rfl rfl ?_ trivial,by omega⟩
    ·by_cases e:j=k
     ·subst e;rw[hy];exact hxy
     ·exact hno j xD
    ·exact zB
 ·obtain rfl:k=s.length:=by omega
  have hkl:¬((s.length:Nat):Int)<s.length:=by omega
  obtain rfl:false=v:=by rw[←hv];exact(decide_eq_false fun hm=>by obtain⟨i,h1,h2⟩:=mem_fI.1 hm;exact hno i h1 h2).symm
  refine vB [2,6] ?_
  refine⟨zC 18 [(4,.c (bC false))] [] [],[],Wk.mk [] rfl rfl rfl ?_ trivial,rfl,rfl,aR1⟩
  exact zB
theorem zR2(H:List Hg)(s:List Int)(hH:H.length≤1000000)(hs:s.length≤1000000):ACalls Tryz.prog 62 [.c (lsH H),.c (lsI s)] (.c (bC (zA9 H.length s))):=by
 obtain⟨v,hv⟩:∃v,zA9 H.length s=v:=⟨_,rfl⟩
 rw[hv];refine zJ Tryz.func62 rfl rfl Tryz.ntmps62 rfl ?_;refine vB [0,1] ?_;refine AWp.round (fun k:Nat=>zC 42 [(0,.c (lsH H)),(1,.c (lsI s)),(5,.c (iC (k:Nat)))] [] []) (fun k=>k≤s.length∧∀i,i<k→0≤fI s i∧fI s i<H.length∧(0<i→fI s (i-1)<fI s i)) (fun k=>s.length-k) 0 ⟨Nat.zero_le _,fun _ h=>absurd h (Nat.not_lt_zero _)⟩ ?_ (fun k hk=> ?_)
 ·refine Wk.mk [] rfl rfl rfl ?_ trivial
  exact zB
 obtain⟨hk,hok⟩:=hk
 by_cases hkl:k<s.length;rotate_left
 ·have hkl':¬(k:Int)<s.length:=by omega
  obtain rfl:k=s.length:=by omega
  rw[nmOk_iff.2 hok]at hv;subst hv;refine vB [2,6] ?_
  refine⟨zC 42 [(4,.c (bC true))] [] [],[],Wk.mk [] rfl rfl rfl ?_ trivial,rfl,rfl,aR1⟩
  exact zB
 have hkl':(k:Int)<s.length:=by omega
 have bad:¬(0≤fI s k∧fI s k<H.length∧(0<k→fI s (k-1)<fI s k))→v=false:=fun h=>by rw[←hv,zMX hkl h]
 have go:0≤fI s k∧fI s k<H.length∧(0<k→fI s (k-1)<fI s k)→k+1≤s.length∧∀i,i<k+1→0≤fI s i∧fI s i<H.length∧(0<i→fI s (i-1)<fI s i):=fun h=>⟨hkl,fun i hi=>by
  by_cases e:i=k
  ·rw[e];exact h
  ·exact hok i xD⟩
 obtain⟨y,hy⟩:∃y,fI s k=y:=⟨_,rfl⟩
 have hcy:iF (fI s) k 0=iC y:=by rw[←hy]
 rw[hy]at bad go;clear hok;by_cases c1:y<0
 ·obtain rfl:=bad fun h=>by omega
  repeat (first
   |refine vB [2,5] ?_
   |(refine AWp.draw (id:=4) zK ?_;refine xE2 ?_;(first|refine zG (aP (k:=k) zA) ?_|refine zI (zH (k:=k) zA) ?_);(first|refine zY zA (hcy) rfl rfl rfl rfl rfl oM ?_|refine zAp zA rfl rfl rfl rfl rfl rfl rfl oM oM (hcy) ?_);(iterate 26 refine vA ?_);refine aB ⟨by kernel_rfl,?_⟩))
  refine⟨zC 42 [(4,.c (bC false))] [] [],[],Wk.mk [] rfl rfl rfl ?_ trivial,rfl,rfl,aR1⟩
  exact zB
 by_cases c2:y≥H.length
 ·obtain rfl:=bad fun h=>by omega
  repeat (first
   |refine vB [2,5] ?_
   |(refine AWp.draw (id:=4) zK ?_;refine xE2 ?_;(first|refine zG (aP (k:=k) zA) ?_|refine zI (zH (k:=k) zA) ?_);(first|refine zY zA (hcy) rfl rfl rfl rfl rfl oM ?_|refine zAp zA rfl rfl rfl rfl rfl rfl rfl oM oM (hcy) ?_);refine xE4 ?_;(first|refine qr2 aG ?_|refine zG (aP (k:=k) zA) ?_|refine zI (zH (k:=k) zA) ?_);(first|refine qr2 aG ?_|refine zY zA (hcy) rfl rfl rfl rfl rfl oM ?_|refine zAp zA rfl rfl rfl rfl rfl rfl rfl oM oM (hcy) ?_);(iterate 20 refine vA ?_);refine aB ⟨by kernel_rfl,?_⟩))
  refine⟨zC 42 [(4,.c (bC false))] [] [],[],Wk.mk [] rfl rfl rfl ?_ trivial,rfl,rfl,aR1⟩
  exact zB
 by_cases c3:k=0
 ·have g:=go ⟨by omega,by omega,fun h=>by omega⟩
  have c3':¬(k:Int)>0:=by omega
  repeat (first
   |refine vB [2,3] ?_
   |(refine AWp.draw (id:=4) zK ?_;refine xE2 ?_;(first|refine zG (aP (k:=k) zA) ?_|refine zI (zH (k:=k) zA) ?_);(first|refine zY zA (hcy) rfl rfl rfl rfl rfl oM ?_|refine zAp zA rfl rfl rfl rfl rfl rfl rfl oM oM (hcy) ?_);refine xE4 ?_;(first|refine qr2 aG ?_|refine zG (aP (k:=k) zA) ?_|refine zI (zH (k:=k) zA) ?_);(first|refine qr2 aG ?_|refine zY zA (hcy) rfl rfl rfl rfl rfl oM ?_|refine zAp zA rfl rfl rfl rfl rfl rfl rfl oM oM (hcy) ?_);(iterate 20 refine vA ?_);refine aB ⟨by kernel_rfl,?_⟩))
  refine⟨k+1,g,Wk.mk [] rfl rfl rfl ?_ trivial,by omega⟩
  exact zB
 have c3':(k:Int)>0:=by omega
 obtain⟨m,hm⟩:∃m,k=m+1:=⟨k-1,by omega⟩
 have hm1:k-1=m:=by omega
 have hml:m<s.length:=by omega
 rw[hm1]at bad go
 obtain⟨z,hz⟩:∃z,fI s m=z:=⟨_,rfl⟩
 have hcz:iF (fI s) m 0=iC z:=by rw[←hz]
 rw[hz]at bad go;by_cases c4:y≤z
 ·obtain rfl:=bad fun h=>by have:=h.2.2 xD;omega
  repeat (first
   |refine vB [2,5] ?_
   |(refine AWp.draw (id:=4) zK ?_;refine xE2 ?_;(first|refine zG (aP (k:=k) zA) ?_|refine zI (zH (k:=k) zA) ?_);(first|refine zY zA (hcy) rfl rfl rfl rfl rfl oM ?_|refine zAp zA rfl rfl rfl rfl rfl rfl rfl oM oM (hcy) ?_);refine xE4 ?_;(first|refine qr2 aG ?_|refine zG (aP (k:=k) zA) ?_|refine zI (zH (k:=k) zA) ?_);(first|refine qr2 aG ?_|refine zY zA (hcy) rfl rfl rfl rfl rfl oM ?_|refine zAp zA rfl rfl rfl rfl rfl rfl rfl oM oM (hcy) ?_);refine zB4 ?_;(first|refine qr2 aG ?_|refine zG (aP (k:=k) zA) ?_|refine zI (zH (k:=k) zA) ?_);(first|refine qr2 aG ?_|refine zY zA (hcy) rfl rfl rfl rfl rfl oM ?_|refine zAp zA rfl rfl rfl rfl rfl rfl rfl oM oM (hcy) ?_);refine xE3 ?_;(first|refine qr2 aG ?_|refine zG (aP (k:=m) zA) ?_|refine zI (zH (k:=m) zA) ?_);(first|refine qr2 aG ?_|refine zY zA (hcz) rfl rfl rfl rfl rfl oM ?_|refine zAp zA rfl rfl rfl rfl rfl rfl rfl oM oM (hcz) ?_);refine xE3 ?_;refine aB ⟨by kernel_rfl,?_⟩))
  refine⟨zC 42 [(4,.c (bC false))] [] [],[],Wk.mk [] rfl rfl rfl ?_ trivial,rfl,rfl,aR1⟩
  exact zB
 have g:=go ⟨by omega,by omega,fun h=>by omega⟩
 repeat (first
  |refine vB [2,3] ?_
  |(refine AWp.draw (id:=4) zK ?_;refine xE2 ?_;(first|refine zG (aP (k:=k) zA) ?_|refine zI (zH (k:=k) zA) ?_);(first|refine zY zA (hcy) rfl rfl rfl rfl rfl oM ?_|refine zAp zA rfl rfl rfl rfl rfl rfl rfl oM oM (hcy) ?_);refine xE4 ?_;(first|refine qr2 aG ?_|refine zG (aP (k:=k) zA) ?_|refine zI (zH (k:=k) zA) ?_);(first|refine qr2 aG ?_|refine zY zA (hcy) rfl rfl rfl rfl rfl oM ?_|refine zAp zA rfl rfl rfl rfl rfl rfl rfl oM oM (hcy) ?_);refine zB4 ?_;(first|refine qr2 aG ?_|refine zG (aP (k:=k) zA) ?_|refine zI (zH (k:=k) zA) ?_);(first|refine qr2 aG ?_|refine zY zA (hcy) rfl rfl rfl rfl rfl oM ?_|refine zAp zA rfl rfl rfl rfl rfl rfl rfl oM oM (hcy) ?_);refine xE3 ?_;(first|refine qr2 aG ?_|refine zG (aP (k:=m) zA) ?_|refine zI (zH (k:=m) zA) ?_);(first|refine qr2 aG ?_|refine zY zA (hcz) rfl rfl rfl rfl rfl oM ?_|refine zAp zA rfl rfl rfl rfl rfl rfl rfl oM oM (hcz) ?_);refine xE3 ?_;refine aB ⟨by kernel_rfl,?_⟩))
 refine⟨k+1,g,Wk.mk [] rfl rfl rfl ?_ trivial,by omega⟩
 exact zB
theorem j30{P:Nat→Prop}(h:P 0∧P 1∧P 2):∀j,j<3→P j:=fun j hj=>by
 obtain⟨h0,h1,h2⟩:=h
 match j,hj with
 |0,_=>exact h0
 |1,_=>exact h1
 |2,_=>exact h2
theorem zJq(p:Pb)(hp:p.ok)(H:List Hg)(hH:zCB H)(s:List Int)(hs:s.length≤1000000):ACalls Tryz.prog 32 [.ag (pbC p),.c (lsH H),.c (lsI s)] (.tu [.ag (pbC (zAd p H s).1),.c (iC (zAd p H s).2)]):=by
 have hC:=zHk p hp
 obtain⟨e,he⟩:∃e,zAr p=e:=⟨_,rfl⟩
 rw[he]at hC;by_cases h0:e=0;rotate_left
 ·rw [show zAd p H s=(pbZ,e) by unfold zAd;rw[he,if_neg h0]]
  refine zJ Tryz.func32 rfl rfl Tryz.ntmps32 rfl ?_
  repeat (first
   |refine vB [0,2,3] ?_
   | (refine rG 1 ?_
      refine vA ?_;refine xB Tryz.func31 hC ?_;refine vA ?_;refine aB ?_))
  refine⟨zC 71 [(6,.c (.pt 6 5 0 0)),(7,.c (iC (e)))] [(6,⟨false,1,5,34,lF (pbC pbZ)⟩)] [6],[(6,⟨false,1,5,34,lF (pbC pbZ)⟩)],Wk.mk [(6,some 6)] rfl rfl rfl ?_ ?_,rfl,rfl,ARets.two (x:=.ag _) (y:=.c _) (ARes.box zA rfl rfl rfl rfl rfl rfl rfl) (ARes.tmp rfl rfl)⟩
  ·exact zB
  ·exact⟨HeapOk.box rfl rfl ⟨LeC.nils _ _,LeC.nils _ _,LeC.nils _ _,LeC.nils _ _,LeC.nils _ _,trivial⟩ rfl,trivial⟩
 subst h0;have hfit:=zCE hp he;have lC:=hfit.c;have lO:=hfit.o;have lH:=hH.1;have hI:=zR2 H s xD hs
 obtain⟨V,hV⟩:∃V,zAd p H s=V:=⟨_,rfl⟩
 have hwv:(if zA9 H.length s=true then (if zAr (anP p H s)=0 then (anP p H s,(0:Int))else (pbZ,zAr (anP p H s)))else (pbZ,1))=V:=by rw[←hV];unfold zAd;rw[if_pos he]
 rw[hV];generalize zA9 H.length s=b at *
 cases b with
 | false=>
   obtain rfl:(pbZ,(1:Int))=V:=hwv;refine zJ Tryz.func32 rfl rfl Tryz.ntmps32 rfl ?_
   repeat (first
    |refine vB [0,2,5] ?_
    | (refine rG 1 ?_
       refine vA ?_;refine xB Tryz.func31 hC ?_;refine vA ?_;refine aB ?_)
    | (refine rG 4 ?_
       refine xE2 ?_;refine xB Tryz.func62 hI ?_;refine vA ?_;refine aB ?_))
   refine⟨zC 71 [(6,.c (.pt 6 5 0 0)),(7,.c (iC (1)))] [(6,⟨false,1,5,34,lF (pbC pbZ)⟩)] [6],[(6,⟨false,1,5,34,lF (pbC pbZ)⟩)],Wk.mk [(6,some 6)] rfl rfl rfl ?_ ?_,rfl,rfl,ARets.two (x:=.ag _) (y:=.c _) (ARes.box zA rfl rfl rfl rfl rfl rfl rfl) (ARes.tmp rfl rfl)⟩
   ·exact zB
   ·exact⟨HeapOk.box rfl rfl ⟨LeC.nils _ _,LeC.nils _ _,LeC.nils _ _,LeC.nils _ _,LeC.nils _ _,trivial⟩ rfl,trivial⟩
 |true=>
 rw[if_pos rfl]at hwv
 obtain⟨m,hm⟩:∃m,p.C.length=m:=⟨_,rfl⟩
 have cG:=zKC p hp m;refine zJ Tryz.func32 rfl rfl Tryz.ntmps32 rfl ?_
 repeat (first
  |refine vB [0,2] ?_
  | (refine rG 1 ?_
     refine vA ?_;refine xB Tryz.func31 hC ?_;refine vA ?_;refine aB ?_)
  | (refine rG 4 ?_
     refine xE2 ?_;refine xB Tryz.func62 hI ?_;refine vA ?_;refine aB ?_)
  | (refine rG 6 ?_
     refine vA ?_;refine AList.callG [] [260,261,262,263,264,265] [] [] (zFC p m) [] (zIA p m 265) rfl rfl FnV.func rfl Tryz.func22 rfl xC (trivial) rfl (zLU rfl rfl rfl rfl rfl) (trivial) (zLV rfl) (cG) ?_;refine xE2 ?_;refine aB ?_))
 clear cG;refine AWp.weak (S':=
  zC 71 [(1,.c (lsH H)),(2,.c (lsI s)),(6,.c (.pt 6 5 0 0)),(9,.c (.pt 9 5 0 0))] [(6,⟨false,1,5,34,lF [nl8,nl8,nl8,nl8,nl8]⟩),(9,⟨false,1,5,34,lF [lsR p.R,.ow 120,lsB p.F,.ow 121,lsG p.T]⟩),(120,chB p.C),(121,bgB p.O)] [6,9,120,121]) (Wk.mk [(6,some 6),(9,some 9),(120,some 261),(121,some 263)] rfl rfl rfl ?_ ?_) ?_
 ·exact zB
 ·exact⟨hSm,HeapOk.box rfl rfl ⟨fzR rfl rfl,LeC.ow _ _ rfl,fzB rfl rfl,LeC.ow _ _ rfl,fzG rfl rfl,trivial⟩ rfl,HeapOk.row rfl rfl rfl (fun i hi j _=>by
   have e:cpF p.C m 265 i j=chF p.C i j:=if_neg xD
   exact⟨e,by rw[e];rfl⟩),hrF zU,trivial⟩
 clear hm;refine vB [7] ?_;refine AWp.round (fun k:Nat=>
  zC 71 [(1,.c (lsH H)),(2,.c (lsI s)),(6,.c (.pt 6 5 0 0)),(9,.c (.pt 9 5 0 0)),(10,.c (iC (k:Nat)))] [(6,⟨false,1,5,34,lF [nl8,nl8,nl8,nl8,nl8]⟩),(9,⟨false,1,5,34,lF [lsR p.R,.ow 120,lsB p.F,.ow 121,lsG p.T]⟩),(120,chB (p.C++anC H s k)),(121,bgB (p.O++anO H k))] [6,9,120,121]
  ) (fun k=>k≤H.length) (fun k=>H.length-k) 0 (Nat.zero_le _) ?_ (fun k hk=> ?_)
 ·rw[show p.C++anC H s 0=p.C from List.append_nil _,show p.O++anO H 0=p.O from List.append_nil _]
  refine Wk.mk [(6,some 6),(9,some 9),(120,some 120),(121,some 121)] rfl rfl rfl ?_ ?_
  ·exact zB
  ·exact⟨hSm,HeapOk.box rfl rfl ⟨LeC.refl _ rfl,LeC.ow _ _ rfl,LeC.refl _ rfl,LeC.ow _ _ rfl,LeC.refl _ rfl,trivial⟩ rfl,HeapOk.row rfl rfl rfl (fun i _ j _=>⟨rfl,rfl⟩),hrF zU,trivial⟩
 by_cases hkl:k<H.length;rotate_left
 ·have hkl':¬(k:Int)<H.length:=by omega
  obtain rfl:k=H.length:=by omega
  have hW:=zHk (anP p H s) (zEl s hp hH he);refine vB [8] ?_;refine AWp.weak (S':=zC 71 [(6,.c (.pt 6 5 0 0)),(9,.c (.pt 9 5 0 0))] [(6,⟨false,1,5,34,lF [nl8,nl8,nl8,nl8,nl8]⟩),(9,⟨false,1,5,34,lF (pbC (anP p H s))⟩)] [6,9]) (Wk.mk [(6,some 6),(9,some 9)] rfl rfl rfl ?_ ?_) ?_
  ·exact zB
  ·exact⟨hSm,HeapOk.box rfl rfl ⟨LeC.refl _ rfl,zZ rfl rfl rfl (fun _ _ _ _=>⟨rfl,rfl⟩),LeC.refl _ rfl,zZ rfl rfl rfl (fun i _ j _=>⟨rfl,zL zU _ i j⟩),LeC.refl _ rfl,trivial⟩ rfl,trivial⟩
  generalize zAr (anP p H s)=f at *;by_cases hf:f=0
  ·rw [if_pos hf]at hwv
   subst hf hwv
   repeat (first
    |refine vB [16,18] ?_
    | (refine rG 15 ?_
       refine vA ?_;refine xB Tryz.func31 hW ?_;refine vA ?_;refine aB ?_))
   refine⟨zC 71 [(6,.c (.pt 6 5 0 0)),(7,.c (iC 0))] [(6,⟨false,1,5,34,lF (pbC (anP p H s))⟩)] [6],[(6,⟨false,1,5,34,lF (pbC (anP p H s))⟩)],Wk.mk [(6,some 6)] rfl rfl rfl ?_ ?_,rfl,rfl,ARets.two (x:=.ag _) (y:=.c _) (ARes.box zA rfl rfl rfl rfl rfl rfl rfl) (ARes.tmp rfl rfl)⟩
   ·exact zB
   ·exact⟨hSm,trivial⟩
  ·rw [if_neg hf]at hwv
   subst hwv
   repeat (first
    |refine vB [16,17] ?_
    | (refine rG 15 ?_
       refine vA ?_;refine xB Tryz.func31 hW ?_;refine vA ?_;refine aB ?_))
   refine⟨zC 71 [(6,.c (.pt 6 5 0 0)),(7,.c (iC (f)))] [(6,⟨false,1,5,34,lF (pbC pbZ)⟩)] [6],[(6,⟨false,1,5,34,lF (pbC pbZ)⟩)],Wk.mk [(6,some 6)] rfl rfl rfl ?_ ?_,rfl,rfl,ARets.two (x:=.ag _) (y:=.c _) (ARes.box zA rfl rfl rfl rfl rfl rfl rfl) (ARes.tmp rfl rfl)⟩
   ·exact zB
   ·exact⟨HeapOk.box rfl rfl ⟨LeC.nils _ _,LeC.nils _ _,LeC.nils _ _,LeC.nils _ _,LeC.nils _ _,trivial⟩ rfl,trivial⟩
 have hkl':(k:Int)<H.length:=by omega
 have hb:=zG2 hH s hkl;have hcn:=zQI s (k:Int) hs;have e1:p.C++anC H s (k+1)=(p.C++anC H s k)++ [zBY H s k]:=by rw[zIa,List.append_assoc]
 have e2:p.O++anO H (k+1)=(p.O++anO H k)++ [(H.getD k hgZ).own]:=by rw[zIb,List.append_assoc]
 have l1:(p.C++anC H s k).length≤1000000:=by rw[List.length_append,zEJ];omega
 have l2:(p.O++anO H k).length≤1000000:=by rw[List.length_append,zGE];omega
 obtain⟨h,hh⟩:∃h,H.getD k hgZ=h:=⟨_,rfl⟩
 have hlc:h.ch.length≤1000000:=by rw[←hh];exact(hH.2 _ (zAB hkl)).2.1
 have eN:zAD (zS hgC hgZ H k) 0 3=bpC h.now:=by rw[←hh];rfl
 have eC:zS hgC hgZ H k 3=lsB h.ch:=by rw[←hh];rfl
 have eO:zAD (zS hgC hgZ H k) 4 4=bgC h.own:=by rw[←hh];rfl
 have hX:zBY H s k=if (k:Int)∈s then h.ch else [h.now]:=by rw[←hh]
 rw[hh]at e2;generalize zBY H s k=X at *;generalize p.C++anC H s k=q1 at *;generalize p.O++anO H k=q2 at *
 repeat (first
  |refine vB [8] ?_
  | (refine rG 10 ?_
     refine xE2 ?_
     first|refine zG (aP (k:=k) zA) ?_|refine zI (zH (k:=k) zA) ?_
     refine vA ?_;refine zEb zA (eN) rfl rfl rfl rfl rfl oM ?_;refine xE2 ?_;refine aB ?_))
 refine zEd (
  zC 71 [(1,.c (lsH H)),(2,.c (lsI s)),(6,.c (.pt 6 5 0 0)),(9,.c (.pt 9 5 0 0)),(10,.c (iC (k:Nat))),(11,.c (lsB X))] [(6,⟨false,1,5,34,lF [nl8,nl8,nl8,nl8,nl8]⟩),(9,⟨false,1,5,34,lF [lsR p.R,.ow 120,lsB p.F,.ow 121,lsG p.T]⟩),(120,chB (q1)),(121,bgB (q2))] [6,9,120,121]
  ) ?_ ?_
 ·by_cases hm:(k:Int)∈s
  ·rw [decide_eq_true hm]at hcn
   rw[if_pos hm]at hX;subst hX
   repeat (first
    |refine vB [] ?_
    | (refine rG 11 ?_
       refine xE2 ?_;refine xB Tryz.func41 hcn ?_;refine aB ?_)
    | (refine rG 12 ?_
       refine xE3 ?_
       first|refine zG (aP (k:=k) zA) ?_|refine zI (zH (k:=k) zA) ?_
       refine vA ?_
       first|refine zY zA (eC) rfl rfl rfl rfl rfl oM ?_|refine zAp zA rfl rfl rfl rfl rfl rfl rfl oM oM (eC) ?_
       refine xA ?_;refine vA ?_;refine aB ?_))
   refine⟨rfl,Wk.mk [(6,some 6),(9,some 9),(120,some 120),(121,some 121)] rfl rfl rfl ?_ ?_⟩
   ·repeat (first|exact trivial|refine⟨⟨_,rfl,by first|exact LeA.c (zZ rfl rfl rfl (fun i _ j _=>⟨rfl,zL zAm _ i j⟩))|exact leT⟩,?_⟩)
   ·exact⟨hSm,HeapOk.box rfl rfl ⟨LeC.refl _ rfl,LeC.ow _ _ rfl,LeC.refl _ rfl,LeC.ow _ _ rfl,LeC.refl _ rfl,trivial⟩ rfl,HeapOk.row rfl rfl rfl (fun i _ j _=>⟨rfl,rfl⟩),hrF zU,trivial⟩
  ·rw [decide_eq_false hm]at hcn
   rw[if_neg hm]at hX;subst hX
   repeat (first
    |refine vB [] ?_
    | (refine rG 11 ?_
       refine xE2 ?_;refine xB Tryz.func41 hcn ?_;refine aB ?_))
   refine⟨rfl,Wk.mk [(6,some 6),(9,some 9),(120,some 120),(121,some 121)] rfl rfl rfl ?_ ?_⟩
   ·repeat (first|exact trivial|refine⟨⟨_,rfl,by first|exact LeA.c (zCO rfl (fun i hi j hj=>by obtain rfl:i=0:=Nat.lt_one_iff.mp hi;revert j;exact j30 ⟨rfl,rfl,rfl⟩))|exact leT⟩,?_⟩)
   ·exact⟨hSm,HeapOk.box rfl rfl ⟨LeC.refl _ rfl,LeC.ow _ _ rfl,LeC.refl _ rfl,LeC.ow _ _ rfl,LeC.refl _ rfl,trivial⟩ rfl,HeapOk.row rfl rfl rfl (fun i _ j _=>⟨rfl,rfl⟩),hrF zU,trivial⟩
 repeat (first
  |refine vB [9] ?_
  | (refine rG 13 ?_
     refine xE4 ?_;refine xA ?_;refine xE2 ?_;refine aB ?_)
  |(refine AWp.draw (id:=14) zK ?_;refine xE4 ?_;(first|refine zG (aP (k:=k) zA) ?_|refine zI (zH (k:=k) zA) ?_);refine vA ?_;refine zEb zA (eO) rfl rfl rfl rfl rfl oM ?_;refine vA ?_;refine xA ?_;refine xE2 ?_;refine aB ⟨by kernel_rfl,?_⟩))
 refine⟨k+1,hkl,?_,by omega⟩
 rw[e1,e2];refine Wk.mk [(6,some 6),(9,some 9),(120,some 52),(121,some 62)] rfl rfl rfl ?_ ?_
 ·exact zB
 ·exact⟨hSm,HeapOk.box rfl rfl ⟨LeC.refl _ rfl,LeC.ow _ _ rfl,LeC.refl _ rfl,LeC.ow _ _ rfl,LeC.refl _ rfl,trivial⟩ rfl,HeapOk.row rfl rfl List.length_append (zDs _ _),HeapOk.row rfl rfl List.length_append (zBh _ _ zU rfl),trivial⟩
abbrev llB(L:List (List Int)):AB:=⟨true,L.length,1,23,fun k _=>lsI (L.getD k [])⟩
theorem zML(L M:List (List Int))(i j:Nat):zAj (fun k _=>lsI (L.getD k [])) L.length (fun k _=>lsI (M.getD k [])) i j=lsI ((L++M).getD i []):=by
 unfold zAj;by_cases h:i<L.length
 ·rw[Nat.blt_eq.mpr h,List.getD_eq_getElem?_getD (l:=L++M),List.getElem?_append_left h,←List.getD_eq_getElem?_getD]
  rfl
 ·rw[show Nat.blt i L.length=false from Bool.eq_false_iff.2 fun e=>h (Nat.blt_eq.mp e),List.getD_eq_getElem?_getD (l:=L++M),List.getElem?_append_right xD,←List.getD_eq_getElem?_getD]
  rfl
theorem zIz{n:Nat}:∀(r:Nat) (l:List Int) (x:Nat),x≤n→(zAN n r l x).length≤2^(n-x)
 |0,l,x,_=>Nat.one_le_two_pow
 | r+1,l,x,hx=>by
   have key:∀d x,d+x=n→(zBG (zAN n r) l d x).length+1≤2^d:=fun d=>by
    induction d with
    |zero=>exact fun x _=>Nat.le_refl _
    | succ d ih=>
      intro x hx
      show(zAN n r (l++ [(x:Int)]) (x+1)++zBG (zAN n r) l d (x+1)).length+1≤_
      have h1:=zIz (n:=n) r (l++ [(x:Int)]) (x+1) xD;have h2:=ih (x+1) xD;rw[show n-(x+1)=d by omega]at h1;rw[List.length_append,Nat.pow_succ]
      omega
   have:=key (n-x) x xD
   show(zBG (zAN n r) l (n-x) x).length≤_
   omega
theorem zNb{d:Nat}(h:d≤20):2^d≤1048576:=Nat.le_trans (Nat.pow_le_pow_right (by decide) h) (by decide)
theorem zKT(n:Nat)(hn:n≤20):∀(r:Nat) (l:List Int) (x:Nat),(l.length=0→x=0)→(∀m,l.length=m+1→fI l m+1=(x:Int))→x≤n→l.length+r≤100→∀K:Nat,K=l.length+r→
 ACalls Tryz.prog 33 [.c (iC n),.c (lsI l),.c (iC K)] (.c (lsL (zAN n r l x)))
 | 0,l,x,h0,h1,hx,hl,K,hK=>by
   have hKe:(l.length:Int)=(K:Int):=by omega
   show ACalls _ _ _ (.c (lsL [l]));refine zJ Tryz.func33 rfl rfl Tryz.ntmps33 rfl ?_
   repeat (first
    |refine vB [0,1] ?_
    | (refine rG 2 ?_
       refine xE2 ?_;refine zFd zA rfl rfl rfl rfl rfl rfl rfl rfl rfl rfl ((Nat.zero_add _).symm) ((fun _ _ _ _=>⟨rfl,rfl⟩)) oM oM ?_;refine xE2 ?_;refine aB ?_))
   refine⟨zC 46 [(6,.c (lsL [l]))] [] [],[],Wk.mk [] rfl rfl rfl ?_ trivial,rfl,rfl,aR1⟩
   exact⟨⟨_,rfl,.c (zCO rfl (fun i hi j hj=>by obtain rfl:i=0:=Nat.lt_one_iff.mp hi;obtain rfl:j=0:=Nat.lt_one_iff.mp hj;rfl))⟩,trivial⟩
 | r + 1,l,x,h0,h1,hx,hl,K,hK=>by
   have hKe:¬(l.length:Int)=(K:Int):=by omega
   obtain⟨v,hv⟩:∃v,zAN n (r+1) l x=v:=⟨_,rfl⟩
   have hv': []++zBG (zAN n r) l (n-x) x=v:=hv;have hvl:v.length≤1048576:=by rw[←hv];exact Nat.le_trans (zIz _ _ _ hx) (zNb xD)
   rw[hv]
   obtain⟨z,hz⟩:∃z:Int,z=x:=⟨_,rfl⟩
   refine zJ Tryz.func33 rfl rfl Tryz.ntmps33 rfl ?_;refine vB [0,1,3] ?_;refine zEd (zC 46 [(0,.c (iC n)),(1,.c (lsI l)),(2,.c (iC K)),(7,.c (iC z))] [] []) ?_ ?_
   ·by_cases hl0:l.length=0
    ·have hx0:=h0 hl0
     obtain rfl:z=0:=by omega
     have hl':¬(l.length:Int)>0:=by omega
     refine vB [4] ?_
     refine⟨rfl,Wk.mk [] rfl rfl rfl ?_ trivial⟩
     exact zB
    ·obtain⟨m,hm⟩:∃m,l.length=m+1:=⟨l.length-1,by omega⟩
     have hx1:=h1 m hm
     obtain⟨y,hy⟩:∃y,fI l m=y:=⟨_,rfl⟩
     have hcy:iF (fI l) m 0=iC y:=by rw[←hy]
     obtain rfl:z=y+1:=by omega
     have hl':(l.length:Int)>0:=by omega
     repeat (first
      |refine vB [4] ?_
      | (refine rG 5 ?_
         refine xE4 ?_
         first|refine zG (aP (k:=m) zA) ?_|refine zI (zH (k:=m) zA) ?_
         first|refine zY zA (hcy) rfl rfl rfl rfl rfl oM ?_|refine zAp zA rfl rfl rfl rfl rfl rfl rfl oM oM (hcy) ?_
         refine xE2 ?_;refine aB ?_))
     refine⟨rfl,Wk.mk [] rfl rfl rfl ?_ trivial⟩
     exact zB
   subst hz;refine vB [6,7] ?_;refine AWp.round (fun s:Nat×List (List Int)=>zC 46 [(0,.c (iC n)),(1,.c (lsI l)),(2,.c (iC K)),(8,.c (.ow 20)),(9,.c (iC (s.1:Nat)))] [(20,llB s.2)] [20]) (fun s=>(x≤s.1∧s.1≤n)∧s.2++zBG (zAN n r) l (n-s.1) s.1=v) (fun s=>n-s.1) (x,[]) ⟨⟨Nat.le_refl _,hx⟩,hv'⟩ ?_ (fun s hs=> ?_)
   ·refine Wk.mk [(20,none)] rfl rfl rfl ?_ ?_
    ·exact zB
    ·exact⟨HeapOk.nil rfl rfl,trivial⟩
   obtain⟨k,out⟩:=s
   obtain⟨⟨hxk,hkn⟩,hkv⟩:=hs
   dsimp only at hxk hkn hkv⊢;by_cases hk:k<n;rotate_left
   ·obtain rfl:k=n:=by omega
    have hk':¬((k:Nat):Int)<k:=by omega
    rw[Nat.sub_self]at hkv;obtain rfl:out=v:=by rw[←hkv];exact(List.append_nil _).symm
    refine vB [8,11] ?_
    refine⟨zC 46 [(6,.c (lsL out))] [] [],[],Wk.mk [] rfl rfl rfl ?_ trivial,rfl,rfl,aR1⟩
    exact⟨⟨_,rfl,.c (zZ rfl rfl rfl (fun _ _ _ _=>⟨rfl,rfl⟩))⟩,trivial⟩
   have hk':(k:Int)<n:=by omega
   have hF:=zKT n hn r (l++ [(k:Int)]) (k+1) (fun h=>by rw[List.length_append,List.length_singleton]at h;omega) (fun m hm=>by
    rw[List.length_append,List.length_singleton]at hm;obtain rfl:m=l.length:=by omega
    rw[zII];omega) hk (by rw[List.length_append,List.length_singleton];omega) K (by rw[List.length_append,List.length_singleton];omega)
   rw[show n-k=(n-(k+1))+1 by omega]at hkv;change out++(zAN n r (l++ [(k:Int)]) (k+1)++zBG (zAN n r) l (n-(k+1)) (k+1))=v at hkv;rw[←List.append_assoc]at hkv;generalize zAN n r (l++ [(k:Int)]) (k+1)=R at *;have hoR:out.length+R.length≤1048576:=by
    have:=congrArg List.length hkv;rw[List.length_append,List.length_append]at this
    omega
   repeat (first
    |refine vB [8,9] ?_
    | (refine rG 10 ?_
       refine xE4 ?_;refine xA ?_;refine xE2 ?_;refine zFd zA rfl rfl rfl rfl rfl rfl rfl rfl rfl rfl (@List.length_append _ l [(k:Int)]) (zDt l k) oM oM ?_;refine vA ?_;refine xB Tryz.func33 hF ?_;refine xA ?_;refine vA ?_;refine aB ?_))
   refine⟨(k+1,out++R),⟨⟨by dsimp only;omega,hk⟩,hkv⟩,Wk.mk [(20,some 44)] rfl rfl rfl ?_ ?_,by dsimp only;omega⟩
   ·exact zB
   ·exact⟨HeapOk.row rfl rfl List.length_append (fun i _ j _=>⟨zML _ _ i j,by rw[zML];rfl⟩),trivial⟩
theorem zTy{p:Pb}{H:List Hg}(s:List Int)(hp:Sm p)(hC:p.C.length≤2)(hH:HgSm H):Sm (anP p H s):=by
 have h1:(anP p H s).C.length=p.C.length+H.length:=by show(p.C++anC H s H.length).length=_;rw[List.length_append,zEJ]
 have h2:(anP p H s).O.length=p.O.length+H.length:=by show(p.O++anO H H.length).length=_;rw[List.length_append,zGE]
 have h3:=hH.1
 refine⟨hp.R,hp.Rr,by omega,fun l hl=> ?_,hp.F,hp.Ff,by rw[h1,h2,hp.O],hp.T⟩
 rcases List.mem_append.1 hl with hl|hl
 ·exact hp.Cc l hl
 ·unfold anC at hl
  obtain⟨k,hk,rfl⟩:=List.mem_map.1 hl
  obtain⟨⟨d,q1⟩,q2,q3⟩:=hH.2 _ (zAB (L:=H) (k:=k) (z:=hgZ) (List.mem_range.1 hk))
  unfold zBY;by_cases c:(k:Int)∈s
  ·rw[if_pos c];exact⟨by omega,q3⟩
  ·rw[if_neg c]
   exact⟨by simp,fun b hb=>by rw[List.mem_singleton.1 hb];exact⟨d,q1⟩⟩
theorem zTx(n:Nat):zBr n=zBp 0 n:=by
 unfold zBr zBp;rw[List.range_eq_range']
theorem zTR(n:Nat):∃T,zBz n n=zBr n::T:=by
 have h:=zLy (zNN (Nat.le_refl n));rw[←zTx]at h;exact h
theorem zTC(Z:Nat→Nat→CV){l:List Int}{m:Nat}(h:m≤l.length):∀k,k<0+(m-0)→∀j,j<1→zAj Z 0 (fun k j=>iF (fI l) (0+k) j) k j=iF (fI (l.take m)) k j∧zM (zAj Z 0 (fun k j=>iF (fI l) (0+k) j) k j)=true:=fun k hk j hj=>⟨zJH h k xD j hj,rfl⟩
theorem zTI(p:Pb)(hp:p.ok)(H:List Hg)(hH:zCB H):ACalls Tryz.prog 10 [.ag (pbC p),.c (lsH H)] (.tu [.ag (plC (zBx p H).1),.c (iC (zBx p H).2)]):=by
 have hC:=zHk p hp
 obtain⟨V,hV⟩:∃V,zBx p H=V:=⟨_,rfl⟩
 rw[hV];unfold zBx at hV
 obtain⟨e,he⟩:∃e,zAr p=e:=⟨_,rfl⟩
 rw[he]at hC hV;by_cases h0:e=0;rotate_left
 ·rw [if_neg h0]at hV
  subst hV;refine zJ Tryz.func10 rfl rfl Tryz.ntmps10 rfl ?_
  repeat (first
   |refine vB [0,2,3] ?_
   | (refine rG 1 ?_
      refine vA ?_;refine xB Tryz.func31 hC ?_;refine vA ?_;refine aB ?_))
  refine⟨zC 138 [(4,.c (.pt 4 3 0 0)),(5,.c (iC (e)))] [(4,bxP (plC (plZ)))] [4],[(4,bxP (plC (plZ)))],Wk.mk [(4,some 4)] rfl rfl rfl ?_ ?_,rfl,rfl,ARets.two (x:=.ag _) (y:=.c _) (ARes.box zA rfl rfl rfl rfl rfl rfl rfl) (ARes.tmp rfl rfl)⟩
  ·exact zB
  ·exact⟨HeapOk.box rfl rfl ⟨LeC.nils _ _,LeC.nils _ _,LeC.nils _ _,trivial⟩ rfl,trivial⟩
 subst h0;rw[if_pos rfl]at hV;by_cases h8:8<H.length
 ·rw [if_pos h8]at hV
  subst hV;have h8':(H.length:Int)>8:=by omega
  refine zJ Tryz.func10 rfl rfl Tryz.ntmps10 rfl ?_
  repeat (first
   |refine vB [0,2,4,5] ?_
   | (refine rG 1 ?_
      refine vA ?_;refine xB Tryz.func31 hC ?_;refine vA ?_;refine aB ?_))
  refine⟨zC 138 [(4,.c (.pt 4 3 0 0)),(5,.c (iC (2)))] [(4,bxP (plC (plZ)))] [4],[(4,bxP (plC (plZ)))],Wk.mk [(4,some 4)] rfl rfl rfl ?_ ?_,rfl,rfl,ARets.two (x:=.ag _) (y:=.c _) (ARes.box zA rfl rfl rfl rfl rfl rfl rfl) (ARes.tmp rfl rfl)⟩
  ·exact zB
  ·exact⟨HeapOk.box rfl rfl ⟨LeC.nils _ _,LeC.nils _ _,LeC.nils _ _,trivial⟩ rfl,trivial⟩
 rw[if_neg h8]at hV;have h8':¬(H.length:Int)>8:=by omega
 have hW0:=(zJq p hp H hH [] (Nat.zero_le _)).cv (args':= [.ag (pbC p),.c (lsH H),.c (.p (.slice none 0 0))]) ⟨.ag (zCj _),.c (Cv.refl _),.c Cv.nil,trivial⟩;have hW1:=zJq p hp H hH (zBr H.length) (by rw[zH9];omega)
 obtain⟨q0,hq0⟩:∃q,zAd p H []=q:=⟨_,rfl⟩
 obtain⟨q1,hq1⟩:∃q,zAd p H (zBr H.length)=q:=⟨_,rfl⟩
 rw[hq0]at hV hW0;rw[hq1]at hV hW1
 obtain⟨q0,e0⟩:=q0
 obtain⟨q1,e1⟩:=q1
 dsimp only at hV hW0 hW1;by_cases h0:e0=0;rotate_left
 ·rw [if_neg h0]at hV
  subst hV;refine zJ Tryz.func10 rfl rfl Tryz.ntmps10 rfl ?_
  repeat (first
   |refine vB [0,2,4,7,8] ?_
   | (refine rG 1 ?_
      refine vA ?_;refine xB Tryz.func31 hC ?_;refine vA ?_;refine aB ?_)
   | (refine rG 6 ?_
      refine xE2 ?_;refine xB Tryz.func32 hW0 ?_;refine xE6 ?_;refine aB ?_))
  refine⟨zC 138 [(4,.c (.pt 4 3 0 0)),(5,.c (iC (e0)))] [(4,bxP (plC (plZ)))] [4],[(4,bxP (plC (plZ)))],Wk.mk [(4,some 4)] rfl rfl rfl ?_ ?_,rfl,rfl,ARets.two (x:=.ag _) (y:=.c _) (ARes.box zA rfl rfl rfl rfl rfl rfl rfl) (ARes.tmp rfl rfl)⟩
  ·exact zB
  ·exact⟨HeapOk.box rfl rfl ⟨LeC.nils _ _,LeC.nils _ _,LeC.nils _ _,trivial⟩ rfl,trivial⟩
 rw[if_pos h0]at hV;subst h0;have hSn:=fun K:Nat=>fun hK:K≤H.length=>(zKT H.length xD K [] 0 (fun _=>rfl) (fun m h=>by cases h) (Nat.zero_le _) (by show 0+K≤100;omega) K (by show K=0+K;omega)).cv (args':= [.c (iC (H.length:Nat)),.c (.p (.slice none 0 0)),.c (iC (K:Nat))]) ⟨.c (Cv.refl _),.c Cv.nil,.c (Cv.refl _),trivial⟩
 obtain⟨T,hT⟩:=zTR H.length
 have hS1:=hSn H.length (Nat.le_refl _);rw[show zAN H.length H.length [] 0=zBr H.length::T from hT]at hS1;have hc0:(fun k (_:Nat)=>lsI ((zBr H.length::T).getD k [])) 0 0=lsI (zBr H.length):=rfl;generalize zBr H.length=av at *;by_cases h1:e1=0;rotate_left
 ·rw [if_neg h1]at hV
  subst hV;refine zJ Tryz.func10 rfl rfl Tryz.ntmps10 rfl ?_
  repeat (first
   |refine vB [0,2,4,7,10,11] ?_
   | (refine rG 1 ?_
      refine vA ?_;refine xB Tryz.func31 hC ?_;refine vA ?_;refine aB ?_)
   | (refine rG 6 ?_
      refine xE2 ?_
      first|refine xB Tryz.func32 hW0 ?_|refine xB Tryz.func32 hW1 ?_
      refine xE6 ?_;refine aB ?_)
   |(refine AWp.draw (id:=9) zK ?_;refine xE6 ?_;refine xB Tryz.func33 hS1 ?_;(first|refine zG (aP (k:=0) zA) ?_|refine zI (zH (k:=0) zA) ?_);(first|refine zY zA (hc0) rfl rfl rfl rfl rfl oM ?_|refine zAp zA rfl rfl rfl rfl rfl rfl rfl oM oM (hc0) ?_);(first|refine xB Tryz.func32 hW0 ?_|refine xB Tryz.func32 hW1 ?_);refine xE6 ?_;refine aB ⟨by kernel_rfl,?_⟩))
  refine⟨zC 138 [(4,.c (.pt 4 3 0 0)),(5,.c (iC (e1)))] [(4,bxP (plC (plZ)))] [4],[(4,bxP (plC (plZ)))],Wk.mk [(4,some 4)] rfl rfl rfl ?_ ?_,rfl,rfl,ARets.two (x:=.ag _) (y:=.c _) (ARes.box zA rfl rfl rfl rfl rfl rfl rfl) (ARes.tmp rfl rfl)⟩
  ·exact zB
  ·exact⟨HeapOk.box rfl rfl ⟨LeC.nils _ _,LeC.nils _ _,LeC.nils _ _,trivial⟩ rfl,trivial⟩
 rw[if_pos h1]at hV;subst h1;have hfit:=zCE hp he;have lC:=hfit.c;refine zJ Tryz.func10 rfl rfl Tryz.ntmps10 rfl ?_
 repeat (first
  |refine vB [0,2,4,7,10,12] ?_
  | (refine rG 1 ?_
     refine vA ?_;refine xB Tryz.func31 hC ?_;refine vA ?_;refine aB ?_)
  | (refine rG 6 ?_
     refine xE2 ?_
     first|refine xB Tryz.func32 hW0 ?_|refine xB Tryz.func32 hW1 ?_
     refine xE6 ?_;refine aB ?_)
  |(refine AWp.draw (id:=9) zK ?_;refine xE6 ?_;refine xB Tryz.func33 hS1 ?_;(first|refine zG (aP (k:=0) zA) ?_|refine zI (zH (k:=0) zA) ?_);(first|refine zY zA (hc0) rfl rfl rfl rfl rfl oM ?_|refine zAp zA rfl rfl rfl rfl rfl rfl rfl oM oM (hc0) ?_);(first|refine xB Tryz.func32 hW0 ?_|refine xB Tryz.func32 hW1 ?_);refine xE6 ?_;refine aB ⟨by kernel_rfl,?_⟩))
 clear hS1 hT hc0 hq0 hq1 hW0 hW1;refine AWp.round (fun K:Nat=>
  zC 138 [(1,.c (lsH H)),(2,.c (zC4 p)),(4,.c (.pt 4 3 0 0)),(11,.c (iC (K:Nat)))] [(4,bxP zBg)] [4]
  ) (fun K=>K≤H.length+1∧(zBA H.length K).find? (zCt p H)=none) (fun K=>H.length+1-K) 0 ⟨Nat.zero_le _,rfl⟩ ?_ (fun K hK=> ?_)
 ·refine Wk.mk [(4,some 4)] rfl rfl rfl ?_ ?_
  ·repeat (first|exact trivial|refine⟨⟨_,rfl,by first|exact LeA.c (zCp rfl rfl rfl rfl)|exact leT⟩,?_⟩)
  ·exact⟨hSm,trivial⟩
 obtain⟨hK,hnoK⟩:=hK
 by_cases hKn:K≤H.length;rotate_left
 ·have hKn':¬(K:Int)≤H.length:=by omega
  obtain rfl:K=H.length+1:=by omega
  rw[hnoK]at hV;obtain rfl:(plZ,(60:Int))=V:=hV;refine vB [13,31] ?_
  refine⟨zC 138 [(4,.c (.pt 4 3 0 0)),(5,.c (iC (60)))] [(4,bxP (plC (plZ)))] [4],[(4,bxP (plC (plZ)))],Wk.mk [(4,some 4)] rfl rfl rfl ?_ ?_,rfl,rfl,ARets.two (x:=.ag _) (y:=.c _) (ARes.box zA rfl rfl rfl rfl rfl rfl rfl) (ARes.tmp rfl rfl)⟩
  ·exact zB
  ·exact⟨HeapOk.box rfl rfl ⟨LeC.nils _ _,LeC.nils _ _,LeC.nils _ _,trivial⟩ rfl,trivial⟩
 have hKn':(K:Int)≤H.length:=by omega
 have hS:=hSn K hKn
 obtain⟨all,hall⟩:∃all,zBz H.length K=all:=⟨_,rfl⟩
 rw[show zAN H.length K [] 0=all from hall]at hS;have hal:all.length≤1048576:=by rw[←hall];exact Nat.le_trans (zIz _ _ _ (Nat.zero_le _)) (zNb xD)
 clear hSn
 repeat (first
  |refine vB [13,16] ?_
  | (refine rG 15 ?_
     refine xE3 ?_;refine xB Tryz.func33 hS ?_;refine vA ?_;refine aB ?_))
 refine AWp.round (fun j:Nat=>
  zC 138 [(1,.c (lsH H)),(2,.c (zC4 p)),(4,.c (.pt 4 3 0 0)),(11,.c (iC (K:Nat))),(12,.c (lsL all)),(13,.c (iC (j:Nat)))] [(4,bxP zBg)] [4]
  ) (fun j=>j≤all.length∧∀i,i<j→zCt p H (all.getD i [])=false) (fun j=>all.length-j) 0 ⟨Nat.zero_le _,fun i h=>absurd h (Nat.not_lt_zero _)⟩ ?_ (fun j hj=> ?_)
 ·refine Wk.mk [(4,some 4)] rfl rfl rfl ?_ ?_
  ·exact zB
  ·exact⟨hSm,trivial⟩
 obtain⟨hj,hno⟩:=hj
 by_cases hja:j<all.length;rotate_left
 ·have hja':¬(j:Int)<all.length:=by omega
  obtain rfl:j=all.length:=by omega
  refine vB [14,17] ?_
  refine⟨K+1,⟨by omega,zSB hnoK (by rw[hall];exact hno)⟩,Wk.mk [(4,some 4)] rfl rfl rfl ?_ ?_,by omega⟩
  ·exact zB
  ·exact⟨hSm,trivial⟩
 have hja':(j:Int)<all.length:=by omega
 obtain⟨s,hs⟩:∃s,all.getD j []=s:=⟨_,rfl⟩
 have hsj:(fun k (_:Nat)=>lsI (all.getD k [])) j 0=lsI s:=by rw[←hs]
 have hmem:s∈zBz H.length K:=by rw[hall,←hs,List.getD_eq_getElem?_getD,List.getElem?_eq_getElem hja];exact List.getElem_mem hja
 obtain⟨hnm,hsK⟩:=zNO hmem
 have hfind:zCt p H s=true→V=zDC p H s:=fun hb=>by
  have:=zSz (n:=H.length) (k:=K) (i:=j) hKn hnoK (by rw[hall];exact hja) (by rw[hall,hs];exact hb) (by rw[hall];exact hno)
  rw[hall,hs]at this;rw[←hV,this]
  rfl
 have hnext:zCt p H s=false→∀i,i<j+1→zCt p H (all.getD i [])=false:=fun hb i hi=>by
  by_cases e:i=j
  ·rw[e,hs];exact hb
  ·exact hno i xD
 have hW:=zJq p hp H hH s xD;have hSl:=fun h:(zAd p H s).2=0=>zRE (zAd p H s).1 (by rw[(zFa h).1];exact zEl s hp hH he)
 have hql:=fun h:(zAd p H s).2=0=>show(zAd p H s).1.C.length=p.C.length+H.length by rw[(zFa h).1];show(p.C++anC H s H.length).length=_;rw[List.length_append,zEJ]
 have hhit:zCt p H s=(decide ((zAd p H s).2=0) && (decide ((zAZ (zAd p H s).1).2=0)||decide ((zAZ (zAd p H s).1).2=61))):=rfl;have hplan:zDC p H s=if (zAZ (zAd p H s).1).2=0 then (zDB p (zAZ (zAd p H s).1).1 s,0)else (plZ,61):=rfl
 generalize zAd p H s=w at *
 obtain⟨q,we⟩:=w
 dsimp only at hSl hql hW hhit hplan;have hsl:= @zNT q;generalize zAZ q=o at *
 obtain⟨c,f⟩:=o
 dsimp only at hSl hsl hhit hplan;rw[hhit]at hfind hnext;rw[hplan]at hfind;clear hhit hplan hs hno hV hnoK hmem;by_cases hw0:we=0;rotate_left
 ·have hnx:=hnext (by rw[decide_eq_false hw0];rfl)
  clear hnext hfind
  repeat (first
   |refine vB [17,18,20] ?_
   |(refine AWp.draw (id:=19) zK ?_;refine xE4 ?_;(first|refine zG (aP (k:=j) zA) ?_|refine zI (zH (k:=j) zA) ?_);(first|refine zY zA (hsj) rfl rfl rfl rfl rfl oM ?_|refine zAp zA rfl rfl rfl rfl rfl rfl rfl oM oM (hsj) ?_);refine xB Tryz.func32 hW ?_;refine xE6 ?_;refine aB ⟨by kernel_rfl,?_⟩))
  refine⟨j+1,⟨hja,hnx⟩,Wk.mk [(4,some 4)] rfl rfl rfl ?_ ?_,by omega⟩
  ·exact zB
  ·exact⟨hSm,trivial⟩
 replace hSl:=hSl hw0
 replace hql:=hql hw0
 by_cases hf0:f=0
 ·replace hfind:=hfind (by rw[decide_eq_true hw0,decide_eq_true hf0];rfl)
  rw[if_pos hf0]at hfind
  replace hsl:=hsl hf0
  clear hnext;subst hw0 hf0 hfind;have hct:(c.take p.C.length).length=0+(p.C.length-0):=by rw[List.length_take];omega
  repeat (first
   |refine vB [17,20,22,24,26] ?_
   |(refine AWp.draw (id:=19) zK ?_;refine xE4 ?_;(first|refine zG (aP (k:=j) zA) ?_|refine zI (zH (k:=j) zA) ?_);(first|refine zY zA (hsj) rfl rfl rfl rfl rfl oM ?_|refine zAp zA rfl rfl rfl rfl rfl rfl rfl oM oM (hsj) ?_);refine xB Tryz.func32 hW ?_;refine xE6 ?_;refine aB ⟨by kernel_rfl,?_⟩)
   | (refine rG 21 ?_
      refine vA ?_;refine xB Tryz.func34 hSl ?_;refine xE5 ?_;refine aB ?_)
   |(refine AWp.draw (id:=25) zK ?_;refine xE2 ?_;(first|refine zG (aP (k:=j) zA) ?_|refine zI (zH (k:=j) zA) ?_);(first|refine zY zA (hsj) rfl rfl rfl rfl rfl oM ?_|refine zAp zA rfl rfl rfl rfl rfl rfl rfl oM oM (hsj) ?_);refine xE5 ?_;refine AList.cut (l:=0) (h:=p.C.length) zA rfl rfl rfl rfl rfl rfl rfl rfl ⟨_,_,rfl,by first|rfl|omega⟩ xD xD ?_;refine zFd zA rfl rfl rfl rfl rfl rfl rfl rfl rfl rfl (hct) (zTC _ xD) oM oM ?_;refine xE3 ?_;refine aB ⟨by kernel_rfl,?_⟩))
  refine AWp.round (fun k:Nat=>
   zC 138 [(1,.c (lsH H)),(2,.c (zC4 p)),(4,.c (.pt 4 3 0 0)),(11,.c (iC (K:Nat))),(12,.c (lsL all)),(13,.c (iC (j:Nat))),(16,.c (lsI c)),(18,.c (.pt 18 3 0 0)),(19,.c (iC (k:Nat)))] [(4,bxP zBg),(18,bxP [lsI s,.ow 21,lsI (c.take p.C.length)]),(21,chJ (anR p.C.length c s k))] [4,18,21]
   ) (fun k=>k≤s.length) (fun k=>s.length-k) 0 (Nat.zero_le _) ?_ (fun k hk=> ?_)
  ·refine Wk.mk [(4,some 4),(18,some 18),(21,none)] rfl rfl rfl ?_ ?_
   ·exact zB
   ·exact⟨hSm,HeapOk.box rfl rfl ⟨LeC.refl _ rfl,LeC.nil _ rfl,LeC.refl _ rfl,trivial⟩ rfl,HeapOk.nil rfl rfl,trivial⟩
  by_cases hks:k<s.length
  ·have hks':(k:Int)<s.length:=by omega
   obtain⟨hv0,hv1,-⟩:=nmOk_iff.1 hnm k hks
   obtain⟨i,hi⟩:=Int.eq_ofNat_of_zero_le hv0
   have hcy:iF (fI s) k 0=iC (i:Nat):=by show iC (fI s k)=_;rw[hi]
   have hap:=zDt (anR p.C.length c s k) (fI c (p.C.length+i));have halk:(anR p.C.length c s k).length=k:=by unfold anR;rw[List.length_map,List.length_take];omega
   have h21:((21,chJ (anR p.C.length c s k)):Nat×AB).snd.n=k:=halk;have hcv:iF (fI c) (p.C.length+i) 0=iC (fI c (p.C.length+i)):=rfl
   repeat (first
    |refine vB [28] ?_
    | (refine rG 27 ?_
       refine xE3 ?_
       first|refine zG (aP (k:=j) zA) ?_|refine zI (zH (k:=j) zA) ?_
       first|refine zY zA (hsj) rfl rfl rfl rfl rfl oM ?_|refine zAp zA rfl rfl rfl rfl rfl rfl rfl oM oM (hsj) ?_
       refine xE2 ?_;refine aB ?_)
    |(refine AWp.draw (id:=29) zK ?_;refine xE8 ?_;(first|refine zG (aP (k:=j) zA) ?_|refine zI (zH (k:=j) zA) ?_);(first|refine zY zA (hsj) rfl rfl rfl rfl rfl oM ?_|refine zAp zA rfl rfl rfl rfl rfl rfl rfl oM oM (hsj) ?_);refine vA ?_;(first|refine zG (aP (k:=k) zA) ?_|refine zI (zH (k:=k) zA) ?_);(first|refine zY zA (hcy) rfl rfl rfl rfl rfl oM ?_|refine zAp zA rfl rfl rfl rfl rfl rfl rfl oM oM (hcy) ?_);refine vA ?_;(first|refine zG (aP (k:=p.C.length+i) zA) ?_|refine zI (zH (k:=p.C.length+i) zA) ?_);(first|refine zY zA (hcv) rfl rfl rfl rfl rfl oM ?_|refine zAp zA rfl rfl rfl rfl rfl rfl rfl oM oM (hcv) ?_);refine vA ?_;refine xA ?_;refine xE2 ?_;refine aB ⟨by kernel_rfl,?_⟩))
   refine⟨k+1,hks,?_,by omega⟩
   rw[zK4 hks hi];refine Wk.mk [(4,some 4),(18,some 18),(21,some 134)] rfl rfl rfl ?_ ?_
   ·exact zB
   ·exact⟨hSm,HeapOk.box rfl rfl ⟨LeC.refl _ rfl,LeC.ow _ _ rfl,LeC.refl _ rfl,trivial⟩ rfl,HeapOk.row rfl rfl List.length_append hap,trivial⟩
  have hks':¬(k:Int)<s.length:=by omega
  obtain rfl:k=s.length:=by omega
  repeat (first
   |refine vB [30] ?_
   | (refine rG 27 ?_
      refine xE3 ?_
      first|refine zG (aP (k:=j) zA) ?_|refine zI (zH (k:=j) zA) ?_
      first|refine zY zA (hsj) rfl rfl rfl rfl rfl oM ?_|refine zAp zA rfl rfl rfl rfl rfl rfl rfl oM oM (hsj) ?_
      refine xE2 ?_;refine aB ?_))
  refine⟨zC 138 [(4,.c (.pt 4 3 0 0)),(5,.c (iC 0))] [(4,bxP (plC (zDB p c s)))] [4],[(4,bxP (plC (zDB p c s)))],Wk.mk [(4,some 4)] rfl rfl rfl ?_ ?_,rfl,rfl,ARets.two (x:=.ag _) (y:=.c _) (ARes.box zA rfl rfl rfl rfl rfl rfl rfl) (ARes.tmp rfl rfl)⟩
  ·exact zB
  ·exact⟨HeapOk.box rfl rfl ⟨LeC.refl _ rfl,zZ rfl rfl (congrArg List.length anR_all.symm) (fun i _ j _=>⟨congrArg (fun l=>iF (fI l) i j) anR_all,rfl⟩),LeC.refl _ rfl,trivial⟩ rfl,trivial⟩
 by_cases hf1:f=61
 ·replace hfind:=hfind (by rw[decide_eq_true hw0,decide_eq_true hf1];simp)
  rw[if_neg hf0]at hfind;clear hnext;subst hw0 hf1 hfind
  repeat (first
   |refine vB [17,20,22,23] ?_
   |(refine AWp.draw (id:=19) zK ?_;refine xE4 ?_;(first|refine zG (aP (k:=j) zA) ?_|refine zI (zH (k:=j) zA) ?_);(first|refine zY zA (hsj) rfl rfl rfl rfl rfl oM ?_|refine zAp zA rfl rfl rfl rfl rfl rfl rfl oM oM (hsj) ?_);refine xB Tryz.func32 hW ?_;refine xE6 ?_;refine aB ⟨by kernel_rfl,?_⟩)
   | (refine rG 21 ?_
      refine vA ?_;refine xB Tryz.func34 hSl ?_;refine xE5 ?_;refine aB ?_))
  refine⟨zC 138 [(4,.c (.pt 4 3 0 0)),(5,.c (iC (61)))] [(4,bxP (plC (plZ)))] [4],[(4,bxP (plC (plZ)))],Wk.mk [(4,some 4)] rfl rfl rfl ?_ ?_,rfl,rfl,ARets.two (x:=.ag _) (y:=.c _) (ARes.box zA rfl rfl rfl rfl rfl rfl rfl) (ARes.tmp rfl rfl)⟩
  ·exact zB
  ·exact⟨HeapOk.box rfl rfl ⟨LeC.nils _ _,LeC.nils _ _,LeC.nils _ _,trivial⟩ rfl,trivial⟩
 ·have hnx:=hnext (by rw[decide_eq_false hf0,decide_eq_false hf1];simp)
  clear hnext hfind;subst hw0
  repeat (first
   |refine vB [17,18,20,22,24] ?_
   |(refine AWp.draw (id:=19) zK ?_;refine xE4 ?_;(first|refine zG (aP (k:=j) zA) ?_|refine zI (zH (k:=j) zA) ?_);(first|refine zY zA (hsj) rfl rfl rfl rfl rfl oM ?_|refine zAp zA rfl rfl rfl rfl rfl rfl rfl oM oM (hsj) ?_);refine xB Tryz.func32 hW ?_;refine xE6 ?_;refine aB ⟨by kernel_rfl,?_⟩)
   | (refine rG 21 ?_
      refine vA ?_;refine xB Tryz.func34 hSl ?_;refine xE5 ?_;refine aB ?_))
  refine⟨j+1,⟨hja,hnx⟩,Wk.mk [(4,some 4)] rfl rfl rfl ?_ ?_,by omega⟩
  ·exact zB
  ·exact⟨hSm,trivial⟩
def nmL(f:Nat→Int)(k:Nat):List Int:=(List.range k).map f
theorem zTn(f:Nat→Int)(k:Nat):(nmL f k).length=k:=by unfold nmL;rw[List.length_map,List.length_range]
theorem zTD(f:Nat→Int){k i:Nat}(h:i<k):fI (nmL f k) i=f i:=by
 show(nmL f k).getD i 0=_
 unfold nmL;rw[List.getD_eq_getElem?_getD,List.getElem?_map,List.getElem?_range h]
 rfl
def Sol(p:Pb):Prop:=∃f:Nat→Int,∀k,k<p.C.length→zED p f k=true
theorem zTu{p:Pb}{f g:Nat→Int}{k:Nat}(h:∀j,j≤k→f j=g j)(hs:zED p f k=true):zED p g k=true:=by
 rw[stepOk_iff]at hs⊢;rw[←h k (Nat.le_refl k),←zQn fun j hj=>h j xD];exact hs
theorem zTs{p:Pb}(sp:Sm p):((zAZ p).2=0∧Sol p)∨((zAZ p).2=60∧¬Sol p):=by
 have hT:stT p.C.length≤20000:=by
  have:=sp.C;have:p.C.length=0∨p.C.length=1∨p.C.length=2∨p.C.length=3∨p.C.length=4∨p.C.length=5:=by omega
  rcases this with h|h|h|h|h|h<;>rw[h]<;>decide
 obtain⟨hS,-,-⟩:=zTk (fun l h=>(sp.Cc l h).1) p.C.length [] 0 (by simp) (fun k hk=>absurd hk (Nat.not_lt_zero _)) (Int.le_refl _) xD
 unfold zAZ;rw[if_pos sp.chk];generalize zAI p p.C.length [] 0=o at *
 rcases hS with ⟨k1,e0,-,k3,k4,-⟩|⟨k1,-,k3⟩
 ·exact .inl ⟨k1,fI e0,fun k hk=>k4 k (by rw[List.nil_append,k3];exact hk)⟩
 ·refine .inr ⟨k1,fun ⟨f,hf⟩=>k3 (nmL f p.C.length) (zTn _ _) fun k hk=> ?_⟩
  rw[List.nil_append,zTn]at hk;exact zTu (fun j hj=>(zTD f xD).symm) (hf k hk)
theorem zTS{p:Pb}(sp:Sm p):(zAZ p).2=0↔Sol p:=by
 rcases zTs sp with ⟨h1,h2⟩|⟨h1,h2⟩
 ·exact⟨fun _=>h2,fun _=>h1⟩
 ·exact⟨fun h=>(by rw[h1]at h;cases h),fun h=>absurd h h2⟩
theorem zTV{p:Pb}(sp:Sm p):zEE p=0↔(zAZ p).2=60:=by
 unfold zEE
 rcases zTs sp with ⟨h1,-⟩|⟨h1,-⟩<;>rw[h1]<;>decide
theorem zTT{p:Pb}{ch:List Int}{c:Nat}(h:(zCd p ch c).dp=true):zCd p ch c=zDw ch.length c∧∀k,k<p.F.length+ch.length→(zDn p ch c k).2.2=false:=by
 unfold zCd at h⊢
 cases hf:(List.range (p.F.length+ch.length)).find? fun k=>(zDn p ch c k).2.2 with
 |some k=>rw[hf]at h;cases h
 | none=>
   refine⟨rfl,fun k hk=> ?_⟩
   rw[List.find?_eq_none]at hf
   simpa using hf k (List.mem_range.2 hk)
theorem zTa{p:Pb}(hl:∀l∈p.C,l.length≤4):∀(m:Nat) (ch:List Int),((zBV p m ch).length:Int)≤stT m
 |0,_=>Int.le_refl _
 | m + 1,ch=>by
   have hT:=zTf m;have key:∀k,((zBU p m ch k).length:Int)≤k*(1+stT m):=fun k=>by
    induction k with
    |zero=>simp[zBU]
    | succ k ih=>
      rw[zOc,List.length_append];have h1:((zOa p m ch k).length:Int)≤1+stT m:=by
       unfold zOa;have:=zTa hl m (ch++ [(k:Int)]);rw[List.length_cons]
       split
       ·omega
       ·simp only[List.length_nil];omega
      rw[Int.natCast_add,Int.natCast_add,Int.add_mul]
      simp only[Int.natCast_one,Int.one_mul]
      omega
   have h4:(p.C.getD ch.length []).length≤4:=by
    by_cases h:ch.length<p.C.length
    ·exact hl _ (zAB h)
    ·rw[List.getD_eq_getElem?_getD,List.getElem?_eq_none xD];exact Nat.zero_le _
   have h5:((p.C.getD ch.length []).length:Int)*(1+stT m)≤4*(1+stT m):=Int.mul_le_mul_of_nonneg_right xD xD;exact Int.le_trans (key _) h5
theorem zTj{p:Pb}:∀(m:Nat) (ch:List Int),ch.length+m=p.C.length→GoodC p ch→(∀e,e.length=m→¬GoodC p (ch++e))→zEM p m ch
 |0,ch,_,hg,hn=>hn [] rfl (by rw[List.append_nil];exact hg)
 | m +1,ch,hm,hg,hn=>fun c hc hd=>by
   obtain⟨-,h0⟩:=zTT hd
   refine zTj m (ch++ [(c:Int)]) (by simp;omega) (fun k hk=> ?_) (fun e he h=>hn ((c:Int)::e) (by simp[he]) (by rw[List.append_assoc]at h;exact h))
   rw[List.length_append,List.length_singleton]at hk;by_cases e:k=ch.length
   ·subst e
    rw[zTU,zIJ]
    refine⟨⟨by omega,by omega⟩,fun j hj=> ?_,fun j hj=> ?_⟩
    ·rw[zIJ,show((c:Int)).toNat=c from rfl]
     have:=h0 j xD;unfold zDn obN at this;rw[if_pos hj,(obB_f (ch:=ch)).1,(obB_f (ch:=ch)).2]at this;exact this
    ·rw[zIJ,show((c:Int)).toNat=c from rfl,zIL ch c j hj]
     have:=h0 (p.F.length+j) xD;unfold zDn obN at this;rw[if_neg xD,show((p.F.length+j:Nat):Int)-p.F.length=(j:Int) by omega]at this;unfold obB obG at this;rw[if_neg xD,if_neg xD,show((j:Int)).toNat=j from rfl]at this;exact this
   ·exact zTu (fun j hj=>(zIL ch c j xD).symm) (hg k xD)
theorem zTE{p:Pb}(h:¬Sol p):∀e,e.length=p.C.length→¬GoodC p ([]++e):=fun e he hg=>h ⟨fI e,fun k hk=>hg k (by rw[List.nil_append,he];exact hk)⟩
theorem zTm{p:Pb}(sp:Sm p)(h:zEE p=0):zEM p p.C.length []∧(zBV p p.C.length []).length≤1000000:=by
 refine⟨zTj _ [] (Nat.zero_add _) (fun k hk=>absurd hk (Nat.not_lt_zero _)) (zTE fun hs=> ?_),?_⟩
 ·have:=(zTS sp).2 hs
  rw[(zTV sp).1 h]at this
  cases this
 ·have h1:=zTa (fun l hl=>(sp.Cc l hl).1) p.C.length []
  have h2:stT p.C.length≤20000:=by
   have:=sp.C;have:p.C.length=0∨p.C.length=1∨p.C.length=2∨p.C.length=3∨p.C.length=4∨p.C.length=5:=by omega
   rcases this with h|h|h|h|h|h<;>rw[h]<;>decide
  omega
theorem zTN(p:Pb)(hp:p.ok):ACalls Tryz.prog 67 [.ag (pbC p)] (.c (iC (zEE p))):=by
 have hS:=zRE p hp;unfold zEE;generalize zAZ p=o at *
 obtain⟨ol,oe⟩:=o
 dsimp only at hS⊢;by_cases h0:oe=0
 ·rw [if_pos h0]
  subst h0;refine zJ Tryz.func67 rfl rfl Tryz.ntmps67 rfl ?_
  repeat (first
   |refine vB [0,2,3] ?_
   | (refine rG 1 ?_
      refine vA ?_;refine xB Tryz.func34 hS ?_;refine xE5 ?_;refine aB ?_))
  refine⟨zC 15 [(2,.c (iC 7))] [] [],[],Wk.mk [] rfl rfl rfl ?_ trivial,rfl,rfl,aR1⟩
  exact zB
 ·rw[if_neg h0]
  by_cases h1:oe=60
  ·rw [if_pos h1]
   subst h1;refine zJ Tryz.func67 rfl rfl Tryz.ntmps67 rfl ?_
   repeat (first
    |refine vB [0,2,4,5] ?_
    | (refine rG 1 ?_
       refine vA ?_;refine xB Tryz.func34 hS ?_;refine xE5 ?_;refine aB ?_))
   refine⟨zC 15 [(2,.c (iC 0))] [] [],[],Wk.mk [] rfl rfl rfl ?_ trivial,rfl,rfl,aR1⟩
   exact zB
  ·rw [if_neg h1]
   refine zJ Tryz.func67 rfl rfl Tryz.ntmps67 rfl ?_
   repeat (first
    |refine vB [0,2,4,6] ?_
    | (refine rG 1 ?_
       refine vA ?_;refine xB Tryz.func34 hS ?_;refine xE5 ?_;refine aB ?_))
   refine⟨zC 15 [(2,.c (iC oe))] [] [],[],Wk.mk [] rfl rfl rfl ?_ trivial,rfl,rfl,aR1⟩
   exact zB
abbrev pS9(p:Pb):AB:=⟨false,1,5,34,lF (pbC p)⟩
end Go.Proofs.YtbffmfeldkjkcaaGreat
end
