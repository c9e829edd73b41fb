/- ReprintMakes: the statement. No condition. -/
import Derived.Test.YtbffmfeldkjkcaaGreatHA30zcr06
import Derived.Test.YtbffmfeldkjkcaaGreatRows
import Derived.Test.YtbffmfeldkjkcaaGreatHA30zcr03
set_option linter.unusedSimpArgs false
set_option linter.unusedVariables false
set_option maxHeartbeats 0
set_option maxRecDepth 100000
section
namespace Go.Proofs.YtbffmfeldkjkcaaGreat
open Go.RowKit Go.Flow Go.AV Go.Plain
theorem all_up(n:Nat):zBr n=zBp 0 n:=by
 unfold zBr zBp;rw[List.range_eq_range']
theorem sets_all(n:Nat):∃T,zBz n n=zBr n::T:=by
 have h:=zLy (zNN (Nat.le_refl n));rw[←all_up]at h;exact h
theorem fz_sub(Z:Nat→Nat→CV){l:List Int}{m:Nat}(h:m≤l.length):∀k,k<0+(m-0)→∀j,j<1→zAj Z 0 (fun k j=>iF (fI l) (0+k) j) k j=iF (fI (l.take m)) k j∧zM (zAj Z 0 (fun k j=>iF (fI l) (0+k) j) k j)=true:=fun k hk j hj=>⟨zJH h k xD j hj,rfl⟩
theorem rMake_A(p:Pb)(hp:p.ok)(H:List Hg)(hH:zCB H):ACalls Tryz.prog 10 [.ag (pbC p),.c (lsH H)] (.tu [.ag (plC (zBx p H).1),.c (iC (zBx p H).2)]):=by
 have hC:=zHk p hp
 obtain⟨V,hV⟩:∃V,zBx p H=V:=⟨_,rfl⟩
 rw[hV];unfold zBx at hV
 obtain⟨e,he⟩:∃e,zAr p=e:=⟨_,rfl⟩
 rw[he]at hC hV;by_cases h0:e=0;rotate_left
 ·rw [if_neg h0]at hV
  subst hV;refine zJ Tryz.func10 rfl rfl Tryz.ntmps10 rfl ?_
  repeat (first
   |refine vB [0,2,3] ?_
   | (refine rG 1 ?_
      refine vA ?_;refine xB Tryz.func31 hC ?_;refine vA ?_;refine aB ?_))
  refine⟨zC 138 [(4,.c (.pt 4 3 0 0)),(5,.c (iC (e)))] [(4,bxP (plC (plZ)))] [4],[(4,bxP (plC (plZ)))],Wk.mk [(4,some 4)] rfl rfl rfl ?_ ?_,rfl,rfl,ARets.two (x:=.ag _) (y:=.c _) (ARes.box zA rfl rfl rfl rfl rfl rfl rfl) (ARes.tmp rfl rfl)⟩
  ·exact zB
  ·exact⟨HeapOk.box rfl rfl ⟨LeC.nils _ _,LeC.nils _ _,LeC.nils _ _,trivial⟩ rfl,trivial⟩
 subst h0;rw[if_pos rfl]at hV;by_cases h8:8<H.length
 ·rw [if_pos h8]at hV
  subst hV;have h8':(H.length:Int)>8:=by omega
  refine zJ Tryz.func10 rfl rfl Tryz.ntmps10 rfl ?_
  repeat (first
   |refine vB [0,2,4,5] ?_
   | (refine rG 1 ?_
      refine vA ?_;refine xB Tryz.func31 hC ?_;refine vA ?_;refine aB ?_))
  refine⟨zC 138 [(4,.c (.pt 4 3 0 0)),(5,.c (iC (2)))] [(4,bxP (plC (plZ)))] [4],[(4,bxP (plC (plZ)))],Wk.mk [(4,some 4)] rfl rfl rfl ?_ ?_,rfl,rfl,ARets.two (x:=.ag _) (y:=.c _) (ARes.box zA rfl rfl rfl rfl rfl rfl rfl) (ARes.tmp rfl rfl)⟩
  ·exact zB
  ·exact⟨HeapOk.box rfl rfl ⟨LeC.nils _ _,LeC.nils _ _,LeC.nils _ _,trivial⟩ rfl,trivial⟩
 rw[if_neg h8]at hV;have h8':¬(H.length:Int)>8:=by omega
 have hW0:=(zJq p hp H hH [] (Nat.zero_le _)).cv (args':= [.ag (pbC p),.c (lsH H),.c (.p (.slice none 0 0))]) ⟨.ag (zCj _),.c (Cv.refl _),.c Cv.nil,trivial⟩;have hW1:=zJq p hp H hH (zBr H.length) (by rw[zH9];omega)
 obtain⟨q0,hq0⟩:∃q,zAd p H []=q:=⟨_,rfl⟩
 obtain⟨q1,hq1⟩:∃q,zAd p H (zBr H.length)=q:=⟨_,rfl⟩
 rw[hq0]at hV hW0;rw[hq1]at hV hW1
 obtain⟨q0,e0⟩:=q0
 obtain⟨q1,e1⟩:=q1
 dsimp only at hV hW0 hW1;by_cases h0:e0=0;rotate_left
 ·rw [if_neg h0]at hV
  subst hV;refine zJ Tryz.func10 rfl rfl Tryz.ntmps10 rfl ?_
  repeat (first
   |refine vB [0,2,4,7,8] ?_
   | (refine rG 1 ?_
      refine vA ?_;refine xB Tryz.func31 hC ?_;refine vA ?_;refine aB ?_)
   | (refine rG 6 ?_
      refine xE2 ?_;refine xB Tryz.func32 hW0 ?_;refine xE6 ?_;refine aB ?_))
  refine⟨zC 138 [(4,.c (.pt 4 3 0 0)),(5,.c (iC (e0)))] [(4,bxP (plC (plZ)))] [4],[(4,bxP (plC (plZ)))],Wk.mk [(4,some 4)] rfl rfl rfl ?_ ?_,rfl,rfl,ARets.two (x:=.ag _) (y:=.c _) (ARes.box zA rfl rfl rfl rfl rfl rfl rfl) (ARes.tmp rfl rfl)⟩
  ·exact zB
  ·exact⟨HeapOk.box rfl rfl ⟨LeC.nils _ _,LeC.nils _ _,LeC.nils _ _,trivial⟩ rfl,trivial⟩
 rw[if_pos h0]at hV;subst h0;have hSn:=fun K:Nat=>fun hK:K≤H.length=>(zKT H.length xD K [] 0 (fun _=>rfl) (fun m h=>by cases h) (Nat.zero_le _) (by show 0+K≤100;omega) K (by show K=0+K;omega)).cv (args':= [.c (iC (H.length:Nat)),.c (.p (.slice none 0 0)),.c (iC (K:Nat))]) ⟨.c (Cv.refl _),.c Cv.nil,.c (Cv.refl _),trivial⟩
 obtain⟨T,hT⟩:=sets_all H.length
 have hS1:=hSn H.length (Nat.le_refl _);rw[show zAN H.length H.length [] 0=zBr H.length::T from hT]at hS1;have hc0:(fun k (_:Nat)=>lsI ((zBr H.length::T).getD k [])) 0 0=lsI (zBr H.length):=rfl;generalize zBr H.length=av at *;by_cases h1:e1=0;rotate_left
 ·rw [if_neg h1]at hV
  subst hV;refine zJ Tryz.func10 rfl rfl Tryz.ntmps10 rfl ?_
  repeat (first
   |refine vB [0,2,4,7,10,11] ?_
   | (refine rG 1 ?_
      refine vA ?_;refine xB Tryz.func31 hC ?_;refine vA ?_;refine aB ?_)
   | (refine rG 6 ?_
      refine xE2 ?_
      first|refine xB Tryz.func32 hW0 ?_|refine xB Tryz.func32 hW1 ?_
      refine xE6 ?_;refine aB ?_)
   |(refine AWp.draw (id:=9) zK ?_;refine xE6 ?_;refine xB Tryz.func33 hS1 ?_;(first|refine zG (aP (k:=0) zA) ?_|refine zI (zH (k:=0) zA) ?_);(first|refine zY zA (hc0) rfl rfl rfl rfl rfl oM ?_|refine zAp zA rfl rfl rfl rfl rfl rfl rfl oM oM (hc0) ?_);(first|refine xB Tryz.func32 hW0 ?_|refine xB Tryz.func32 hW1 ?_);refine xE6 ?_;refine aB ⟨by kernel_rfl,?_⟩))
  refine⟨zC 138 [(4,.c (.pt 4 3 0 0)),(5,.c (iC (e1)))] [(4,bxP (plC (plZ)))] [4],[(4,bxP (plC (plZ)))],Wk.mk [(4,some 4)] rfl rfl rfl ?_ ?_,rfl,rfl,ARets.two (x:=.ag _) (y:=.c _) (ARes.box zA rfl rfl rfl rfl rfl rfl rfl) (ARes.tmp rfl rfl)⟩
  ·exact zB
  ·exact⟨HeapOk.box rfl rfl ⟨LeC.nils _ _,LeC.nils _ _,LeC.nils _ _,trivial⟩ rfl,trivial⟩
 rw[if_pos h1]at hV;subst h1;have hfit:=zCE hp he;have lC:=hfit.c;refine zJ Tryz.func10 rfl rfl Tryz.ntmps10 rfl ?_
 repeat (first
  |refine vB [0,2,4,7,10,12] ?_
  | (refine rG 1 ?_
     refine vA ?_;refine xB Tryz.func31 hC ?_;refine vA ?_;refine aB ?_)
  | (refine rG 6 ?_
     refine xE2 ?_
     first|refine xB Tryz.func32 hW0 ?_|refine xB Tryz.func32 hW1 ?_
     refine xE6 ?_;refine aB ?_)
  |(refine AWp.draw (id:=9) zK ?_;refine xE6 ?_;refine xB Tryz.func33 hS1 ?_;(first|refine zG (aP (k:=0) zA) ?_|refine zI (zH (k:=0) zA) ?_);(first|refine zY zA (hc0) rfl rfl rfl rfl rfl oM ?_|refine zAp zA rfl rfl rfl rfl rfl rfl rfl oM oM (hc0) ?_);(first|refine xB Tryz.func32 hW0 ?_|refine xB Tryz.func32 hW1 ?_);refine xE6 ?_;refine aB ⟨by kernel_rfl,?_⟩))
 clear hS1 hT hc0 hq0 hq1 hW0 hW1;refine AWp.round (fun K:Nat=>
  zC 138 [(1,.c (lsH H)),(2,.c (zC4 p)),(4,.c (.pt 4 3 0 0)),(11,.c (iC (K:Nat)))] [(4,bxP zBg)] [4]
  ) (fun K=>K≤H.length+1∧(zBA H.length K).find? (zCt p H)=none) (fun K=>H.length+1-K) 0 ⟨Nat.zero_le _,rfl⟩ ?_ (fun K hK=> ?_)
 ·refine Wk.mk [(4,some 4)] rfl rfl rfl ?_ ?_
  ·repeat (first|exact trivial|refine⟨⟨_,rfl,by first|exact LeA.c (zCp rfl rfl rfl rfl)|exact leT⟩,?_⟩)
  ·exact⟨hSm,trivial⟩
 obtain⟨hK,hnoK⟩:=hK
 by_cases hKn:K≤H.length;rotate_left
 ·have hKn':¬(K:Int)≤H.length:=by omega
  obtain rfl:K=H.length+1:=by omega
  rw[hnoK]at hV;obtain rfl:(plZ,(60:Int))=V:=hV;refine vB [13,31] ?_
  refine⟨zC 138 [(4,.c (.pt 4 3 0 0)),(5,.c (iC (60)))] [(4,bxP (plC (plZ)))] [4],[(4,bxP (plC (plZ)))],Wk.mk [(4,some 4)] rfl rfl rfl ?_ ?_,rfl,rfl,ARets.two (x:=.ag _) (y:=.c _) (ARes.box zA rfl rfl rfl rfl rfl rfl rfl) (ARes.tmp rfl rfl)⟩
  ·exact zB
  ·exact⟨HeapOk.box rfl rfl ⟨LeC.nils _ _,LeC.nils _ _,LeC.nils _ _,trivial⟩ rfl,trivial⟩
 have hKn':(K:Int)≤H.length:=by omega
 have hS:=hSn K hKn
 obtain⟨all,hall⟩:∃all,zBz H.length K=all:=⟨_,rfl⟩
 rw[show zAN H.length K [] 0=all from hall]at hS;have hal:all.length≤1048576:=by rw[←hall];exact Nat.le_trans (zIz _ _ _ (Nat.zero_le _)) (zNb xD)
 clear hSn
 repeat (first
  |refine vB [13,16] ?_
  | (refine rG 15 ?_
     refine xE3 ?_;refine xB Tryz.func33 hS ?_;refine vA ?_;refine aB ?_))
 refine AWp.round (fun j:Nat=>
  zC 138 [(1,.c (lsH H)),(2,.c (zC4 p)),(4,.c (.pt 4 3 0 0)),(11,.c (iC (K:Nat))),(12,.c (lsL all)),(13,.c (iC (j:Nat)))] [(4,bxP zBg)] [4]
  ) (fun j=>j≤all.length∧∀i,i<j→zCt p H (all.getD i [])=false) (fun j=>all.length-j) 0 ⟨Nat.zero_le _,fun i h=>absurd h (Nat.not_lt_zero _)⟩ ?_ (fun j hj=> ?_)
 ·refine Wk.mk [(4,some 4)] rfl rfl rfl ?_ ?_
  ·exact zB
  ·exact⟨hSm,trivial⟩
 obtain⟨hj,hno⟩:=hj
 by_cases hja:j<all.length;rotate_left
 ·have hja':¬(j:Int)<all.length:=by omega
  obtain rfl:j=all.length:=by omega
  refine vB [14,17] ?_
  refine⟨K+1,⟨by omega,zSB hnoK (by rw[hall];exact hno)⟩,Wk.mk [(4,some 4)] rfl rfl rfl ?_ ?_,by omega⟩
  ·exact zB
  ·exact⟨hSm,trivial⟩
 have hja':(j:Int)<all.length:=by omega
 obtain⟨s,hs⟩:∃s,all.getD j []=s:=⟨_,rfl⟩
 have hsj:(fun k (_:Nat)=>lsI (all.getD k [])) j 0=lsI s:=by rw[←hs]
 have hmem:s∈zBz H.length K:=by rw[hall,←hs,List.getD_eq_getElem?_getD,List.getElem?_eq_getElem hja];exact List.getElem_mem hja
 obtain⟨hnm,hsK⟩:=zNO hmem
 have hfind:zCt p H s=true→V=zDC p H s:=fun hb=>by
  have:=zSz (n:=H.length) (k:=K) (i:=j) hKn hnoK (by rw[hall];exact hja) (by rw[hall,hs];exact hb) (by rw[hall];exact hno)
  rw[hall,hs]at this;rw[←hV,this]
  rfl
 have hnext:zCt p H s=false→∀i,i<j+1→zCt p H (all.getD i [])=false:=fun hb i hi=>by
  by_cases e:i=j
  ·rw[e,hs];exact hb
  ·exact hno i xD
 have hW:=zJq p hp H hH s xD;have hSl:=fun h:(zAd p H s).2=0=>zRE (zAd p H s).1 (by rw[(zFa h).1];exact zEl s hp hH he)
 have hql:=fun h:(zAd p H s).2=0=>show(zAd p H s).1.C.length=p.C.length+H.length by rw[(zFa h).1];show(p.C++anC H s H.length).length=_;rw[List.length_append,zEJ]
 have hhit:zCt p H s=(decide ((zAd p H s).2=0) && (decide ((zAZ (zAd p H s).1).2=0)||decide ((zAZ (zAd p H s).1).2=61))):=rfl;have hplan:zDC p H s=if (zAZ (zAd p H s).1).2=0 then (zDB p (zAZ (zAd p H s).1).1 s,0)else (plZ,61):=rfl
 generalize zAd p H s=w at *
 obtain⟨q,we⟩:=w
 dsimp only at hSl hql hW hhit hplan;have hsl:= @zNT q;generalize zAZ q=o at *
 obtain⟨c,f⟩:=o
 dsimp only at hSl hsl hhit hplan;rw[hhit]at hfind hnext;rw[hplan]at hfind;clear hhit hplan hs hno hV hnoK hmem;by_cases hw0:we=0;rotate_left
 ·have hnx:=hnext (by rw[decide_eq_false hw0];rfl)
  clear hnext hfind
  repeat (first
   |refine vB [17,18,20] ?_
   |(refine AWp.draw (id:=19) zK ?_;refine xE4 ?_;(first|refine zG (aP (k:=j) zA) ?_|refine zI (zH (k:=j) zA) ?_);(first|refine zY zA (hsj) rfl rfl rfl rfl rfl oM ?_|refine zAp zA rfl rfl rfl rfl rfl rfl rfl oM oM (hsj) ?_);refine xB Tryz.func32 hW ?_;refine xE6 ?_;refine aB ⟨by kernel_rfl,?_⟩))
  refine⟨j+1,⟨hja,hnx⟩,Wk.mk [(4,some 4)] rfl rfl rfl ?_ ?_,by omega⟩
  ·exact zB
  ·exact⟨hSm,trivial⟩
 replace hSl:=hSl hw0
 replace hql:=hql hw0
 by_cases hf0:f=0
 ·replace hfind:=hfind (by rw[decide_eq_true hw0,decide_eq_true hf0];rfl)
  rw[if_pos hf0]at hfind
  replace hsl:=hsl hf0
  clear hnext;subst hw0 hf0 hfind;have hct:(c.take p.C.length).length=0+(p.C.length-0):=by rw[List.length_take];omega
  repeat (first
   |refine vB [17,20,22,24,26] ?_
   |(refine AWp.draw (id:=19) zK ?_;refine xE4 ?_;(first|refine zG (aP (k:=j) zA) ?_|refine zI (zH (k:=j) zA) ?_);(first|refine zY zA (hsj) rfl rfl rfl rfl rfl oM ?_|refine zAp zA rfl rfl rfl rfl rfl rfl rfl oM oM (hsj) ?_);refine xB Tryz.func32 hW ?_;refine xE6 ?_;refine aB ⟨by kernel_rfl,?_⟩)
   | (refine rG 21 ?_
      refine vA ?_;refine xB Tryz.func34 hSl ?_;refine xE5 ?_;refine aB ?_)
   |(refine AWp.draw (id:=25) zK ?_;refine xE2 ?_;(first|refine zG (aP (k:=j) zA) ?_|refine zI (zH (k:=j) zA) ?_);(first|refine zY zA (hsj) rfl rfl rfl rfl rfl oM ?_|refine zAp zA rfl rfl rfl rfl rfl rfl rfl oM oM (hsj) ?_);refine xE5 ?_;refine AList.cut (l:=0) (h:=p.C.length) zA rfl rfl rfl rfl rfl rfl rfl rfl ⟨_,_,rfl,by first|rfl|omega⟩ xD xD ?_;refine zFd zA rfl rfl rfl rfl rfl rfl rfl rfl rfl rfl (hct) (fz_sub _ xD) oM oM ?_;refine xE3 ?_;refine aB ⟨by kernel_rfl,?_⟩))
  refine AWp.round (fun k:Nat=>
   zC 138 [(1,.c (lsH H)),(2,.c (zC4 p)),(4,.c (.pt 4 3 0 0)),(11,.c (iC (K:Nat))),(12,.c (lsL all)),(13,.c (iC (j:Nat))),(16,.c (lsI c)),(18,.c (.pt 18 3 0 0)),(19,.c (iC (k:Nat)))] [(4,bxP zBg),(18,bxP [lsI s,.ow 21,lsI (c.take p.C.length)]),(21,chJ (anR p.C.length c s k))] [4,18,21]
   ) (fun k=>k≤s.length) (fun k=>s.length-k) 0 (Nat.zero_le _) ?_ (fun k hk=> ?_)
  ·refine Wk.mk [(4,some 4),(18,some 18),(21,none)] rfl rfl rfl ?_ ?_
   ·exact zB
   ·exact⟨hSm,HeapOk.box rfl rfl ⟨LeC.refl _ rfl,LeC.nil _ rfl,LeC.refl _ rfl,trivial⟩ rfl,HeapOk.nil rfl rfl,trivial⟩
  by_cases hks:k<s.length
  ·have hks':(k:Int)<s.length:=by omega
   obtain⟨hv0,hv1,-⟩:=nmOk_iff.1 hnm k hks
   obtain⟨i,hi⟩:=Int.eq_ofNat_of_zero_le hv0
   have hcy:iF (fI s) k 0=iC (i:Nat):=by show iC (fI s k)=_;rw[hi]
   have hap:=zDt (anR p.C.length c s k) (fI c (p.C.length+i));have halk:(anR p.C.length c s k).length=k:=by unfold anR;rw[List.length_map,List.length_take];omega
   have h21:((21,chJ (anR p.C.length c s k)):Nat×AB).snd.n=k:=halk;have hcv:iF (fI c) (p.C.length+i) 0=iC (fI c (p.C.length+i)):=rfl
   repeat (first
    |refine vB [28] ?_
    | (refine rG 27 ?_
       refine xE3 ?_
       first|refine zG (aP (k:=j) zA) ?_|refine zI (zH (k:=j) zA) ?_
       first|refine zY zA (hsj) rfl rfl rfl rfl rfl oM ?_|refine zAp zA rfl rfl rfl rfl rfl rfl rfl oM oM (hsj) ?_
       refine xE2 ?_;refine aB ?_)
    |(refine AWp.draw (id:=29) zK ?_;refine xE8 ?_;(first|refine zG (aP (k:=j) zA) ?_|refine zI (zH (k:=j) zA) ?_);(first|refine zY zA (hsj) rfl rfl rfl rfl rfl oM ?_|refine zAp zA rfl rfl rfl rfl rfl rfl rfl oM oM (hsj) ?_);refine vA ?_;(first|refine zG (aP (k:=k) zA) ?_|refine zI (zH (k:=k) zA) ?_);(first|refine zY zA (hcy) rfl rfl rfl rfl rfl oM ?_|refine zAp zA rfl rfl rfl rfl rfl rfl rfl oM oM (hcy) ?_);refine vA ?_;(first|refine zG (aP (k:=p.C.length+i) zA) ?_|refine zI (zH (k:=p.C.length+i) zA) ?_);(first|refine zY zA (hcv) rfl rfl rfl rfl rfl oM ?_|refine zAp zA rfl rfl rfl rfl rfl rfl rfl oM oM (hcv) ?_);refine vA ?_;refine xA ?_;refine xE2 ?_;refine aB ⟨by kernel_rfl,?_⟩))
   refine⟨k+1,hks,?_,by omega⟩
   rw[zK4 hks hi];refine Wk.mk [(4,some 4),(18,some 18),(21,some 134)] rfl rfl rfl ?_ ?_
   ·exact zB
   ·exact⟨hSm,HeapOk.box rfl rfl ⟨LeC.refl _ rfl,LeC.ow _ _ rfl,LeC.refl _ rfl,trivial⟩ rfl,HeapOk.row rfl rfl List.length_append hap,trivial⟩
  have hks':¬(k:Int)<s.length:=by omega
  obtain rfl:k=s.length:=by omega
  repeat (first
   |refine vB [30] ?_
   | (refine rG 27 ?_
      refine xE3 ?_
      first|refine zG (aP (k:=j) zA) ?_|refine zI (zH (k:=j) zA) ?_
      first|refine zY zA (hsj) rfl rfl rfl rfl rfl oM ?_|refine zAp zA rfl rfl rfl rfl rfl rfl rfl oM oM (hsj) ?_
      refine xE2 ?_;refine aB ?_))
  refine⟨zC 138 [(4,.c (.pt 4 3 0 0)),(5,.c (iC 0))] [(4,bxP (plC (zDB p c s)))] [4],[(4,bxP (plC (zDB p c s)))],Wk.mk [(4,some 4)] rfl rfl rfl ?_ ?_,rfl,rfl,ARets.two (x:=.ag _) (y:=.c _) (ARes.box zA rfl rfl rfl rfl rfl rfl rfl) (ARes.tmp rfl rfl)⟩
  ·exact zB
  ·exact⟨HeapOk.box rfl rfl ⟨LeC.refl _ rfl,zZ rfl rfl (congrArg List.length anR_all.symm) (fun i _ j _=>⟨congrArg (fun l=>iF (fI l) i j) anR_all,rfl⟩),LeC.refl _ rfl,trivial⟩ rfl,trivial⟩
 by_cases hf1:f=61
 ·replace hfind:=hfind (by rw[decide_eq_true hw0,decide_eq_true hf1];simp)
  rw[if_neg hf0]at hfind;clear hnext;subst hw0 hf1 hfind
  repeat (first
   |refine vB [17,20,22,23] ?_
   |(refine AWp.draw (id:=19) zK ?_;refine xE4 ?_;(first|refine zG (aP (k:=j) zA) ?_|refine zI (zH (k:=j) zA) ?_);(first|refine zY zA (hsj) rfl rfl rfl rfl rfl oM ?_|refine zAp zA rfl rfl rfl rfl rfl rfl rfl oM oM (hsj) ?_);refine xB Tryz.func32 hW ?_;refine xE6 ?_;refine aB ⟨by kernel_rfl,?_⟩)
   | (refine rG 21 ?_
      refine vA ?_;refine xB Tryz.func34 hSl ?_;refine xE5 ?_;refine aB ?_))
  refine⟨zC 138 [(4,.c (.pt 4 3 0 0)),(5,.c (iC (61)))] [(4,bxP (plC (plZ)))] [4],[(4,bxP (plC (plZ)))],Wk.mk [(4,some 4)] rfl rfl rfl ?_ ?_,rfl,rfl,ARets.two (x:=.ag _) (y:=.c _) (ARes.box zA rfl rfl rfl rfl rfl rfl rfl) (ARes.tmp rfl rfl)⟩
  ·exact zB
  ·exact⟨HeapOk.box rfl rfl ⟨LeC.nils _ _,LeC.nils _ _,LeC.nils _ _,trivial⟩ rfl,trivial⟩
 ·have hnx:=hnext (by rw[decide_eq_false hf0,decide_eq_false hf1];simp)
  clear hnext hfind;subst hw0
  repeat (first
   |refine vB [17,18,20,22,24] ?_
   |(refine AWp.draw (id:=19) zK ?_;refine xE4 ?_;(first|refine zG (aP (k:=j) zA) ?_|refine zI (zH (k:=j) zA) ?_);(first|refine zY zA (hsj) rfl rfl rfl rfl rfl oM ?_|refine zAp zA rfl rfl rfl rfl rfl rfl rfl oM oM (hsj) ?_);refine xB Tryz.func32 hW ?_;refine xE6 ?_;refine aB ⟨by kernel_rfl,?_⟩)
   | (refine rG 21 ?_
      refine vA ?_;refine xB Tryz.func34 hSl ?_;refine xE5 ?_;refine aB ?_))
  refine⟨j+1,⟨hja,hnx⟩,Wk.mk [(4,some 4)] rfl rfl rfl ?_ ?_,by omega⟩
  ·exact zB
  ·exact⟨hSm,trivial⟩
def Cs.okM(c:Cs):Prop:=(LlOk c.P∧LlOk c.Hs)∧c.st.length≤4611686018427387904∧(-9223372036854775808≤c.o1∧c.o1≤9223372036854775807)∧-9223372036854775808≤c.l1∧c.l1≤9223372036854775807
theorem makeV_ok(p:Pb)(H:List Hg):(zBx p H).1.rp.length≤1000∧(zBx p H).1.an.length≤1000∧(zBx p H).1.ch.length≤1000:=by
 have hz:plZ.rp.length≤1000∧plZ.an.length≤1000∧plZ.ch.length≤1000:=⟨Nat.zero_le _,Nat.zero_le _,Nat.zero_le _⟩;unfold zBx;by_cases h1:zAr p=0
 ·rw [if_pos h1]
  by_cases h2:8<H.length
  ·rw[if_pos h2];exact hz
  ·rw [if_neg h2]
   by_cases h3:(zAd p H []).2=0
   ·rw [if_pos h3]
    by_cases h4:(zAd p H (zBr H.length)).2=0
    ·rw [if_pos h4]
     cases hf:(zBA H.length (H.length+1)).find? (zCt p H)with
     |none=>exact hz
     | some s=>
       have hl:=(zJO (List.mem_of_find?_eq_some hf)).2
       show(zDC p H s).1.rp.length≤_∧(zDC p H s).1.an.length≤_∧(zDC p H s).1.ch.length≤_
       unfold zDC;by_cases h5:(zAZ (zAd p H s).1).2=0
       ·rw[if_pos h5]
        have hC:p.C.length≤200:=by
         unfold zAr at h1;by_cases q:4<p.R.length∨200<p.C.length∨200<p.F.length
         ·rw[if_pos q]at h1;cases h1
         ·omega
        exact⟨by show s.length≤_;omega,by show(s.map _).length≤_;rw[List.length_map];omega,by show(List.take _ _).length≤_;rw[List.length_take];omega⟩
       ·rw[if_neg h5];exact hz
    ·rw[if_neg h4];exact hz
   ·rw[if_neg h3];exact hz
 ·rw[if_neg h1];exact hz
theorem mfacts(p:Pb)(hp:p.ok)(H:List Hg)(hH:zCB H):∃(x:Pl) (e e':Int),e=e'∧
 ACalls Tryz.prog 9 [.ag (pbC p),.c (lsH H)] (.tu [.ag (plC x),.c (iC e)])∧
 ACalls Tryz.prog 10 [.ag (pbC p),.c (lsH H)] (.tu [.ag (plC x),.c (iC e')])∧
 ACalls Tryz.prog 11 [.ag (plC x),.ag (plC x)] (.c (bC true)):=by
 obtain⟨h1,h2,h3⟩:=makeV_ok p H
 have hS:=zGy (zBx p H).1 (zBx p H).1 xD xD xD;rw[samP_iff.2 rfl]at hS
 exact⟨_,_,_,rfl,zKM p hp H hH,rMake_A p hp H hH,hS⟩
theorem ReprintMakes_A(c:Cs)(hc:c.okM)(n:Int)(hn:0≤n∧n≤255):ACalls Tryz.prog 3 [.ag (csC c),.c (.p (.int .u8 n))] (.c (bC true)):=by
 obtain⟨⟨hP,hHs⟩,hst,ho1,hl1⟩:=hc
 have hSan:=zR0;have hMd:=zQY c hP hHs
 obtain⟨sm1,-⟩:=zG9 c.P
 obtain⟨sm2,-⟩:=zG9 c.Hs
 obtain⟨sp,-⟩:=zP6 sm1
 have hHm:=zQC sm2;generalize zEq (zCH c.P)=p at *;generalize zDQ (zCH c.Hs)=H at *;clear sm1 sm2 hP hHs hst;have hHok:=hHm.bd.ok xD
 obtain⟨p',bp',hO⟩:=zOW 200 p (zR7 sp) xD xD c.o0 c.o1 c.o2 ho1
 obtain⟨H',bH',hD⟩:=zRg c H 30 hHm.bd xD hHm.1 hl1
 have hn0:0≤n:=hn.1;by_cases c0:n%4=0
 ·obtain⟨x,e,e',he,q1,q2,q3⟩:=mfacts p' (bp'.ok xD) H hHok
  refine zJ Tryz.func3 rfl rfl Tryz.ntmps3 rfl ?_
  repeat (first
   |refine vB [0,4] ?_
   | (refine rG 1 ?_
      refine xB Tryz.func5 hSan ?_;refine vA ?_;refine aB ?_)
   | (refine rG 2 ?_
      refine vA ?_;refine xB Tryz.func6 hMd ?_;refine xE6 ?_;refine aB ?_)
   | (refine rG 3 ?_
      refine vA ?_;refine zCy zHL ?_;refine aB ?_)
   | (refine rG 5 ?_
      refine xE3 ?_;refine xB Tryz.func7 hO ?_;refine vA ?_;refine aB ?_))
  repeat (first
   |refine vB [] ?_
   | (refine rG 8 ?_
      refine xE2 ?_;refine xB Tryz.func9 q1 ?_;refine xE6 ?_;refine aB ?_)
   | (refine rG 9 ?_
      refine xE2 ?_;refine xB Tryz.func10 q2 ?_;refine xE6 ?_;refine aB ?_)
   | (refine rG 10 ?_
      refine xE9 ?_
      first|refine qr2 aG ?_|refine xB Tryz.func11 q3 ?_
      refine xE2 ?_;refine aB ?_))
  refine⟨zC 54 [(4,.c (bC true))] [] [],[],Wk.mk [] rfl rfl rfl ?_ trivial,rfl,rfl,aR1⟩
  exact zB
 by_cases c1:n%4=1
 ·obtain⟨x,e,e',he,q1,q2,q3⟩:=mfacts p sp.ok H' (bH'.ok xD)
  refine zJ Tryz.func3 rfl rfl Tryz.ntmps3 rfl ?_
  repeat (first
   |refine vB [0,4,6] ?_
   | (refine rG 1 ?_
      refine xB Tryz.func5 hSan ?_;refine vA ?_;refine aB ?_)
   | (refine rG 2 ?_
      refine vA ?_;refine xB Tryz.func6 hMd ?_;refine xE6 ?_;refine aB ?_)
   | (refine rG 3 ?_
      refine vA ?_;refine zCy zHL ?_;refine aB ?_)
   | (refine rG 7 ?_
      refine xE2 ?_;refine xB Tryz.func8 hD ?_;refine vA ?_;refine aB ?_))
  repeat (first
   |refine vB [] ?_
   | (refine rG 8 ?_
      refine xE2 ?_;refine xB Tryz.func9 q1 ?_;refine xE6 ?_;refine aB ?_)
   | (refine rG 9 ?_
      refine xE2 ?_;refine xB Tryz.func10 q2 ?_;refine xE6 ?_;refine aB ?_)
   | (refine rG 10 ?_
      refine xE9 ?_
      first|refine qr2 aG ?_|refine xB Tryz.func11 q3 ?_
      refine xE2 ?_;refine aB ?_))
  refine⟨zC 54 [(4,.c (bC true))] [] [],[],Wk.mk [] rfl rfl rfl ?_ trivial,rfl,rfl,aR1⟩
  exact zB
 obtain⟨x,e,e',he,q1,q2,q3⟩:=mfacts p sp.ok H hHok
 refine zJ Tryz.func3 rfl rfl Tryz.ntmps3 rfl ?_
 repeat (first
  |refine vB [0,4,6] ?_
  | (refine rG 1 ?_
     refine xB Tryz.func5 hSan ?_;refine vA ?_;refine aB ?_)
  | (refine rG 2 ?_
     refine vA ?_;refine xB Tryz.func6 hMd ?_;refine xE6 ?_;refine aB ?_)
  | (refine rG 3 ?_
     refine vA ?_;refine zCy zHL ?_;refine aB ?_))
 repeat (first
  |refine vB [] ?_
  | (refine rG 8 ?_
     refine xE2 ?_;refine xB Tryz.func9 q1 ?_;refine xE6 ?_;refine aB ?_)
  | (refine rG 9 ?_
     refine xE2 ?_;refine xB Tryz.func10 q2 ?_;refine xE6 ?_;refine aB ?_)
  | (refine rG 10 ?_
     refine xE9 ?_
     first|refine qr2 aG ?_|refine xB Tryz.func11 q3 ?_
     refine xE2 ?_;refine aB ?_))
 refine⟨zC 54 [(4,.c (bC true))] [] [],[],Wk.mk [] rfl rfl rfl ?_ trivial,rfl,rfl,aR1⟩
 exact zB
end Go.Proofs.YtbffmfeldkjkcaaGreat
end
section
namespace Go.Proofs.YtbffmfeldkjkcaaGreat
open Go.ChangeShapes Go.WideShapes Go.ChangeAt Go.RowKit Go.Flow Go.AV
theorem wf_u8{i:Int}(h:(Lit.int .u8 i).wf=true):0≤i∧i≤255:=by
 have e1:IntKind.u8.min=0:=by decide
 have e2:IntKind.u8.max=255:=by decide
 simp[Lit.wf]at h
 omega
section
variable{H:Type}{enc:TypeId×Value→H}{W:World}
theorem opn_u8:Opn enc Tryz.prog W 5 (fun i:Int=> [.p (.int .u8 i)]) (fun i=>0≤i∧i≤255):=(Opn.int Tryz.underlying5).mono fun _ h=>wf_u8 h
end
end Go.Proofs.YtbffmfeldkjkcaaGreat
namespace Go.Proofs.YtbffmfeldkjkcaaGreat.reprintMakes
open Go.ChangeShapes Go.WideShapes Go.ChangeAt Go.RowKit Go.Flow Go.AV
theorem contract(H:Type)(enc:TypeId×Value→H)(W:World)(base:Nat)(args:Array Value)(ds gs:List (DataW H))(before:List MemPlace)
 (hval:∀(j:Nat) t v,Tryz.f3.params[j]?=some t→args[j]?=some v→Value.okWide Tryz.prog W .any base t v)
 (hW:DataW.Whole enc Tryz.prog Tryz.f3.params.toList Rows.reprintMakesSpec.vars false W args.toList ds gs before)
 (hsz:(DataW.weightsEach Tryz.prog (Tryz.f3.params.toList++(OpenSpec.ofChange Rows.reprintMakesSpec).bare.plain.varTypes Tryz.prog) (ds++gs)).all (·≤reachBytes)=true):
 Calls Tryz.prog 3 args W fun e W'=>∃v,e=.returned v∧Rows.reprintMakesSpec.post enc Tryz.prog Tryz.f3 false true false false W args v W':=by
 have hW':=hW
 obtain⟨p,q,hA0,hV,rfl,hfz,hnd⟩:=hW
 have hA:DataW.TrodAll enc Tryz.prog W 0 (fun _=>true) true Tryz.f3.params.toList args.toList ds p:=hA0;have hAk:=hA0;rw[Tryz.params3]at hA hval hsz
 obtain⟨rfl,rfl⟩:=trodVars_none hV
 obtain⟨v0,vs0,d0,ds0,p0,q0,hargs,rfl,rfl,h0,t0⟩:=trodAll_cons hA
 obtain⟨v1,vs1,d1,ds1,p1,q1,rfl,rfl,rfl,h1,t1⟩:=trodAll_cons t0
 obtain⟨rfl,rfl,rfl⟩:=trodAll_nil t1
 obtain rfl:args= #[v0,v1]:=by rw[←Array.toList_inj];exact hargs
 have hlt:=fun x hx=>hW'.lt x hx
 simp only[List.append_nil]at hW'
 rw[List.append_nil]at hsz
 obtain⟨a0,ok0,r0⟩:=opn_ca30.argS Tryz.underlying27 (hval 0 27 v0 rfl rfl) h0 (zOe hsz 0 (t:=27) (d:=d0) rfl rfl)
 obtain⟨a1,ok1,r1⟩:=opn_u8.argC (zPS Tryz.underlying5 (hval 1 5 v1 rfl rfl)) h1 (zOe hsz 1 (t:=5) (d:=d1) rfl rfl)
 refine((ECalls.of (ReprintMakes_A a0 ok0 a1 ok1)) O0 W [_,_] (fun b h=>h.elim) ⟨r0,r1,trivial⟩).mono fun e W' ⟨v,r,he,hr,hv,hE⟩=> ?_
 subst hr;obtain rfl:v=.bool true:=hv.2;subst he
 exact⟨_,rfl,zRt (pv:= []) hW' (fun _ _ _=>trodAll_cons_mk (shut_bool Tryz.underlying4 _) trodAll_mk0)
  (fun sp hsp=>zN6 zQS hE (by rw[Tryz.params3];intro t ht;simp only[List.mem_cons,List.not_mem_nil,or_false]at ht;rcases ht with rfl|rfl<;>exact⟨by kernel_rfl,of_decide_eq_true xC⟩) hAk (fun x hx=>hlt x (by rw[List.append_nil];exact hx)) sp (fun x hx=>hsp x (by simpa only[List.append_nil]using hx)))
  (fun _ _=>rfl) (by simp) hE (ok_one xC rfl (okWide_bool_mk Tryz.underlying4 _))⟩
theorem own:ownKnob Tryz.prog.godebug=none:=by kernel_rfl
theorem lifted(os:Os)(started:os.Started)(H:Type)(enc:TypeId×Value→H):
 ReturnsInHanded {} Tryz.checked os 3 .any (Rows.reprintMakesSpec.pre6 enc Tryz.prog Tryz.f3 Rows.reprintMakesRow.domain false) (Rows.reprintMakesSpec.post enc Tryz.prog Tryz.f3 false true false false):=by
 refine returnsInHanded_of_change_sized (C:=Tryz.checked) own started xC Tryz.func3
  (ChangeSpec.witness6 (enc:=enc) (C:=Tryz.checked) false ⟨#[], #[.agg #[.slice none 0 0,.slice none 0 0,.slice none 0 0,.int .i64 0,.int .i64 0,.int .i64 0,.int .i64 0,.int .i64 0],.int .u8 0],[]⟩ 8 xC xC xC xC) ?_
 intro W base args ds gs before hval hW _ hsz _;exact contract H enc W base args ds gs before hval hW hsz
theorem said:Rows.ReprintMakesSaid:=
 OpenClaim.holds_of_wide 3 Tryz.f3 rfl rfl rfl rfl rfl rfl rfl ⟨rfl,rfl,rfl,rfl,rfl⟩ rfl rfl rfl rfl rfl xC Tryz.func3 xC
  (of_decide_eq_true xC) (by unfold Func.isWrapper;first|(rw[if_pos (by decide +kernel)];kernel_rfl)|(rw[if_neg (by decide +kernel)];exact⟨rfl,rfl⟩))
  (fun os started H enc _=>lifted os started H enc)
end Go.Proofs.YtbffmfeldkjkcaaGreat.reprintMakes
end
