/- Parts of the proof: A29rb, A30zd. -/
import Derived.Test.YtbffmfeldkjkcaaGreatHA30zfr05
set_option linter.unusedSimpArgs false
set_option linter.unusedVariables false
set_option maxHeartbeats 0
set_option maxRecDepth 100000
section
namespace Go.Proofs.YtbffmfeldkjkcaaGreat
open Go.RowKit Go.Flow Go.AV Go.Plain
theorem zTM(p:Pb)(hp:p.fit)(ch:List Int)(n:Int)(h:(∃k:Nat,n = -1-(k:Int)∧k<p.F.length∧k<p.T.length)∨(∃k:Nat,n=k∧k<ch.length))(hc:ChOk p ch):
 ACalls Tryz.prog 82 [.ag (pbC p),.c (lsI ch),.c (iC n)] (.tu [.ag (bpC (obB p ch n)),.ag (bgC (obG p n))]):=by
 have lF0:=hp.f;have lC:=hp.c;have lO:=hp.o
 rcases h with ⟨k,rfl,h1,h2⟩|⟨k,rfl,h1⟩
 ·rw[obB_f.1,(obB_f (p:=p) (ch:=ch)).2]
  have hn:-1-(k:Int)<0:=by omega
  have he:-1-(-1-(k:Int))=k:=by omega
  refine zJ Tryz.func82 rfl rfl Tryz.ntmps82 rfl ?_
  repeat (first
   |refine vB [0,1] ?_
   |(refine AWp.draw (id:=2) zK ?_;refine xE4 ?_;(first|refine zG (aP (k:=k) zA) ?_|refine zI (zH (k:=k) zA) ?_);refine xE5 ?_;(first|refine zG (aP (k:=k) zA) ?_|refine zI (zH (k:=k) zA) ?_);refine xE3 ?_;refine aB ⟨by kernel_rfl,?_⟩))
  refine⟨zC 38 [(6,.c (.pt 6 3 0 0)),(7,.c (.pt 7 4 0 0))] [(6,⟨false,1,3,58,lF (bpC (p.F.getD k bpZ))⟩),(7,⟨false,1,4,61,lF (bgC (p.T.getD k bgZ))⟩)] [6,7],[(6,⟨false,1,3,58,lF (bpC (p.F.getD k bpZ))⟩),(7,⟨false,1,4,61,lF (bgC (p.T.getD k bgZ))⟩)],Wk.mk [(6,some 6),(7,some 7)] rfl rfl rfl ?_ ?_,rfl,rfl,ARets.two (x:=.ag _) (y:=.ag _) (ARes.box zA rfl rfl rfl rfl rfl rfl rfl) (ARes.box zA rfl rfl rfl rfl rfl rfl rfl)⟩
  ·exact zB
  ·exact zAf
 ·obtain⟨c,h2,h3,h4,h5⟩:=hc.at h1
  rw[(zMZ h2).1,(zMZ (p:=p) (ch:=ch) h2).2];have hL32:=hp.l _ (zAB (L:=p.C) (k:=k) (z:= []) h3);have hn:¬(k:Int)<0:=by omega
  have hcF:chF p.C k 0=lsB (p.C.getD k []):=rfl;have hcc:iF (fI ch) k 0=iC (c:Nat):=congrArg iC h2;refine zJ Tryz.func82 rfl rfl Tryz.ntmps82 rfl ?_
  repeat (first
   |refine vB [0,1] ?_
   |(refine AWp.draw (id:=3) zK ?_;refine xE3 ?_;(first|refine zG (aP (k:=k) zA) ?_|refine zI (zH (k:=k) zA) ?_);(first|refine zY zA (hcF) rfl rfl rfl rfl rfl oM ?_|refine zAp zA rfl rfl rfl rfl rfl rfl rfl oM oM (hcF) ?_);refine xE2 ?_;(first|refine zG (aP (k:=k) zA) ?_|refine zI (zH (k:=k) zA) ?_);(first|refine zY zA (hcc) rfl rfl rfl rfl rfl oM ?_|refine zAp zA rfl rfl rfl rfl rfl rfl rfl oM oM (hcc) ?_);(first|refine zG (aP (k:=c) zA) ?_|refine zI (zH (k:=c) zA) ?_);refine xE4 ?_;(first|refine zG (aP (k:=k) zA) ?_|refine zI (zH (k:=k) zA) ?_);refine xE3 ?_;refine aB ⟨by kernel_rfl,?_⟩))
  refine⟨zC 38 [(6,.c (.pt 6 3 0 0)),(7,.c (.pt 7 4 0 0))] [(6,⟨false,1,3,58,lF (bpC ((p.C.getD k []).getD c bpZ))⟩),(7,⟨false,1,4,61,lF (bgC (p.O.getD k bgZ))⟩)] [6,7],[(6,⟨false,1,3,58,lF (bpC ((p.C.getD k []).getD c bpZ))⟩),(7,⟨false,1,4,61,lF (bgC (p.O.getD k bgZ))⟩)],Wk.mk [(6,some 6),(7,some 7)] rfl rfl rfl ?_ ?_,rfl,rfl,ARets.two (x:=.ag _) (y:=.ag _) (ARes.box zA rfl rfl rfl rfl rfl rfl rfl) (ARes.box zA rfl rfl rfl rfl rfl rfl rfl)⟩
  ·exact zB
  ·exact zAf
theorem zTG{p:Pb}{k:Nat}(h:k<p.F.length):obN p k = -1-(k:Int):=if_pos h
theorem obN_hi{p:Pb}{k:Nat}:obN p (p.F.length+k)=(k:Int):=by
 unfold obN;rw[if_neg xD]
 omega
theorem zTo(p:Pb)(n:Nat){v:Int}(h:v=obN p n):∀i,i<n+1→∀j,j<1→zAj (iF (obN p)) n (sF [iC v] 1) i j=iF (obN p) i j∧zM (zAj (iF (obN p)) n (sF [iC v] 1) i j)=true:=by
 subst h;exact zFt (G:=iF (obN p)) (fun i _ j _=>rfl) (zAa rfl) (fun _ _ _ _=>rfl)
theorem zTL(p:Pb)(i:Nat)(hF:p.F.length≤1000)(hi:i≤1000):ACalls Tryz.prog 81 [.ag (pbC p),.c (iC i)] (.c (.ls (p.F.length+i) 1 (iF (obN p)))):=by
 refine zJ Tryz.func81 rfl rfl Tryz.ntmps81 rfl ?_;refine vB [0,1,2] ?_;refine AWp.round (fun k:Nat=>zC 30 [(1,.c (iC i)),(2,.c (.pt 2 5 0 0)),(5,.c (.ow 20)),(6,.c (iC (k:Nat)))] [(2,pS9 p),(20,zAc k (obN p))] [2,20]) (fun k=>k≤p.F.length) (fun k=>p.F.length-k) 0 (Nat.zero_le _) ?_ (fun k hk=> ?_)
 ·refine Wk.mk [(2,some 2),(20,none)] rfl rfl rfl ?_ ?_
  ·exact zB
  ·exact⟨hSm,HeapOk.nil rfl rfl,trivial⟩
 by_cases hkl:k<p.F.length
 ·have hkl':(k:Int)<p.F.length:=by omega
  repeat (first
   |refine vB [3,4] ?_
   | (refine rG 5 ?_
      refine xE4 ?_;refine xA ?_;refine vA ?_;refine aB ?_))
  refine⟨k+1,hkl,Wk.mk [(2,some 2),(20,some 19)] rfl rfl rfl ?_ ?_,by omega⟩
  ·exact zB
  ·exact⟨hSm,HeapOk.row rfl rfl rfl (zTo p k (zTG hkl).symm),trivial⟩
 have hkl':¬(k:Int)<p.F.length:=by omega
 obtain rfl:k=p.F.length:=by omega
 refine vB [3,6] ?_;refine AWp.round (fun k:Nat=>zC 30 [(1,.c (iC i)),(5,.c (.ow 20)),(7,.c (iC (k:Nat)))] [(20,zAc (p.F.length+k) (obN p))] [20]) (fun k=>k≤i) (fun k=>i-k) 0 (Nat.zero_le _) ?_ (fun k hk=> ?_)
 ·refine Wk.mk [(20,some 20)] rfl rfl rfl ?_ ?_
  ·exact zB
  ·exact⟨HeapOk.row rfl rfl rfl (fun i _ j _=>⟨rfl,rfl⟩),trivial⟩
 by_cases hkl:k<i
 ·have hkl':(k:Int)<i:=by omega
  have hn20:((20,zAc (p.F.length+k) (obN p)):Nat×AB).snd.n=p.F.length+k:=rfl
  repeat (first
   |refine vB [7,8] ?_
   | (refine rG 9 ?_
      refine xE3 ?_;refine xA ?_;refine vA ?_;refine aB ?_))
  refine⟨k+1,hkl,Wk.mk [(20,some 28)] rfl rfl rfl ?_ ?_,by omega⟩
  ·exact zB
  ·exact⟨HeapOk.row rfl rfl rfl (zTo p (p.F.length+k) obN_hi.symm),trivial⟩
 have hkl':¬(k:Int)<i:=by omega
 obtain rfl:k=i:=by omega
 refine vB [7,10] ?_
 refine⟨zC 30 [(4,.c (.ls (p.F.length+k) 1 (iF (obN p))))] [] [],[],Wk.mk [] rfl rfl rfl ?_ trivial,rfl,rfl,aR1⟩
 exact⟨⟨_,rfl,.c (zZ rfl rfl rfl (fun i _ j _=>⟨rfl,rfl⟩))⟩,trivial⟩
def sK(p:Pb)(ch:List Int)(c k:Nat):Stp:=zRl p ch c ((List.range k).find? fun j=>(zDn p ch c j).2.2)
theorem zTe{p:Pb}{ch:List Int}{c k:Nat}(h:(sK p ch c k).dp=true):sK p ch c k=zDw ch.length c∧(List.range k).find? (fun j=>(zDn p ch c j).2.2)=none:=by
 unfold sK at h⊢
 cases hf:(List.range k).find? fun j=>(zDn p ch c j).2.2 with
 |none=>exact⟨rfl,rfl⟩
 |some j=>rw[hf]at h;cases h
theorem zTP{p:Pb}{ch:List Int}{c k:Nat}(h:(sK p ch c k).dp=true)(ht:(zDn p ch c k).2.2=true):sK p ch c (k+1)=⟨ch.length,c,obN p k,(zDn p ch c k).1,false,(zDn p ch c k).2.1⟩:=by
 unfold sK;rw[List.range_succ,List.find?_append,(zTe h).2,List.find?_cons,ht]
 rfl
theorem zTQ{p:Pb}{ch:List Int}{c k:Nat}(h:(sK p ch c k).dp=true)(ht:(zDn p ch c k).2.2=false):sK p ch c (k+1)=zDw ch.length c:=by
 unfold sK;rw[List.range_succ,List.find?_append,(zTe h).2,List.find?_cons,ht]
 rfl
theorem zTO{p:Pb}{ch:List Int}{c k:Nat}(h:(sK p ch c k).dp=false):∀{n:Nat},k≤n→sK p ch c n=sK p ch c k:=fun {n} hn=>by
 unfold sK at h⊢
 cases hf:(List.range k).find? fun j=>(zDn p ch c j).2.2 with
 |none=>rw[hf]at h;cases h
 | some j=>
   obtain⟨r,hr⟩:∃r,List.range n=List.range k++r:=⟨(List.range (n-k)).map (k+ ·),by rw[←List.range_add];congr 1;omega⟩
   rw[hr,List.find?_append,hf]
   rfl
theorem zTt{m:Nat}(h:m≤5):stT m≤20000:=by
 have:m=0∨m=1∨m=2∨m=3∨m=4∨m=5:=by omega
 rcases this with h|h|h|h|h|h<;>rw[h]<;>decide
abbrev bxS(s:Stp):AB:=⟨false,1,8,68,lF (stC s)⟩
theorem zTr(p:Pb)(hp:p.fit)(hc5:p.C.length≤5)(hl4:∀l∈p.C,l.length≤4):∀(m:Nat) (ch:List Int),ch.length+m=p.C.length→ChOk p ch→ACalls Tryz.prog 68 [.ag (pbC p),.c (lsI ch)] (.c (zC2 (zBV p m ch)))
 | 0,ch,hm,_=>by
   have hm':(ch.length:Int)=p.C.length:=by omega
   show ACalls _ _ _ (.c (zC2 []));refine zJ Tryz.func68 rfl rfl Tryz.ntmps68 rfl ?_;refine vB [0,1,2,3] ?_
   refine⟨zC 107 [(4,.c (zC2 []))] [] [],[],Wk.mk [] rfl rfl rfl ?_ trivial,rfl,rfl,aR1⟩
   exact zB
 | m + 1, ch,hm,hch=>by
   have hm':¬(ch.length:Int)=p.C.length:=by omega
   have hlF:=hp.f;have hlO:=hp.o;have hN:=zTL p ch.length xD xD
   obtain⟨L,hL⟩:∃L,p.C.getD ch.length []=L:=⟨_,rfl⟩
   have hcL:chF p.C ch.length 0=lsB L:=by rw[←hL]
   have hL4:L.length≤4:=by rw[←hL];exact hl4 _ (zAB xD)
   have hwl:=zTt (m:=m+1) xD;have hwN:∀c,c≤L.length→(zBU p m ch c).length≤20000:=fun c hc=>by
    have h1:=zTa hl4 (m+1) ch;have h2:zBV p (m+1) ch=zBU p m ch L.length:=by unfold zBU;rw[←hL];rfl
    rw[h2]at h1;have:=zOb (p:=p) (m:=m) (ch:=ch) hc
    omega
   rw[show zBV p (m+1) ch=zBU p m ch L.length by unfold zBU;rw[←hL];rfl]
   refine zJ Tryz.func68 rfl rfl Tryz.ntmps68 rfl ?_
   repeat (first
    |refine vB [0,1,2,4,6] ?_
    | (refine rG 5 ?_
       refine xE2 ?_;refine xB Tryz.func81 hN ?_;refine vA ?_;refine aB ?_))
   refine AWp.round (fun c:Nat=>zC 107 [
    (1,.c (lsI ch)),(2,.c (.pt 2 5 0 0)),(5,.c (iC ch.length)),(6,.c (.ow 200)),(7,.c (.ls (p.F.length+ch.length) 1 (iF (obN p)))),(8,.c (iC (c:Nat)))
    ] [(2,pS9 p),(200,stR (zBU p m ch c))] [2,200]) (fun c=>c≤L.length) (fun c=>L.length-c) 0 (Nat.zero_le _) ?_ (fun c hc=> ?_)
   ·refine Wk.mk [(2,some 2),(200,none)] rfl rfl rfl ?_ ?_
    ·exact zB
    ·exact⟨hSm,HeapOk.nil rfl rfl,trivial⟩
   have hwc:=hwN c hc;have h200:((200,stR (zBU p m ch c)):Nat×AB).snd.n=(zBU p m ch c).length:=rfl;by_cases hcl:c<L.length;rotate_left
   ·obtain rfl:c=L.length:=by omega
    have hcl':¬((L.length:Nat):Int)<L.length:=by omega
    repeat (first
     |refine vB [20] ?_
     | (refine rG 7 ?_
        refine xE4 ?_
        first|refine zG (aP (k:=ch.length) zA) ?_|refine zI (zH (k:=ch.length) zA) ?_
        first|refine zY zA (hcL) rfl rfl rfl rfl rfl oM ?_|refine zAp zA rfl rfl rfl rfl rfl rfl rfl oM oM (hcL) ?_
        refine xE2 ?_;refine aB ?_))
    refine⟨zC 107 [(4,.c (zC2 (zBU p m ch L.length)))] [] [],[],Wk.mk [] rfl rfl rfl ?_ trivial,rfl,rfl,aR1⟩
    exact⟨⟨_,rfl,.c (zZ rfl rfl rfl (fun i _ j _=>⟨rfl,zL zCL _ i j⟩))⟩,trivial⟩
   have hcl':(c:Int)<L.length:=by omega
   have hsV:zCd p ch c=sK p ch c (p.F.length+ch.length):=rfl
   repeat (first
    |refine vB [9,10] ?_
    | (refine rG 7 ?_
       refine xE4 ?_
       first|refine zG (aP (k:=ch.length) zA) ?_|refine zI (zH (k:=ch.length) zA) ?_
       first|refine zY zA (hcL) rfl rfl rfl rfl rfl oM ?_|refine zAp zA rfl rfl rfl rfl rfl rfl rfl oM oM (hcL) ?_
       refine xE2 ?_;refine aB ?_))
   refine AWp.round (fun k:Nat=>
    zC 107 [
    (1,.c (lsI ch)),(2,.c (.pt 2 5 0 0)),(5,.c (iC ch.length)),(6,.c (.ow 200)),(7,.c (.ls (p.F.length+ch.length) 1 (iF (obN p)))),(8,.c (iC (c:Nat)))
    ,(9,.c (.pt 9 8 0 0)),(10,.c (iC ((k:Nat))))
    ] [(2,pS9 p),(9,bxS (sK p ch c k)),(200,stR (zBU p m ch c))] [2,9,200]
    ) (fun k=>k≤p.F.length+ch.length) (fun k=>p.F.length+ch.length-k) 0 (Nat.zero_le _) ?_ (fun k hk=> ?_)
   ·refine Wk.mk [(2,some 2),(9,some 9),(200,some 200)] rfl rfl rfl ?_ ?_
    ·exact zB
    ·exact⟨hSm,hSm,hrF zCL,trivial⟩
   have hend:= @zTO p ch c k;have hhit:= @zTP p ch c k;have hmiss:= @zTQ p ch c k;have hdp:= @zTe p ch c k;by_cases hkn:k<p.F.length+ch.length;rotate_left
   ·obtain rfl:k=p.F.length+ch.length:=by omega
    have hkn':¬((p.F.length+ch.length:Nat):Int)<((p.F.length+ch.length:Nat):Int):=by omega
    rw[←hsV];rw[←hsV]at hdp;clear hend hhit hmiss
    obtain⟨s,hs⟩:∃s,zCd p ch c=s:=⟨_,rfl⟩
    rw[hs]at hdp⊢
    cases hd:s.dp with
    | true=>
      obtain rfl:=(hdp hd).1;have hW:=zTr p hp hc5 hl4 m (ch++ [(c:Int)]) (by rw[List.length_append,List.length_singleton];omega) (hch.snoc (hp.pk xD (by rw[hL];exact hcl)))
      have hwm:=zTa hl4 m (ch++ [(c:Int)]);have hwm5:=zTt (m:=m) xD;generalize hWv:zBV p m (ch++ [(c:Int)])=W at *;have hA1:(zBU p m ch c++ [zDw ch.length c]).length≤20001:=by rw[List.length_append,List.length_singleton];omega
      repeat (first
       |refine vB [11,18] ?_
       | (refine rG 17 ?_
          refine xE3 ?_;refine xA ?_;refine vA ?_;refine aB ?_))
      refine AWp.weak (S':=zC 107 [
       (1,.c (lsI ch)),(2,.c (.pt 2 5 0 0)),(5,.c (iC ch.length)),(6,.c (.ow 200)),(7,.c (.ls (p.F.length+ch.length) 1 (iF (obN p)))),(8,.c (iC (c:Nat)))
       ] [(2,pS9 p),(200,stR (zBU p m ch c++ [zDw ch.length c]))] [2,200]) (Wk.mk [(2,some 2),(200,some 93)] rfl rfl rfl ?_ ?_) ?_
      ·exact zB
      ·exact⟨hSm,HeapOk.row rfl rfl (by rw[List.length_append];rfl) (zBh (c:=stC) (z:=stZ) (zBU p m ch c) _ zCL rfl),trivial⟩
      have h201:((200,stR (zBU p m ch c++ [zDw ch.length c])):Nat×AB).snd.n=(zBU p m ch c++ [zDw ch.length c]).length:=rfl
      repeat (first
       |refine vB [] ?_
       |(refine AWp.draw (id:=19) zK ?_;refine xE4 ?_;refine xA ?_;refine xE2 ?_;refine zFd zA rfl rfl rfl rfl rfl rfl rfl rfl rfl rfl (@List.length_append _ ch [(c:Int)]) (zDt ch c) oM oM ?_;refine xB Tryz.func68 hW ?_;refine xA ?_;refine vA ?_;refine aB ⟨by kernel_rfl,?_⟩))
      refine vB [8] ?_
      refine⟨c+1,hcl,Wk.mk [(2,some 2),(200,some 105)] rfl rfl rfl ?_ ?_,by omega⟩
      ·exact zB
      ·rw[zOc]
       unfold zOa
       (rw[hs,if_pos rfl,hWv,show zBU p m ch c++zDw ch.length c::W=(zBU p m ch c++ [zDw ch.length c])++W by simp];exact⟨hSm,HeapOk.row rfl rfl List.length_append (fun i _ j _=>⟨zTq _ _ i j,by rw[zTq];exact zL zCL _ i j⟩),trivial⟩)
    | false=>
      obtain⟨nm,sc,wi,rd,dp,cl⟩:=s
      obtain rfl:dp=false:=hd;refine vB [11] ?_
      repeat (first
       |refine vB [8,18] ?_
       | (refine rG 17 ?_
          refine xE3 ?_;refine xA ?_;refine vA ?_;refine aB ?_))
      refine⟨c+1,hcl,Wk.mk [(2,some 2),(200,some 93)] rfl rfl rfl ?_ ?_,by omega⟩
      ·exact zB
      ·rw[zOc]
       unfold zOa
       (rw[hs,if_neg (by simp)];exact⟨hSm,HeapOk.row rfl rfl (by rw[List.length_append];rfl) (zBh (c:=stC) (z:=stZ) (zBU p m ch c) _ zCL rfl),trivial⟩)
   have hkn':(k:Int)<((p.F.length+ch.length:Nat):Int):=by omega
   cases hd:(sK p ch c k).dp with
   | false=>
     have hs:=(hend hd (Nat.le_of_lt hkn)).symm.trans hsV.symm;rw[hs]at hd;rw[hs];clear hend hhit hmiss hdp;generalize hsg:zCd p ch c=s at *
     obtain⟨nm,sc,wi,rd,dp,cl⟩:=s
     obtain rfl:dp=false:=hd
     repeat (first
      |refine vB [8,11,18] ?_
      | (refine rG 17 ?_
         refine xE3 ?_;refine xA ?_;refine vA ?_;refine aB ?_))
     refine⟨c+1,hcl,Wk.mk [(2,some 2),(200,some 93)] rfl rfl rfl ?_ ?_,by omega⟩
     ·exact zB
     ·rw[zOc]
      unfold zOa
      (rw[hsg,if_neg (by simp)];exact⟨hSm,HeapOk.row rfl rfl (by rw[List.length_append];rfl) (zBh (c:=stC) (z:=stZ) (zBU p m ch c) _ zCL rfl),trivial⟩)
   | true=>
     rw[(hdp hd).1];have hOb:=zTM p hp ch (obN p k) (zRd hp hch hkn) hch;have hCl:ACalls Tryz.prog 83 [.ag (pbC p),.ag (bpC ((p.C.getD ch.length []).getD c bpZ)),.ag (bpC (obB p ch (obN p k))),.ag (bgC (p.O.getD ch.length bgZ)),.ag (bgC (obG p (obN p k)))] (.tu [.c (iC (zDn p ch c k).1),.ag (clC (zDn p ch c k).2.1),.c (bC (zDn p ch c k).2.2)]):=zNe p _ _ _ _ (by have:=hp.ok.lR;omega) hp.ok.rd
     rw[hL]at hCl;clear hend hdp hsV;generalize zDn p ch c k=o at *
     obtain⟨rd,cl,bb⟩:=o
     dsimp only at hCl hhit hmiss
     cases bb with
     | true=>
       repeat (first
        |refine vB [11,15] ?_
        |(refine AWp.draw (id:=13) zK ?_;refine xE4 ?_;(first|refine zG (aP (k:=k) zA) ?_|refine zI (zH (k:=k) zA) ?_);refine vA ?_;refine xB Tryz.func82 hOb ?_;refine xE7 ?_;refine aB ⟨by kernel_rfl,?_⟩)
        |(refine AWp.draw (id:=14) zK ?_;refine xE4 ?_;(first|refine zG (aP (k:=ch.length) zA) ?_|refine zI (zH (k:=ch.length) zA) ?_);(first|refine zY zA (hcL) rfl rfl rfl rfl rfl oM ?_|refine zAp zA rfl rfl rfl rfl rfl rfl rfl oM oM (hcL) ?_);refine vA ?_;(first|refine zG (aP (k:=c) zA) ?_|refine zI (zH (k:=c) zA) ?_);refine xE5 ?_;(first|refine zG (aP (k:=ch.length) zA) ?_|refine zI (zH (k:=ch.length) zA) ?_);refine xE2 ?_;refine xB Tryz.func83 hCl ?_;refine xE8 ?_;refine aB ⟨by kernel_rfl,?_⟩))
       repeat (first
        |refine vB [12] ?_
        |(refine AWp.draw (id:=16) zK ?_;refine xE4 ?_;(first|refine zG (aP (k:=k) zA) ?_|refine zI (zH (k:=k) zA) ?_);refine xE5 ?_;refine aB ⟨by kernel_rfl,?_⟩))
       refine⟨k+1,hkn,Wk.mk [(2,some 2),(9,some 9),(200,some 200)] rfl rfl rfl ?_ ?_,by omega⟩
       ·exact zB
       ·rw[hhit hd rfl]
        exact⟨hSm,hSm,hrF zCL,trivial⟩
     | false=>
       repeat (first
        |refine vB [11,12,15] ?_
        |(refine AWp.draw (id:=13) zK ?_;refine xE4 ?_;(first|refine zG (aP (k:=k) zA) ?_|refine zI (zH (k:=k) zA) ?_);refine vA ?_;refine xB Tryz.func82 hOb ?_;refine xE7 ?_;refine aB ⟨by kernel_rfl,?_⟩)
        |(refine AWp.draw (id:=14) zK ?_;refine xE4 ?_;(first|refine zG (aP (k:=ch.length) zA) ?_|refine zI (zH (k:=ch.length) zA) ?_);(first|refine zY zA (hcL) rfl rfl rfl rfl rfl oM ?_|refine zAp zA rfl rfl rfl rfl rfl rfl rfl oM oM (hcL) ?_);refine vA ?_;(first|refine zG (aP (k:=c) zA) ?_|refine zI (zH (k:=c) zA) ?_);refine xE5 ?_;(first|refine zG (aP (k:=ch.length) zA) ?_|refine zI (zH (k:=ch.length) zA) ?_);refine xE2 ?_;refine xB Tryz.func83 hCl ?_;refine xE8 ?_;refine aB ⟨by kernel_rfl,?_⟩))
       refine⟨k+1,hkn,Wk.mk [(2,some 2),(9,some 9),(200,some 200)] rfl rfl rfl ?_ ?_,by omega⟩
       ·exact zB
       ·rw[hmiss hd rfl]
        exact⟨hSm,hSm,hrF zCL,trivial⟩
theorem zTJ(p:Pb)(hp:p.ok)(hs:zAr p=0→Sm p):ACalls Tryz.prog 39 [.ag (pbC p)] (.tu [.c (zC2 (zEB p).1),.c (iC (zEB p).2)]):=by
 have hC:=zHk p hp;have hU:=zTN p hp;unfold zEB
 obtain⟨e,he⟩:∃e,zAr p=e:=⟨_,rfl⟩
 rw[he]at hC⊢;by_cases h0:e=0;rotate_left
 ·rw [if_neg h0]
  refine zJ Tryz.func39 rfl rfl Tryz.ntmps39 rfl ?_
  repeat (first
   |refine vB [0,2,3] ?_
   | (refine rG 1 ?_
      refine vA ?_;refine xB Tryz.func31 hC ?_;refine vA ?_;refine aB ?_))
  refine⟨zC 17 [(2,.c (zC2 ([]))),(3,.c (iC (e)))] [] [],[],Wk.mk [] rfl rfl rfl ?_ trivial,rfl,rfl,ARets.two (x:=.c _) (y:=.c _) (ARes.tmp rfl rfl) (ARes.tmp rfl rfl)⟩
  exact zB
 subst h0;have sp:=hs he;rw[if_pos rfl];generalize zEE p=u at *;by_cases hu:u=0
 ·rw [if_pos hu]
  subst hu;have hW:=(zTr p sp.fit sp.C (fun l hl=>(sp.Cc l hl).1) p.C.length [] (Nat.zero_add _) (fun k hk=>absurd hk (Nat.not_lt_zero _))).cv (args':= [.ag (pbC p),.c (.p (.slice none 0 0))]) ⟨.ag (zCj _),.c Cv.nil,trivial⟩;refine zJ Tryz.func39 rfl rfl Tryz.ntmps39 rfl ?_
  repeat (first
   |refine vB [0,2,5] ?_
   | (refine rG 1 ?_
      refine vA ?_;refine xB Tryz.func31 hC ?_;refine vA ?_;refine aB ?_)
   | (refine rG 4 ?_
      refine vA ?_;refine xB Tryz.func67 hU ?_;refine vA ?_;refine aB ?_)
   | (refine rG 7 ?_
      refine vA ?_;refine xB Tryz.func68 hW ?_;refine xE2 ?_;refine aB ?_))
  refine⟨zC 17 [(2,.c (zC2 (zBV p p.C.length []))),(3,.c (iC (0)))] [] [],[],Wk.mk [] rfl rfl rfl ?_ trivial,rfl,rfl,ARets.two (x:=.c _) (y:=.c _) (ARes.tmp rfl rfl) (ARes.tmp rfl rfl)⟩
  exact zB
 ·rw [if_neg hu]
  refine zJ Tryz.func39 rfl rfl Tryz.ntmps39 rfl ?_
  repeat (first
   |refine vB [0,2,5,6] ?_
   | (refine rG 1 ?_
      refine vA ?_;refine xB Tryz.func31 hC ?_;refine vA ?_;refine aB ?_)
   | (refine rG 4 ?_
      refine vA ?_;refine xB Tryz.func67 hU ?_;refine vA ?_;refine aB ?_))
  refine⟨zC 17 [(2,.c (zC2 ([]))),(3,.c (iC (u)))] [] [],[],Wk.mk [] rfl rfl rfl ?_ trivial,rfl,rfl,ARets.two (x:=.c _) (y:=.c _) (ARes.tmp rfl rfl) (ARes.tmp rfl rfl)⟩
  exact zB
theorem zS9{n:Nat}{ns:List Int}(h:zA9 n ns=true){i:Nat}:∀{j:Nat},i<j→j<ns.length→fI ns i<fI ns j
 |0,h0,_=>absurd h0 (Nat.not_lt_zero _)
 | j+1,h0,h1=>by
   have h2:=(nmOk_iff.1 h (j+1) h1).2.2 (Nat.succ_pos _);rw[Nat.add_sub_cancel]at h2;by_cases e:i=j
   ·rw[e];exact h2
   ·exact Int.lt_trans (zS9 h (show i<j by omega) xD) h2
theorem zTv{n m:Nat}{x:Pl}(hn:zA9 n x.rp=true){a:Nat}:∀k,a<k→k≤x.rp.length→wrF m x k (m+(fI x.rp a).toNat)=fI x.an a
 |0,h,_=>absurd h (Nat.not_lt_zero _)
 | k+1,h,hk=>by
   show(if m+(fI x.rp a).toNat=m+(fI x.rp k).toNat then fI x.an k else wrF m x k (m+(fI x.rp a).toNat))=_
   by_cases e:a=k
   ·subst e;rw[if_pos rfl]
   ·have h1:=zS9 hn (show a<k by omega) hk
    have h2:=(nmOk_iff.1 hn a xD).1;rw[if_neg xD];exact zTv hn k xD xD
theorem zTh{m:Nat}{x:Pl}:∀k j,(∀i,i<k→j≠m+(fI x.rp i).toNat)→wrF m x k j=fI x.ch j
 |0,_,_=>rfl
 | k+1,j,h=>by
   show(if j=m+(fI x.rp k).toNat then fI x.an k else wrF m x k j)=_
   rw[if_neg (h k (Nat.lt_succ_self k))];exact zTh k j fun i hi=>h i xD
theorem zTz{W:Nat→Int}{n:Nat}{v:Int}(hv:W n=v):∀i,i<n+1→∀j,j<1→zAj (iF W) n (sF [iC v] 1) i j=iF W i j∧zM (zAj (iF W) n (sF [iC v] 1) i j)=true:=
 zFt (G:=iF W) (fun _ _ _ _=>rfl) (zAa (by show iC v=iC (W n);rw[hv])) (fun _ _ _ _=>rfl)
theorem zTp(p:Pb)(hp:p.ok)(H:List Hg)(hH:zCB H)(x:Pl)(hx:zKO x):ACalls Tryz.prog 16 [.ag (pbC p),.c (lsH H),.ag (plC x)] (.c (bC (zEr p H x))):=by
 obtain⟨hx1,hx2,hx3⟩:=hx
 have hW:=zJq p hp H hH x.rp hx1;have hwc:= @zFa p H x.rp
 obtain⟨V,hV⟩:∃V,zEr p H x=V:=⟨_,rfl⟩
 rw[hV];unfold zEr at hV;have hok:=fun h:(zAd p H x.rp).2=0=>show(zAd p H x.rp).1.ok by rw[(hwc h).1];exact zEl x.rp hp hH (hwc h).2.1
 have hfit:=fun h:(zAd p H x.rp).2=0=>zCE hp (hwc h).2.1
 have hnm:=fun h:(zAd p H x.rp).2=0=>(hwc h).2.2.1
 clear hwc;have lH:=hH.1;generalize zAd p H x.rp=w at *
 obtain⟨q,e⟩:=w
 dsimp only at hW hV hok hfit hnm;by_cases h0:e=0;rotate_left
 ·rw [if_neg (fun h=>h0 h.1.1)]at hV
  subst hV;refine zJ Tryz.func16 rfl rfl Tryz.ntmps16 rfl ?_
  repeat (first
   |refine vB [0,2,3] ?_
   | (refine rG 1 ?_
      refine xE4 ?_;refine xB Tryz.func32 hW ?_;refine xE6 ?_;refine aB ?_))
  refine⟨zC 69 [(6,.c (bC false))] [] [],[],Wk.mk [] rfl rfl rfl ?_ trivial,rfl,rfl,aR1⟩
  exact zB
 by_cases h1:x.ch.length=p.C.length;rotate_left
 ·rw [if_neg (fun h=>h1 h.1.2)]at hV
  subst hV;have h1':¬(x.ch.length:Int)=p.C.length:=by omega
  refine zJ Tryz.func16 rfl rfl Tryz.ntmps16 rfl ?_
  repeat (first
   |refine vB [0,2,3] ?_
   | (refine rG 1 ?_
      refine xE4 ?_;refine xB Tryz.func32 hW ?_;refine xE6 ?_;refine aB ?_))
  refine⟨zC 69 [(6,.c (bC false))] [] [],[],Wk.mk [] rfl rfl rfl ?_ trivial,rfl,rfl,aR1⟩
  exact zB
 by_cases h2:x.an.length=x.rp.length;rotate_left
 ·rw [if_neg (fun h=>h2 h.2)]at hV
  subst hV;have h1':(x.ch.length:Int)=p.C.length:=by omega
  have h2':¬(x.an.length:Int)=x.rp.length:=by omega
  refine zJ Tryz.func16 rfl rfl Tryz.ntmps16 rfl ?_
  repeat (first
   |refine vB [0,2,3] ?_
   | (refine rG 1 ?_
      refine xE4 ?_;refine xB Tryz.func32 hW ?_;refine xE6 ?_;refine aB ?_))
  refine⟨zC 69 [(6,.c (bC false))] [] [],[],Wk.mk [] rfl rfl rfl ?_ trivial,rfl,rfl,aR1⟩
  exact zB
 rw[if_pos ⟨⟨h0,h1⟩,h2⟩]at hV;have h1':(x.ch.length:Int)=p.C.length:=by omega
 have h2':(x.an.length:Int)=x.rp.length:=by omega
 have hok:=hok h0;have lC:=(hfit h0).c;have hnm:=hnm h0;have hHd:=zTH q hok (p.C.length+H.length) (wrF p.C.length x x.rp.length) xD;rw[hV]at hHd;have hrc:lF (plC x) 0 0=lsI x.rp:=rfl;have hac:lF (plC x) 0 1=lsI x.an:=rfl;refine zJ Tryz.func16 rfl rfl Tryz.ntmps16 rfl ?_
 repeat (first
  |refine vB [0,2,5,6] ?_
  | (refine rG 1 ?_
     refine xE4 ?_;refine xB Tryz.func32 hW ?_;refine xE6 ?_;refine aB ?_)
  | (refine rG 4 ?_
     refine xE3 ?_;refine xA ?_;refine vA ?_;refine aB ?_))
 refine AWp.round (fun s:Nat×Nat=>(fun k a:Nat=>
  zC 69 [(1,.c (lsH H)),(3,.c (zC4 p)),(5,.c (.pl 1 3 (lF (plC x)) 0 0)),(7,.c (.pl 1 5 (lF (pbC q)) 0 0)),(9,.c (.ow 20)),(10,.c (iC (a:Nat))),(11,.c (iC (k:Nat)))] [(20,zAc (p.C.length+k) (wrF p.C.length x x.rp.length))] [20]
  ) s.1 s.2) (fun s=>(s.1≤H.length∧s.2≤x.rp.length)∧(∀j,j<s.2→fI x.rp j<(s.1:Int))∧∀j,s.2≤j→j<x.rp.length→(s.1:Int)≤fI x.rp j) (fun s=>H.length-s.1) (0,0) ⟨⟨Nat.zero_le _,Nat.zero_le _⟩,(fun j h=>absurd h (Nat.not_lt_zero _)),fun j _ h=>(nmOk_iff.1 hnm j h).1⟩ ?_ (fun s hs=> ?_)
 ·refine Wk.mk [(20,some 44)] rfl rfl rfl ?_ ?_
  ·repeat (first|exact trivial|refine⟨⟨_,rfl,by first|exact LeA.c (zCp rfl rfl rfl rfl)|exact leT⟩,?_⟩)
  ·exact⟨HeapOk.row rfl rfl h1.symm (fun i hi j _=>⟨by show iC (fI x.ch i)=iC (wrF p.C.length x x.rp.length i);rw[zTh _ _ fun q _=>by have hi:i<x.ch.length:=hi;omega],rfl⟩),trivial⟩
 obtain⟨k,a⟩:=s
 obtain⟨⟨hk,ha⟩,hlo,hhi⟩:=hs
 dsimp only at hk ha hlo hhi⊢;by_cases hkl:k<H.length
 ·have hkl':(k:Int)<H.length:=by omega
  have hin:=zQI x.rp (k:Int) hx1
  obtain⟨v,hv⟩:∃v,wrF p.C.length x x.rp.length (p.C.length+k)=v:=⟨_,rfl⟩
  have hap:=zTz hv;by_cases hm:(k:Int)∈x.rp
  ·rw [decide_eq_true hm]at hin
   obtain⟨i,hi1,hi2⟩:=mem_fI.1 hm
   have hia:i=a:=by
    rcases Nat.lt_trichotomy i a with h|h|h
    ·have:=hlo i h;omega
    ·exact h
    ·have h3:=zS9 hnm h hi1
     have h4:=hhi a (Nat.le_refl _) xD
     omega
   subst hia;have hcv:iF (fI x.an) i 0=iC v:=by
    show iC (fI x.an i)=iC v;rw[←hv,←zTv (m:=p.C.length) hnm x.rp.length hi1 (Nat.le_refl _),hi2]
    rfl
   repeat (first
    |refine vB [7,8,9,12] ?_
    | (refine rG 10 ?_
       refine vA ?_
       first|refine zY zA (hrc) rfl rfl rfl rfl rfl oM ?_|refine zAp zA rfl rfl rfl rfl rfl rfl rfl oM oM (hrc) ?_
       refine vA ?_;refine xB Tryz.func41 hin ?_;refine aB ?_)
    | (refine rG 11 ?_
       refine vA ?_
       first|refine zY zA (hac) rfl rfl rfl rfl rfl oM ?_|refine zAp zA rfl rfl rfl rfl rfl rfl rfl oM oM (hac) ?_
       refine vA ?_
       first|refine zG (aP (k:=i) zA) ?_|refine zI (zH (k:=i) zA) ?_
       first|refine zY zA (hcv) rfl rfl rfl rfl rfl oM ?_|refine zAp zA rfl rfl rfl rfl rfl rfl rfl oM oM (hcv) ?_
       refine vA ?_;refine aB ?_)
    | (refine rG 13 ?_
       refine xE3 ?_;refine xA ?_;refine vA ?_;refine aB ?_))
   refine⟨(k+1,i+1),⟨⟨hkl,hi1⟩,fun j hj=> ?_,fun j hj hj2=> ?_⟩,Wk.mk [(20,some 65)] rfl rfl rfl ?_ ?_,by dsimp only;omega⟩
   ·dsimp only at hj⊢
    by_cases e:j=i
    ·rw[e,hi2];omega
    ·have:=hlo j xD;omega
   ·dsimp only at hj⊢
    have:=zS9 hnm (show i<j by omega) hj2
    omega
   ·exact zB
   ·exact⟨HeapOk.row rfl rfl rfl hap,trivial⟩
  ·rw [decide_eq_false hm]at hin
   have hv0:v=0:=by
    rw[←hv,zTh _ _ fun i hi e=>hm (mem_fI.2 ⟨i,hi,by have:=(nmOk_iff.1 hnm i hi).1;omega⟩)]
    show x.ch.getD _ 0=0;rw[List.getD_eq_getElem?_getD,List.getElem?_eq_none xD]
    rfl
   subst hv0
   repeat (first
    |refine vB [7,8,9] ?_
    | (refine rG 10 ?_
       refine vA ?_
       first|refine zY zA (hrc) rfl rfl rfl rfl rfl oM ?_|refine zAp zA rfl rfl rfl rfl rfl rfl rfl oM oM (hrc) ?_
       refine vA ?_;refine xB Tryz.func41 hin ?_;refine aB ?_)
    | (refine rG 13 ?_
       refine xE3 ?_;refine xA ?_;refine vA ?_;refine aB ?_))
   refine⟨(k+1,a),⟨⟨hkl,ha⟩,fun j hj=> ?_,fun j hj hj2=> ?_⟩,Wk.mk [(20,some 65)] rfl rfl rfl ?_ ?_,by dsimp only;omega⟩
   ·dsimp only at hj⊢
    have:=hlo j hj;omega
   ·dsimp only at hj⊢
    have h3:=hhi j hj hj2;by_cases e:fI x.rp j=(k:Int)
    ·exact absurd (mem_fI.2 ⟨j,hj2,e⟩) hm
    ·omega
   ·exact zB
   ·exact⟨HeapOk.row rfl rfl rfl hap,trivial⟩
 have hkl':¬(k:Int)<H.length:=by omega
 obtain rfl:k=H.length:=by omega
 repeat (first
  |refine vB [7] ?_
  | (refine rG 14 ?_
     refine xE2 ?_;refine zFe [20] rfl rfl rfl Tryz.func42 rfl xC (hHd) (⟨.inl ⟨rfl,rfl⟩,zFL rfl (by simp),trivial⟩) ?_;refine vA ?_;refine aB ?_))
 refine⟨zC 69 [(6,.c (bC V))] [] [],[],Wk.mk [] rfl rfl rfl ?_ trivial,rfl,rfl,aR1⟩
 exact zB
theorem zTA(s:List Int)(k:Nat)(hk:k<s.length):(s.eraseIdx k).length=k+(s.length-(k+1))∧∀i,i<k+(s.length-(k+1))→∀j,j<1→zAj (fun i j=>iF (fI s) (0+i) j) k (fun i j=>iF (fI s) (k+1+i) j) i j=iF (fI (s.eraseIdx k)) i j∧zM (zAj (fun i j=>iF (fI s) (0+i) j) k (fun i j=>iF (fI s) (k+1+i) j) i j)=true:=by
 refine⟨by rw[List.length_eraseIdx_of_lt hk];omega,fun i hi j hj=> ?_⟩
 unfold zAj;have e:fI (s.eraseIdx k) i=if i<k then fI s i else fI s (i+1):=by
  show(s.eraseIdx k).getD i 0=if i<k then s.getD i 0 else s.getD (i+1) 0
  rw[List.getD_eq_getElem?_getD,List.getElem?_eraseIdx];by_cases h:i<k
  ·rw[if_pos h,if_pos h,List.getD_eq_getElem?_getD]
  ·rw[if_neg h,if_neg h,List.getD_eq_getElem?_getD]
 by_cases h:i<k
 ·rw[Nat.blt_eq.mpr h]
  refine⟨?_,rfl⟩
  show iC (fI s (0+i))=iC (fI (s.eraseIdx k) i);rw[e,if_pos h,Nat.zero_add]
 ·rw[show Nat.blt i k=false from Bool.eq_false_iff.2 fun q=>h (Nat.blt_eq.mp q)]
  refine⟨?_,rfl⟩
  show iC (fI s (k+1+(i-k)))=iC (fI (s.eraseIdx k) i);rw[e,if_neg h,show k+1+(i-k)=i+1 by omega]
theorem zTw(s:List Int)(k:Nat)(hk:k<s.length)(hl:s.length≤1000000):ACalls Tryz.prog 38 [.c (lsI s),.c (iC (k:Nat))] (.c (lsI (s.eraseIdx k))):=by
 obtain⟨ea,eb⟩:=zTA s k hk
 refine zJ Tryz.func38 rfl rfl Tryz.ntmps38 rfl ?_
 repeat (first
  |refine vB [0] ?_
  |(refine AWp.draw (id:=1) zK ?_;refine xE3 ?_;refine AList.cut (l:=0) (h:=k) zA rfl rfl rfl rfl rfl rfl rfl rfl ⟨_,_,rfl,by first|rfl|omega⟩ xD xD ?_;refine xA ?_;refine xE3 ?_;refine AList.cut (l:=k+1) (h:=s.length) zA rfl rfl rfl rfl rfl rfl rfl ⟨_,_,rfl,by first|rfl|omega⟩ rfl xD xD ?_;refine zFd zA rfl rfl rfl rfl rfl rfl rfl rfl rfl rfl (ea) (eb) oM oM ?_;refine vA ?_;refine aB ⟨by kernel_rfl,?_⟩))
 refine⟨zC 15 [(4,.c (lsI (s.eraseIdx k)))] [] [],[],Wk.mk [] rfl rfl rfl ?_ trivial,rfl,rfl,aR1⟩
 exact zB
theorem zTK(p:Pb)(hp:p.ok)(H:List Hg)(hH:zCB H)(x:Pl)(hx:zKO x)(hd:∀k,k<x.rp.length→(zAd p H (x.rp.eraseIdx k)).2=0→Sm (zAd p H (x.rp.eraseIdx k)).1):
 ACalls Tryz.prog 14 [.ag (pbC p),.c (lsH H),.ag (plC x)] (.tu [.c (lsW (zGo p H x).1),.c (iC (zGo p H x).2)]):=by
 have hHo:=zTp p hp H hH x hx
 obtain⟨hx1,hx2,hx3⟩:=hx
 obtain⟨V,hV⟩:∃V,zGo p H x=V:=⟨_,rfl⟩
 rw[hV];unfold zGo at hV;generalize zEr p H x=b at *
 cases b with
 | false=>
   obtain rfl:([],(1:Int))=V:=hV;refine zJ Tryz.func14 rfl rfl Tryz.ntmps14 rfl ?_
   repeat (first
    |refine vB [0,2] ?_
    | (refine rG 1 ?_
       refine xE3 ?_;refine xB Tryz.func16 hHo ?_;refine vA ?_;refine aB ?_))
   refine⟨zC 52 [(6,.c (lsW ([]))),(7,.c (iC (1)))] [] [],[],Wk.mk [] rfl rfl rfl ?_ trivial,rfl,rfl,ARets.two (x:=.c _) (y:=.c _) (ARes.tmp rfl rfl) (ARes.tmp rfl rfl)⟩
   exact⟨⟨_,rfl,.c (LeC.nils _ _)⟩,⟨_,rfl,.c (LeC.refl _ rfl)⟩,trivial⟩
 |true=>
 rw[if_pos rfl]at hV
 obtain⟨rp,hrp⟩:∃rp,x.rp=rp:=⟨_,rfl⟩
 have hcp:lF (plC x) 0 0=lsI rp:=by rw[←hrp];rfl
 rw[hrp]at hV hd hx1;refine zJ Tryz.func14 rfl rfl Tryz.ntmps14 rfl ?_
 repeat (first
  |refine vB [0,3,4] ?_
  | (refine rG 1 ?_
     refine xE3 ?_;refine xB Tryz.func16 hHo ?_;refine vA ?_;refine aB ?_))
 refine AWp.round (fun s:Nat×List (List Stp)=>(fun (k:Nat) (out:List (List Stp))=>zC 52 [(1,.c (lsH H)),(3,.c (zC4 p)),(5,.c (.pl 1 3 (lF (plC x)) 0 0)),(8,.c (.ow 20)),(9,.c (iC (k:Nat)))] [(20,whB out)] [20]) s.1 s.2) (fun s=>s.1≤rp.length∧s.2.length≤s.1∧zHC p H rp (rp.length-s.1) s.1 s.2=V) (fun s=>rp.length-s.1) (0,[]) ⟨Nat.zero_le _,Nat.le_refl _,hV⟩ ?_ (fun s hs=> ?_)
 ·refine Wk.mk [(20,none)] rfl rfl rfl ?_ ?_
  ·repeat (first|exact trivial|refine⟨⟨_,rfl,by first|exact LeA.c (zCp rfl rfl rfl rfl)|exact leT⟩,?_⟩)
  ·exact⟨HeapOk.nil rfl rfl,trivial⟩
 obtain⟨k,out⟩:=s
 obtain⟨hk,hol,hV⟩:=hs
 dsimp only at hk hol hV⊢;by_cases hkl:k<rp.length;rotate_left
 ·have hkl':¬(k:Int)<rp.length:=by omega
  rw[show rp.length-k=0 by omega]at hV;obtain rfl:(out,(0:Int))=V:=hV
  repeat (first
   |refine vB [14] ?_
   | (refine rG 5 ?_
      refine xE2 ?_
      first|refine zY zA (hcp) rfl rfl rfl rfl rfl oM ?_|refine zAp zA rfl rfl rfl rfl rfl rfl rfl oM oM (hcp) ?_
      refine xE2 ?_;refine aB ?_))
  refine⟨zC 52 [(6,.c (lsW (out))),(7,.c (iC (0)))] [] [],[],Wk.mk [] rfl rfl rfl ?_ trivial,rfl,rfl,ARets.two (x:=.c _) (y:=.c _) (ARes.tmp rfl rfl) (ARes.tmp rfl rfl)⟩
  exact⟨⟨_,rfl,.c (zZ rfl rfl rfl (fun _ _ _ _=>⟨rfl,rfl⟩))⟩,⟨_,rfl,.c (LeC.refl _ rfl)⟩,trivial⟩
 have hkl':(k:Int)<rp.length:=by omega
 have hd:=hd k hkl;have hDe:=zTw rp k hkl hx1;have hle:(rp.eraseIdx k).length≤1000000:=by rw[List.length_eraseIdx_of_lt hkl];omega
 have hW:=zJq p hp H hH (rp.eraseIdx k) hle;have hwc:= @zFa p H (rp.eraseIdx k);rw[show rp.length-k=(rp.length-(k+1))+1 by omega]at hV;unfold zHC at hV;have hok:=fun h:(zAd p H (rp.eraseIdx k)).2=0=>show(zAd p H (rp.eraseIdx k)).1.ok by rw[(hwc h).1];exact zEl _ hp hH (hwc h).2.1
 clear hwc
 obtain⟨rk,hrk⟩:∃rk,rp.eraseIdx k=rk:=⟨_,rfl⟩
 rw[hrk]at hd hDe hle hW hV hok;generalize zAd p H rk=w at *
 obtain⟨q,e⟩:=w
 dsimp only at hd hW hV hok;by_cases h0:e=0;rotate_left
 ·rw [if_neg h0]at hV
  subst hV
  repeat (first
   |refine vB [8,9] ?_
   | (refine rG 5 ?_
      refine xE2 ?_
      first|refine zY zA (hcp) rfl rfl rfl rfl rfl oM ?_|refine zAp zA rfl rfl rfl rfl rfl rfl rfl oM oM (hcp) ?_
      refine xE2 ?_;refine aB ?_)
   |(refine AWp.draw (id:=7) zK ?_;refine xE3 ?_;(first|refine zY zA (hcp) rfl rfl rfl rfl rfl oM ?_|refine zAp zA rfl rfl rfl rfl rfl rfl rfl oM oM (hcp) ?_);refine vA ?_;refine xB Tryz.func38 hDe ?_;refine xB Tryz.func32 hW ?_;refine xE6 ?_;refine aB ⟨by kernel_rfl,?_⟩))
  refine⟨zC 52 [(6,.c (lsW ([]))),(7,.c (iC (e)))] [] [],[],Wk.mk [] rfl rfl rfl ?_ trivial,rfl,rfl,ARets.two (x:=.c _) (y:=.c _) (ARes.tmp rfl rfl) (ARes.tmp rfl rfl)⟩
  exact⟨⟨_,rfl,.c (LeC.nils _ _)⟩,⟨_,rfl,.c (LeC.refl _ rfl)⟩,trivial⟩
 rw[if_pos h0]at hV;have hR:=zTJ q (hok h0) (fun _=>hd h0);subst h0;generalize zEB q=o at *
 obtain⟨sl,f⟩:=o
 dsimp only at hR hV;by_cases hf:f=0
 ·rw [if_pos hf]at hV
  subst hf;have hwa:=zSV out sl
  repeat (first
   |refine vB [6,8,11] ?_
   | (refine rG 5 ?_
      refine xE2 ?_
      first|refine zY zA (hcp) rfl rfl rfl rfl rfl oM ?_|refine zAp zA rfl rfl rfl rfl rfl rfl rfl oM oM (hcp) ?_
      refine xE2 ?_;refine aB ?_)
   |(refine AWp.draw (id:=7) zK ?_;refine xE3 ?_;(first|refine zY zA (hcp) rfl rfl rfl rfl rfl oM ?_|refine zAp zA rfl rfl rfl rfl rfl rfl rfl oM oM (hcp) ?_);refine vA ?_;refine xB Tryz.func38 hDe ?_;refine xB Tryz.func32 hW ?_;refine xE6 ?_;refine aB ⟨by kernel_rfl,?_⟩)
   | (refine rG 10 ?_
      refine vA ?_;refine xB Tryz.func39 hR ?_;refine xE5 ?_;refine aB ?_)
   | (refine rG 13 ?_
      refine xE3 ?_;refine xA ?_;refine vA ?_;refine aB ?_))
  refine⟨(k+1,out++ [sl]),⟨hkl,by dsimp only;rw[List.length_append,List.length_singleton];omega,hV⟩,Wk.mk [(20,some 50)] rfl rfl rfl ?_ ?_,by dsimp only;omega⟩
  ·exact zB
  ·exact⟨HeapOk.row rfl rfl List.length_append (fun i hi j hj=>hwa i (by simpa using hi) j hj),trivial⟩
 ·rw [if_neg hf]at hV
  subst hV
  repeat (first
   |refine vB [8,11,12] ?_
   | (refine rG 5 ?_
      refine xE2 ?_
      first|refine zY zA (hcp) rfl rfl rfl rfl rfl oM ?_|refine zAp zA rfl rfl rfl rfl rfl rfl rfl oM oM (hcp) ?_
      refine xE2 ?_;refine aB ?_)
   |(refine AWp.draw (id:=7) zK ?_;refine xE3 ?_;(first|refine zY zA (hcp) rfl rfl rfl rfl rfl oM ?_|refine zAp zA rfl rfl rfl rfl rfl rfl rfl oM oM (hcp) ?_);refine vA ?_;refine xB Tryz.func38 hDe ?_;refine xB Tryz.func32 hW ?_;refine xE6 ?_;refine aB ⟨by kernel_rfl,?_⟩)
   | (refine rG 10 ?_
      refine vA ?_;refine xB Tryz.func39 hR ?_;refine xE5 ?_;refine aB ?_))
  refine⟨zC 52 [(6,.c (lsW ([]))),(7,.c (iC (f)))] [] [],[],Wk.mk [] rfl rfl rfl ?_ trivial,rfl,rfl,ARets.two (x:=.c _) (y:=.c _) (ARes.tmp rfl rfl) (ARes.tmp rfl rfl)⟩
  exact⟨⟨_,rfl,.c (LeC.nils _ _)⟩,⟨_,rfl,.c (LeC.refl _ rfl)⟩,trivial⟩
end Go.Proofs.YtbffmfeldkjkcaaGreat
end
