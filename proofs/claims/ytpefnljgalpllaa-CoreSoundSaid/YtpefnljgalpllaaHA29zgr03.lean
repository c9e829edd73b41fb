/- CoreSound: the statement. No condition. -/
import Derived.Test.YtpefnljgalpllaaHA29zgr02
import Derived.Test.YtpefnljgalpllaaRows
import Derived.Test.YtpefnljgalpllaaHA29zgr01
set_option linter.unusedSimpArgs false
set_option linter.unusedVariables false
set_option maxHeartbeats 0
section
namespace Go.AV
open Go Go.RowKit Go.Flow
theorem AWp.cvTmp{P:Program}{c:Code}{Q:Exit→St→Prop}{S:St}{t:Nat}{x y:CV}(hx:S.t t=some (.c x))(hc:Cv x y)(h:AWp P c Q ⟨S.n,S.ln,put S.t t (some (.c y)),S.h,S.fr,S.G,S.gs,S.dd⟩):AWp P c Q S:=⟨fun b0 a w ⟨σ,R⟩=>by
 refine h.get b0 a w ⟨σ,R.df,R.sz,R.ext,R.hp,fun u z hz=> ?_,R.fr,R.le,R.gd,R.gh⟩
 by_cases e:u=t
 ·subst e
  have hz':put S.t u (some (.c y)) u=some z:=hz
  rw[put_same]at hz'
  cases hz'
  exact hc _ _ _ _ (R.sl u _ hx)
 ·have hz':put S.t t (some (.c y)) u=some z:=hz
  rw[put_ne _ _ e]at hz'
  exact R.sl u z hz'⟩
end Go.AV
namespace Go.Proofs.Ytpefnljgalpllaa
open Go.RowKit Go.Flow Go.AV Go.Plain
theorem cv_nil1:Cv (.ls 1 1 (sF [.p (.slice none 0 0)] 1)) (lsL [[]]):=Cv.lsN fun k hk j hj O w u h=>by
 obtain rfl:k=0:=Nat.lt_one_iff.mp hk
 obtain rfl:j=0:=Nat.lt_one_iff.mp hj
 obtain rfl:u=.slice none 0 0:=h
 exact((Cv.nil (sz:=1) (F:=iF (fI []))) (fun _=>none) O w _ ⟨rfl,rfl⟩).2
def xsX(a b c:List Stp)(k:Nat):List Stp:= [a,b,c,[]].getD k []
abbrev xsG(a b c:List Stp):Nat→Nat→CV:=sF [lsSt a,lsSt b,lsSt c,.p (.slice none 0 0)] 1
theorem xs_cv(a b c:List Stp):Cv (.ls 4 1 (xsG a b c)) (.ls 4 1 (fun k _=>lsSt (xsX a b c k))):=Cv.lsN fun k hk j hj O w u h=>by
 obtain rfl:j=0:=Nat.lt_one_iff.mp hj
 match k,hk with
 |0,_=>exact h
 |1,_=>exact h
 |2,_=>exact h
 | 3,_=>
   obtain rfl:u=.slice none 0 0:=h
   exact((Cv.nil (sz:=8) (F:=rowF stC stZ [])) (fun _=>none) O w _ ⟨rfl,rfl⟩).2
theorem f4{P:Nat→Prop}(h:P 0∧P 1∧P 2∧P 3):∀k,k<4→P k:=fun k hk=>by
 obtain⟨h0,h1,h2,h3⟩:=h
 match k,hk with
 |0,_=>exact h0
 |1,_=>exact h1
 |2,_=>exact h2
 |3,_=>exact h3
def rfV(p:Pb)(X:Nat→List Stp)(k:Nat):Bool:=(List.range k).any fun i=>decide (checkV p (X i)=0)
theorem rf_succ(p:Pb)(X:Nat→List Stp)(k:Nat):rfV p X (k+1)=(rfV p X k||decide (checkV p (X k)=0)):=by
 unfold rfV
 rw[List.range_succ,List.any_append]
 simp
theorem rf_true{p:Pb}{X:Nat→List Stp}{k:Nat}(h:rfV p X k=true):∃i,checkV p (X i)=0:=by
 unfold rfV at h
 rw[List.any_eq_true]at h
 obtain⟨i,-,hi⟩:=h
 exact⟨i,of_decide_eq_true hi⟩
theorem rf_one{p:Pb}{X:Nat→List Stp}{k i:Nat}(hi:i<k)(h:checkV p (X i)=0):rfV p X k=true:=by
 unfold rfV
 rw[List.any_eq_true]
 exact⟨i,List.mem_range.2 hi,decide_eq_true h⟩
theorem snoc_row{h:Nat→Option AB}{ren:List (Nat×Option Nat)}{M:List (List Int)}{y:List Int}{c:Int}{id:Nat}{G:Nat→Nat→CV}{m:Nat}(hh:h id=some ⟨true,m,1,3,G⟩)(hr:renNo ren id=true)(hm:(y++ [c]).length=m)(hG:∀i,i<m→∀j,j<1→G i j=iF (fI (y++ [c])) i j∧immC (G i j)=true){F:Nat→Nat→CV}(hF:F=appF (fun k _=>lsI (M.getD k [])) M.length (sF [.ow id] 1)):
 ∀i,i<M.length+1→∀j,j<1→LeC h ren (F i j) (lsI ((M++ [y++ [c]]).getD i [])):=fun i hi j hj=>by
 subst hF
 obtain rfl:j=0:=Nat.lt_one_iff.mp hj
 by_cases e:i<M.length
 ·rw[appF_lo e,List.getD_eq_getElem?_getD (l:=M++_),List.getElem?_append_left e,←List.getD_eq_getElem?_getD]
  exact LeC.refl _ rfl
 ·obtain rfl:i=M.length:=by omega
  rw[appF_hi (Nat.le_refl _),Nat.sub_self,List.getD_eq_getElem?_getD (l:=M++_),List.getElem?_append_right (Nat.le_refl _),Nat.sub_self]
  exact LeC.fz hh hr hm hG
abbrev llB(M:List (List Int)):AB:=⟨true,M.length,1,23,fun k _=>lsI (M.getD k [])⟩
abbrev pS29(p:Pb):AB:=⟨false,1,5,30,lF (pbC p)⟩
set_option maxRecDepth 100000 in
theorem CoreSound_A(ll:List (List Int))(hll:LlOk ll)(q0 q1 q2 q3 q4 q5:Int):ACalls Try.prog 6 [.c (lsL ll),.ag [iC q0,iC q1,iC q2,iC q3,iC q4,iC q5]] (.c (bC true)):=by
 have hSan:=sanity29_A
 have hCut:=cut29_A ll hll
 have hM:=(Made28_A (cutL ll) (cutL_ok ll)).cv (args':= [.c (.ls (min ll.length 16) 1 (cuF ll))]) ⟨.c (cut_cv ll),trivial⟩
 obtain⟨sm,hl3⟩:=made_sm (cutL ll)
 generalize made28 (cutL ll)=p at *
 have hok:=sm.ok
 have hR:=Refute_A p hok fun _ h=>made_dead sm h
 have hrc:=ref_check sm
 have hlen:(refuteV p).1.length≤800000:=by
  unfold refuteV
  rw[if_pos sm.chk]
  by_cases hu:unsV p=0
  ·rw[if_pos hu]
   have h1:=walk_len (fun l hl=>(sm.Cc l hl).1) p.C.length []
   have h2:stT p.C.length≤20000:=by
    have:=sm.C
    have:p.C.length=0∨p.C.length=1∨p.C.length=2∨p.C.length=3∨p.C.length=4∨p.C.length=5:=by omega
    rcases this with h|h|h|h|h|h<;>rw[h]<;>decide
   show(walkV p p.C.length []).length≤800000
   omega
  ·rw[if_neg hu];exact Nat.zero_le _
 generalize refuteV p=o at *
 obtain⟨l,e⟩:=o
 dsimp only at hR hrc hlen
 have hO1:=odd29_A l q0 q1 q2 (by omega)
 have hl1:=oddV_len l q0 q1 q2
 generalize oddV l q0 q1 q2=u at *
 have hO2:=odd29_A u q3 q4 q5 (by omega)
 have hl2:=oddV_len u q3 q4 q5
 generalize oddV u q3 q4 q5=v at *
 have hX0:xsX l u v 0=l:=rfl
 have hCk:∀k,k<4→ACalls Try.prog 17 [.ag (pbC p),.c (lsSt (xsX l u v k))] (.c (iC (checkV p (xsX l u v k)))):=fun k hk=>by
  have hln:(xsX l u v k).length≤1000000:=by
   match k,hk with
   |0,_=>show l.length≤_;omega
   |1,_=>show u.length≤_;omega
   |2,_=>show v.length≤_;omega
   |3,_=>exact Nat.zero_le _
  exact Check_A p hok _ hln
 have hrf0:e=0→rfV p (xsX l u v) 4=true:=fun h=>rf_one (i:=0) (by decide) (by rw[hX0];exact hrc h)
 have hns:rfV p (xsX l u v) 4=true→¬Sol p:=fun h=>by
  obtain⟨i,hi⟩:=rf_true h
  exact check_sound sm hi
 have hsc:=rf_succ p (xsX l u v)
 have hz:rfV p (xsX l u v) 0=false:=rfl
 have hcv:=xs_cv l u v
 generalize xsX l u v=X at *
 refine acalls_at Try.func6 rfl rfl Try.ntmps6 rfl ?_
 repeat (first
  |refine vB [0] ?_
  | (refine rG 1 ?_
     refine aH rfl rfl rfl rfl Try.func7 rfl (by kernel_rfl) (hSan) ?_
     refine vA ?_
     refine aB ?_)
  | (refine rG 2 ?_
     refine vA ?_
     refine aH rfl rfl rfl rfl Try.func9 rfl (by kernel_rfl) (hCut) ?_
     refine aH rfl rfl rfl rfl Try.func8 rfl (by kernel_rfl) (hM) ?_
     (iterate 2 refine vA ?_)
     refine aB ?_)
  | (refine rG 3 ?_
     refine vA ?_
     refine aH rfl rfl rfl rfl Try.func15 rfl (by kernel_rfl) (hR) ?_
     (iterate 5 refine vA ?_)
     refine aB ?_)
  | (refine rG 4 ?_
     refine vA ?_
     first|refine qr8o (aU tyOk) ?_|refine qr8o (AList.idxArrP tyOk) ?_|refine qr8o (AList.idxArrL tyOk) ?_
     refine vA ?_
     refine aH rfl rfl rfl rfl Try.func16 rfl (by kernel_rfl) (hO1) ?_
     refine vA ?_
     refine aB ?_))
 repeat (first
  |refine vB [5] ?_
  | (refine rG 6 ?_
     (iterate 3 refine vA ?_)
     first|refine qr8o (aU tyOk) ?_|refine qr8o (AList.idxArrP tyOk) ?_|refine qr8o (AList.idxArrL tyOk) ?_
     refine vA ?_
     refine aH rfl rfl rfl rfl Try.func16 rfl (by kernel_rfl) (hO2) ?_
     (iterate 3 refine vA ?_)
     refine aB ?_))
 refine AWp.weak (S':=mkSt 113 [(5,.c (bC true)),(6,.c (.pt 6 5 0 0)),(8,.c (iC e)),(10,.c (bC false)),(41,.c (.ls 4 1 (xsG l u v))),(42,.c (iC 4)),(43,.c (iC ((0:Nat))))] [(6,pS29 p)] [6]) (Wk.mk [(6,some 6)] rfl rfl rfl ?_ ?_) ?_
 ·repeat (first|exact trivial|refine⟨⟨_,rfl,by first|exact LeA.c (LeC.lz rfl (fun i hi j hj=>by obtain rfl:j=0:=Nat.lt_one_iff.mp hj;revert i;exact f4 ⟨rfl,rfl,rfl,rfl⟩))|exact leT⟩,?_⟩)
 ·exact⟨hSm,trivial⟩
 refine AWp.cvTmp (t:=41) (y:=.ls 4 1 (fun k _=>lsSt (X k))) rfl hcv ?_
 refine AWp.round (fun i:Nat×Bool=>mkSt 113 [(5,.c (bC true)),(6,.c (.pt 6 5 0 0)),(8,.c (iC e)),(10,.c (bC i.2)),(41,.c (.ls 4 1 (fun k _=>lsSt (X k)))),(42,.c (iC 4)),(43,.c (iC ((i.1:Nat))))] [(6,pS29 p)] [6]) (fun i=>i.1≤4∧i.2=rfV p X i.1) (fun i=>4-i.1) (0,false) ⟨Nat.zero_le _,hz.symm⟩ ?_ (fun i hi=> ?_)
 ·refine Wk.mk [(6,some 6)] rfl rfl rfl ?_ ?_
  ·exact allT
  ·exact⟨hSm,trivial⟩
 obtain⟨k,b⟩:=i
 obtain⟨hk4,hb⟩:=hi
 dsimp only at hk4 hb⊢
 by_cases hk:k<4
 ·have hk':(k:Int)<4:=by omega
  have hck:=hCk k hk
  have hs:=hsc k
  rw[←hb]at hs
  generalize checkV p (X k)=cv at *
  have hcx:(fun (k _:Nat)=>lsSt (X k)) k 0=lsSt (X k):=rfl
  cases b with
  | true=>
    repeat (first
     |refine vB [7,10] ?_
     | (refine rG 8 ?_
        first|refine qr8eo2 (aP (k:=k) tyOk) ?_|refine qr10eo (AList.idxOw (k:=k) tyOk) ?_
        first|refine AList.load1lE tyOk (hcx) rfl rfl rfl rfl rfl oM ?_|refine AList.load1F tyOk rfl rfl rfl rfl rfl rfl rfl oM oM (hcx) ?_
        refine vA ?_
        refine aB ?_)
     | (refine rG 9 ?_
        (iterate 4 refine vA ?_)
        first|refine qr2 aG ?_|refine aH rfl rfl rfl rfl Try.func17 rfl (by kernel_rfl) (hck) ?_
        (iterate 3 refine vA ?_)
        refine aB ?_))
    refine⟨(k+1,true),⟨hk,hs.symm⟩,Wk.mk [(6,some 6)] rfl rfl rfl ?_ ?_,by dsimp only;omega⟩
    ·exact allT
    ·exact⟨hSm,trivial⟩
  | false=>
    by_cases hc0:cv=0
    ·rw [hc0]at hs
     repeat (first
      |refine vB [7,10] ?_
      | (refine rG 8 ?_
         first|refine qr8eo2 (aP (k:=k) tyOk) ?_|refine qr10eo (AList.idxOw (k:=k) tyOk) ?_
         first|refine AList.load1lE tyOk (hcx) rfl rfl rfl rfl rfl oM ?_|refine AList.load1F tyOk rfl rfl rfl rfl rfl rfl rfl oM oM (hcx) ?_
         refine vA ?_
         refine aB ?_)
      | (refine rG 9 ?_
         (iterate 4 refine vA ?_)
         first|refine qr2 aG ?_|refine aH rfl rfl rfl rfl Try.func17 rfl (by kernel_rfl) (hck) ?_
         (iterate 3 refine vA ?_)
         refine aB ?_))
     refine⟨(k+1,true),⟨hk,hs.symm⟩,Wk.mk [(6,some 6)] rfl rfl rfl ?_ ?_,by dsimp only;omega⟩
     ·exact allT
     ·exact⟨hSm,trivial⟩
    ·rw [decide_eq_false hc0]at hs
     repeat (first
      |refine vB [7,10] ?_
      | (refine rG 8 ?_
         first|refine qr8eo2 (aP (k:=k) tyOk) ?_|refine qr10eo (AList.idxOw (k:=k) tyOk) ?_
         first|refine AList.load1lE tyOk (hcx) rfl rfl rfl rfl rfl oM ?_|refine AList.load1F tyOk rfl rfl rfl rfl rfl rfl rfl oM oM (hcx) ?_
         refine vA ?_
         refine aB ?_)
      | (refine rG 9 ?_
         (iterate 4 refine vA ?_)
         first|refine qr2 aG ?_|refine aH rfl rfl rfl rfl Try.func17 rfl (by kernel_rfl) (hck) ?_
         (iterate 3 refine vA ?_)
         refine aB ?_))
     refine⟨(k+1,false),⟨hk,hs.symm⟩,Wk.mk [(6,some 6)] rfl rfl rfl ?_ ?_,by dsimp only;omega⟩
     ·exact allT
     ·exact⟨hSm,trivial⟩
 obtain rfl:k=4:=by omega
 have hlC:=sm.C
 clear hCk hsc
 rw[←hb]at hrf0 hns
 cases b with
 | false=>
   have he:¬e=0:=fun h=>by have:=hrf0 h;cases this
   refine vB [7,11,13,14] ?_
   refine⟨mkSt 113 [(4,.c (bC true))] [] [],[],Wk.mk [] rfl rfl rfl ?_ trivial,rfl,rfl,aR1⟩
   exact allT
 |true=>
 have hns':=hns rfl
 refine vB [7] ?_
 refine AWp.join2 (mkSt 113 [(5,.c (bC true)),(6,.c (.pt 6 5 0 0)),(10,.c (bC true))] [(6,pS29 p)] [6]) ?_ ?_
 ·by_cases he:e=0
  ·refine vB [11] ?_
   refine⟨rfl,Wk.mk [(6,some 6)] rfl rfl rfl ?_ ?_⟩
   ·exact allT
   ·exact⟨hSm,trivial⟩
  ·refine vB [11] ?_
   refine⟨rfl,Wk.mk [(6,some 6)] rfl rfl rfl ?_ ?_⟩
   ·exact allT
   ·exact⟨hSm,trivial⟩
 by_cases h3:(p.C.length:Int)>3
 ·refine vB [13,14] ?_
  refine⟨mkSt 113 [(4,.c (bC true))] [] [],[],Wk.mk [] rfl rfl rfl ?_ trivial,rfl,rfl,aR1⟩
  exact allT
 refine vB [13,15] ?_
 refine AWp.cvTmp (t:=13) (y:=lsL [[]]) rfl cv_nil1 ?_
 refine vB [16] ?_
 refine AWp.round (fun s:Nat×List (List Int)=>
  mkSt 113 [(5,.c (bC true)),(6,.c (.pt 6 5 0 0)),(13,.c (lsL s.2)),(72,.c (lsC p.C)),(73,.c (iC p.C.length)),(74,.c (iC ((s.1:Nat))))] [(6,pS29 p)] [6]
  ) (fun s=>s.1≤p.C.length∧s.2.length≤4^s.1∧∀y∈s.2,y.length≤s.1) (fun s=>p.C.length-s.1) (0,[[]]) ⟨Nat.zero_le _,Nat.le_refl _,fun y hy=>by cases hy with|head=>exact Nat.le_refl _|tail _ h=>cases h⟩ ?_ (fun s hs=> ?_)
 ·refine Wk.mk [(6,some 6)] rfl rfl rfl ?_ ?_
  ·exact allT
  ·exact⟨hSm,trivial⟩
 obtain⟨k,A⟩:=s
 obtain⟨hkC,hA,hAy⟩:=hs
 dsimp only at hkC hA hAy⊢
 have h64:A.length≤64:=Nat.le_trans hA (by
  have:k=0∨k=1∨k=2∨k=3:=by omega
  rcases this with rfl|rfl|rfl|rfl<;>decide)
 by_cases hk:k<p.C.length
 ·have hk':(k:Int)<p.C.length:=by omega
  obtain⟨L,hL⟩:∃L,p.C.getD k []=L:=⟨_,rfl⟩
  have hcL:chF p.C k 0=lsB L:=by rw[←hL]
  have hL3:L.length≤3:=by rw[←hL];exact hl3 _ (getD_mem28 hk)
  repeat (first
   |refine vB [17,19,20] ?_
   | (refine rG 18 ?_
      first|refine qr8eo2 (aP (k:=k) tyOk) ?_|refine qr10eo (AList.idxOw (k:=k) tyOk) ?_
      first|refine AList.load1lE tyOk (hcL) rfl rfl rfl rfl rfl oM ?_|refine AList.load1F tyOk rfl rfl rfl rfl rfl rfl rfl oM oM (hcL) ?_
      refine vA ?_
      refine aB ?_))
  refine AWp.round (fun s:Nat×List (List Int)=>
   mkSt 113 [(5,.c (bC true)),(6,.c (.pt 6 5 0 0)),(15,.c (lsB L)),(16,.c (.ow 200)),(72,.c (lsC p.C)),(73,.c (iC p.C.length)),(74,.c (iC ((k:Nat)))),(78,.c (lsL A)),(79,.c (iC A.length)),(80,.c (iC ((s.1:Nat))))] [(6,pS29 p),(200,llB s.2)] [6,200]
   ) (fun s=>s.1≤A.length∧s.2.length≤s.1*4∧∀y∈s.2,y.length≤k+1) (fun s=>A.length-s.1) (0,[]) ⟨Nat.zero_le _,Nat.le_refl _,fun y hy=>by cases hy⟩ ?_ (fun s hs=> ?_)
  ·refine Wk.mk [(6,some 6),(200,none)] rfl rfl rfl ?_ ?_
   ·exact allT
   ·exact⟨hSm,HeapOk.nil rfl rfl,trivial⟩
  obtain⟨i,M⟩:=s
  obtain⟨hiA,hM4,hMy⟩:=hs
  dsimp only at hiA hM4 hMy⊢
  by_cases hi:i<A.length
  ·have hi':(i:Int)<A.length:=by omega
   obtain⟨y,hy⟩:∃y,A.getD i []=y:=⟨_,rfl⟩
   have hcy:(fun (k _:Nat)=>lsI (A.getD k [])) i 0=lsI y:=by rw[←hy]
   have hyl:y.length≤k:=by rw[←hy];exact hAy _ (getD_mem28 hi)
   repeat (first
    |refine vB [21,23] ?_
    | (refine rG 22 ?_
       first|refine qr8eo2 (aP (k:=i) tyOk) ?_|refine qr10eo (AList.idxOw (k:=i) tyOk) ?_
       first|refine AList.load1lE tyOk (hcy) rfl rfl rfl rfl rfl oM ?_|refine AList.load1F tyOk rfl rfl rfl rfl rfl rfl rfl oM oM (hcy) ?_
       refine vA ?_
       refine aB ?_))
   refine AWp.round (fun s:Nat×List (List Int)=>
    mkSt 113 [(5,.c (bC true)),(6,.c (.pt 6 5 0 0)),(15,.c (lsB L)),(16,.c (.ow 200)),(18,.c (lsI y)),(72,.c (lsC p.C)),(73,.c (iC p.C.length)),(74,.c (iC ((k:Nat)))),(78,.c (lsL A)),(79,.c (iC A.length)),(80,.c (iC ((i:Nat)))),(85,.c (iC L.length)),(86,.c (iC ((s.1:Nat))))] [(6,pS29 p),(200,llB s.2)] [6,200]
    ) (fun s=>s.1≤L.length∧s.2.length≤i*4+s.1∧∀y∈s.2,y.length≤k+1) (fun s=>L.length-s.1) (0,M) ⟨Nat.zero_le _,by dsimp only;omega,hMy⟩ ?_ (fun s hs=> ?_)
   ·refine Wk.mk [(6,some 6),(200,some 200)] rfl rfl rfl ?_ ?_
    ·exact allT
    ·exact⟨hSm,HeapOk.row rfl rfl rfl (fun i _ j _=>⟨rfl,rfl⟩),trivial⟩
   obtain⟨c,N⟩:=s
   obtain⟨hcC,hN4,hNy⟩:=hs
   dsimp only at hcC hN4 hNy⊢
   by_cases hc:c<L.length
   ·have hc':(c:Int)<L.length:=by omega
    repeat (first
     |refine vB [24,25,27] ?_
     | (refine rG 26 ?_
        (iterate 3 refine vA ?_)
        first|refine AList.appL0 tyOk rfl rfl rfl rfl rfl rfl rfl rfl rfl rfl oM oM ?_|refine AList.appL tyOk rfl rfl rfl rfl rfl rfl rfl rfl rfl rfl oM oM ?_|refine AList.appN tyOk rfl rfl rfl rfl rfl rfl rfl rfl rfl oM oM ?_|refine AList.appO tyOk rfl rfl rfl rfl rfl rfl rfl rfl rfl rfl rfl oM oM ?_|refine AList.appE tyOk rfl rfl rfl rfl rfl rfl rfl rfl rfl rfl oM oM ?_
        (iterate 2 refine vA ?_)
        first|refine AList.appL0 tyOk rfl rfl rfl rfl rfl rfl rfl rfl rfl rfl oM oM ?_|refine AList.appL tyOk rfl rfl rfl rfl rfl rfl rfl rfl rfl rfl oM oM ?_|refine AList.appN tyOk rfl rfl rfl rfl rfl rfl rfl rfl rfl oM oM ?_|refine AList.appO tyOk rfl rfl rfl rfl rfl rfl rfl rfl rfl rfl rfl oM oM ?_|refine AList.appE tyOk rfl rfl rfl rfl rfl rfl rfl rfl rfl rfl oM oM ?_
        refine qr11 (AList.litOw tyOk) ?_
        first|refine AList.appL0 tyOk rfl rfl rfl rfl rfl rfl rfl rfl rfl rfl oM oM ?_|refine AList.appL tyOk rfl rfl rfl rfl rfl rfl rfl rfl rfl rfl oM oM ?_|refine AList.appN tyOk rfl rfl rfl rfl rfl rfl rfl rfl rfl oM oM ?_|refine AList.appO tyOk rfl rfl rfl rfl rfl rfl rfl rfl rfl rfl rfl oM oM ?_|refine AList.appE tyOk rfl rfl rfl rfl rfl rfl rfl rfl rfl rfl oM oM ?_
        refine vA ?_
        refine aB ?_))
    refine⟨(c+1,N++ [y++ [(c:Int)]]),⟨hc,by rw[List.length_append,List.length_singleton];dsimp only;omega,fun z hz=> ?_⟩,Wk.mk [(6,some 6),(200,some 97)] rfl rfl rfl ?_ ?_,by dsimp only;omega⟩
    ·rcases List.mem_append.1 hz with hz|hz
     ·exact hNy z hz
     ·obtain rfl:=List.mem_singleton.1 hz
      rw[List.length_append,List.length_singleton]
      omega
    ·exact allT
    ·exact⟨hSm,.inr ⟨97,N.length+1,_,.inl rfl,List.length_append,rfl,snoc_row (id:=95) rfl rfl List.length_append (chI_snoc y c) rfl⟩,trivial⟩
   obtain rfl:c=L.length:=by omega
   refine vB [24,28] ?_
   refine⟨(i+1,N),⟨hi,by dsimp only;omega,hNy⟩,Wk.mk [(6,some 6),(200,some 200)] rfl rfl rfl ?_ ?_,by dsimp only;omega⟩
   ·exact allT
   ·exact⟨hSm,HeapOk.row rfl rfl rfl (fun i _ j _=>⟨rfl,rfl⟩),trivial⟩
  obtain rfl:i=A.length:=by omega
  refine vB [21,29,30] ?_
  refine⟨(k+1,M),⟨hk,by rw[Nat.pow_succ];dsimp only;omega,hMy⟩,Wk.mk [(6,some 6)] rfl rfl rfl ?_ ?_,by dsimp only;omega⟩
  ·repeat (first|exact trivial|refine⟨⟨_,rfl,by first|exact LeA.c (LeC.fz rfl rfl rfl (fun i _ j _=>⟨rfl,rfl⟩))|exact leT⟩,?_⟩)
  ·exact⟨hSm,trivial⟩
 obtain rfl:k=p.C.length:=by omega
 refine vB [17,31] ?_
 refine AWp.round (fun i:Nat=>mkSt 113 [(5,.c (bC true)),(6,.c (.pt 6 5 0 0)),(102,.c (lsL A)),(103,.c (iC A.length)),(104,.c (iC ((i:Nat))))] [(6,pS29 p)] [6]) (fun i=>i≤A.length) (fun i=>A.length-i) 0 (Nat.zero_le _) ?_ (fun i hi=> ?_)
 ·refine Wk.mk [(6,some 6)] rfl rfl rfl ?_ ?_
  ·exact allT
  ·exact⟨hSm,trivial⟩
 by_cases hil:i<A.length
 ·have hil':(i:Int)<A.length:=by omega
  obtain⟨y,hy⟩:∃y,A.getD i []=y:=⟨_,rfl⟩
  have hcy:(fun (k _:Nat)=>lsI (A.getD k [])) i 0=lsI y:=by rw[←hy]
  have hyl:y.length≤p.C.length:=by rw[←hy];exact hAy _ (getD_mem28 hil)
  have hH:=Holds28_A p hok y.length (fI y) (by omega)
  rw[show holdsV p y.length (fI y)=false from holdsV_no fun h=>hns' ⟨fI y,fun k hk=>h.2 k (by rw[h.1.2];exact hk)⟩]at hH
  repeat (first
   |refine vB [32,36] ?_
   | (refine rG 33 ?_
      first|refine qr8eo2 (aP (k:=i) tyOk) ?_|refine qr10eo (AList.idxOw (k:=i) tyOk) ?_
      first|refine AList.load1lE tyOk (hcy) rfl rfl rfl rfl rfl oM ?_|refine AList.load1F tyOk rfl rfl rfl rfl rfl rfl rfl oM oM (hcy) ?_
      refine vA ?_
      refine aB ?_)
   | (refine rG 34 ?_
      (iterate 2 refine vA ?_)
      refine aH rfl rfl rfl rfl Try.func18 rfl (by kernel_rfl) (hH) ?_
      refine aB ?_))
  refine⟨i+1,hil,Wk.mk [(6,some 6)] rfl rfl rfl ?_ ?_,by omega⟩
  ·exact allT
  ·exact⟨hSm,trivial⟩
 obtain rfl:i=A.length:=by omega
 refine vB [32,37] ?_
 refine⟨mkSt 113 [(4,.c (bC true))] [] [],[],Wk.mk [] rfl rfl rfl ?_ trivial,rfl,rfl,aR1⟩
 exact allT
end Go.Proofs.Ytpefnljgalpllaa
end
section
namespace Go.Proofs.Ytpefnljgalpllaa.coreSound
open Go.ChangeShapes Go.WideShapes Go.ChangeAt Go.RowKit Go.Flow Go.AV
set_option maxRecDepth 100000 in
theorem contract(H:Type)(enc:TypeId×Value→H)(W:World)(base:Nat)(args:Array Value)(ds gs:List (DataW H))(before:List MemPlace)
 (hval:∀(j:Nat) t v,Try.f6.params[j]?=some t→args[j]?=some v→Value.okWide Try.prog W .any base t v)
 (hW:DataW.Whole enc Try.prog Try.f6.params.toList Rows.coreSoundSpec.vars false W args.toList ds gs before)
 (hsz:(DataW.weightsEach Try.prog (Try.f6.params.toList++(OpenSpec.ofChange Rows.coreSoundSpec).bare.plain.varTypes Try.prog) (ds++gs)).all (·≤reachBytes)=true):
 Calls Try.prog 6 args W fun e W'=>∃v,e=.returned v∧Rows.coreSoundSpec.post enc Try.prog Try.f6 false true false false W args v W':=by
 have hW':=hW
 obtain⟨p,q,hA0,hV,rfl,hfz,hnd⟩:=hW
 have hA:DataW.TrodAll enc Try.prog W 0 (fun _=>true) true Try.f6.params.toList args.toList ds p:=hA0
 have hAk:=hA0
 rw[Try.params6]at hA hval hsz
 obtain⟨rfl,rfl⟩:=trodVars_none hV
 obtain⟨v0,vs0,d0,ds0,p0,q0,hargs,rfl,rfl,h0,t0⟩:=trodAll_cons hA
 obtain⟨v1,vs1,d1,ds1,p1,q1,rfl,rfl,rfl,h1,t1⟩:=trodAll_cons t0
 obtain⟨rfl,rfl,rfl⟩:=trodAll_nil t1
 obtain rfl:args= #[v0,v1]:=by rw[←Array.toList_inj];exact hargs
 have hlt:=fun x hx=>hW'.lt x hx
 simp only[List.append_nil]at hW'
 rw[List.append_nil]at hsz
 obtain⟨a0,ok0,r0⟩:=opn_ll.argC (cells_slice Try.underlying22 (hval 0 22 v0 rfl rfl)) h0 (weigh hsz 0 (t:=22) (d:=d0) rfl rfl)
 obtain⟨a1,ok1,r1⟩:=opn_q33.argA Try.underlying50 (hval 1 50 v1 rfl rfl) h1 (weigh hsz 1 (t:=50) (d:=d1) rfl rfl)
 refine((ECalls.of (CoreSound_A a0 ok0 a1.1.1 a1.1.2.1 a1.1.2.2 a1.2.1 a1.2.2.1 a1.2.2.2)) O0 W [_,_] (fun b h=>h.elim) ⟨r0,r1,trivial⟩).mono fun e W' ⟨v,r,he,hr,hv,hE⟩=> ?_
 subst hr
 obtain rfl:v=.bool true:=hv.2
 subst he
 exact⟨_,rfl,post_below (pv:= []) hW' (fun _ _ _=>trodAll_cons_mk (shut_bool Try.underlying4 _) trodAll_mk0)
  (fun sp hsp=>trodAll_below laidOut hE (by rw[Try.params6];intro t ht;simp only[List.mem_cons,List.not_mem_nil,or_false]at ht;rcases ht with rfl|rfl<;>exact⟨by kernel_rfl,of_decide_eq_true (by kernel_rfl)⟩) hAk (fun x hx=>hlt x (by rw[List.append_nil];exact hx)) sp (fun x hx=>hsp x (by simpa only[List.append_nil]using hx)))
  (fun _ _=>rfl) (by simp) hE (ok_one (by kernel_rfl) rfl (okWide_bool_mk Try.underlying4 _))⟩
theorem own:ownKnob Try.prog.godebug=none:=by kernel_rfl
set_option maxRecDepth 100000 in
theorem lifted(os:Os)(started:os.Started)(H:Type)(enc:TypeId×Value→H):
 ReturnsInHanded {} Try.checked os 6 .any (Rows.coreSoundSpec.pre6 enc Try.prog Try.f6 Rows.coreSoundRow.domain false) (Rows.coreSoundSpec.post enc Try.prog Try.f6 false true false false):=by
 refine returnsInHanded_of_change_sized (C:=Try.checked) own started (by kernel_rfl) Try.func6
  (ChangeSpec.witness6 (enc:=enc) (C:=Try.checked) false ⟨#[], #[.slice none 0 0,.agg #[.int .i64 0,.int .i64 0,.int .i64 0,.int .i64 0,.int .i64 0,.int .i64 0]],[]⟩ 8 (by kernel_rfl) (by kernel_rfl) (by kernel_rfl) (by kernel_rfl)) ?_
 intro W base args ds gs before hval hW _ hsz _
 exact contract H enc W base args ds gs before hval hW hsz
theorem said:Rows.CoreSoundSaid:=
 OpenClaim.holds_of_wide 6 Try.f6 rfl rfl rfl rfl rfl rfl rfl ⟨rfl,rfl,rfl,rfl,rfl⟩ rfl rfl rfl rfl rfl (by kernel_rfl) Try.func6 (by kernel_rfl)
  (of_decide_eq_true (by kernel_rfl)) (by unfold Func.isWrapper;first|(rw[if_pos (by decide +kernel)];kernel_rfl)|(rw[if_neg (by decide +kernel)];exact⟨rfl,rfl⟩))
  (fun os started H enc _=>lifted os started H enc)
end Go.Proofs.Ytpefnljgalpllaa.coreSound
end
