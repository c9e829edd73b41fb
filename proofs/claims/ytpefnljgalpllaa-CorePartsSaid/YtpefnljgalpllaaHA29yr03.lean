/- CoreParts: the statement. No condition. -/
import Derived.Test.YtpefnljgalpllaaG50
import Derived.Test.YtpefnljgalpllaaRows
import Derived.Test.YtpefnljgalpllaaHA29yr02
set_option linter.unusedSimpArgs false
set_option linter.unusedVariables false
set_option maxHeartbeats 0
section
namespace Go.Proofs.Ytpefnljgalpllaa
open Go.RowKit Go.Flow Go.AV Go.Plain
set_option maxRecDepth 100000 in
theorem RRdCheck0(bl sh:Int)(hb:-1000000≤bl∧bl≤1000000):ACalls Try.prog 55 [.ag [iC bl,iC sh]] (.c (iC (rdE ⟨bl,sh⟩))):=by
 by_cases c1:bl<0
 ·rw[rdE_bad (by dsimp only;omega)]
  refine acalls_at Try.func55 rfl rfl Try.ntmps55 rfl ?_
  refine vB [0,1,2] ?_
  refine⟨mkSt 26 [(2,.c (iC 3))] [] [],[],Wk.mk [] rfl rfl rfl ?_ trivial,rfl,rfl,aR1⟩
  exact allT
 ·by_cases c2:2<bl
  ·rw[rdE_bad (by dsimp only;omega)]
   refine acalls_at Try.func55 rfl rfl Try.ntmps55 rfl ?_
   refine vB [0,1,2] ?_
   refine⟨mkSt 26 [(2,.c (iC 3))] [] [],[],Wk.mk [] rfl rfl rfl ?_ trivial,rfl,rfl,aR1⟩
   exact allT
  ·by_cases c3:sh<1
   ·rw[rdE_bad (by dsimp only;omega)]
    refine acalls_at Try.func55 rfl rfl Try.ntmps55 rfl ?_
    refine vB [0,1,2] ?_
    refine⟨mkSt 26 [(2,.c (iC 3))] [] [],[],Wk.mk [] rfl rfl rfl ?_ trivial,rfl,rfl,aR1⟩
    exact allT
   ·have c4:0≤(2*bl+1)*(2*bl+1)∧(2*bl+1)*(2*bl+1)≤25:=by
     obtain rfl|rfl|rfl:bl=0∨bl=1∨bl=2:=by omega
     all_goals omega
    have hE:rdE ⟨bl,sh⟩=if (2*bl+1)*(2*bl+1)<sh then 3 else 0:=by
     unfold rdE
     dsimp only
     by_cases h:(2*bl+1)*(2*bl+1)<sh
     ·rw[if_pos h,if_pos (by omega)]
     ·rw[if_neg h,if_neg (by omega)]
    rw[hE]
    by_cases h:(2*bl+1)*(2*bl+1)<sh
    ·rw[if_pos h]
     refine acalls_at Try.func55 rfl rfl Try.ntmps55 rfl ?_
     repeat (first
      |refine vB [0,2] ?_
      |(refine AWp.draw (id:=1) mixed ?_;(iterate 17 refine vA ?_);refine aH rfl rfl rfl rfl Try.func47 rfl (by kernel_rfl) (side21_A bl sh hb) ?_;refine vA ?_;refine aH rfl rfl rfl rfl Try.func47 rfl (by kernel_rfl) (side21_A bl sh hb) ?_;(iterate 3 refine vA ?_);refine aB ⟨by kernel_rfl,?_⟩))
     refine⟨mkSt 26 [(2,.c (iC 3))] [] [],[],Wk.mk [] rfl rfl rfl ?_ trivial,rfl,rfl,aR1⟩
     exact allT
    ·rw[if_neg h]
     refine acalls_at Try.func55 rfl rfl Try.ntmps55 rfl ?_
     repeat (first
      |refine vB [0,3] ?_
      |(refine AWp.draw (id:=1) mixed ?_;(iterate 17 refine vA ?_);refine aH rfl rfl rfl rfl Try.func47 rfl (by kernel_rfl) (side21_A bl sh hb) ?_;refine vA ?_;refine aH rfl rfl rfl rfl Try.func47 rfl (by kernel_rfl) (side21_A bl sh hb) ?_;(iterate 3 refine vA ?_);refine aB ⟨by kernel_rfl,?_⟩))
     refine⟨mkSt 26 [(2,.c (iC 0))] [] [],[],Wk.mk [] rfl rfl rfl ?_ trivial,rfl,rfl,aR1⟩
     exact allT
theorem RRdCheck_A(r:Rd)(hb:-1000000≤r.bl∧r.bl≤1000000):ACalls Try.prog 55 [.ag (rdC r)] (.c (iC (rdE r))):=RRdCheck0 r.bl r.sh hb
theorem preB_len{C:List (List Bp)}(h:∀i,i<C.length→(C.getD i []).length≤200):∀i,i≤C.length→(preB C i).length≤200*i
 |0,_=>by simp[preB]
 | i+1,hi=>by
   rw[preB_succ (by omega),List.length_append]
   have:=preB_len h i (by omega)
   have:=h i (by omega)
   omega
theorem rowF_app{α:Type}{c:α→List CV}{z:α}(A B:List α)(sz:Nat)(hc:∀x,(c x).all immC=true):∀i,i<A.length+B.length→∀j,j<sz→appF (rowF c z A) A.length (rowF c z B) i j=rowF c z (A++B) i j∧immC (appF (rowF c z A) A.length (rowF c z B) i j)=true:=fun i hi j _=>by
 have:appF (rowF c z A) A.length (rowF c z B) i j=rowF c z (A++B) i j:=by
  unfold appF rowF
  have e:∀k,(A++B).getD k z=(A++B)[k]?.getD z:=fun k=>List.getD_eq_getElem?_getD
  rw[e]
  by_cases h:i<A.length
  ·rw[show Nat.blt i A.length=true from Nat.blt_eq.mpr h,List.getElem?_append_left h,←List.getD_eq_getElem?_getD]
   rfl
  ·rw[show Nat.blt i A.length=false from Bool.eq_false_iff.2 fun h'=>h (Nat.blt_eq.mp h'),List.getElem?_append_right (by omega),←List.getD_eq_getElem?_getD]
   rfl
 rw[this]
 exact⟨rfl,rowF_imm hc _ i j⟩
set_option maxRecDepth 100000 in
theorem bitmaps_A(p:Pb)(hC:p.C.length≤200)(hF:p.F.length≤200)(hl:∀i,i<p.C.length→(p.C.getD i []).length≤200):ACalls Try.prog 56 [.ag (pbC p)] (.c (lsB (allB p))):=by
 have hpl:=preB_len hl
 refine acalls_at Try.func56 rfl rfl Try.ntmps56 rfl ?_
 refine vB [0,1,2] ?_
 refine AWp.round (fun i:Nat=>mkSt 23 [(1,.c (.pt 1 5 0 0)),(3,.c (.ow 20)),(4,.c (iC i))] [(1,⟨false,1,5,30,lF (pbC p)⟩),(20,bpB (preB p.C i))] [1,20])
  (fun i=>i≤p.C.length) (fun i=>p.C.length-i) 0 (Nat.zero_le _) ?_ (fun i hi=> ?_)
 ·refine Wk.mk [(1,some 1),(20,none)] rfl rfl rfl ?_ ?_
  ·exact allT
  ·exact allH
 ·by_cases hil:i<p.C.length
  ·have hil':(i:Int)<p.C.length:=by omega
   have hsu:=preB_succ hil
   have h1:=hpl i hi
   have h2:=hl i hil
   obtain⟨L,hL⟩:∃L,p.C.getD i []=L:=⟨_,rfl⟩
   rw[hL]at hsu h2
   have hcF:chF p.C i 0=lsB L:=by rw[←hL]
   obtain⟨P,hP⟩:∃P,preB p.C i=P:=⟨_,rfl⟩
   rw[hP]at hsu h1
   rw[hP]
   have hlen:(preB p.C (i+1)).length=P.length+L.length:=by rw[hsu,List.length_append]
   repeat (first
    |refine vB [3,4] ?_
    | (refine rG 5 ?_
       (iterate 4 refine vA ?_)
       refine qr8eo2 (aP (k:=i) tyOk) ?_
       refine AList.load1lE tyOk (hcF) rfl rfl rfl rfl rfl oM ?_
       refine AList.appL tyOk rfl rfl rfl rfl rfl rfl rfl rfl rfl rfl oM oM ?_
       refine vA ?_
       refine aB ?_))
   refine⟨i+1,hil,Wk.mk [(1,some 1),(20,some 18)] rfl rfl rfl ?_ ?_,by omega⟩
   ·exact allT
   ·refine⟨hSm,HeapOk.row rfl rfl hlen ?_,trivial⟩
    rw[hsu]
    exact rowF_app P L 3 bpC_imm
  ·have hil':¬(i:Int)<p.C.length:=by omega
   obtain rfl:i=p.C.length:=by omega
   have h1:=hpl _ (Nat.le_refl _)
   rw[preB_all]at h1⊢
   have hlen:(allB p).length=p.C.flatten.length+p.F.length:=List.length_append
   repeat (first
    |refine vB [3] ?_
    | (refine rG 6 ?_
       (iterate 3 refine vA ?_)
       refine AList.appL tyOk rfl rfl rfl rfl rfl rfl rfl rfl rfl rfl oM oM ?_
       refine vA ?_
       refine aB ?_))
   refine⟨mkSt 23 [(2,.c (lsB (allB p)))] [] [],[],Wk.mk [] rfl rfl rfl ?_ trivial,rfl,rfl,aR1⟩
   exact⟨⟨_,rfl,.c (LeC.fz rfl rfl hlen (rowF_app p.C.flatten p.F 3 bpC_imm))⟩,trivial⟩
set_option maxRecDepth 100000 in
theorem rCheck28_A(p:Pb)(hp:p.ok):ACalls Try.prog 34 [.ag (pbC p)] (.c (iC (chkP p))):=by
 obtain⟨hrd,lR,lC,lF',lO,lT,lc⟩:=hp
 by_cases c1:4<p.R.length
 ·rw[chkP_many (.inl c1)]
  have c1':((p.R.length:Nat):Int)>4:=by omega
  refine acalls_at Try.func34 rfl rfl Try.ntmps34 rfl ?_
  refine vB [0,1,2] ?_
  refine⟨mkSt 109 [(2,.c (iC 2))] [] [],[],Wk.mk [] rfl rfl rfl ?_ trivial,rfl,rfl,aR1⟩
  exact allT
 have c1':¬((p.R.length:Nat):Int)>4:=by omega
 by_cases c2:200<p.C.length
 ·rw[chkP_many (.inr (.inl c2))]
  have c2':((p.C.length:Nat):Int)>200:=by omega
  refine acalls_at Try.func34 rfl rfl Try.ntmps34 rfl ?_
  refine vB [0,1,2] ?_
  refine⟨mkSt 109 [(2,.c (iC 2))] [] [],[],Wk.mk [] rfl rfl rfl ?_ trivial,rfl,rfl,aR1⟩
  exact allT
 have c2':¬((p.C.length:Nat):Int)>200:=by omega
 by_cases c2b:200<p.F.length
 ·rw[chkP_many (.inr (.inr c2b))]
  have c2':((p.F.length:Nat):Int)>200:=by omega
  refine acalls_at Try.func34 rfl rfl Try.ntmps34 rfl ?_
  refine vB [0,1,2] ?_
  refine⟨mkSt 109 [(2,.c (iC 2))] [] [],[],Wk.mk [] rfl rfl rfl ?_ trivial,rfl,rfl,aR1⟩
  exact allT
 have c2b':¬((p.F.length:Nat):Int)>200:=by omega
 have hM:¬(4<p.R.length∨200<p.C.length∨200<p.F.length):=by omega
 have hlong:= @chkP_long p
 obtain⟨e,he⟩:∃e,chkP p=e:=⟨_,rfl⟩
 rw[he]
 refine acalls_at Try.func34 rfl rfl Try.ntmps34 rfl ?_
 refine vB [0,1,3] ?_
 refine AWp.round (fun i:Nat=>
  mkSt 109 [(1,.c (.pt 1 5 0 0)),(3,.c (iC (i:Nat)))] [(1,⟨false,1,5,30,lF (pbC p)⟩)] [1]
  ) (fun i=>i≤p.C.length∧∀i',i'<i→¬32<(p.C.getD i' []).length) (fun i=>p.C.length-i) 0 ⟨Nat.zero_le _,fun _ h=>absurd h (Nat.not_lt_zero _)⟩ ?_ (fun i hi=> ?_)
 ·refine Wk.mk [(1,some 1)] rfl rfl rfl ?_ ?_
  ·exact allT
  ·exact allH
 obtain⟨hi,hno⟩:=hi
 by_cases hil:i<p.C.length
 ·have hil':(i:Int)<p.C.length:=by omega
  by_cases h32:32<(p.C.getD i []).length
  ·have h32':(((p.C.getD i []).length:Nat):Int)>32:=by omega
   rw[hlong hM hil h32]at he
   subst he
   repeat (first
    |refine vB [4,7] ?_
    | (refine rG 6 ?_
       (iterate 3 refine vA ?_)
       refine qr8eo2 (aP (k:=i) tyOk) ?_
       (iterate 3 refine vA ?_)
       refine aB ?_))
   refine⟨mkSt 109 [(2,.c (iC 2))] [] [],[],Wk.mk [] rfl rfl rfl ?_ trivial,rfl,rfl,aR1⟩
   exact allT
  ·have h32':¬(((p.C.getD i []).length:Nat):Int)>32:=by omega
   repeat (first
    |refine vB [4,5] ?_
    | (refine rG 6 ?_
       (iterate 3 refine vA ?_)
       refine qr8eo2 (aP (k:=i) tyOk) ?_
       (iterate 3 refine vA ?_)
       refine aB ?_))
   refine⟨i+1,⟨hil,fun i' hi'=> ?_⟩,Wk.mk [(1,some 1)] rfl rfl rfl ?_ ?_,by omega⟩
   ·by_cases e:i'=i
    ·rw[e];exact h32
    ·exact hno i' (by omega)
   ·exact allT
   ·exact allH
 have hil':¬(i:Int)<p.C.length:=by omega
 obtain rfl:i=p.C.length:=by omega
 have hrdk:= @chkP_rd p
 refine vB [4,8] ?_
 refine AWp.round (fun k:Nat=>
  mkSt 109 [(1,.c (.pt 1 5 0 0)),(4,.c (iC (k:Nat)))] [(1,⟨false,1,5,30,lF (pbC p)⟩)] [1]
  ) (fun k=>k≤p.R.length∧∀i,i<k→rdE (p.R.getD i rdZ)=0) (fun k=>p.R.length-k) 0 ⟨Nat.zero_le _,fun _ h=>absurd h (Nat.not_lt_zero _)⟩ ?_ (fun k hk=> ?_)
 ·refine Wk.mk [(1,some 1)] rfl rfl rfl ?_ ?_
  ·exact allT
  ·exact allH
 obtain⟨hk,hok⟩:=hk
 by_cases hkl:k<p.R.length
 ·have hkl':(k:Int)<p.R.length:=by omega
  have hc:=RRdCheck_A (p.R.getD k rdZ) (hrd _ (getD_mem28 hkl))
  have hrdk':=fun h=>hrdk hM hno hkl hok h
  generalize hg:rdE (p.R.getD k rdZ)=v at *
  by_cases hv:v=0
  ·subst hv
   repeat (first
    |refine vB [9,10,12] ?_
    | (refine rG 11 ?_
       (iterate 3 refine vA ?_)
       refine qr8eo2 (aP (k:=k) tyOk) ?_
       refine vA ?_
       refine aH rfl rfl rfl rfl Try.func55 rfl (by kernel_rfl) (hc) ?_
       refine vA ?_
       refine aB ?_))
   refine⟨k+1,⟨hkl,fun i hi=> ?_⟩,Wk.mk [(1,some 1)] rfl rfl rfl ?_ ?_,by omega⟩
   ·by_cases e:i=k
    ·rw[e];exact hg
    ·exact hok i (by omega)
   ·exact allT
   ·exact allH
  ·rw [hrdk' hv]at he
   subst he
   repeat (first
    |refine vB [9,12,13] ?_
    | (refine rG 11 ?_
       (iterate 3 refine vA ?_)
       refine qr8eo2 (aP (k:=k) tyOk) ?_
       refine vA ?_
       refine aH rfl rfl rfl rfl Try.func55 rfl (by kernel_rfl) (hc) ?_
       refine vA ?_
       refine aB ?_))
   refine⟨mkSt 109 [(2,.c (iC v))] [] [],[],Wk.mk [] rfl rfl rfl ?_ trivial,rfl,rfl,aR1⟩
   exact allT
 have hkl':¬(k:Int)<p.R.length:=by omega
 obtain rfl:k=p.R.length:=by omega
 by_cases c3:p.O.length=p.C.length∧p.T.length=p.F.length
 ·have c3a:((p.O.length:Nat):Int)=p.C.length:=by omega
  have c3b:((p.T.length:Nat):Int)=p.F.length:=by omega
  rw[chkP_maps hM hno hok c3]at he
  have hB:=bitmaps_A p (by omega) (by omega) (fun i hi=>by have:=hno i hi;omega)
  have hBl:(allB p).length≤100000:=by
   have h1:(allB p).length=p.C.flatten.length+p.F.length:=List.length_append
   have h2:=preB_len (C:=p.C) (fun i hi=>by have:=hno i hi;omega) _ (Nat.le_refl _)
   rw[preB_all]at h2
   omega
  generalize allB p=L at *
  have hb:= @chkA_bad L
  have hs:= @chkA_size L
  repeat (first
   |refine vB [9,14,17] ?_
   | (refine rG 16 ?_
      refine vA ?_
      refine aH rfl rfl rfl rfl Try.func56 rfl (by kernel_rfl) (hB) ?_
      refine vA ?_
      refine aB ?_))
  refine AWp.round (fun k:Nat=>mkSt 109 [(6,.c (lsB L)),(7,.c (iC k))] [] [])
   (fun k=>k≤L.length∧GoodL L k) (fun k=>L.length-k) 0 ⟨Nat.zero_le _,fun _ h=>absurd h (Nat.not_lt_zero _)⟩ ?_ (fun k hk=> ?_)
  ·refine Wk.mk [] rfl rfl rfl ?_ trivial
   exact allT
  obtain⟨hk,hg⟩:=hk
  by_cases hkl:k<L.length
  ·have hkl':(k:Int)<L.length:=by omega
   have h0:0<L.length:=by omega
   have hC:=rbCheck_A (L.getD k bpZ).W (L.getD k bpZ).H (L.getD k bpZ).n (L.getD k bpZ).d
   by_cases e1:chk (L.getD k bpZ).W (L.getD k bpZ).H (L.getD k bpZ).n=0
   ·rw [e1]at hC
    by_cases e2:(L.getD k bpZ).W=(L.getD 0 bpZ).W∧(L.getD k bpZ).H=(L.getD 0 bpZ).H
    ·have hgs:=GoodL.succ hg e1 e2
     obtain⟨e2a,e2b⟩:=e2
     repeat (first
      |refine vB [18,19,21] ?_
      | (refine rG 20 ?_
         (iterate 2 refine vA ?_)
         refine qr8eo2 (aP (k:=k) tyOk) ?_
         refine vA ?_
         refine aH rfl rfl rfl rfl Try.func49 rfl (by kernel_rfl) (hC) ?_
         refine vA ?_
         refine aB ?_)
      |(refine AWp.draw (id:=23) mixed ?_;(iterate 2 refine vA ?_);refine qr8eo2 (aP (k:=k) tyOk) ?_;(iterate 3 refine vA ?_);refine qr8eo2 (aP (k:=0) tyOk) ?_;(iterate 6 refine vA ?_);refine qr8eo2 (aP (k:=k) tyOk) ?_;(iterate 3 refine vA ?_);refine qr8eo2 (aP (k:=0) tyOk) ?_;(iterate 4 refine vA ?_);refine aB ⟨by kernel_rfl,?_⟩))
     refine⟨k+1,⟨hkl,hgs⟩,Wk.mk [] rfl rfl rfl ?_ trivial,by omega⟩
     exact allT
    ·rw[hs hkl hg e1 e2]at he
     subst he
     by_cases e2a:(L.getD k bpZ).W=(L.getD 0 bpZ).W
     ·have e2b:¬(L.getD k bpZ).H=(L.getD 0 bpZ).H:=fun h=>e2 ⟨e2a,h⟩
      repeat (first
       |refine vB [18,21,24] ?_
       | (refine rG 20 ?_
          (iterate 2 refine vA ?_)
          refine qr8eo2 (aP (k:=k) tyOk) ?_
          refine vA ?_
          refine aH rfl rfl rfl rfl Try.func49 rfl (by kernel_rfl) (hC) ?_
          refine vA ?_
          refine aB ?_)
       |(refine AWp.draw (id:=23) mixed ?_;(iterate 2 refine vA ?_);refine qr8eo2 (aP (k:=k) tyOk) ?_;(iterate 3 refine vA ?_);refine qr8eo2 (aP (k:=0) tyOk) ?_;(iterate 6 refine vA ?_);refine qr8eo2 (aP (k:=k) tyOk) ?_;(iterate 3 refine vA ?_);refine qr8eo2 (aP (k:=0) tyOk) ?_;(iterate 4 refine vA ?_);refine aB ⟨by kernel_rfl,?_⟩))
      refine⟨mkSt 109 [(2,.c (iC 13))] [] [],[],Wk.mk [] rfl rfl rfl ?_ trivial,rfl,rfl,aR1⟩
      exact allT
     ·repeat (first
       |refine vB [18,21,24] ?_
       | (refine rG 20 ?_
          (iterate 2 refine vA ?_)
          refine qr8eo2 (aP (k:=k) tyOk) ?_
          refine vA ?_
          refine aH rfl rfl rfl rfl Try.func49 rfl (by kernel_rfl) (hC) ?_
          refine vA ?_
          refine aB ?_)
       |(refine AWp.draw (id:=23) mixed ?_;(iterate 2 refine vA ?_);refine qr8eo2 (aP (k:=k) tyOk) ?_;(iterate 3 refine vA ?_);refine qr8eo2 (aP (k:=0) tyOk) ?_;(iterate 15 refine vA ?_);refine aB ⟨by kernel_rfl,?_⟩))
      refine⟨mkSt 109 [(2,.c (iC 13))] [] [],[],Wk.mk [] rfl rfl rfl ?_ trivial,rfl,rfl,aR1⟩
      exact allT
   ·rw [hb hkl hg e1]at he
    rw[he]at hC e1
    repeat (first
     |refine vB [18,21,22] ?_
     | (refine rG 20 ?_
        (iterate 2 refine vA ?_)
        refine qr8eo2 (aP (k:=k) tyOk) ?_
        refine vA ?_
        refine aH rfl rfl rfl rfl Try.func49 rfl (by kernel_rfl) (hC) ?_
        refine vA ?_
        refine aB ?_))
    refine⟨mkSt 109 [(2,.c (iC e))] [] [],[],Wk.mk [] rfl rfl rfl ?_ trivial,rfl,rfl,aR1⟩
    exact allT
  ·have hkl':¬(k:Int)<L.length:=by omega
   obtain rfl:k=L.length:=by omega
   rw[chkA_ok hg]at he
   subst he
   refine vB [18,25] ?_
   refine⟨mkSt 109 [(2,.c (iC 0))] [] [],[],Wk.mk [] rfl rfl rfl ?_ trivial,rfl,rfl,aR1⟩
   exact allT
 ·rw[chkP_len hM hno hok c3]at he
  subst he
  by_cases c3a:p.O.length=p.C.length
  ·have c3a':((p.O.length:Nat):Int)=p.C.length:=by omega
   have c3b:¬((p.T.length:Nat):Int)=p.F.length:=by omega
   refine vB [9,14,15] ?_
   refine⟨mkSt 109 [(2,.c (iC 1))] [] [],[],Wk.mk [] rfl rfl rfl ?_ trivial,rfl,rfl,aR1⟩
   exact allT
  ·have c3a':¬((p.O.length:Nat):Int)=p.C.length:=by omega
   refine vB [9,14,15] ?_
   refine⟨mkSt 109 [(2,.c (iC 1))] [] [],[],Wk.mk [] rfl rfl rfl ?_ trivial,rfl,rfl,aR1⟩
   exact allT
theorem rd_md21(bl sh:Int):rdE (md21 bl sh)=0∧-1000000≤(md21 bl sh).bl∧(md21 bl sh).bl≤1000000:=by
 unfold md21
 have h0:=Int.emod_nonneg bl (show(3:Int)≠0 by omega)
 have h3:=Int.emod_lt_of_pos bl (show(0:Int)<3 by omega)
 generalize bl%3=c at *
 have hc:c=0∨c=1∨c=2:=by omega
 refine⟨?_,by dsimp only;omega,by dsimp only;omega⟩
 rcases hc with rfl|rfl|rfl
 ·have h1:=Int.emod_nonneg sh (show((2*0+1)*(2*0+1):Int)≠0 by decide)
  have h2:=Int.emod_lt_of_pos sh (show(0:Int)<(2*0+1)*(2*0+1) by decide)
  generalize sh%((2*0+1)*(2*0+1))=v at *
  unfold rdE
  simp
  omega
 ·have h1:=Int.emod_nonneg sh (show((2*1+1)*(2*1+1):Int)≠0 by decide)
  have h2:=Int.emod_lt_of_pos sh (show(0:Int)<(2*1+1)*(2*1+1) by decide)
  generalize sh%((2*1+1)*(2*1+1))=v at *
  unfold rdE
  simp
  omega
 ·have h1:=Int.emod_nonneg sh (show((2*2+1)*(2*2+1):Int)≠0 by decide)
  have h2:=Int.emod_lt_of_pos sh (show(0:Int)<(2*2+1)*(2*2+1) by decide)
  generalize sh%((2*2+1)*(2*2+1))=v at *
  unfold rdE
  simp
  omega
theorem rdIter_md(ll:List (List Int)):∀k,∀r∈(rdIter ll k).2,∃bl sh,r=md21 bl sh
 |0,r,h=>by cases h
 | k+1,r,h=>by
   rcases List.mem_append.1 (show r∈(rdIter ll k).2++ [md21 _ _]from h)with h|h
   ·exact rdIter_md ll k r h
   ·exact⟨_,_,List.mem_singleton.1 h⟩
theorem lists_bd(ll:List (List Int)):rdN ll≤2∧lsN28 ll≤3∧fxN28 ll≤2:=by
 have h1:=dvA_bd ll 0 3 (by decide)
 have h2:=dvA_bd ll (rdIter ll (rdN ll)).1 4 (by decide)
 have h3:=dvA_bd ll (nxA ll (rdIter ll (rdN ll)).1) 3 (by decide)
 unfold lsN28 fxN28
 refine⟨by unfold rdN;omega,by omega,by omega⟩
theorem made_sm(ll:List (List Int)):Sm (made28 ll)∧∀l∈(made28 ll).C,l.length≤3:=by
 obtain⟨b1,b2,b3⟩:=lists_bd ll
 have h:=moIter_ok ll (lsN28 ll+fxN28 ll)
 have hR:=rdIter_len ll (rdN ll)
 have hC:=h.C
 have hF:=h.F
 refine⟨⟨?_,fun r hr=> ?_,?_,fun l hl=> ?_,?_,h.Ff,h.O,h.T⟩,fun l hl=>(h.Cc l hl).1⟩
 ·show(rdIter ll (rdN ll)).2.length≤4
  omega
 ·obtain⟨bl,sh,rfl⟩:=rdIter_md ll _ r hr
  exact rd_md21 bl sh
 ·show(moIter ll (lsN28 ll+fxN28 ll)).C.length≤5
  omega
 ·have:=h.Cc l hl
  exact⟨by omega,this.2⟩
 ·show(moIter ll (lsN28 ll+fxN28 ll)).F.length≤6
  omega
theorem rd_neF(r:Rd)(w:World):(Go.binOp .neq 72 (.agg #[.int .i64 r.bl,.int .i64 r.sh]) (.agg #[.int .i64 r.bl,.int .i64 r.sh])).run Try.prog w=.ok (.bool false) w:=by
 have hp:Try.prog.stoodInHeld 72=false:=by kernel_rfl
 go_simp
theorem bg_neF28(r:Bg)(w:World):(Go.binOp .neq 34 (.agg #[.int .i64 r.lo,.int .i64 r.bl,.int .i64 r.sh,.int .i64 r.st]) (.agg #[.int .i64 r.lo,.int .i64 r.bl,.int .i64 r.sh,.int .i64 r.st])).run Try.prog w=.ok (.bool false) w:=by
 have hp:Try.prog.stoodInHeld 34=false:=by kernel_rfl
 go_simp
set_option maxRecDepth 100000 in
theorem Same04_A(b:Bp)(hn:b.n≤1000000):ACalls Try.prog 57 [.ag (bpC b),.ag (bpC b)] (.c (bC true)):=by
 refine acalls_at Try.func57 rfl rfl Try.ntmps57 rfl ?_
 repeat (first
  |refine vB [0,3] ?_
  | (refine rG 1 ?_
     (iterate 4 refine vA ?_)
     first|refine qr5t aK ?_|refine qr5f aJ ?_|refine aJ rfl rfl rfl rfl rfl (by simp only[cmpP,eq_self,decide_true,Bool.not_true]) ?_|refine qr5 aW ?_
     (iterate 5 refine vA ?_)
     first|refine qr2 aG ?_|refine qr5t aK ?_|refine qr5f aJ ?_|refine aJ rfl rfl rfl rfl rfl (by simp only[cmpP,eq_self,decide_true,Bool.not_true]) ?_|refine qr5 aW ?_
     (iterate 8 refine vA ?_)
     first|refine qr2 aG ?_|refine qr5t aK ?_|refine qr5f aJ ?_|refine aJ rfl rfl rfl rfl rfl (by simp only[cmpP,eq_self,decide_true,Bool.not_true]) ?_|refine qr5 aW ?_
     refine vA ?_
     refine aB ?_))
 refine AWp.round (fun k:Nat=>mkSt 45 [(2,.c (.pt 2 3 0 0)),(3,.c (.pt 3 3 0 0)),(5,.c (iC k))] [(2,⟨false,1,3,47,lF (bpC b)⟩),(3,⟨false,1,3,47,lF (bpC b)⟩)] [2,3])
  (fun k=>k≤b.n) (fun k=>b.n-k) 0 (Nat.zero_le _) ?_ (fun k hk=> ?_)
 ·refine Wk.mk [(2,some 2),(3,some 3)] rfl rfl rfl ?_ ?_
  ·exact allT
  ·exact allH
 ·by_cases hkn:k<b.n
  ·have hne:(!(b.d k==b.d k))=false:=by simp
   repeat (first
    |refine vB [4,5] ?_
    |(refine AWp.draw (id:=6) mixed ?_;(iterate 3 refine vA ?_);(first|refine qr8eo2 (aP (k:=k) tyOk) ?_|refine qr10eo (AList.idxOw (k:=k) tyOk) ?_);(iterate 4 refine vA ?_);(first|refine qr8eo2 (aP (k:=k) tyOk) ?_|refine qr10eo (AList.idxOw (k:=k) tyOk) ?_);(iterate 2 refine vA ?_);refine aB ⟨by kernel_rfl,?_⟩))
   refine⟨k+1,hkn,Wk.mk [(2,some 2),(3,some 3)] rfl rfl rfl ?_ ?_,by omega⟩
   ·exact allT
   ·exact allH
  ·refine vB [4,8] ?_
   refine⟨mkSt 45 [(4,.c (bC true))] [] [],[],Wk.mk [] rfl rfl rfl ?_ trivial,rfl,rfl,aR1⟩
   exact allT
set_option maxRecDepth 100000 in
theorem sameBitmaps_A(L:List Bp)(hl:L.length≤1000000)(h:∀b∈L,b.n≤1000000):ACalls Try.prog 35 [.c (lsB L),.c (lsB L)] (.c (bC true)):=by
 have hS:=fun k (hk:k<L.length)=>Same04_A (L.getD k bpZ) (h _ (getD_mem28 hk))
 refine acalls_at Try.func35 rfl rfl Try.ntmps35 rfl ?_
 repeat (first
  |refine vB [0,3] ?_
  | (refine rG 1 ?_
     (iterate 4 refine vA ?_)
     first|refine qr5t aK ?_|refine qr5f aJ ?_|refine aJ rfl rfl rfl rfl rfl (by simp only[cmpP,eq_self,decide_true,Bool.not_true]) ?_|refine qr5 aW ?_
     refine aB ?_))
 refine AWp.round (fun k:Nat=>mkSt 29 [(0,.c (lsB L)),(1,.c (lsB L)),(5,.c (iC k))] [] [])
  (fun k=>k≤L.length) (fun k=>L.length-k) 0 (Nat.zero_le _) ?_ (fun k hk=> ?_)
 ·refine Wk.mk [] rfl rfl rfl ?_ trivial
  exact allT
 ·by_cases hkn:k<L.length
  ·have hkn':(k:Int)<L.length:=by omega
   have hSk:=hS k hkn
   repeat (first
    |refine vB [4,5,7] ?_
    |(refine AWp.draw (id:=6) mixed ?_;(iterate 2 refine vA ?_);(first|refine qr8eo2 (aP (k:=k) tyOk) ?_|refine qr10eo (AList.idxOw (k:=k) tyOk) ?_);(iterate 3 refine vA ?_);(first|refine qr8eo2 (aP (k:=k) tyOk) ?_|refine qr10eo (AList.idxOw (k:=k) tyOk) ?_);refine vA ?_;refine aH rfl rfl rfl rfl Try.func57 rfl (by kernel_rfl) (hSk) ?_;refine vA ?_;refine aB ⟨by kernel_rfl,?_⟩))
   refine⟨k+1,hkn,Wk.mk [] rfl rfl rfl ?_ trivial,by omega⟩
   exact allT
  ·have hkn':¬(k:Int)<L.length:=by omega
   refine vB [4,9] ?_
   refine⟨mkSt 29 [(4,.c (bC true))] [] [],[],Wk.mk [] rfl rfl rfl ?_ trivial,rfl,rfl,aR1⟩
   exact allT
set_option maxRecDepth 100000 in
theorem sameBudgets_A(L:List Bg)(hl:L.length≤1000000):ACalls Try.prog 36 [.c (lsG L),.c (lsG L)] (.c (bC true)):=by
 have hS:=fun k=>bg_neF28 (L.getD k bgZ)
 refine acalls_at Try.func36 rfl rfl Try.ntmps36 rfl ?_
 repeat (first
  |refine vB [0,3] ?_
  | (refine rG 1 ?_
     (iterate 4 refine vA ?_)
     first|refine qr5t aK ?_|refine qr5f aJ ?_|refine aJ rfl rfl rfl rfl rfl (by simp only[cmpP,eq_self,decide_true,Bool.not_true]) ?_|refine qr5 aW ?_
     refine aB ?_))
 refine AWp.round (fun k:Nat=>mkSt 26 [(0,.c (lsG L)),(1,.c (lsG L)),(5,.c (iC k))] [] [])
  (fun k=>k≤L.length) (fun k=>L.length-k) 0 (Nat.zero_le _) ?_ (fun k hk=> ?_)
 ·refine Wk.mk [] rfl rfl rfl ?_ trivial
  exact allT
 ·by_cases hkn:k<L.length
  ·have hkn':(k:Int)<L.length:=by omega
   have hSk:=hS k
   repeat (first
    |refine vB [4,5] ?_
    |(refine AWp.draw (id:=6) mixed ?_;(iterate 2 refine vA ?_);(first|refine qr8eo2 (aP (k:=k) tyOk) ?_|refine qr10eo (AList.idxOw (k:=k) tyOk) ?_);(iterate 3 refine vA ?_);(first|refine qr8eo2 (aP (k:=k) tyOk) ?_|refine qr10eo (AList.idxOw (k:=k) tyOk) ?_);refine vA ?_;refine AList.binAg rfl rfl rfl rfl rfl rfl (by kernel_rfl) (hSk) ?_;refine aB ⟨by kernel_rfl,?_⟩))
   refine⟨k+1,hkn,Wk.mk [] rfl rfl rfl ?_ trivial,by omega⟩
   exact allT
  ·have hkn':¬(k:Int)<L.length:=by omega
   refine vB [4,8] ?_
   refine⟨mkSt 26 [(4,.c (bC true))] [] [],[],Wk.mk [] rfl rfl rfl ?_ trivial,rfl,rfl,aR1⟩
   exact allT
set_option maxRecDepth 100000 in
theorem Same28_A(p:Pb)(hp:p.ok)(hC:∀l∈p.C,∀b∈l,b.n≤1000000)(hF:∀b∈p.F,b.n≤1000000):ACalls Try.prog 12 [.ag (pbC p),.ag (pbC p)] (.c (bC true)):=by
 obtain⟨hrd,lR,lC,lF',lO,lT,lc⟩:=hp
 have sF:=sameBitmaps_A p.F lF' hF
 have sO:=sameBudgets_A p.O lO
 have sT:=sameBudgets_A p.T lT
 have sC:=fun k (hk:k<p.C.length)=>sameBitmaps_A (p.C.getD k []) (lc _ (getD_mem28 hk)) (hC _ (getD_mem28 hk))
 have hR:=fun k=>rd_neF (p.R.getD k rdZ)
 refine acalls_at Try.func12 rfl rfl Try.ntmps12 rfl ?_
 repeat (first
  |refine vB [0,3] ?_
  | (refine rG 1 ?_
     (iterate 6 refine vA ?_)
     first|refine qr5t aK ?_|refine qr5f aJ ?_|refine aJ rfl rfl rfl rfl rfl (by simp only[cmpP,eq_self,decide_true,Bool.not_true]) ?_|refine qr5 aW ?_
     (iterate 7 refine vA ?_)
     first|refine qr2 aG ?_|refine qr5t aK ?_|refine qr5f aJ ?_|refine aJ rfl rfl rfl rfl rfl (by simp only[cmpP,eq_self,decide_true,Bool.not_true]) ?_|refine qr5 aW ?_
     (iterate 6 refine vA ?_)
     first|refine qr2 aG ?_|refine aH rfl rfl rfl rfl Try.func35 rfl (by kernel_rfl) (sF) ?_
     (iterate 7 refine vA ?_)
     first|refine qr2 aG ?_|refine aH rfl rfl rfl rfl Try.func36 rfl (by kernel_rfl) (sO) ?_|refine aH rfl rfl rfl rfl Try.func36 rfl (by kernel_rfl) (sT) ?_
     (iterate 7 refine vA ?_)
     first|refine qr2 aG ?_|refine aH rfl rfl rfl rfl Try.func36 rfl (by kernel_rfl) (sO) ?_|refine aH rfl rfl rfl rfl Try.func36 rfl (by kernel_rfl) (sT) ?_
     (iterate 2 refine vA ?_)
     refine aB ?_))
 refine AWp.round (fun k:Nat=>
  mkSt 84 [(2,.c (.pt 2 5 0 0)),(3,.c (.pt 3 5 0 0)),(5,.c (iC (k:Nat)))] [(2,⟨false,1,5,30,lF (pbC p)⟩),(3,⟨false,1,5,30,lF (pbC p)⟩)] [2,3]
  ) (fun k=>k≤p.R.length) (fun k=>p.R.length-k) 0 (Nat.zero_le _) ?_ (fun k hk=> ?_)
 ·refine Wk.mk [(2,some 2),(3,some 3)] rfl rfl rfl ?_ ?_
  ·exact allT
  ·exact allH
 by_cases hkn:k<p.R.length
 ·have hkn':(k:Int)<p.R.length:=by omega
  have hRk:=hR k
  repeat (first
   |refine vB [4,5] ?_
   |(refine AWp.draw (id:=6) mixed ?_;(iterate 3 refine vA ?_);(first|refine qr8eo2 (aP (k:=k) tyOk) ?_|refine qr10eo (AList.idxOw (k:=k) tyOk) ?_);(iterate 4 refine vA ?_);(first|refine qr8eo2 (aP (k:=k) tyOk) ?_|refine qr10eo (AList.idxOw (k:=k) tyOk) ?_);refine vA ?_;refine AList.binAg rfl rfl rfl rfl rfl rfl (by kernel_rfl) (hRk) ?_;refine aB ⟨by kernel_rfl,?_⟩))
  refine⟨k+1,hkn,Wk.mk [(2,some 2),(3,some 3)] rfl rfl rfl ?_ ?_,by omega⟩
  ·exact allT
  ·exact allH
 have hkn':¬(k:Int)<p.R.length:=by omega
 clear hk hkn
 refine vB [4,8] ?_
 refine AWp.round (fun k:Nat=>
  mkSt 84 [(2,.c (.pt 2 5 0 0)),(3,.c (.pt 3 5 0 0)),(6,.c (iC (k:Nat)))] [(2,⟨false,1,5,30,lF (pbC p)⟩),(3,⟨false,1,5,30,lF (pbC p)⟩)] [2,3]
  ) (fun k=>k≤p.C.length) (fun k=>p.C.length-k) 0 (Nat.zero_le _) ?_ (fun k hk=> ?_)
 ·refine Wk.mk [(2,some 2),(3,some 3)] rfl rfl rfl ?_ ?_
  ·exact allT
  ·exact allH
 by_cases hkn:k<p.C.length
 ·have hkn':(k:Int)<p.C.length:=by omega
  have hCk:=sC k hkn
  obtain⟨L,hL⟩:∃L,p.C.getD k []=L:=⟨_,rfl⟩
  have hcF:chF p.C k 0=lsB L:=by rw[←hL]
  rw[hL]at hCk
  repeat (first
   |refine vB [9,10] ?_
   |(refine AWp.draw (id:=11) mixed ?_;(iterate 3 refine vA ?_);(first|refine qr8eo2 (aP (k:=k) tyOk) ?_|refine qr10eo (AList.idxOw (k:=k) tyOk) ?_);(first|refine AList.load1lE tyOk (hcF) rfl rfl rfl rfl rfl oM ?_|refine AList.load1F tyOk rfl rfl rfl rfl rfl rfl rfl oM oM (hcF) ?_);(iterate 3 refine vA ?_);(first|refine qr8eo2 (aP (k:=k) tyOk) ?_|refine qr10eo (AList.idxOw (k:=k) tyOk) ?_);(first|refine AList.load1lE tyOk (hcF) rfl rfl rfl rfl rfl oM ?_|refine AList.load1F tyOk rfl rfl rfl rfl rfl rfl rfl oM oM (hcF) ?_);refine aH rfl rfl rfl rfl Try.func35 rfl (by kernel_rfl) (hCk) ?_;refine vA ?_;refine aB ⟨by kernel_rfl,?_⟩))
  refine⟨k+1,hkn,Wk.mk [(2,some 2),(3,some 3)] rfl rfl rfl ?_ ?_,by omega⟩
  ·exact allT
  ·exact allH
 have hkn':¬(k:Int)<p.C.length:=by omega
 refine vB [9,13] ?_
 refine⟨mkSt 84 [(4,.c (bC true))] [] [],[],Wk.mk [] rfl rfl rfl ?_ trivial,rfl,rfl,aR1⟩
 exact allT
theorem sm_bd{p:Pb}(h:Sm p):p.bd 200:=by
 obtain⟨hR,hr,hC,hc,hF,hf,hO,hT⟩:=h
 have h65:∀b:Bp,(∃d,b=bp65 d)→BpBd 200 b:=fun b ⟨d,e⟩=>by subst e;exact⟨(by decide:-((200:Nat):Int)≤6∧(6:Int)≤((200:Nat):Int)),(by decide:30≤200)⟩
 exact⟨fun r h=>(hr r h).2,by omega,by omega,by omega,by omega,by omega,fun l hl=>⟨by have:=(hc l hl).1;omega,fun b hb=>h65 b ((hc l hl).2 b hb)⟩,fun b hb=>h65 b (hf b hb)⟩
theorem sm_n{p:Pb}(h:Sm p):(∀l∈p.C,∀b∈l,b.n≤1000000)∧∀b∈p.F,b.n≤1000000:=by
 have hb:=sm_bd h
 exact⟨fun l hl b h=>by have:=((hb.C l hl).2 b h).2;omega,fun b h=>by have:=(hb.F b h).2;omega⟩
theorem pbZ_ok:pbZ.ok:=⟨rd_nil,by decide,by decide,by decide,by decide,by decide,fun _ h=>by cases h⟩
set_option maxRecDepth 100000 in
theorem rPart_A(p:Pb)(hp:p.ok)(ns:List Int)(hn:ns.length≤1000000):ACalls Try.prog 11 [.ag (pbC p),.c (lsI ns)] (.tu [.ag (pbC (partV p ns).1),.c (iC (partV p ns).2)]):=by
 have hC:=rCheck28_A p hp
 obtain⟨e,he⟩:∃e,chkP p=e:=⟨_,rfl⟩
 rw[he]at hC
 by_cases h0:e=0
 rotate_left
 ·rw [show partV p ns=(pbZ,e) by rw[←he]at h0⊢;exact if_neg h0]
  refine acalls_at Try.func11 rfl rfl Try.ntmps11 rfl ?_
  repeat (first
   |refine vB [0,2,3] ?_
   | (refine rG 1 ?_
      refine vA ?_
      refine aH rfl rfl rfl rfl Try.func34 rfl (by kernel_rfl) (hC) ?_
      refine vA ?_
      refine aB ?_))
  refine⟨mkSt 87 [(4,.c (.pt 4 5 0 0)),(5,.c (iC (e)))] [(4,⟨false,1,5,30,lF (pbC pbZ)⟩)] [4],[(4,⟨false,1,5,30,lF (pbC pbZ)⟩)],Wk.mk [(4,some 4)] rfl rfl rfl ?_ ?_,rfl,rfl,ARets.two (x:=.ag _) (y:=.c _) (ARes.box tyOk rfl rfl rfl rfl rfl rfl rfl) (ARes.tmp rfl rfl)⟩
  ·exact allT
  ·exact⟨HeapOk.box rfl rfl ⟨LeC.nils _ _,LeC.nils _ _,LeC.nils _ _,LeC.nils _ _,LeC.nils _ _,trivial⟩ rfl,trivial⟩
 subst h0
 have hfit:=chkP_fit hp he
 have hpv:partV p ns=if nmOk p.C.length ns=true then (subP p ns,0)else (pbZ,1):=if_pos he
 have hbn:=chkP_bn he
 have lC:=hfit.c
 have lF0:=hfit.f
 have lO:=hfit.o
 have lT:=hfit.t
 obtain⟨V,hV⟩:∃V,partV p ns=V:=⟨_,rfl⟩
 rw[hV]
 rw[hV]at hpv
 refine acalls_at Try.func11 rfl rfl Try.ntmps11 rfl ?_
 repeat (first
  |refine vB [0,2,4,5] ?_
  | (refine rG 1 ?_
     refine vA ?_
     refine aH rfl rfl rfl rfl Try.func34 rfl (by kernel_rfl) (hC) ?_
     refine vA ?_
     refine aB ?_))
 refine AWp.round (fun k:Nat=>
  mkSt 87 [(1,.c (lsI ns)),(2,.c (.pt 2 5 0 0)),(4,.c (.pt 4 5 0 0)),(7,.c (.pt 7 5 0 0)),(8,.c (iC (k:Nat)))] [(2,⟨false,1,5,30,lF (pbC p)⟩),(4,⟨false,1,5,30,lF [nl8,nl8,nl8,nl8,nl8]⟩),(7,⟨false,1,5,30,lF [lsR p.R,.ow 120,lsB p.F,.ow 121,lsG p.T]⟩),(120,chB (pickC p.C (ns.take (k)))),(121,bgB (pickO p.O (ns.take (k))))] [2,4,7,120,121]
  ) (fun k=>k≤ns.length∧∀i,i<k→0≤fI ns i∧fI ns i<p.C.length∧(0<i→fI ns (i-1)<fI ns i)) (fun k=>ns.length-k) 0 ⟨Nat.zero_le _,fun _ h=>absurd h (Nat.not_lt_zero _)⟩ ?_ (fun k hk=> ?_)
 ·refine Wk.mk [(2,some 2),(4,some 4),(7,some 7),(120,none),(121,none)] rfl rfl rfl ?_ ?_
  ·exact allT
  ·exact⟨hSm,hSm,HeapOk.box rfl rfl ⟨LeC.refl _ rfl,LeC.nil _ rfl,LeC.refl _ rfl,LeC.nil _ rfl,LeC.refl _ rfl,trivial⟩ rfl,HeapOk.nil rfl rfl,HeapOk.nil rfl rfl,trivial⟩
 obtain⟨hk,hok⟩:=hk
 by_cases hkl:k<ns.length
 rotate_left
 ·have hkl':¬(k:Int)<ns.length:=by omega
  obtain rfl:k=ns.length:=by omega
  rw[if_pos (nmOk_iff.2 hok)]at hpv
  rw[hpv]
  refine vB [6] ?_
  refine AWp.weak (S':=mkSt 87 [(4,.c (.pt 4 5 0 0)),(7,.c (.pt 7 5 0 0))] [(4,⟨false,1,5,30,lF [nl8,nl8,nl8,nl8,nl8]⟩),(7,⟨false,1,5,30,lF (pbC (subP p ns))⟩)] [4,7]) (Wk.mk [(4,some 4),(7,some 7)] rfl rfl rfl ?_ ?_) ?_
  ·exact allT
  ·rw[List.take_length]
   exact⟨hSm,HeapOk.box rfl rfl ⟨LeC.refl _ rfl,LeC.fz rfl rfl rfl (fun _ _ _ _=>⟨rfl,rfl⟩),LeC.refl _ rfl,LeC.fz rfl rfl rfl (fun i _ j _=>⟨rfl,rowF_imm bgC_imm28 _ i j⟩),LeC.refl _ rfl,trivial⟩ rfl,trivial⟩
  refine vB [12] ?_
  refine⟨mkSt 87 [(4,.c (.pt 4 5 0 0)),(5,.c (iC 0))] [(4,⟨false,1,5,30,lF (pbC (subP p ns))⟩)] [4],[(4,⟨false,1,5,30,lF (pbC (subP p ns))⟩)],Wk.mk [(4,some 4)] rfl rfl rfl ?_ ?_,rfl,rfl,ARets.two (x:=.ag _) (y:=.c _) (ARes.box tyOk rfl rfl rfl rfl rfl rfl rfl) (ARes.tmp rfl rfl)⟩
  ·exact allT
  ·exact⟨hSm,trivial⟩
 have hkl':(k:Int)<ns.length:=by omega
 have bad:¬(0≤fI ns k∧fI ns k<p.C.length∧(0<k→fI ns (k-1)<fI ns k))→V=(pbZ,1):=fun h=>by rw[hpv,nmOk_no hkl h];rfl
 by_cases c1:fI ns k<0
 ·rw[bad fun h=>by omega]
  repeat (first
   |refine vB [6,9] ?_
   |(refine AWp.draw (id:=8) mixed ?_;(iterate 2 refine vA ?_);refine qr8eo2 (aP (k:=k) tyOk) ?_;(iterate 28 refine vA ?_);refine aB ⟨by kernel_rfl,?_⟩))
  refine⟨mkSt 87 [(4,.c (.pt 4 5 0 0)),(5,.c (iC (1)))] [(4,⟨false,1,5,30,lF (pbC pbZ)⟩)] [4],[(4,⟨false,1,5,30,lF (pbC pbZ)⟩)],Wk.mk [(4,some 4)] rfl rfl rfl ?_ ?_,rfl,rfl,ARets.two (x:=.ag _) (y:=.c _) (ARes.box tyOk rfl rfl rfl rfl rfl rfl rfl) (ARes.tmp rfl rfl)⟩
  ·exact allT
  ·exact⟨HeapOk.box rfl rfl ⟨LeC.nils _ _,LeC.nils _ _,LeC.nils _ _,LeC.nils _ _,LeC.nils _ _,trivial⟩ rfl,trivial⟩
 by_cases c2:fI ns k≥p.C.length
 ·rw[bad fun h=>by omega]
  repeat (first
   |refine vB [6,9] ?_
   |(refine AWp.draw (id:=8) mixed ?_;(iterate 2 refine vA ?_);refine qr8eo2 (aP (k:=k) tyOk) ?_;(iterate 5 refine vA ?_);refine qr8eo2 (aP (k:=k) tyOk) ?_;(iterate 22 refine vA ?_);refine aB ⟨by kernel_rfl,?_⟩))
  refine⟨mkSt 87 [(4,.c (.pt 4 5 0 0)),(5,.c (iC (1)))] [(4,⟨false,1,5,30,lF (pbC pbZ)⟩)] [4],[(4,⟨false,1,5,30,lF (pbC pbZ)⟩)],Wk.mk [(4,some 4)] rfl rfl rfl ?_ ?_,rfl,rfl,ARets.two (x:=.ag _) (y:=.c _) (ARes.box tyOk rfl rfl rfl rfl rfl rfl rfl) (ARes.tmp rfl rfl)⟩
  ·exact allT
  ·exact⟨HeapOk.box rfl rfl ⟨LeC.nils _ _,LeC.nils _ _,LeC.nils _ _,LeC.nils _ _,LeC.nils _ _,trivial⟩ rfl,trivial⟩
 obtain⟨j,hj⟩:=Int.eq_ofNat_of_zero_le (show 0≤fI ns k by omega)
 have hjl:j<p.C.length:=by omega
 have hjo:j<p.O.length:=by omega
 have hcF:chF p.C j 0=lsB (p.C.getD j []):=rfl
 have hL32:=hfit.l _ (getD_mem28 (L:=p.C) (k:=j) (z:= []) hjl)
 skip
 have go:(0<k→fI ns (k-1)<fI ns k)→k+1≤ns.length∧∀i,i<k+1→0≤fI ns i∧fI ns i<p.C.length∧(0<i→fI ns (i-1)<fI ns i):=fun h=>⟨hkl,fun i hi=>by
  by_cases e:i=k
  ·rw[e];exact⟨by omega,by omega,h⟩
  ·exact hok i (by omega)⟩
 have l1:(pickC p.C (ns.take k)).length=k:=by rw[List.length_map,List.length_take];omega
 have l2:(pickO p.O (ns.take k)).length=k:=by rw[List.length_map,List.length_take];omega
 have l3:(pickC p.C (ns.take (k+1))).length=k+1:=by rw[List.length_map,List.length_take];omega
 have l4:(pickO p.O (ns.take (k+1))).length=k+1:=by rw[List.length_map,List.length_take];omega
 have e1:pickC p.C (ns.take (k+1))=pickC p.C (ns.take k)++ [p.C.getD j []]:=(pick_succ (fun n=>p.C.getD n.toNat []) hkl).trans (by rw[hj];rfl)
 have e2:pickO p.O (ns.take (k+1))=pickO p.O (ns.take k)++ [p.O.getD j bgZ]:=(pick_succ (fun n=>p.O.getD n.toNat bgZ) hkl).trans (by rw[hj];rfl)
 have ng:fI ns k=(j:Int):=hj
 obtain⟨q1,hq1⟩:∃q,pickC p.C (ns.take k)=q:=⟨_,rfl⟩
 obtain⟨q2,hq2⟩:∃q,pickO p.O (ns.take k)=q:=⟨_,rfl⟩
 rw[hq1]at l1 e1
 rw[hq2]at l2 e2
 have lq1:q1.length≤1000000:=by omega
 have lq2:q2.length≤1000000:=by omega
 rw[hq1,hq2]
 by_cases c3:k=0
 ·have g:=go fun h=>by omega
  have c3':¬(k:Int)>0:=by omega
  repeat (first
   |refine vB [6,7] ?_
   |(refine AWp.draw (id:=8) mixed ?_;(iterate 2 refine vA ?_);refine qr8eo2 (aP (k:=k) tyOk) ?_;(iterate 5 refine vA ?_);refine qr8eo2 (aP (k:=k) tyOk) ?_;(iterate 22 refine vA ?_);refine aB ⟨by kernel_rfl,?_⟩)
   |(refine AWp.draw (id:=10) mixed ?_;(iterate 6 refine vA ?_);refine qr8eo2 (aP (k:=k) tyOk) ?_;refine vA ?_;refine qr8eo2 (aP (k:=j) tyOk) ?_;refine AList.load1lE tyOk (hcF) rfl rfl rfl rfl rfl oM ?_;refine vA ?_;refine AList.appL tyOk rfl rfl rfl rfl rfl rfl rfl rfl rfl rfl oM oM ?_;(iterate 2 refine vA ?_);refine aB ⟨by kernel_rfl,?_⟩)
   |(refine AWp.draw (id:=11) mixed ?_;(iterate 6 refine vA ?_);refine qr8eo2 (aP (k:=k) tyOk) ?_;refine vA ?_;refine qr8eo2 (aP (k:=j) tyOk) ?_;(iterate 2 refine vA ?_);refine AList.appL tyOk rfl rfl rfl rfl rfl rfl rfl rfl rfl rfl oM oM ?_;(iterate 2 refine vA ?_);refine aB ⟨by kernel_rfl,?_⟩))
  refine⟨k+1,g,?_,by omega⟩
  rw[e1,e2]
  refine Wk.mk [(2,some 2),(4,some 4),(7,some 7),(120,some 71),(121,some 84)] rfl rfl rfl ?_ ?_
  ·exact allT
  ·exact⟨hSm,hSm,HeapOk.box rfl rfl ⟨LeC.refl _ rfl,LeC.ow _ _ rfl,LeC.refl _ rfl,LeC.ow _ _ rfl,LeC.refl _ rfl,trivial⟩ rfl,HeapOk.row rfl rfl List.length_append (chF_snoc _ _),HeapOk.row rfl rfl List.length_append (row_snoc _ _ bgC_imm28 rfl),trivial⟩
 ·have c3':(k:Int)>0:=by omega
  have hk1:((k-1:Nat):Int)=(k:Int)-1:=by omega
  by_cases c4:fI ns k≤fI ns (k-1)
  ·rw[bad fun h=>by have:=h.2.2 (by omega);omega]
   repeat (first
    |refine vB [6,9] ?_
    |(refine AWp.draw (id:=8) mixed ?_;(iterate 2 refine vA ?_);refine qr8eo2 (aP (k:=k) tyOk) ?_;(iterate 5 refine vA ?_);refine qr8eo2 (aP (k:=k) tyOk) ?_;(iterate 12 refine vA ?_);refine qr8eo2 (aP (k:=k) tyOk) ?_;(iterate 4 refine vA ?_);refine qr8eo2 (aP (k:=k-1) tyOk) ?_;(iterate 4 refine vA ?_);refine aB ⟨by kernel_rfl,?_⟩))
   refine⟨mkSt 87 [(4,.c (.pt 4 5 0 0)),(5,.c (iC (1)))] [(4,⟨false,1,5,30,lF (pbC pbZ)⟩)] [4],[(4,⟨false,1,5,30,lF (pbC pbZ)⟩)],Wk.mk [(4,some 4)] rfl rfl rfl ?_ ?_,rfl,rfl,ARets.two (x:=.ag _) (y:=.c _) (ARes.box tyOk rfl rfl rfl rfl rfl rfl rfl) (ARes.tmp rfl rfl)⟩
   ·exact allT
   ·exact⟨HeapOk.box rfl rfl ⟨LeC.nils _ _,LeC.nils _ _,LeC.nils _ _,LeC.nils _ _,LeC.nils _ _,trivial⟩ rfl,trivial⟩
  ·have g:=go fun h=>by omega
   repeat (first
    |refine vB [6,7] ?_
    |(refine AWp.draw (id:=8) mixed ?_;(iterate 2 refine vA ?_);refine qr8eo2 (aP (k:=k) tyOk) ?_;(iterate 5 refine vA ?_);refine qr8eo2 (aP (k:=k) tyOk) ?_;(iterate 12 refine vA ?_);refine qr8eo2 (aP (k:=k) tyOk) ?_;(iterate 4 refine vA ?_);refine qr8eo2 (aP (k:=k-1) tyOk) ?_;(iterate 4 refine vA ?_);refine aB ⟨by kernel_rfl,?_⟩)
    |(refine AWp.draw (id:=10) mixed ?_;(iterate 6 refine vA ?_);refine qr8eo2 (aP (k:=k) tyOk) ?_;refine vA ?_;refine qr8eo2 (aP (k:=j) tyOk) ?_;refine AList.load1lE tyOk (hcF) rfl rfl rfl rfl rfl oM ?_;refine vA ?_;refine AList.appL tyOk rfl rfl rfl rfl rfl rfl rfl rfl rfl rfl oM oM ?_;(iterate 2 refine vA ?_);refine aB ⟨by kernel_rfl,?_⟩)
    |(refine AWp.draw (id:=11) mixed ?_;(iterate 6 refine vA ?_);refine qr8eo2 (aP (k:=k) tyOk) ?_;refine vA ?_;refine qr8eo2 (aP (k:=j) tyOk) ?_;(iterate 2 refine vA ?_);refine AList.appL tyOk rfl rfl rfl rfl rfl rfl rfl rfl rfl rfl oM oM ?_;(iterate 2 refine vA ?_);refine aB ⟨by kernel_rfl,?_⟩))
   refine⟨k+1,g,?_,by omega⟩
   rw[e1,e2]
   refine Wk.mk [(2,some 2),(4,some 4),(7,some 7),(120,some 71),(121,some 84)] rfl rfl rfl ?_ ?_
   ·exact allT
   ·exact⟨hSm,hSm,HeapOk.box rfl rfl ⟨LeC.refl _ rfl,LeC.ow _ _ rfl,LeC.refl _ rfl,LeC.ow _ _ rfl,LeC.refl _ rfl,trivial⟩ rfl,HeapOk.row rfl rfl List.length_append (chF_snoc _ _),HeapOk.row rfl rfl List.length_append (row_snoc _ _ bgC_imm28 rfl),trivial⟩
def cutL(ll:List (List Int)):List (List Int):=(ll.take 16).map fun l=>l.take 40
theorem cutL_len(ll:List (List Int)):(cutL ll).length=min ll.length 16:=by
 unfold cutL
 rw[List.length_map,List.length_take]
 omega
theorem cutL_at(ll:List (List Int)){k:Nat}(hk:k<min ll.length 16):(cutL ll).getD k []=(ll.getD k []).take 40:=by
 unfold cutL
 rw[List.getD_eq_getElem?_getD,List.getElem?_map,List.getElem?_take,if_pos (by omega),List.getD_eq_getElem?_getD,List.getElem?_eq_getElem (by omega)]
 rfl
theorem cutL_ok(ll:List (List Int)):LlOk (cutL ll):=by
 refine⟨by rw[cutL_len];omega,fun k hk=> ?_⟩
 rw[cutL_len]at hk
 rw[cutL_at ll hk,List.length_take]
 omega
theorem take_fI(l:List Int)(m:Nat){k:Nat}(hk:k<min l.length m):fI (l.take m) k=fI l k:=by
 show(l.take m).getD k 0=l.getD k 0
 rw[List.getD_eq_getElem?_getD,List.getD_eq_getElem?_getD,List.getElem?_take,if_pos (by omega)]
theorem cut_cv(ll:List (List Int)):Cv (.ls (min ll.length 16) 1 (cuF ll)) (lsL (cutL ll)):=by
 have e:=cutL_len ll
 show Cv _ (.ls (cutL ll).length 1 _)
 rw[e]
 refine Cv.lsN fun k hk j hj O w u h=> ?_
 show RepI O w (.ls ((cutL ll).getD k []).length 1 (iF (fI ((cutL ll).getD k [])))) u
 rw[cutL_at ll hk,show((ll.getD k []).take 40).length=min (ll.getD k []).length 40 by rw[List.length_take];omega]
 refine repI_ls (fun i hi j hj=> ?_) h
 show iC (fI (ll.getD k []) (0+i))=iC (fI ((ll.getD k []).take 40) i)
 rw[Nat.zero_add,take_fI _ _ hi]
def brO(p:Pb):Pb:=⟨p.R,p.C,p.F,bgZ::p.O,p.T⟩
theorem nm_cv(f:Nat→Int)(k:Nat):Cv (.ls (k-0) 1 (fun i j=>iF f (0+i) j)) (lsI (nmL f k)):=by
 show Cv _ (.ls (nmL f k).length 1 _)
 rw[nmL_len]
 refine Cv.lsN fun i hi j hj O w u h=> ?_
 have e:iF (fI (nmL f k)) i j=iF f (0+i) j:=by
  show iC (fI (nmL f k) i)=iC (f (0+i))
  rw[nmL_at f (show i<k from hi),Nat.zero_add]
 rw[e]
 exact h
theorem br_F(O:List Bg):∀i,i<O.length+1→∀j,j<4→appF (sF (bgC bgZ) 4) 1 (rowF bgC bgZ O) i j=rowF bgC bgZ (bgZ::O) i j∧immC (appF (sF (bgC bgZ) 4) 1 (rowF bgC bgZ O) i j)=true:=fun i _ j hj=>by
 cases i with
 | zero=>
   match j,hj with
   |0,_|1,_|2,_|3,_=>exact⟨rfl,rfl⟩
 | succ i=>
   have e:appF (sF (bgC bgZ) 4) 1 (rowF bgC bgZ O) (i+1) j=rowF bgC bgZ O i j:=by
    unfold appF
    have:Nat.blt (i+1) 1=false:=by
     cases h:Nat.blt (i+1) 1 with
     |false=>rfl
     |true=>have:=Nat.blt_eq.mp h;omega
    first|rw[this]|skip
    rfl
   rw[e]
   exact⟨rfl,rowF_imm bgC_imm28 O i j⟩
theorem two_F(p q:Pb):∀i,i<2→∀j,j<5→sF (pbC p++pbC q) 5 i j=rowF pbC pbZ [p,q] i j∧immC (sF (pbC p++pbC q) 5 i j)=true:=fun i hi j hj=>by
 obtain rfl|rfl:i=0∨i=1:=by omega
 all_goals
  match j,hj with
  |0,_|1,_|2,_|3,_|4,_=>exact⟨rfl,rfl⟩
theorem part_ok{x:Pb}(hx:x.ok)(hC:∀l∈x.C,∀b∈l,b.n≤1000000)(hF:∀b∈x.F,b.n≤1000000){ns:List Int}(hn:ns.length≤1000000):(partV x ns).1.ok∧(∀l∈(partV x ns).1.C,∀b∈l,b.n≤1000000)∧∀b∈(partV x ns).1.F,b.n≤1000000:=by
 have hz:pbZ.ok∧(∀l∈pbZ.C,∀b∈l,b.n≤1000000)∧∀b∈pbZ.F,b.n≤1000000:=⟨pbZ_ok,(fun _ h=>by cases h),fun _ h=>by cases h⟩
 unfold partV
 by_cases h1:chkP x=0
 ·rw[if_pos h1]
  by_cases h2:nmOk x.C.length ns=true
  ·rw[if_pos h2]
   refine⟨sub_ok hx hn,fun l hl b hb=> ?_,hF⟩
   obtain⟨i,_,rfl⟩:=List.mem_map.1 hl
   rcases Nat.lt_or_ge i.toNat x.C.length with h|h
   ·exact hC _ (getD_mem28 h) b hb
   ·rw[List.getD_eq_getElem?_getD,List.getElem?_eq_none h]at hb
    cases hb
  ·rw[if_neg h2];exact hz
 ·rw[if_neg h1];exact hz
theorem pfacts(x:Pb)(hx:x.ok)(hC:∀l∈x.C,∀b∈l,b.n≤1000000)(hF:∀b∈x.F,b.n≤1000000)(f:Nat→Int)(k:Nat)(hk:k≤5):∃(y:Pb) (e e':Int),e=e'∧
 ACalls Try.prog 10 [.ag (pbC x),.c (.ls (k-0) 1 (fun i j=>iF f (0+i) j))] (.tu [.ag (pbC y),.c (iC e)])∧
 ACalls Try.prog 11 [.ag (pbC x),.c (.ls (k-0) 1 (fun i j=>iF f (0+i) j))] (.tu [.ag (pbC y),.c (iC e')])∧
 ACalls Try.prog 12 [.ag (pbC y),.ag (pbC y)] (.c (bC true)):=by
 have hn:(nmL f k).length≤1000000:=by rw[nmL_len];omega
 obtain⟨h1,h2,h3⟩:=part_ok hx hC hF hn
 exact⟨_,_,_,rfl,(Part_A x hx _ hn).cv ⟨.ag (cvRefl _),.c (nm_cv f k),trivial⟩,(rPart_A x hx _ hn).cv ⟨.ag (cvRefl _),.c (nm_cv f k),trivial⟩,Same28_A _ h1 h2 h3⟩
set_option maxRecDepth 100000 in
theorem CoreParts_A(ll:List (List Int))(hll:LlOk ll)(NN:Nat)(f:Nat→Int)(hN:NN≤4611686018427387904):ACalls Try.prog 3 [.c (lsL ll),.c (.ls NN 1 (iF f))] (.c (bC true)):=by
 have hSan:=sanity29_A
 have hCut:=cut29_A ll hll
 have hM:=(Made28_A (cutL ll) (cutL_ok ll)).cv (args':= [.c (.ls (min ll.length 16) 1 (cuF ll))]) ⟨.c (cut_cv ll),trivial⟩
 obtain⟨sm,-⟩:=made_sm (cutL ll)
 generalize made28 (cutL ll)=p at *
 obtain⟨nC,nF⟩:=sm_n sm
 have hok:=sm.ok
 have hokB:(brO p).ok:=⟨hok.rd,hok.lR,hok.lC,hok.lF,by show(bgZ::p.O).length≤_;have:=sm_bd sm;have:=this.lO;simp only[List.length_cons];omega,hok.lT,hok.lc⟩
 have hOl:p.O.length≤200:=(sm_bd sm).lO
 obtain⟨m,hm⟩:∃m,m=min NN 5:=⟨_,rfl⟩
 have hm':min (NN:Int) 5=(m:Int):=by omega
 have hmN:m≤NN:=by omega
 refine acalls_at Try.func3 rfl rfl Try.ntmps3 rfl ?_
 repeat (first
  |refine vB [0,3] ?_
  | (refine rG 1 ?_
     refine aH rfl rfl rfl rfl Try.func7 rfl (by kernel_rfl) (hSan) ?_
     refine vA ?_
     refine aB ?_)
  | (refine rG 2 ?_
     refine vA ?_
     refine aH rfl rfl rfl rfl Try.func9 rfl (by kernel_rfl) (hCut) ?_
     refine aH rfl rfl rfl rfl Try.func8 rfl (by kernel_rfl) (hM) ?_
     (iterate 2 refine vA ?_)
     refine aB ?_))
 repeat (first
  |refine vB [] ?_
  | (refine rG 4 ?_
     refine vA ?_
     refine qr11 (AList.litOw tyOk) ?_
     (iterate 2 refine vA ?_)
     refine AList.appL tyOk rfl rfl rfl rfl rfl rfl rfl rfl rfl rfl oM oM ?_
     (iterate 2 refine vA ?_)
     refine aB ?_)
  | (refine rG 5 ?_
     (iterate 4 refine vA ?_)
     refine AList.cut (l:=0) (h:=m) tyOk rfl rfl rfl rfl rfl rfl rfl rfl ⟨_,_,rfl,by first|rfl|omega⟩ (by omega) (by omega) ?_
     refine vA ?_
     refine aB ?_))
 refine AWp.weak (S':=mkSt 72 [(1,.c (.ls m 1 (iF f))),(5,.c (bC true)),(6,.c (.pt 6 5 0 0)),(7,.c (.pt 7 5 0 0))] [(6,⟨false,1,5,30,lF (pbC p)⟩),(7,⟨false,1,5,30,lF (pbC (brO p))⟩)] [6,7]) (Wk.mk [(6,some 6),(7,some 7)] rfl rfl rfl ?_ ?_) ?_
 ·repeat (first|exact trivial|refine⟨⟨_,rfl,by first|exact LeA.c (LeC.lz rfl (fun i _ j _=>by rw[Nat.zero_add]))|exact leT⟩,?_⟩)
 ·exact⟨hSm,HeapOk.box rfl rfl ⟨LeC.refl _ rfl,LeC.refl _ rfl,LeC.refl _ rfl,LeC.fz rfl rfl (Nat.add_comm _ _) (fun i hi j hj=>br_F p.O i (by omega) j hj),LeC.refl _ rfl,trivial⟩ rfl,trivial⟩
 repeat (first
  |refine vB [] ?_
  | (refine rG 6 ?_
     (iterate 2 refine vA ?_)
     refine qr11 (AList.litOw tyOk) ?_
     (iterate 2 refine vA ?_)
     refine aB ?_))
 refine AWp.round (fun i:Nat=>mkSt 72 [(1,.c (.ls m 1 (iF f))),(5,.c (bC true)),(33,.c (.ls 2 5 (rowF pbC pbZ [p,brO p]))),(34,.c (iC 2)),(35,.c (iC (i:Nat)))] [] []) (fun i=>i≤2) (fun i=>2-i) 0 (Nat.zero_le _) ?_ (fun i hi=> ?_)
 ·refine Wk.mk [] rfl rfl rfl ?_ trivial
  repeat (first|exact trivial|refine⟨⟨_,rfl,by first|exact LeA.c (LeC.fz rfl rfl rfl (two_F p (brO p)))|exact leT⟩,?_⟩)
 by_cases hi2:i<2
 rotate_left
 ·have hi2':¬(i:Int)<2:=by omega
  refine vB [7,17] ?_
  refine⟨mkSt 72 [(4,.c (bC true))] [] [],[],Wk.mk [] rfl rfl rfl ?_ trivial,rfl,rfl,aR1⟩
  exact allT
 have hi2':(i:Int)<2:=by omega
 obtain⟨x,hx,hxo,hxC,hxF⟩:∃x,([p,brO p]:List Pb).getD i pbZ=x∧x.ok∧(∀l∈x.C,∀b∈l,b.n≤1000000)∧∀b∈x.F,b.n≤1000000:=by
  match i,hi2 with
  |0,_=>exact⟨_,rfl,hok,nC,nF⟩
  |1,_=>exact⟨_,rfl,hokB,nC,nF⟩
 have ex:cellsFrom (rowF pbC pbZ [p,brO p] i) 0 5=pbC x:=by rw[←hx];rfl
 have hP:=pfacts x hxo hxC hxF f
 refine vB [7] ?_
 refine aY ?_
 refine qr8eo2 (aP (k:=i) tyOk) ?_
 refine AList.loadAlE tyOk (ex) rfl rfl rfl rfl rfl oM ?_
 (iterate 2 refine vA ?_)
 refine aB ?_
 refine vB [9] ?_
 refine AWp.round (fun k:Nat=>mkSt 72 [(1,.c (.ls m 1 (iF f))),(5,.c (bC true)),(9,.c (.pt 9 5 0 0)),(10,.c (iC (k:Nat))),(33,.c (.ls 2 5 (rowF pbC pbZ [p,brO p]))),(34,.c (iC 2)),(35,.c (iC (i:Nat)))] [(9,⟨false,1,5,30,lF (pbC x)⟩)] [9]) (fun k=>k≤m+1) (fun k=>m+1-k) 0 (Nat.zero_le _) ?_ (fun k hk=> ?_)
 ·refine Wk.mk [(9,some 9)] rfl rfl rfl ?_ ?_
  ·repeat (first|exact trivial|refine⟨⟨_,rfl,by first|exact LeA.c (LeC.refl _ (rowF_imm (fun _=>rfl) _))|exact leT⟩,?_⟩)
  ·exact⟨hSm,trivial⟩
 by_cases hkm:k≤m
 rotate_left
 ·have hkm':¬(k:Int)≤m:=by omega
  refine vB [10,16] ?_
  refine⟨i+1,hi2,Wk.mk [] rfl rfl rfl ?_ trivial,by omega⟩
  exact allT
 have hkm':(k:Int)≤m:=by omega
 obtain⟨y,e,e',he,q1,q2,q3⟩:=hP k (by omega)
 repeat (first
  |refine vB [10,11] ?_
  |(refine AWp.draw (id:=12) mixed ?_;(iterate 3 refine vA ?_);refine AList.cut (l:=0) (h:=k) tyOk rfl rfl rfl rfl rfl rfl rfl rfl ⟨_,_,rfl,by first|rfl|omega⟩ (by omega) (by omega) ?_;refine aH rfl rfl rfl rfl Try.func10 rfl (by kernel_rfl) (q1) ?_;(iterate 6 refine vA ?_);refine aB ⟨by kernel_rfl,?_⟩)
  |(refine AWp.draw (id:=13) mixed ?_;(iterate 3 refine vA ?_);refine AList.cut (l:=0) (h:=k) tyOk rfl rfl rfl rfl rfl rfl rfl rfl ⟨_,_,rfl,by first|rfl|omega⟩ (by omega) (by omega) ?_;refine aH rfl rfl rfl rfl Try.func11 rfl (by kernel_rfl) (q2) ?_;(iterate 6 refine vA ?_);refine aB ⟨by kernel_rfl,?_⟩)
  | (refine rG 14 ?_
     (iterate 6 refine vA ?_)
     refine aH rfl rfl rfl rfl Try.func12 rfl (by kernel_rfl) (q3) ?_
     (iterate 2 refine vA ?_)
     refine aB ?_))
 refine⟨k+1,by omega,Wk.mk [(9,some 9)] rfl rfl rfl ?_ ?_,by omega⟩
 ·exact allT
 ·exact⟨hSm,trivial⟩
end Go.Proofs.Ytpefnljgalpllaa
end
section
namespace Go.Proofs.Ytpefnljgalpllaa.coreParts
open Go.ChangeShapes Go.WideShapes Go.ChangeAt Go.RowKit Go.Flow Go.AV
set_option maxRecDepth 100000 in
theorem contract(H:Type)(enc:TypeId×Value→H)(W:World)(base:Nat)(args:Array Value)(ds gs:List (DataW H))(before:List MemPlace)
 (hval:∀(j:Nat) t v,Try.f3.params[j]?=some t→args[j]?=some v→Value.okWide Try.prog W .any base t v)
 (hW:DataW.Whole enc Try.prog Try.f3.params.toList Rows.corePartsSpec.vars false W args.toList ds gs before)
 (hsz:(DataW.weightsEach Try.prog (Try.f3.params.toList++(OpenSpec.ofChange Rows.corePartsSpec).bare.plain.varTypes Try.prog) (ds++gs)).all (·≤reachBytes)=true):
 Calls Try.prog 3 args W fun e W'=>∃v,e=.returned v∧Rows.corePartsSpec.post enc Try.prog Try.f3 false true false false W args v W':=by
 have hW':=hW
 obtain⟨p,q,hA0,hV,rfl,hfz,hnd⟩:=hW
 have hA:DataW.TrodAll enc Try.prog W 0 (fun _=>true) true Try.f3.params.toList args.toList ds p:=hA0
 have hAk:=hA0
 rw[Try.params3]at hA hval hsz
 obtain⟨rfl,rfl⟩:=trodVars_none hV
 obtain⟨v0,vs0,d0,ds0,p0,q0,hargs,rfl,rfl,h0,t0⟩:=trodAll_cons hA
 obtain⟨v1,vs1,d1,ds1,p1,q1,rfl,rfl,rfl,h1,t1⟩:=trodAll_cons t0
 obtain⟨rfl,rfl,rfl⟩:=trodAll_nil t1
 obtain rfl:args= #[v0,v1]:=by rw[←Array.toList_inj];exact hargs
 have hlt:=fun x hx=>hW'.lt x hx
 simp only[List.append_nil]at hW'
 rw[List.append_nil]at hsz
 obtain⟨a0,ok0,r0⟩:=opn_ll.argC (cells_slice Try.underlying22 (hval 0 22 v0 rfl rfl)) h0 (weigh hsz 0 (t:=22) (d:=d0) rfl rfl)
 obtain⟨a1,ok1,r1⟩:=opn_ints.argC (cells_slice Try.underlying23 (hval 1 23 v1 rfl rfl)) h1 (weigh hsz 1 (t:=23) (d:=d1) rfl rfl)
 refine((ECalls.of (CoreParts_A a0 ok0 a1.length (fun k=>a1.getD k 0) ok1.1)) O0 W [_,_] (fun b h=>h.elim) ⟨r0,r1,trivial⟩).mono fun e W' ⟨v,r,he,hr,hv,hE⟩=> ?_
 subst hr
 obtain rfl:v=.bool true:=hv.2
 subst he
 exact⟨_,rfl,post_below (pv:= []) hW' (fun _ _ _=>trodAll_cons_mk (shut_bool Try.underlying4 _) trodAll_mk0)
  (fun sp hsp=>trodAll_below laidOut hE (by rw[Try.params3];intro t ht;simp only[List.mem_cons,List.not_mem_nil,or_false]at ht;rcases ht with rfl|rfl<;>exact⟨by kernel_rfl,of_decide_eq_true (by kernel_rfl)⟩) hAk (fun x hx=>hlt x (by rw[List.append_nil];exact hx)) sp (fun x hx=>hsp x (by simpa only[List.append_nil]using hx)))
  (fun _ _=>rfl) (by simp) hE (ok_one (by kernel_rfl) rfl (okWide_bool_mk Try.underlying4 _))⟩
theorem own:ownKnob Try.prog.godebug=none:=by kernel_rfl
set_option maxRecDepth 100000 in
theorem lifted(os:Os)(started:os.Started)(H:Type)(enc:TypeId×Value→H):
 ReturnsInHanded {} Try.checked os 3 .any (Rows.corePartsSpec.pre6 enc Try.prog Try.f3 Rows.corePartsRow.domain false) (Rows.corePartsSpec.post enc Try.prog Try.f3 false true false false):=by
 refine returnsInHanded_of_change_sized (C:=Try.checked) own started (by kernel_rfl) Try.func3
  (ChangeSpec.witness6 (enc:=enc) (C:=Try.checked) false ⟨#[], #[.slice none 0 0,.slice none 0 0],[]⟩ 8 (by kernel_rfl) (by kernel_rfl) (by kernel_rfl) (by kernel_rfl)) ?_
 intro W base args ds gs before hval hW _ hsz _
 exact contract H enc W base args ds gs before hval hW hsz
theorem said:Rows.CorePartsSaid:=
 OpenClaim.holds_of_wide 3 Try.f3 rfl rfl rfl rfl rfl rfl rfl ⟨rfl,rfl,rfl,rfl,rfl⟩ rfl rfl rfl rfl rfl (by kernel_rfl) Try.func3 (by kernel_rfl)
  (of_decide_eq_true (by kernel_rfl)) (by unfold Func.isWrapper;first|(rw[if_pos (by decide +kernel)];kernel_rfl)|(rw[if_neg (by decide +kernel)];exact⟨rfl,rfl⟩))
  (fun os started H enc _=>lifted os started H enc)
end Go.Proofs.Ytpefnljgalpllaa.coreParts
end
