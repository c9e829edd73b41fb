/- Parts of the proof: A28a, A28g, A28i, A28j, A28zk, A28zl, A28zd, A28zm, A28zn, A30a. -/
import Derived.Test.YtbffmfeldkjkcaaHA30ur01
import Derived.Test.YtbffmfeldkjkcaaG40
set_option linter.unusedSimpArgs false
set_option linter.unusedVariables false
set_option maxHeartbeats 0
section
namespace Go.Proofs.Ytbffmfeldkjkcaa
open Go.RowKit Go.Flow Go.AV Go.Plain
set_option maxRecDepth 100000 in
theorem RRdCheck0(bl sh:Int)(hb:-1000000≤bl∧bl≤1000000):ACalls Try.prog 67 [.ag [iC bl,iC sh]] (.c (iC (rdE ⟨bl,sh⟩))):=by
 by_cases c1:bl<0
 ·rw[rdE_bad (by dsimp only;omega)]
  refine acalls_at Try.func67 rfl rfl Try.ntmps67 rfl ?_
  refine vB [0,1,2] ?_
  refine⟨mkSt 26 [(2,.c (iC 3))] [] [],[],Wk.mk [] rfl rfl rfl ?_ trivial,rfl,rfl,aR1⟩
  exact allT
 ·by_cases c2:2<bl
  ·rw[rdE_bad (by dsimp only;omega)]
   refine acalls_at Try.func67 rfl rfl Try.ntmps67 rfl ?_
   refine vB [0,1,2] ?_
   refine⟨mkSt 26 [(2,.c (iC 3))] [] [],[],Wk.mk [] rfl rfl rfl ?_ trivial,rfl,rfl,aR1⟩
   exact allT
  ·by_cases c3:sh<1
   ·rw[rdE_bad (by dsimp only;omega)]
    refine acalls_at Try.func67 rfl rfl Try.ntmps67 rfl ?_
    refine vB [0,1,2] ?_
    refine⟨mkSt 26 [(2,.c (iC 3))] [] [],[],Wk.mk [] rfl rfl rfl ?_ trivial,rfl,rfl,aR1⟩
    exact allT
   ·have c4:0≤(2*bl+1)*(2*bl+1)∧(2*bl+1)*(2*bl+1)≤25:=by
     obtain rfl|rfl|rfl:bl=0∨bl=1∨bl=2:=by omega
     all_goals omega
    have hE:rdE ⟨bl,sh⟩=if (2*bl+1)*(2*bl+1)<sh then 3 else 0:=by
     unfold rdE
     dsimp only
     by_cases h:(2*bl+1)*(2*bl+1)<sh
     ·rw[if_pos h,if_pos (by omega)]
     ·rw[if_neg h,if_neg (by omega)]
    rw[hE]
    by_cases h:(2*bl+1)*(2*bl+1)<sh
    ·rw[if_pos h]
     refine acalls_at Try.func67 rfl rfl Try.ntmps67 rfl ?_
     repeat (first
      |refine vB [0,2] ?_
      |(refine AWp.draw (id:=1) mixed ?_;(iterate 17 refine vA ?_);refine aH rfl rfl rfl rfl Try.func84 rfl (by kernel_rfl) (side21_A bl sh hb) ?_;refine vA ?_;refine aH rfl rfl rfl rfl Try.func84 rfl (by kernel_rfl) (side21_A bl sh hb) ?_;(iterate 3 refine vA ?_);refine aB ⟨by kernel_rfl,?_⟩))
     refine⟨mkSt 26 [(2,.c (iC 3))] [] [],[],Wk.mk [] rfl rfl rfl ?_ trivial,rfl,rfl,aR1⟩
     exact allT
    ·rw[if_neg h]
     refine acalls_at Try.func67 rfl rfl Try.ntmps67 rfl ?_
     repeat (first
      |refine vB [0,3] ?_
      |(refine AWp.draw (id:=1) mixed ?_;(iterate 17 refine vA ?_);refine aH rfl rfl rfl rfl Try.func84 rfl (by kernel_rfl) (side21_A bl sh hb) ?_;refine vA ?_;refine aH rfl rfl rfl rfl Try.func84 rfl (by kernel_rfl) (side21_A bl sh hb) ?_;(iterate 3 refine vA ?_);refine aB ⟨by kernel_rfl,?_⟩))
     refine⟨mkSt 26 [(2,.c (iC 0))] [] [],[],Wk.mk [] rfl rfl rfl ?_ trivial,rfl,rfl,aR1⟩
     exact allT
theorem RRdCheck_A(r:Rd)(hb:-1000000≤r.bl∧r.bl≤1000000):ACalls Try.prog 67 [.ag (rdC r)] (.c (iC (rdE r))):=RRdCheck0 r.bl r.sh hb
theorem preB_len{C:List (List Bp)}(h:∀i,i<C.length→(C.getD i []).length≤200):∀i,i≤C.length→(preB C i).length≤200*i
 |0,_=>by simp[preB]
 | i+1,hi=>by
   rw[preB_succ (by omega),List.length_append]
   have:=preB_len h i (by omega)
   have:=h i (by omega)
   omega
theorem rowF_app{α:Type}{c:α→List CV}{z:α}(A B:List α)(sz:Nat)(hc:∀x,(c x).all immC=true):∀i,i<A.length+B.length→∀j,j<sz→appF (rowF c z A) A.length (rowF c z B) i j=rowF c z (A++B) i j∧immC (appF (rowF c z A) A.length (rowF c z B) i j)=true:=fun i hi j _=>by
 have:appF (rowF c z A) A.length (rowF c z B) i j=rowF c z (A++B) i j:=by
  unfold appF rowF
  have e:∀k,(A++B).getD k z=(A++B)[k]?.getD z:=fun k=>List.getD_eq_getElem?_getD
  rw[e]
  by_cases h:i<A.length
  ·rw[show Nat.blt i A.length=true from Nat.blt_eq.mpr h,List.getElem?_append_left h,←List.getD_eq_getElem?_getD]
   rfl
  ·rw[show Nat.blt i A.length=false from Bool.eq_false_iff.2 fun h'=>h (Nat.blt_eq.mp h'),List.getElem?_append_right (by omega),←List.getD_eq_getElem?_getD]
   rfl
 rw[this]
 exact⟨rfl,rowF_imm hc _ i j⟩
set_option maxRecDepth 100000 in
theorem bitmaps_A(p:Pb)(hC:p.C.length≤200)(hF:p.F.length≤200)(hl:∀i,i<p.C.length→(p.C.getD i []).length≤200):ACalls Try.prog 68 [.ag (pbC p)] (.c (lsB (allB p))):=by
 have hpl:=preB_len hl
 refine acalls_at Try.func68 rfl rfl Try.ntmps68 rfl ?_
 refine vB [0,1,2] ?_
 refine AWp.round (fun i:Nat=>mkSt 23 [(1,.c (.pt 1 5 0 0)),(3,.c (.ow 20)),(4,.c (iC i))] [(1,⟨false,1,5,34,lF (pbC p)⟩),(20,bpB (preB p.C i))] [1,20])
  (fun i=>i≤p.C.length) (fun i=>p.C.length-i) 0 (Nat.zero_le _) ?_ (fun i hi=> ?_)
 ·refine Wk.mk [(1,some 1),(20,none)] rfl rfl rfl ?_ ?_
  ·exact allT
  ·exact allH
 ·by_cases hil:i<p.C.length
  ·have hil':(i:Int)<p.C.length:=by omega
   have hsu:=preB_succ hil
   have h1:=hpl i hi
   have h2:=hl i hil
   obtain⟨L,hL⟩:∃L,p.C.getD i []=L:=⟨_,rfl⟩
   rw[hL]at hsu h2
   have hcF:chF p.C i 0=lsB L:=by rw[←hL]
   obtain⟨P,hP⟩:∃P,preB p.C i=P:=⟨_,rfl⟩
   rw[hP]at hsu h1
   rw[hP]
   have hlen:(preB p.C (i+1)).length=P.length+L.length:=by rw[hsu,List.length_append]
   repeat (first
    |refine vB [3,4] ?_
    | (refine rG 5 ?_
       (iterate 4 refine vA ?_)
       refine qr8eo2 (aP (k:=i) tyOk) ?_
       refine AList.load1lE tyOk (hcF) rfl rfl rfl rfl rfl oM ?_
       refine AList.appL tyOk rfl rfl rfl rfl rfl rfl rfl rfl rfl rfl oM oM ?_
       refine vA ?_
       refine aB ?_))
   refine⟨i+1,hil,Wk.mk [(1,some 1),(20,some 18)] rfl rfl rfl ?_ ?_,by omega⟩
   ·exact allT
   ·refine⟨hSm,HeapOk.row rfl rfl hlen ?_,trivial⟩
    rw[hsu]
    exact rowF_app P L 3 bpC_imm
  ·have hil':¬(i:Int)<p.C.length:=by omega
   obtain rfl:i=p.C.length:=by omega
   have h1:=hpl _ (Nat.le_refl _)
   rw[preB_all]at h1⊢
   have hlen:(allB p).length=p.C.flatten.length+p.F.length:=List.length_append
   repeat (first
    |refine vB [3] ?_
    | (refine rG 6 ?_
       (iterate 3 refine vA ?_)
       refine AList.appL tyOk rfl rfl rfl rfl rfl rfl rfl rfl rfl rfl oM oM ?_
       refine vA ?_
       refine aB ?_))
   refine⟨mkSt 23 [(2,.c (lsB (allB p)))] [] [],[],Wk.mk [] rfl rfl rfl ?_ trivial,rfl,rfl,aR1⟩
   exact⟨⟨_,rfl,.c (LeC.fz rfl rfl hlen (rowF_app p.C.flatten p.F 3 bpC_imm))⟩,trivial⟩
set_option maxRecDepth 100000 in
theorem rCheck28_A(p:Pb)(hp:p.ok):ACalls Try.prog 36 [.ag (pbC p)] (.c (iC (chkP p))):=by
 obtain⟨hrd,lR,lC,lF',lO,lT,lc⟩:=hp
 by_cases c1:4<p.R.length
 ·rw[chkP_many (.inl c1)]
  have c1':((p.R.length:Nat):Int)>4:=by omega
  refine acalls_at Try.func36 rfl rfl Try.ntmps36 rfl ?_
  refine vB [0,1,2] ?_
  refine⟨mkSt 109 [(2,.c (iC 2))] [] [],[],Wk.mk [] rfl rfl rfl ?_ trivial,rfl,rfl,aR1⟩
  exact allT
 have c1':¬((p.R.length:Nat):Int)>4:=by omega
 by_cases c2:200<p.C.length
 ·rw[chkP_many (.inr (.inl c2))]
  have c2':((p.C.length:Nat):Int)>200:=by omega
  refine acalls_at Try.func36 rfl rfl Try.ntmps36 rfl ?_
  refine vB [0,1,2] ?_
  refine⟨mkSt 109 [(2,.c (iC 2))] [] [],[],Wk.mk [] rfl rfl rfl ?_ trivial,rfl,rfl,aR1⟩
  exact allT
 have c2':¬((p.C.length:Nat):Int)>200:=by omega
 by_cases c2b:200<p.F.length
 ·rw[chkP_many (.inr (.inr c2b))]
  have c2':((p.F.length:Nat):Int)>200:=by omega
  refine acalls_at Try.func36 rfl rfl Try.ntmps36 rfl ?_
  refine vB [0,1,2] ?_
  refine⟨mkSt 109 [(2,.c (iC 2))] [] [],[],Wk.mk [] rfl rfl rfl ?_ trivial,rfl,rfl,aR1⟩
  exact allT
 have c2b':¬((p.F.length:Nat):Int)>200:=by omega
 have hM:¬(4<p.R.length∨200<p.C.length∨200<p.F.length):=by omega
 have hlong:= @chkP_long p
 obtain⟨e,he⟩:∃e,chkP p=e:=⟨_,rfl⟩
 rw[he]
 refine acalls_at Try.func36 rfl rfl Try.ntmps36 rfl ?_
 refine vB [0,1,3] ?_
 refine AWp.round (fun i:Nat=>
  mkSt 109 [(1,.c (.pt 1 5 0 0)),(3,.c (iC (i:Nat)))] [(1,⟨false,1,5,34,lF (pbC p)⟩)] [1]
  ) (fun i=>i≤p.C.length∧∀i',i'<i→¬32<(p.C.getD i' []).length) (fun i=>p.C.length-i) 0 ⟨Nat.zero_le _,fun _ h=>absurd h (Nat.not_lt_zero _)⟩ ?_ (fun i hi=> ?_)
 ·refine Wk.mk [(1,some 1)] rfl rfl rfl ?_ ?_
  ·exact allT
  ·exact allH
 obtain⟨hi,hno⟩:=hi
 by_cases hil:i<p.C.length
 ·have hil':(i:Int)<p.C.length:=by omega
  by_cases h32:32<(p.C.getD i []).length
  ·have h32':(((p.C.getD i []).length:Nat):Int)>32:=by omega
   rw[hlong hM hil h32]at he
   subst he
   repeat (first
    |refine vB [4,7] ?_
    | (refine rG 6 ?_
       (iterate 3 refine vA ?_)
       refine qr8eo2 (aP (k:=i) tyOk) ?_
       (iterate 3 refine vA ?_)
       refine aB ?_))
   refine⟨mkSt 109 [(2,.c (iC 2))] [] [],[],Wk.mk [] rfl rfl rfl ?_ trivial,rfl,rfl,aR1⟩
   exact allT
  ·have h32':¬(((p.C.getD i []).length:Nat):Int)>32:=by omega
   repeat (first
    |refine vB [4,5] ?_
    | (refine rG 6 ?_
       (iterate 3 refine vA ?_)
       refine qr8eo2 (aP (k:=i) tyOk) ?_
       (iterate 3 refine vA ?_)
       refine aB ?_))
   refine⟨i+1,⟨hil,fun i' hi'=> ?_⟩,Wk.mk [(1,some 1)] rfl rfl rfl ?_ ?_,by omega⟩
   ·by_cases e:i'=i
    ·rw[e];exact h32
    ·exact hno i' (by omega)
   ·exact allT
   ·exact allH
 have hil':¬(i:Int)<p.C.length:=by omega
 obtain rfl:i=p.C.length:=by omega
 have hrdk:= @chkP_rd p
 refine vB [4,8] ?_
 refine AWp.round (fun k:Nat=>
  mkSt 109 [(1,.c (.pt 1 5 0 0)),(4,.c (iC (k:Nat)))] [(1,⟨false,1,5,34,lF (pbC p)⟩)] [1]
  ) (fun k=>k≤p.R.length∧∀i,i<k→rdE (p.R.getD i rdZ)=0) (fun k=>p.R.length-k) 0 ⟨Nat.zero_le _,fun _ h=>absurd h (Nat.not_lt_zero _)⟩ ?_ (fun k hk=> ?_)
 ·refine Wk.mk [(1,some 1)] rfl rfl rfl ?_ ?_
  ·exact allT
  ·exact allH
 obtain⟨hk,hok⟩:=hk
 by_cases hkl:k<p.R.length
 ·have hkl':(k:Int)<p.R.length:=by omega
  have hc:=RRdCheck_A (p.R.getD k rdZ) (hrd _ (getD_mem28 hkl))
  have hrdk':=fun h=>hrdk hM hno hkl hok h
  generalize hg:rdE (p.R.getD k rdZ)=v at *
  by_cases hv:v=0
  ·subst hv
   repeat (first
    |refine vB [9,10,12] ?_
    | (refine rG 11 ?_
       (iterate 3 refine vA ?_)
       refine qr8eo2 (aP (k:=k) tyOk) ?_
       refine vA ?_
       refine aH rfl rfl rfl rfl Try.func67 rfl (by kernel_rfl) (hc) ?_
       refine vA ?_
       refine aB ?_))
   refine⟨k+1,⟨hkl,fun i hi=> ?_⟩,Wk.mk [(1,some 1)] rfl rfl rfl ?_ ?_,by omega⟩
   ·by_cases e:i=k
    ·rw[e];exact hg
    ·exact hok i (by omega)
   ·exact allT
   ·exact allH
  ·rw [hrdk' hv]at he
   subst he
   repeat (first
    |refine vB [9,12,13] ?_
    | (refine rG 11 ?_
       (iterate 3 refine vA ?_)
       refine qr8eo2 (aP (k:=k) tyOk) ?_
       refine vA ?_
       refine aH rfl rfl rfl rfl Try.func67 rfl (by kernel_rfl) (hc) ?_
       refine vA ?_
       refine aB ?_))
   refine⟨mkSt 109 [(2,.c (iC v))] [] [],[],Wk.mk [] rfl rfl rfl ?_ trivial,rfl,rfl,aR1⟩
   exact allT
 have hkl':¬(k:Int)<p.R.length:=by omega
 obtain rfl:k=p.R.length:=by omega
 by_cases c3:p.O.length=p.C.length∧p.T.length=p.F.length
 ·have c3a:((p.O.length:Nat):Int)=p.C.length:=by omega
  have c3b:((p.T.length:Nat):Int)=p.F.length:=by omega
  rw[chkP_maps hM hno hok c3]at he
  have hB:=bitmaps_A p (by omega) (by omega) (fun i hi=>by have:=hno i hi;omega)
  have hBl:(allB p).length≤100000:=by
   have h1:(allB p).length=p.C.flatten.length+p.F.length:=List.length_append
   have h2:=preB_len (C:=p.C) (fun i hi=>by have:=hno i hi;omega) _ (Nat.le_refl _)
   rw[preB_all]at h2
   omega
  generalize allB p=L at *
  have hb:= @chkA_bad L
  have hs:= @chkA_size L
  repeat (first
   |refine vB [9,14,17] ?_
   | (refine rG 16 ?_
      refine vA ?_
      refine aH rfl rfl rfl rfl Try.func68 rfl (by kernel_rfl) (hB) ?_
      refine vA ?_
      refine aB ?_))
  refine AWp.round (fun k:Nat=>mkSt 109 [(6,.c (lsB L)),(7,.c (iC k))] [] [])
   (fun k=>k≤L.length∧GoodL L k) (fun k=>L.length-k) 0 ⟨Nat.zero_le _,fun _ h=>absurd h (Nat.not_lt_zero _)⟩ ?_ (fun k hk=> ?_)
  ·refine Wk.mk [] rfl rfl rfl ?_ trivial
   exact allT
  obtain⟨hk,hg⟩:=hk
  by_cases hkl:k<L.length
  ·have hkl':(k:Int)<L.length:=by omega
   have h0:0<L.length:=by omega
   have hC:=rbCheck_A (L.getD k bpZ).W (L.getD k bpZ).H (L.getD k bpZ).n (L.getD k bpZ).d
   by_cases e1:chk (L.getD k bpZ).W (L.getD k bpZ).H (L.getD k bpZ).n=0
   ·rw [e1]at hC
    by_cases e2:(L.getD k bpZ).W=(L.getD 0 bpZ).W∧(L.getD k bpZ).H=(L.getD 0 bpZ).H
    ·have hgs:=GoodL.succ hg e1 e2
     obtain⟨e2a,e2b⟩:=e2
     repeat (first
      |refine vB [18,19,21] ?_
      | (refine rG 20 ?_
         (iterate 2 refine vA ?_)
         refine qr8eo2 (aP (k:=k) tyOk) ?_
         refine vA ?_
         refine aH rfl rfl rfl rfl Try.func69 rfl (by kernel_rfl) (hC) ?_
         refine vA ?_
         refine aB ?_)
      |(refine AWp.draw (id:=23) mixed ?_;(iterate 2 refine vA ?_);refine qr8eo2 (aP (k:=k) tyOk) ?_;(iterate 3 refine vA ?_);refine qr8eo2 (aP (k:=0) tyOk) ?_;(iterate 6 refine vA ?_);refine qr8eo2 (aP (k:=k) tyOk) ?_;(iterate 3 refine vA ?_);refine qr8eo2 (aP (k:=0) tyOk) ?_;(iterate 4 refine vA ?_);refine aB ⟨by kernel_rfl,?_⟩))
     refine⟨k+1,⟨hkl,hgs⟩,Wk.mk [] rfl rfl rfl ?_ trivial,by omega⟩
     exact allT
    ·rw[hs hkl hg e1 e2]at he
     subst he
     by_cases e2a:(L.getD k bpZ).W=(L.getD 0 bpZ).W
     ·have e2b:¬(L.getD k bpZ).H=(L.getD 0 bpZ).H:=fun h=>e2 ⟨e2a,h⟩
      repeat (first
       |refine vB [18,21,24] ?_
       | (refine rG 20 ?_
          (iterate 2 refine vA ?_)
          refine qr8eo2 (aP (k:=k) tyOk) ?_
          refine vA ?_
          refine aH rfl rfl rfl rfl Try.func69 rfl (by kernel_rfl) (hC) ?_
          refine vA ?_
          refine aB ?_)
       |(refine AWp.draw (id:=23) mixed ?_;(iterate 2 refine vA ?_);refine qr8eo2 (aP (k:=k) tyOk) ?_;(iterate 3 refine vA ?_);refine qr8eo2 (aP (k:=0) tyOk) ?_;(iterate 6 refine vA ?_);refine qr8eo2 (aP (k:=k) tyOk) ?_;(iterate 3 refine vA ?_);refine qr8eo2 (aP (k:=0) tyOk) ?_;(iterate 4 refine vA ?_);refine aB ⟨by kernel_rfl,?_⟩))
      refine⟨mkSt 109 [(2,.c (iC 13))] [] [],[],Wk.mk [] rfl rfl rfl ?_ trivial,rfl,rfl,aR1⟩
      exact allT
     ·repeat (first
       |refine vB [18,21,24] ?_
       | (refine rG 20 ?_
          (iterate 2 refine vA ?_)
          refine qr8eo2 (aP (k:=k) tyOk) ?_
          refine vA ?_
          refine aH rfl rfl rfl rfl Try.func69 rfl (by kernel_rfl) (hC) ?_
          refine vA ?_
          refine aB ?_)
       |(refine AWp.draw (id:=23) mixed ?_;(iterate 2 refine vA ?_);refine qr8eo2 (aP (k:=k) tyOk) ?_;(iterate 3 refine vA ?_);refine qr8eo2 (aP (k:=0) tyOk) ?_;(iterate 15 refine vA ?_);refine aB ⟨by kernel_rfl,?_⟩))
      refine⟨mkSt 109 [(2,.c (iC 13))] [] [],[],Wk.mk [] rfl rfl rfl ?_ trivial,rfl,rfl,aR1⟩
      exact allT
   ·rw [hb hkl hg e1]at he
    rw[he]at hC e1
    repeat (first
     |refine vB [18,21,22] ?_
     | (refine rG 20 ?_
        (iterate 2 refine vA ?_)
        refine qr8eo2 (aP (k:=k) tyOk) ?_
        refine vA ?_
        refine aH rfl rfl rfl rfl Try.func69 rfl (by kernel_rfl) (hC) ?_
        refine vA ?_
        refine aB ?_))
    refine⟨mkSt 109 [(2,.c (iC e))] [] [],[],Wk.mk [] rfl rfl rfl ?_ trivial,rfl,rfl,aR1⟩
    exact allT
  ·have hkl':¬(k:Int)<L.length:=by omega
   obtain rfl:k=L.length:=by omega
   rw[chkA_ok hg]at he
   subst he
   refine vB [18,25] ?_
   refine⟨mkSt 109 [(2,.c (iC 0))] [] [],[],Wk.mk [] rfl rfl rfl ?_ trivial,rfl,rfl,aR1⟩
   exact allT
 ·rw[chkP_len hM hno hok c3]at he
  subst he
  by_cases c3a:p.O.length=p.C.length
  ·have c3a':((p.O.length:Nat):Int)=p.C.length:=by omega
   have c3b:¬((p.T.length:Nat):Int)=p.F.length:=by omega
   refine vB [9,14,15] ?_
   refine⟨mkSt 109 [(2,.c (iC 1))] [] [],[],Wk.mk [] rfl rfl rfl ?_ trivial,rfl,rfl,aR1⟩
   exact allT
  ·have c3a':¬((p.O.length:Nat):Int)=p.C.length:=by omega
   refine vB [9,14,15] ?_
   refine⟨mkSt 109 [(2,.c (iC 1))] [] [],[],Wk.mk [] rfl rfl rfl ?_ trivial,rfl,rfl,aR1⟩
   exact allT
def cpF(C:List (List Bp))(m id:Nat)(k _:Nat):CV:=if k=m then .ow id else lsB (C.getD k [])
def cpL(C:List (List Bp))(m k:Nat):List Bp:=if m<k then C.getD m []else []
abbrev chM(C:List (List Bp))(m id k:Nat):AB:=⟨true,k,1,31,cpF C m id⟩
theorem appF_lo{F G:Nat→Nat→CV}{n i j:Nat}(h:i<n):appF F n G i j=F i j:=by
 unfold appF
 rw[show Nat.blt i n=true from Nat.blt_eq.mpr h]
 rfl
theorem appF_hi{F G:Nat→Nat→CV}{n i j:Nat}(h:n≤i):appF F n G i j=G (i-n) j:=by
 unfold appF
 rw[show Nat.blt i n=false from Bool.eq_false_iff.2 fun e=>by have:=Nat.blt_eq.mp e;omega]
 rfl
abbrev cpNw(p:Pb)(m:Nat):List AB:= [rdB p.R,chM p.C m 905 p.C.length,bpB p.F,bgB p.O,bgB p.T,bpB (cpL p.C m p.C.length)]
abbrev cpRes:AV:=.ag [.ow 900,.ow 901,.ow 902,.ow 903,.ow 904]
set_option maxRecDepth 100000 in
theorem Copy_G(p:Pb)(hp:p.ok)(m:Nat):GCalls Try.prog 26 [.ag (pbC p)] [] cpRes [] (cpNw p m):=by
 obtain⟨hrd,lR,lC,lF',lO,lT,lc⟩:=hp
 refine ge_at Try.func26 rfl rfl Try.ntmps26 rfl ?_
 repeat (first
  |refine vB [0,2] ?_
  |(refine AWp.draw (id:=1) mixed ?_;(iterate 3 refine vA ?_);refine AList.appL0 tyOk rfl rfl rfl rfl rfl rfl rfl rfl rfl rfl oM oM ?_;(iterate 3 refine vA ?_);refine AList.appL0 tyOk rfl rfl rfl rfl rfl rfl rfl rfl rfl rfl oM oM ?_;(iterate 3 refine vA ?_);refine AList.appL0 tyOk rfl rfl rfl rfl rfl rfl rfl rfl rfl rfl oM oM ?_;(iterate 3 refine vA ?_);refine AList.appL0 tyOk rfl rfl rfl rfl rfl rfl rfl rfl rfl rfl oM oM ?_;(iterate 3 refine vA ?_);refine aB ⟨by kernel_rfl,?_⟩))
 refine AWp.round (fun k:Nat=>
  mkSt 42 [(1,.c (.pt 1 5 0 0)),(2,.c (.pt 2 5 0 0)),(3,.c (.pt 3 5 0 0)),(4,.c (iC (k:Nat)))] [(1,⟨false,1,5,34,lF (pbC p)⟩),(2,⟨false,1,5,34,lF [nl8,nl8,nl8,nl8,nl8]⟩),(3,⟨false,1,5,34,lF [.ow 8,.ow 22,.ow 12,.ow 16,.ow 20]⟩),(8,rdB p.R),(12,bpB p.F),(16,bgB p.O),(20,bgB p.T),(22,chM p.C m 23 (k:Nat)),(23,bpB (cpL p.C m (k:Nat)))] [1,2,3,8,12,16,20,22,23]
  ) (fun k=>k≤p.C.length) (fun k=>p.C.length-k) 0 (Nat.zero_le _) ?_ (fun k hk=> ?_)
 ·refine Wk.mk [(1,some 1),(2,some 2),(3,some 3),(8,some 8),(12,some 12),(16,some 16),(20,some 20),(22,none),(23,none)] rfl rfl rfl ?_ ?_
  ·exact allT
  ·exact⟨hSm,hSm,HeapOk.box rfl rfl ⟨LeC.ow _ _ rfl,LeC.nil _ rfl,LeC.ow _ _ rfl,LeC.ow _ _ rfl,LeC.ow _ _ rfl,trivial⟩ rfl,
   hrF rdC_imm,hrF bpC_imm,hrF bgC_imm28,hrF bgC_imm28
   ,HeapOk.nil rfl rfl,HeapOk.nil rfl (by unfold cpL;rw[if_neg (Nat.not_lt_zero _)];rfl),trivial⟩
 by_cases hkl:k<p.C.length
 ·have hkl':(k:Int)<p.C.length:=by omega
  obtain⟨L,hL⟩:∃L,p.C.getD k []=L:=⟨_,rfl⟩
  have hcF:chF p.C k 0=lsB L:=by rw[←hL]
  have hLl:L.length≤1000000:=by rw[←hL];exact lc _ (getD_mem28 hkl)
  repeat (first
   |refine vB [3,4] ?_
   |(refine AWp.draw (id:=5) mixed ?_;(iterate 6 refine vA ?_);refine qr8eo2 (aP (k:=k) tyOk) ?_;refine AList.load1lE tyOk (hcF) rfl rfl rfl rfl rfl oM ?_;refine AList.appL0 tyOk rfl rfl rfl rfl rfl rfl rfl rfl rfl rfl oM oM ?_;refine qr11 (AList.litOw tyOk) ?_;refine AList.appO tyOk rfl rfl rfl rfl rfl rfl rfl rfl rfl rfl rfl oM oM ?_;(iterate 2 refine vA ?_);refine aB ⟨by kernel_rfl,?_⟩))
  have hrow:∀(S:St) (ren:List (Nat×Option Nat)) (x:Nat),S.h 37=some (bpB L)→(∀i,i<k→i=m→assoc ren 23=some (some 23))→(if k=m then assoc ren 23=some (some 37)else renNo ren 37=true)→
   ∀i,i<k+1→∀j,j<1→LeC S.h ren (appF (cpF p.C m 23) k (sF [.ow 37] 1) i j) (cpF p.C m 23 i j):=fun S ren x hh h1 h2 i hi j hj=>by
   obtain rfl:j=0:=Nat.lt_one_iff.mp hj
   by_cases hik:i<k
   ·rw[appF_lo hik]
    unfold cpF
    by_cases him:i=m
    ·rw[if_pos him]
     exact LeC.ow _ _ (h1 i hik him)
    ·rw[if_neg him]
     exact LeC.refl _ rfl
   ·obtain rfl:i=k:=by omega
    rw[appF_hi (Nat.le_refl _),Nat.sub_self]
    unfold cpF
    by_cases him:i=m
    ·rw[if_pos him]at h2⊢
     exact LeC.ow _ _ h2
    ·rw[if_neg him]at h2⊢
     rw[hL]
     exact LeC.fz hh h2 rfl (fun i _ j _=>⟨rfl,rowF_imm bpC_imm _ i j⟩)
  by_cases hkm:k=m
  ·have hl1:cpL p.C m (k+1)=L:=by unfold cpL;rw[if_pos (by omega),←hkm,hL]
   refine⟨k+1,hkl,?_,by omega⟩
   rw[hl1]
   refine Wk.mk [(1,some 1),(2,some 2),(3,some 3),(8,some 8),(12,some 12),(16,some 16),(20,some 20),(22,some 39),(23,some 37)] rfl rfl rfl ?_ ?_
   ·exact allT
   ·exact⟨hSm,hSm,HeapOk.box rfl rfl ⟨LeC.ow _ _ rfl,LeC.ow _ _ rfl,LeC.ow _ _ rfl,LeC.ow _ _ rfl,LeC.ow _ _ rfl,trivial⟩ rfl,
    hrF rdC_imm,hrF bpC_imm,hrF bgC_imm28,hrF bgC_imm28
    ,.inr ⟨39,k+1,_,.inl rfl,rfl,rfl,hrow _ _ 0 rfl (fun i h1 h2=>by omega) (by rw[if_pos hkm];rfl)⟩,hrF bpC_imm,trivial⟩
  ·have hl1:cpL p.C m (k+1)=cpL p.C m k:=by
    unfold cpL
    by_cases h:m<k
    ·rw[if_pos h,if_pos (by omega)]
    ·rw[if_neg h,if_neg (by omega)]
   refine⟨k+1,hkl,?_,by omega⟩
   rw[hl1]
   refine Wk.mk [(1,some 1),(2,some 2),(3,some 3),(8,some 8),(12,some 12),(16,some 16),(20,some 20),(22,some 39),(23,some 23)] rfl rfl rfl ?_ ?_
   ·exact allT
   ·exact⟨hSm,hSm,HeapOk.box rfl rfl ⟨LeC.ow _ _ rfl,LeC.ow _ _ rfl,LeC.ow _ _ rfl,LeC.ow _ _ rfl,LeC.ow _ _ rfl,trivial⟩ rfl,
    hrF rdC_imm,hrF bpC_imm,hrF bgC_imm28,hrF bgC_imm28
    ,.inr ⟨39,k+1,_,.inl rfl,rfl,rfl,hrow _ _ 0 rfl (fun i h1 h2=>rfl) (by rw[if_neg hkm];rfl)⟩,hrF bpC_imm,trivial⟩
 have hkl':¬(k:Int)<p.C.length:=by omega
 obtain rfl:k=p.C.length:=by omega
 refine vB [3,6] ?_
 refine⟨mkSt 42 [(2,.c (.pt 2 5 0 0))] [(2,⟨false,1,5,34,lF [.ow 900,.ow 901,.ow 902,.ow 903,.ow 904]⟩),(900,rdB p.R),(901,chM p.C m 905 p.C.length),(902,bpB p.F),(903,bgB p.O),(904,bgB p.T),(905,bpB (cpL p.C m p.C.length))] [2,900,901,902,903,904,905],[(2,⟨false,1,5,34,lF [.ow 900,.ow 901,.ow 902,.ow 903,.ow 904]⟩)],_,[],cpNw p m,⟨rfl,rfl,rfl⟩,rfl,Wk.mk [(2,some 2),(900,some 8),(901,some 22),(902,some 12),(903,some 16),(904,some 20),(905,some 23)] rfl rfl rfl ?_ ?_,rfl,rfl,GRets.one (x:=.ag _) (GRes.box tyOk rfl rfl rfl rfl rfl rfl)⟩
 ·exact allT
 ·exact⟨HeapOk.box rfl rfl ⟨LeC.ow _ _ rfl,LeC.ow _ _ rfl,LeC.ow _ _ rfl,LeC.ow _ _ rfl,LeC.ow _ _ rfl,trivial⟩ rfl,hrF rdC_imm,.inr ⟨22,p.C.length,_,.inl rfl,rfl,rfl,fun i hi j hj=>by
   show LeC _ _ (cpF p.C m 23 i j) (cpF p.C m 905 i j)
   unfold cpF
   by_cases him:i=m
   ·rw[if_pos him,if_pos him]
    exact LeC.ow _ _ rfl
   ·rw[if_neg him,if_neg him]
    exact LeC.refl _ rfl⟩,hrF bpC_imm,hrF bgC_imm28,hrF bgC_imm28,hrF bpC_imm,trivial⟩
theorem rd_neF(r:Rd)(w:World):(Go.binOp .neq 83 (.agg #[.int .i64 r.bl,.int .i64 r.sh]) (.agg #[.int .i64 r.bl,.int .i64 r.sh])).run Try.prog w=.ok (.bool false) w:=by
 have hp:Try.prog.stoodInHeld 83=false:=by kernel_rfl
 go_simp
theorem bg_neF28(r:Bg)(w:World):(Go.binOp .neq 62 (.agg #[.int .i64 r.lo,.int .i64 r.bl,.int .i64 r.sh,.int .i64 r.st]) (.agg #[.int .i64 r.lo,.int .i64 r.bl,.int .i64 r.sh,.int .i64 r.st])).run Try.prog w=.ok (.bool false) w:=by
 have hp:Try.prog.stoodInHeld 62=false:=by kernel_rfl
 go_simp
set_option maxRecDepth 100000 in
theorem Same04_A(b:Bp)(hn:b.n≤1000000):ACalls Try.prog 70 [.ag (bpC b),.ag (bpC b)] (.c (bC true)):=by
 refine acalls_at Try.func70 rfl rfl Try.ntmps70 rfl ?_
 repeat (first
  |refine vB [0,3] ?_
  | (refine rG 1 ?_
     (iterate 4 refine vA ?_)
     first|refine qr5t aK ?_|refine qr5f aJ ?_|refine aJ rfl rfl rfl rfl rfl (by simp only[cmpP,eq_self,decide_true,Bool.not_true]) ?_|refine qr5 aW ?_
     (iterate 5 refine vA ?_)
     first|refine qr2 aG ?_|refine qr5t aK ?_|refine qr5f aJ ?_|refine aJ rfl rfl rfl rfl rfl (by simp only[cmpP,eq_self,decide_true,Bool.not_true]) ?_|refine qr5 aW ?_
     (iterate 8 refine vA ?_)
     first|refine qr2 aG ?_|refine qr5t aK ?_|refine qr5f aJ ?_|refine aJ rfl rfl rfl rfl rfl (by simp only[cmpP,eq_self,decide_true,Bool.not_true]) ?_|refine qr5 aW ?_
     refine vA ?_
     refine aB ?_))
 refine AWp.round (fun k:Nat=>mkSt 45 [(2,.c (.pt 2 3 0 0)),(3,.c (.pt 3 3 0 0)),(5,.c (iC k))] [(2,⟨false,1,3,60,lF (bpC b)⟩),(3,⟨false,1,3,60,lF (bpC b)⟩)] [2,3])
  (fun k=>k≤b.n) (fun k=>b.n-k) 0 (Nat.zero_le _) ?_ (fun k hk=> ?_)
 ·refine Wk.mk [(2,some 2),(3,some 3)] rfl rfl rfl ?_ ?_
  ·exact allT
  ·exact allH
 ·by_cases hkn:k<b.n
  ·have hne:(!(b.d k==b.d k))=false:=by simp
   repeat (first
    |refine vB [4,5] ?_
    |(refine AWp.draw (id:=6) mixed ?_;(iterate 3 refine vA ?_);(first|refine qr8eo2 (aP (k:=k) tyOk) ?_|refine qr10eo (AList.idxOw (k:=k) tyOk) ?_);(iterate 4 refine vA ?_);(first|refine qr8eo2 (aP (k:=k) tyOk) ?_|refine qr10eo (AList.idxOw (k:=k) tyOk) ?_);(iterate 2 refine vA ?_);refine aB ⟨by kernel_rfl,?_⟩))
   refine⟨k+1,hkn,Wk.mk [(2,some 2),(3,some 3)] rfl rfl rfl ?_ ?_,by omega⟩
   ·exact allT
   ·exact allH
  ·refine vB [4,8] ?_
   refine⟨mkSt 45 [(4,.c (bC true))] [] [],[],Wk.mk [] rfl rfl rfl ?_ trivial,rfl,rfl,aR1⟩
   exact allT
set_option maxRecDepth 100000 in
theorem sameBitmaps_A(L:List Bp)(hl:L.length≤1000000)(h:∀b∈L,b.n≤1000000):ACalls Try.prog 39 [.c (lsB L),.c (lsB L)] (.c (bC true)):=by
 have hS:=fun k (hk:k<L.length)=>Same04_A (L.getD k bpZ) (h _ (getD_mem28 hk))
 refine acalls_at Try.func39 rfl rfl Try.ntmps39 rfl ?_
 repeat (first
  |refine vB [0,3] ?_
  | (refine rG 1 ?_
     (iterate 4 refine vA ?_)
     first|refine qr5t aK ?_|refine qr5f aJ ?_|refine aJ rfl rfl rfl rfl rfl (by simp only[cmpP,eq_self,decide_true,Bool.not_true]) ?_|refine qr5 aW ?_
     refine aB ?_))
 refine AWp.round (fun k:Nat=>mkSt 29 [(0,.c (lsB L)),(1,.c (lsB L)),(5,.c (iC k))] [] [])
  (fun k=>k≤L.length) (fun k=>L.length-k) 0 (Nat.zero_le _) ?_ (fun k hk=> ?_)
 ·refine Wk.mk [] rfl rfl rfl ?_ trivial
  exact allT
 ·by_cases hkn:k<L.length
  ·have hkn':(k:Int)<L.length:=by omega
   have hSk:=hS k hkn
   repeat (first
    |refine vB [4,5,7] ?_
    |(refine AWp.draw (id:=6) mixed ?_;(iterate 2 refine vA ?_);(first|refine qr8eo2 (aP (k:=k) tyOk) ?_|refine qr10eo (AList.idxOw (k:=k) tyOk) ?_);(iterate 3 refine vA ?_);(first|refine qr8eo2 (aP (k:=k) tyOk) ?_|refine qr10eo (AList.idxOw (k:=k) tyOk) ?_);refine vA ?_;refine aH rfl rfl rfl rfl Try.func70 rfl (by kernel_rfl) (hSk) ?_;refine vA ?_;refine aB ⟨by kernel_rfl,?_⟩))
   refine⟨k+1,hkn,Wk.mk [] rfl rfl rfl ?_ trivial,by omega⟩
   exact allT
  ·have hkn':¬(k:Int)<L.length:=by omega
   refine vB [4,9] ?_
   refine⟨mkSt 29 [(4,.c (bC true))] [] [],[],Wk.mk [] rfl rfl rfl ?_ trivial,rfl,rfl,aR1⟩
   exact allT
set_option maxRecDepth 100000 in
theorem sameBudgets_A(L:List Bg)(hl:L.length≤1000000):ACalls Try.prog 40 [.c (lsG L),.c (lsG L)] (.c (bC true)):=by
 have hS:=fun k=>bg_neF28 (L.getD k bgZ)
 refine acalls_at Try.func40 rfl rfl Try.ntmps40 rfl ?_
 repeat (first
  |refine vB [0,3] ?_
  | (refine rG 1 ?_
     (iterate 4 refine vA ?_)
     first|refine qr5t aK ?_|refine qr5f aJ ?_|refine aJ rfl rfl rfl rfl rfl (by simp only[cmpP,eq_self,decide_true,Bool.not_true]) ?_|refine qr5 aW ?_
     refine aB ?_))
 refine AWp.round (fun k:Nat=>mkSt 26 [(0,.c (lsG L)),(1,.c (lsG L)),(5,.c (iC k))] [] [])
  (fun k=>k≤L.length) (fun k=>L.length-k) 0 (Nat.zero_le _) ?_ (fun k hk=> ?_)
 ·refine Wk.mk [] rfl rfl rfl ?_ trivial
  exact allT
 ·by_cases hkn:k<L.length
  ·have hkn':(k:Int)<L.length:=by omega
   have hSk:=hS k
   repeat (first
    |refine vB [4,5] ?_
    |(refine AWp.draw (id:=6) mixed ?_;(iterate 2 refine vA ?_);(first|refine qr8eo2 (aP (k:=k) tyOk) ?_|refine qr10eo (AList.idxOw (k:=k) tyOk) ?_);(iterate 3 refine vA ?_);(first|refine qr8eo2 (aP (k:=k) tyOk) ?_|refine qr10eo (AList.idxOw (k:=k) tyOk) ?_);refine vA ?_;refine AList.binAg rfl rfl rfl rfl rfl rfl (by kernel_rfl) (hSk) ?_;refine aB ⟨by kernel_rfl,?_⟩))
   refine⟨k+1,hkn,Wk.mk [] rfl rfl rfl ?_ trivial,by omega⟩
   exact allT
  ·have hkn':¬(k:Int)<L.length:=by omega
   refine vB [4,8] ?_
   refine⟨mkSt 26 [(4,.c (bC true))] [] [],[],Wk.mk [] rfl rfl rfl ?_ trivial,rfl,rfl,aR1⟩
   exact allT
set_option maxRecDepth 100000 in
theorem Same28_A(p:Pb)(hp:p.ok)(hC:∀l∈p.C,∀b∈l,b.n≤1000000)(hF:∀b∈p.F,b.n≤1000000):ACalls Try.prog 13 [.ag (pbC p),.ag (pbC p)] (.c (bC true)):=by
 obtain⟨hrd,lR,lC,lF',lO,lT,lc⟩:=hp
 have sF:=sameBitmaps_A p.F lF' hF
 have sO:=sameBudgets_A p.O lO
 have sT:=sameBudgets_A p.T lT
 have sC:=fun k (hk:k<p.C.length)=>sameBitmaps_A (p.C.getD k []) (lc _ (getD_mem28 hk)) (hC _ (getD_mem28 hk))
 have hR:=fun k=>rd_neF (p.R.getD k rdZ)
 refine acalls_at Try.func13 rfl rfl Try.ntmps13 rfl ?_
 repeat (first
  |refine vB [0,3] ?_
  | (refine rG 1 ?_
     (iterate 6 refine vA ?_)
     first|refine qr5t aK ?_|refine qr5f aJ ?_|refine aJ rfl rfl rfl rfl rfl (by simp only[cmpP,eq_self,decide_true,Bool.not_true]) ?_|refine qr5 aW ?_
     (iterate 7 refine vA ?_)
     first|refine qr2 aG ?_|refine qr5t aK ?_|refine qr5f aJ ?_|refine aJ rfl rfl rfl rfl rfl (by simp only[cmpP,eq_self,decide_true,Bool.not_true]) ?_|refine qr5 aW ?_
     (iterate 6 refine vA ?_)
     first|refine qr2 aG ?_|refine aH rfl rfl rfl rfl Try.func39 rfl (by kernel_rfl) (sF) ?_
     (iterate 7 refine vA ?_)
     first|refine qr2 aG ?_|refine aH rfl rfl rfl rfl Try.func40 rfl (by kernel_rfl) (sO) ?_|refine aH rfl rfl rfl rfl Try.func40 rfl (by kernel_rfl) (sT) ?_
     (iterate 7 refine vA ?_)
     first|refine qr2 aG ?_|refine aH rfl rfl rfl rfl Try.func40 rfl (by kernel_rfl) (sO) ?_|refine aH rfl rfl rfl rfl Try.func40 rfl (by kernel_rfl) (sT) ?_
     (iterate 2 refine vA ?_)
     refine aB ?_))
 refine AWp.round (fun k:Nat=>
  mkSt 84 [(2,.c (.pt 2 5 0 0)),(3,.c (.pt 3 5 0 0)),(5,.c (iC (k:Nat)))] [(2,⟨false,1,5,34,lF (pbC p)⟩),(3,⟨false,1,5,34,lF (pbC p)⟩)] [2,3]
  ) (fun k=>k≤p.R.length) (fun k=>p.R.length-k) 0 (Nat.zero_le _) ?_ (fun k hk=> ?_)
 ·refine Wk.mk [(2,some 2),(3,some 3)] rfl rfl rfl ?_ ?_
  ·exact allT
  ·exact allH
 by_cases hkn:k<p.R.length
 ·have hkn':(k:Int)<p.R.length:=by omega
  have hRk:=hR k
  repeat (first
   |refine vB [4,5] ?_
   |(refine AWp.draw (id:=6) mixed ?_;(iterate 3 refine vA ?_);(first|refine qr8eo2 (aP (k:=k) tyOk) ?_|refine qr10eo (AList.idxOw (k:=k) tyOk) ?_);(iterate 4 refine vA ?_);(first|refine qr8eo2 (aP (k:=k) tyOk) ?_|refine qr10eo (AList.idxOw (k:=k) tyOk) ?_);refine vA ?_;refine AList.binAg rfl rfl rfl rfl rfl rfl (by kernel_rfl) (hRk) ?_;refine aB ⟨by kernel_rfl,?_⟩))
  refine⟨k+1,hkn,Wk.mk [(2,some 2),(3,some 3)] rfl rfl rfl ?_ ?_,by omega⟩
  ·exact allT
  ·exact allH
 have hkn':¬(k:Int)<p.R.length:=by omega
 clear hk hkn
 refine vB [4,8] ?_
 refine AWp.round (fun k:Nat=>
  mkSt 84 [(2,.c (.pt 2 5 0 0)),(3,.c (.pt 3 5 0 0)),(6,.c (iC (k:Nat)))] [(2,⟨false,1,5,34,lF (pbC p)⟩),(3,⟨false,1,5,34,lF (pbC p)⟩)] [2,3]
  ) (fun k=>k≤p.C.length) (fun k=>p.C.length-k) 0 (Nat.zero_le _) ?_ (fun k hk=> ?_)
 ·refine Wk.mk [(2,some 2),(3,some 3)] rfl rfl rfl ?_ ?_
  ·exact allT
  ·exact allH
 by_cases hkn:k<p.C.length
 ·have hkn':(k:Int)<p.C.length:=by omega
  have hCk:=sC k hkn
  obtain⟨L,hL⟩:∃L,p.C.getD k []=L:=⟨_,rfl⟩
  have hcF:chF p.C k 0=lsB L:=by rw[←hL]
  rw[hL]at hCk
  repeat (first
   |refine vB [9,10] ?_
   |(refine AWp.draw (id:=11) mixed ?_;(iterate 3 refine vA ?_);(first|refine qr8eo2 (aP (k:=k) tyOk) ?_|refine qr10eo (AList.idxOw (k:=k) tyOk) ?_);(first|refine AList.load1lE tyOk (hcF) rfl rfl rfl rfl rfl oM ?_|refine AList.load1F tyOk rfl rfl rfl rfl rfl rfl rfl oM oM (hcF) ?_);(iterate 3 refine vA ?_);(first|refine qr8eo2 (aP (k:=k) tyOk) ?_|refine qr10eo (AList.idxOw (k:=k) tyOk) ?_);(first|refine AList.load1lE tyOk (hcF) rfl rfl rfl rfl rfl oM ?_|refine AList.load1F tyOk rfl rfl rfl rfl rfl rfl rfl oM oM (hcF) ?_);refine aH rfl rfl rfl rfl Try.func39 rfl (by kernel_rfl) (hCk) ?_;refine vA ?_;refine aB ⟨by kernel_rfl,?_⟩))
  refine⟨k+1,hkn,Wk.mk [(2,some 2),(3,some 3)] rfl rfl rfl ?_ ?_,by omega⟩
  ·exact allT
  ·exact allH
 have hkn':¬(k:Int)<p.C.length:=by omega
 refine vB [9,13] ?_
 refine⟨mkSt 84 [(4,.c (bC true))] [] [],[],Wk.mk [] rfl rfl rfl ?_ trivial,rfl,rfl,aR1⟩
 exact allT
theorem lit2(a b:Int):Cv (.ls 2 1 (sF [iC a,iC b] 1)) (lsI [a,b]):=Cv.lit fun k hk=>by
 have:k=0∨k=1:=by omega
 rcases this with rfl|rfl<;>rfl
abbrev litI2(a b:Int):CV:=.ls 2 1 (sF [iC a,iC b] 1)
theorem set_row{α:Type}{c:α→List CV}{z:α}{sz k:Nat}{e:α}(L:List α)(hc:∀x,(c x).all immC=true)(hk:k<L.length):∀i,i<L.length→∀j,j<sz→setF (rowF c z L) k 0 sz (c e) i j=rowF c z (L.set k e) i j∧immC (setF (rowF c z L) k 0 sz (c e) i j)=true:=fun i hi j hj=>by
 have:setF (rowF c z L) k 0 sz (c e) i j=rowF c z (L.set k e) i j:=by
  unfold setF rowF
  by_cases h:i=k
  ·subst h
   rw[Nat.beq_refl,show Nat.ble 0 j=true from Nat.ble_eq.mpr (Nat.zero_le _),show Nat.blt j (0+sz)=true from Nat.blt_eq.mpr (by omega)]
   rw[List.getD_eq_getElem?_getD (l:=L.set i e),List.getElem?_set_self hk]
   rfl
  ·rw[show Nat.beq i k=false from Bool.eq_false_iff.2 fun h'=>h (Nat.eq_of_beq_eq_true h')]
   rw[List.getD_eq_getElem?_getD (l:=L.set k e),List.getElem?_set_ne (Ne.symm h),←List.getD_eq_getElem?_getD]
   rfl
 exact⟨this,by rw[this];exact rowF_imm hc _ i j⟩
def odd4X(b:Bp)(q:Int):Nat→Bp
 |0=>⟨b.W+1,b.H,b.n,b.d⟩
 |1=>⟨b.W,q,b.n,b.d⟩
 |2=>⟨b.W,b.H,b.n+1,fun k=>if k<b.n then b.d k else true⟩
 |3=>⟨b.W,b.H,b.n/2,b.d⟩
 |4=>⟨-b.W,IntKind.i64.wrap (-b.H),b.n,b.d⟩
 |_=>b
set_option maxRecDepth 100000 in
theorem Odd04_A(B:Nat)(b:Bp)(q:Int)(hb:BpBd B b)(hB:B≤100000)(hq:-9223372036854775808≤q∧q≤9223372036854775807):∃r:Bp,BpBd (B+1) r∧ACalls Try.prog 29 [.ag (bpC b),.c (iC q)] (.ag (bpC r)):=by
 obtain⟨hW,hn⟩:=hb
 have hM:=Mod_A q 6 (by omega) (by omega)
 have h0:=Int.emod_nonneg q (show(6:Int)≠0 by omega)
 have h6:=Int.emod_lt_of_pos q (show(0:Int)<6 by omega)
 generalize q%6=c at hM h0 h6
 obtain⟨k,rfl⟩:=Int.eq_ofNat_of_zero_le h0
 refine⟨odd4X b q k,?_,?_⟩
 ·match k with
  |0=>exact⟨by show _≤b.W+1∧b.W+1≤_;omega,by show b.n≤_;omega⟩
  |1=>exact⟨by show _≤b.W∧b.W≤_;omega,by show b.n≤_;omega⟩
  |2=>exact⟨by show _≤b.W∧b.W≤_;omega,by show b.n+1≤_;omega⟩
  |3=>exact⟨by show _≤b.W∧b.W≤_;omega,by show b.n/2≤_;omega⟩
  |4=>exact⟨by show _≤-b.W∧-b.W≤_;omega,by show b.n≤_;omega⟩
  |k+5=>exact⟨by show _≤b.W∧b.W≤_;omega,by show b.n≤_;omega⟩
 refine acalls_at Try.func29 rfl rfl Try.ntmps29 rfl ?_
 repeat (first
  |refine vB [0] ?_
  |(refine AWp.draw (id:=1) mixed ?_;(iterate 7 refine vA ?_);refine AList.appL0 tyOk rfl rfl rfl rfl rfl rfl rfl rfl rfl rfl oM oM ?_;(iterate 3 refine vA ?_);refine aB ⟨by kernel_rfl,?_⟩)
  | (refine rG 2 ?_
     refine vA ?_
     refine aH rfl rfl rfl rfl Try.func27 rfl (by kernel_rfl) (hM) ?_
     refine aB ?_))
 refine AWp.weak (S':=
  mkSt 55 [(1,.c (iC q)),(4,.c (.pt 4 3 0 0)),(5,.c (.pt 5 3 0 0)),(16,.c (iC k))] [(4,⟨false,1,3,60,lF [iC 0,iC 0,.p (.slice none 0 0)]⟩),(5,⟨false,1,3,60,lF [iC b.W,iC b.H,.ow 20]⟩),(20,⟨true,b.n,1,4,bF b.d⟩)] [4,5,20]
  ) (Wk.mk [(4,some 4),(5,some 5),(20,some 13)] rfl rfl rfl ?_ ?_) ?_
 ·exact allT
 ·exact⟨hSm,HeapOk.box rfl rfl ⟨LeC.refl _ rfl,LeC.refl _ rfl,LeC.ow _ _ rfl,trivial⟩ rfl,HeapOk.row rfl rfl rfl (fun i _=>cell1 ⟨rfl,rfl⟩),trivial⟩
 by_cases k0:k=0
 ·subst k0
  refine vB [3,4,14] ?_
  refine⟨mkSt 55 [(4,.c (.pt 4 3 0 0))] [(4,⟨false,1,3,60,lF (bpC (odd4X b q 0))⟩)] [4],[(4,⟨false,1,3,60,lF (bpC (odd4X b q 0))⟩)],Wk.mk [(4,some 4)] rfl rfl rfl ?_ ?_,rfl,rfl,ARets.one (x:=.ag _) (ARes.box tyOk rfl rfl rfl rfl rfl rfl rfl)⟩
  ·exact allT
  ·exact⟨HeapOk.box rfl rfl ⟨LeC.int (by first|rfl|(dsimp only;omega)),LeC.int (by first|rfl|(dsimp only;omega)),(LeC.fz rfl rfl (by rfl) (fun _ _ _ _=>⟨rfl,rfl⟩)),trivial⟩ rfl,trivial⟩
 refine vB [3] ?_
 by_cases k1:k=1
 ·subst k1
  refine vB [5,6,14] ?_
  refine⟨mkSt 55 [(4,.c (.pt 4 3 0 0))] [(4,⟨false,1,3,60,lF (bpC (odd4X b q 1))⟩)] [4],[(4,⟨false,1,3,60,lF (bpC (odd4X b q 1))⟩)],Wk.mk [(4,some 4)] rfl rfl rfl ?_ ?_,rfl,rfl,ARets.one (x:=.ag _) (ARes.box tyOk rfl rfl rfl rfl rfl rfl rfl)⟩
  ·exact allT
  ·exact⟨HeapOk.box rfl rfl ⟨LeC.int (by first|rfl|(dsimp only;omega)),LeC.int (by first|rfl|(dsimp only;omega)),(LeC.fz rfl rfl (by rfl) (fun _ _ _ _=>⟨rfl,rfl⟩)),trivial⟩ rfl,trivial⟩
 refine vB [5] ?_
 by_cases k2:k=2
 ·subst k2
  repeat (first
   |refine vB [7,14] ?_
   | (refine rG 8 ?_
      (iterate 3 refine vA ?_)
      refine AList.appL tyOk rfl rfl rfl rfl rfl rfl rfl rfl rfl rfl oM oM ?_
      (iterate 2 refine vA ?_)
      refine aB ?_))
  refine⟨mkSt 55 [(4,.c (.pt 4 3 0 0))] [(4,⟨false,1,3,60,lF (bpC (odd4X b q 2))⟩)] [4],[(4,⟨false,1,3,60,lF (bpC (odd4X b q 2))⟩)],Wk.mk [(4,some 4)] rfl rfl rfl ?_ ?_,rfl,rfl,ARets.one (x:=.ag _) (ARes.box tyOk rfl rfl rfl rfl rfl rfl rfl)⟩
  ·exact allT
  ·exact⟨HeapOk.box rfl rfl ⟨LeC.int (by first|rfl|(dsimp only;omega)),LeC.int (by first|rfl|(dsimp only;omega)),(LeC.fz rfl rfl (by rfl) (app_F (n:=b.n) (G:=bF (fun k=>if k<b.n then b.d k else true)) (fun i hi=>cell1 (congrArg bC (if_pos (show i<b.n by omega)).symm)) (cell1 (congrArg bC (if_neg (by omega)).symm)) (fun _ _=>cell1 rfl))),trivial⟩ rfl,trivial⟩
 refine vB [7] ?_
 by_cases k3:k=3
 ·subst k3
  refine vB [9] ?_
  refine AWp.weak (S':=mkSt 55 [(4,.c (.pt 4 3 0 0)),(5,.c (.pt 5 3 0 0)),(16,.c (iC ((3:Nat):Int)))] [(4,⟨false,1,3,60,lF [iC 0,iC 0,.p (.slice none 0 0)]⟩),(5,⟨false,1,3,60,lF (bpC b)⟩)] [4,5]) (Wk.mk [(4,some 4),(5,some 5)] rfl rfl rfl ?_ ?_) ?_
  ·exact allT
  ·exact⟨hSm,HeapOk.box rfl rfl ⟨LeC.refl _ rfl,LeC.refl _ rfl,LeC.fz rfl rfl rfl (fun i _=>cell1 ⟨rfl,rfl⟩),trivial⟩ rfl,trivial⟩
  have e2:(b.n:Int)/2=((b.n/2:Nat):Int):=by omega
  repeat (first
   |refine vB [14] ?_
   | (refine rG 10 ?_
      (iterate 6 refine vA ?_)
      refine AList.cut (l:=0) (h:=b.n/2) tyOk rfl rfl rfl rfl rfl rfl rfl rfl ⟨_,_,rfl,by first|rfl|omega⟩ (by omega) (by omega) ?_
      (iterate 2 refine vA ?_)
      refine aB ?_))
  refine⟨mkSt 55 [(4,.c (.pt 4 3 0 0))] [(4,⟨false,1,3,60,lF (bpC (odd4X b q 3))⟩)] [4],[(4,⟨false,1,3,60,lF (bpC (odd4X b q 3))⟩)],Wk.mk [(4,some 4)] rfl rfl rfl ?_ ?_,rfl,rfl,ARets.one (x:=.ag _) (ARes.box tyOk rfl rfl rfl rfl rfl rfl rfl)⟩
  ·exact allT
  ·exact⟨HeapOk.box rfl rfl ⟨LeC.int (by first|rfl|(dsimp only;omega)),LeC.int (by first|rfl|(dsimp only;omega)),(LeC.lz (by rfl) (fun _ _ _ _=>by rw[Nat.zero_add];rfl)),trivial⟩ rfl,trivial⟩
 refine vB [9] ?_
 by_cases k4:k=4
 ·subst k4
  repeat (first
   |refine vB [11,12,14] ?_
   | (refine rG 13 ?_
      (iterate 2 refine vA ?_)
      refine qr3 AList.negW ?_
      (iterate 2 refine vA ?_)
      refine aB ?_))
  refine⟨mkSt 55 [(4,.c (.pt 4 3 0 0))] [(4,⟨false,1,3,60,lF (bpC (odd4X b q 4))⟩)] [4],[(4,⟨false,1,3,60,lF (bpC (odd4X b q 4))⟩)],Wk.mk [(4,some 4)] rfl rfl rfl ?_ ?_,rfl,rfl,ARets.one (x:=.ag _) (ARes.box tyOk rfl rfl rfl rfl rfl rfl rfl)⟩
  ·exact allT
  ·exact⟨HeapOk.box rfl rfl ⟨LeC.int (by first|rfl|(dsimp only;omega)),LeC.int (by first|rfl|(dsimp only;omega)),(LeC.fz rfl rfl (by rfl) (fun _ _ _ _=>⟨rfl,rfl⟩)),trivial⟩ rfl,trivial⟩
 obtain rfl:k=5:=by omega
 refine vB [11,14] ?_
 refine⟨mkSt 55 [(4,.c (.pt 4 3 0 0))] [(4,⟨false,1,3,60,lF (bpC (odd4X b q 5))⟩)] [4],[(4,⟨false,1,3,60,lF (bpC (odd4X b q 5))⟩)],Wk.mk [(4,some 4)] rfl rfl rfl ?_ ?_,rfl,rfl,ARets.one (x:=.ag _) (ARes.box tyOk rfl rfl rfl rfl rfl rfl rfl)⟩
 ·exact allT
 ·exact⟨HeapOk.box rfl rfl ⟨LeC.int (by first|rfl|(dsimp only;omega)),LeC.int (by first|rfl|(dsimp only;omega)),(LeC.fz rfl rfl (by rfl) (fun _ _ _ _=>⟨rfl,rfl⟩)),trivial⟩ rfl,trivial⟩
abbrev cpNx(p:Pb)(m id:Nat):List AB:= [rdB p.R,chM p.C m id p.C.length,bpB p.F,bgB p.O,bgB p.T,bpB (cpL p.C m p.C.length)]
theorem cpBackB{p:Pb}{m id:Nat}{ni:List Nat}(h:posOf ni id=some 5):BackB [] ni (cpNw p m) (cpNx p m id):=
 BackB.same (fun i _ j _=>rowF_imm rdC_imm _ i j) ⟨⟨_,rfl,fun i _ j _=>by
  show BackC [] ni (cpF p.C m 905 i j) (cpF p.C m id i j)
  unfold cpF
  by_cases him:i=m
  ·rw[if_pos him,if_pos him]
   exact .owN 5 id h
  ·rw[if_neg him,if_neg him]
   exact .imm _ rfl⟩,BackB.same (fun i _ j _=>rowF_imm bpC_imm _ i j) (BackB.same (fun i _ j _=>rowF_imm bgC_imm28 _ i j) (BackB.same (fun i _ j _=>rowF_imm bgC_imm28 _ i j) (BackB.same (fun i _ j _=>rowF_imm bpC_imm _ i j) trivial)))⟩
theorem cpBackA{a b c d e f:Nat}(h1:posOf [a,b,c,d,e,f] a=some 0)(h2:posOf [a,b,c,d,e,f] b=some 1)(h3:posOf [a,b,c,d,e,f] c=some 2)(h4:posOf [a,b,c,d,e,f] d=some 3)(h5:posOf [a,b,c,d,e,f] e=some 4):BackA [] [a,b,c,d,e,f] cpRes (.ag [.ow a,.ow b,.ow c,.ow d,.ow e]):=
 .ag ⟨.owN 0 a h1,.owN 1 b h2,.owN 2 c h3,.owN 3 d h4,.owN 4 e h5,trivial⟩
theorem cpFz{h:Nat→Option AB}{ren:List (Nat×Option Nat)}{C:List (List Bp)}{m id:Nat}(hh:h id=some (bpB (cpL C m C.length)))(hr:renNo ren id=true):∀i,i<C.length→∀j,j<1→LeC h ren (cpF C m id i j) (chF C i j):=fun i hi j _=>by
 unfold cpF
 by_cases him:i=m
 ·rw[if_pos him]
  have e:cpL C m C.length=C.getD i []:=by unfold cpL;rw[if_pos (by omega),him]
  rw[e]at hh
  exact LeC.fz hh hr rfl (fun i _ j _=>⟨rfl,rowF_imm bpC_imm _ i j⟩)
 ·rw[if_neg him]
  exact LeC.refl _ rfl
theorem cpKeep{h:Nat→Option AB}{ren:List (Nat×Option Nat)}{C:List (List Bp)}{m id:Nat}(hr:assoc ren id=some (some id)):∀i,i<C.length→∀j,j<1→LeC h ren (cpF C m id i j) (cpF C m id i j):=fun i hi j _=>by
 unfold cpF
 by_cases him:i=m
 ·rw[if_pos him]
  exact LeC.ow _ _ hr
 ·rw[if_neg him]
  exact LeC.refl _ rfl
theorem mem_snoc{α:Type}{L:List α}{x y:α}(h:y∈L++ [x]):y∈L∨y=x:=by
 rcases List.mem_append.1 h with h|h
 ·exact .inl h
 ·exact .inr (List.mem_singleton.1 h)
theorem mem_set28{α:Type}{L:List α}{k:Nat}{x y:α}(h:y∈L.set k x):y∈L∨y=x:=List.mem_or_eq_of_mem_set h
theorem fzR{h:Nat→Option AB}{ren:List (Nat×Option Nat)}{id:Nat}{L:List Rd}(hh:h id=some (rdB L))(hr:renNo ren id=true):LeC h ren (.ow id) (lsR L):=LeC.fz hh hr rfl (fun i _ j _=>⟨rfl,rowF_imm rdC_imm _ i j⟩)
theorem fzB{h:Nat→Option AB}{ren:List (Nat×Option Nat)}{id:Nat}{L:List Bp}(hh:h id=some (bpB L))(hr:renNo ren id=true):LeC h ren (.ow id) (lsB L):=LeC.fz hh hr rfl (fun i _ j _=>⟨rfl,rowF_imm bpC_imm _ i j⟩)
theorem fzG{h:Nat→Option AB}{ren:List (Nat×Option Nat)}{id:Nat}{L:List Bg}(hh:h id=some (bgB L))(hr:renNo ren id=true):LeC h ren (.ow id) (lsG L):=LeC.fz hh hr rfl (fun i _ j _=>⟨rfl,rowF_imm bgC_imm28 _ i j⟩)
theorem fzC{h:Nat→Option AB}{ren:List (Nat×Option Nat)}{id:Nat}{C:List (List Bp)}(hh:h id=some (chB C))(hr:renNo ren id=true):LeC h ren (.ow id) (lsC C):=LeC.fz hh hr rfl (fun i _ j _=>⟨rfl,rfl⟩)
theorem rd5_F:∀k,k<5→∀j,j<2→zF [Value.int .i64 0,.int .i64 0] k j=rowF rdC rdZ [⟨0,0⟩,⟨0,0⟩,⟨0,0⟩,⟨0,0⟩,⟨0,0⟩] k j∧immC (zF [Value.int .i64 0,.int .i64 0] k j)=true:=fun k hk j hj=>by
 have h1:k=0∨k=1∨k=2∨k=3∨k=4:=by omega
 have h2:j=0∨j=1:=by omega
 rcases h1 with rfl|rfl|rfl|rfl|rfl<;>rcases h2 with rfl|rfl<;>exact⟨rfl,rfl⟩
theorem bpz_le{h:Nat→Option AB}{ren:List (Nat×Option Nat)}(n:Nat):∀k,k<n→∀j,j<3→LeC h ren (zF [Value.int .i64 0,.int .i64 0,.slice none 0 0] k j) (rowF bpC bpZ (List.replicate n bpZ) k j):=fun k hk j hj=>by
 have e:(List.replicate n bpZ).getD k bpZ=bpZ:=by simp[List.getD_eq_getElem?_getD,hk]
 unfold rowF
 rw[e]
 have:j=0∨j=1∨j=2:=by omega
 rcases this with rfl|rfl|rfl
 ·exact LeC.refl _ rfl
 ·exact LeC.refl _ rfl
 ·exact LeC.nils _ _
def odd28X(p:Pb)(q1 q2:Int)(u:Int)(b r5 r6:Bp)(n:Nat):Nat→Pb
 |0=>⟨p.R++ [⟨u,q2⟩],p.C,p.F,p.O,p.T⟩
 |1=>⟨[⟨0,0⟩,⟨0,0⟩,⟨0,0⟩,⟨0,0⟩,⟨0,0⟩],p.C,p.F,p.O,p.T⟩
 |2=>⟨p.R,p.C,p.F,p.O++ [bgZ],p.T⟩
 |3=>⟨p.R,p.C,p.F,p.O,p.T.take (p.T.length/2)⟩
 |4=>⟨p.R,p.C,p.F++ [b],p.O,p.T++ [⟨q1,0,q2,0⟩]⟩
 |5=>⟨p.R,p.C,p.F.set 0 r5,p.O,p.T⟩
 |6=>⟨p.R,if 0<p.C.length then p.C.set 0 ((cpL p.C 0 p.C.length).set 0 r6)else p.C,p.F,p.O,p.T⟩
 |7=>⟨p.R,p.C++ [List.replicate n bpZ],p.F,p.O++ [bgZ],p.T⟩
 |_=>⟨p.R,p.C,p.F,p.O.set 0 ⟨q1,q2,0,q1⟩,p.T⟩
theorem cpL_mem{C:List (List Bp)}(h:0<C.length):cpL C 0 C.length∈C:=by
 have hK:cpL C 0 C.length=C.getD 0 []:=by unfold cpL;rw[if_pos h]
 rw[hK]
 exact getD_mem28 h
theorem odd28_bd{B:Nat}{p:Pb}{q1 q2 u:Int}{b r5 r6:Bp}{n:Nat}(hp:p.bd B)(hB2:200≤B)(hu:0≤u∧u<4)(hb:BpBd (B+40) b)(h5:BpBd (B+1) r5)(h6:BpBd (B+1) r6)(hn:n≤35)(k:Nat):(odd28X p q1 q2 u b r5 r6 n k).bd (B+40):=by
 have hm0:=hp.mono (show B≤B+40 by omega)
 obtain⟨hrd,lR,lC,lF',lO,lT,lc,lf⟩:=hp
 match k with
 |0=>exact⟨fun r hr=>(mem_snoc hr).elim (hrd r) fun e=>by subst e;exact⟨by dsimp only;omega,by dsimp only;omega⟩,by show(p.R++_).length≤_;simp;omega,hm0.lC,hm0.lF,hm0.lO,hm0.lT,hm0.C,hm0.F⟩
 | 1 =>exact⟨fun r hr=>by
     replace hr:r∈ [(⟨0,0⟩:Rd),⟨0,0⟩,⟨0,0⟩,⟨0,0⟩,⟨0,0⟩]:=hr
     simp at hr
     subst hr
     exact⟨by decide,by decide⟩,by show 5≤_;omega,hm0.lC,hm0.lF,hm0.lO,hm0.lT,hm0.C,hm0.F⟩
 |2=>exact⟨hrd,hm0.lR,hm0.lC,hm0.lF,by show(p.O++_).length≤_;simp;omega,hm0.lT,hm0.C,hm0.F⟩
 |3=>exact⟨hrd,hm0.lR,hm0.lC,hm0.lF,hm0.lO,by show(p.T.take _).length≤_;rw[List.length_take];omega,hm0.C,hm0.F⟩
 |4=>exact⟨hrd,hm0.lR,hm0.lC,by show(p.F++_).length≤_;simp;omega,hm0.lO,by show(p.T++_).length≤_;simp;omega,hm0.C,fun y hy=>(mem_snoc hy).elim (hm0.F y) fun e=>by subst e;exact hb⟩
 |5=>exact⟨hrd,hm0.lR,hm0.lC,by show(p.F.set _ _).length≤_;simp;omega,hm0.lO,hm0.lT,hm0.C,fun y hy=>(mem_set28 hy).elim (hm0.F y) fun e=>by subst e;exact h5.mono (by omega)⟩
 | 6 =>
   by_cases hC:0<p.C.length
   ·have hmem:=cpL_mem hC
    refine⟨hrd,hm0.lR,?_,hm0.lF,hm0.lO,hm0.lT,fun l hl=> ?_,hm0.F⟩
    ·show(if 0<p.C.length then _ else p.C).length≤_
     rw[if_pos hC,List.length_set];omega
    ·replace hl:l∈(if 0<p.C.length then p.C.set 0 ((cpL p.C 0 p.C.length).set 0 r6)else p.C):=hl
     rw[if_pos hC]at hl
     rcases mem_set28 hl with hl|rfl
     ·exact hm0.C l hl
     ·refine⟨by rw[List.length_set];exact(hm0.C _ hmem).1,fun b hb=>(mem_set28 hb).elim ((hm0.C _ hmem).2 b) fun e=>by subst e;exact h6.mono (by omega)⟩
   ·have e:odd28X p q1 q2 u b r5 r6 n 6=p:=by
     show(⟨p.R,if 0<p.C.length then _ else p.C,p.F,p.O,p.T⟩:Pb)=p
     rw[if_neg hC]
    rw[e]
    exact hm0
 |7=>exact⟨hrd,hm0.lR,by show(p.C++_).length≤_;simp;omega,hm0.lF,by show(p.O++_).length≤_;simp;omega,hm0.lT,fun l hl=>(mem_snoc hl).elim (hm0.C l) fun e=>by subst e;exact⟨by simp;omega,fun b hb=>by rw[List.eq_of_mem_replicate hb];exact⟨by dsimp only;omega,Nat.zero_le _⟩⟩,hm0.F⟩
 |k+8=>exact⟨hrd,hm0.lR,hm0.lC,hm0.lF,by show(p.O.set _ _).length≤_;simp;omega,hm0.lT,hm0.C,hm0.F⟩
theorem set_nil{α:Type}{L:List α}{k:Nat}{x:α}(h:¬k<L.length):L.set k x=L:=List.set_eq_of_length_le (by omega)
set_option maxRecDepth 100000 in
theorem Odd28_A(B:Nat)(p:Pb)(hp:p.bd B)(hB:B≤90000)(hB2:200≤B)(q0 q1 q2:Int)(hq1:-9223372036854775808≤q1∧q1≤9223372036854775807):∃x:Pb,x.bd (B+40)∧ACalls Try.prog 9 [.ag (pbC p),.ag [iC q0,iC q1,iC q2]] (.ag (pbC x)):=by
 have hCopy:=Copy_G p (hp.ok (by omega)) 0
 have hbd:= @odd28_bd B p q1 q2
 have hbd0:=hp
 obtain⟨hrd,lR,lC,lF',lO,lT,lc,lf⟩:=hp
 have hM:=Mod_A q0 9 (by omega) (by omega)
 have h0:=Int.emod_nonneg q0 (show(9:Int)≠0 by omega)
 have h9:=Int.emod_lt_of_pos q0 (show(0:Int)<9 by omega)
 generalize q0%9=c at hM h0 h9
 obtain⟨k,rfl⟩:=Int.eq_ofNat_of_zero_le h0
 have hM4:=Mod_A q1 4 (by omega) (by omega)
 have h4:=Int.emod_nonneg q1 (show(4:Int)≠0 by omega)
 have h5:=Int.emod_lt_of_pos q1 (show(0:Int)<4 by omega)
 obtain⟨u,hu⟩:∃u,q1%4=u:=⟨_,rfl⟩
 rw[hu]at hM4 h4 h5
 have hMd:=(Made_A 2 (fI [q1,q2]) (by decide)).cv (args':= [.c (litI2 q1 q2)]) ⟨.c (lit2 q1 q2),trivial⟩
 have hmb:BpBd (B+40) (mdV 2 (fI [q1,q2])):=by
  have hb:=md_bd 2 (fI [q1,q2])
  have hn:mdW 2 (fI [q1,q2])*mdH 2 (fI [q1,q2])≤16*12:=Nat.mul_le_mul hb.1 hb.2
  exact⟨by unfold mdV;dsimp only;omega,by unfold mdV;dsimp only;omega⟩
 generalize mdV 2 (fI [q1,q2])=b at hMd hmb
 obtain⟨r5,hr5,hO5⟩:∃r,BpBd (B+1) r∧(0<p.F.length→ACalls Try.prog 29 [.ag (bpC (p.F.getD 0 bpZ)),.c (iC q1)] (.ag (bpC r))):=by
  by_cases hF:0<p.F.length
  ·obtain⟨r,h1,h2⟩:=Odd04_A B (p.F.getD 0 bpZ) q1 (lf _ (getD_mem28 hF)) (by omega) hq1
   exact⟨r,h1,fun _=>h2⟩
  ·exact⟨bpZ,⟨by dsimp only;omega,Nat.zero_le _⟩,fun h=>absurd h hF⟩
 obtain⟨r6,hr6,hO6⟩:∃r,BpBd (B+1) r∧(0<p.C.length→0<(cpL p.C 0 p.C.length).length→ACalls Try.prog 29 [.ag (bpC ((cpL p.C 0 p.C.length).getD 0 bpZ)),.c (iC q1)] (.ag (bpC r))):=by
  by_cases hF:0<p.C.length∧0<(cpL p.C 0 p.C.length).length
  ·obtain⟨r,h1,h2⟩:=Odd04_A B ((cpL p.C 0 p.C.length).getD 0 bpZ) q1 ((lc _ (cpL_mem hF.1)).2 _ (getD_mem28 hF.2)) (by omega) hq1
   exact⟨r,h1,fun _ _=>h2⟩
  ·exact⟨bpZ,⟨by dsimp only;omega,Nat.zero_le _⟩,fun h h'=>absurd ⟨h,h'⟩ hF⟩
 have hM7:=Mod_A q1 35 (by omega) (by omega)
 have h35:=Int.emod_lt_of_pos q1 (show(0:Int)<35 by omega)
 obtain⟨n,hn⟩:∃n:Nat,q1%35=n:=Int.eq_ofNat_of_zero_le (Int.emod_nonneg q1 (by omega))
 rw[hn]at hM7 h35
 refine⟨odd28X p q1 q2 u b r5 r6 n k,hbd hbd0 hB2 ⟨h4,h5⟩ hmb hr5 hr6 (by omega) k,?_⟩
 clear hbd hbd0 hmb hr5 hr6
 refine acalls_at Try.func9 rfl rfl Try.ntmps9 rfl ?_
 repeat (first
  |refine vB [0] ?_
  | (refine rG 1 ?_
     refine vA ?_
     refine AList.callG [] [150,151,152,153,154,155] [] [] (cpNw p 0) [] (cpNx p 0 155) rfl rfl FnV.func rfl Try.func26 rfl (by kernel_rfl) (trivial) rfl (cpBackA rfl rfl rfl rfl rfl) (trivial) (cpBackB rfl) (hCopy) ?_
     (iterate 2 refine vA ?_)
     refine aB ?_))
 repeat (first
  |refine vB [] ?_
  | (refine rG 2 ?_
     (iterate 2 refine vA ?_)
     refine aH rfl rfl rfl rfl Try.func27 rfl (by kernel_rfl) (hM) ?_
     refine aB ?_))
 refine AWp.weak (S':=
  mkSt 147 [(3,.c (.pt 3 3 0 0)),(4,.c (.pt 4 5 0 0)),(5,.c (.pt 5 5 0 0)),(10,.c (iC k))] [(3,⟨false,1,3,24,lF [iC q0,iC q1,iC q2]⟩),(4,⟨false,1,5,34,lF [nl8,nl8,nl8,nl8,nl8]⟩),(5,⟨false,1,5,34,lF [.ow 150,.ow 151,.ow 152,.ow 153,.ow 154]⟩),(150,rdB p.R),(151,chM p.C 0 155 p.C.length),(152,bpB p.F),(153,bgB p.O),(154,bgB p.T),(155,bpB (cpL p.C 0 p.C.length))] [3,4,5,150,151,152,153,154,155]
  ) (Wk.mk [(3,some 3),(4,some 4),(5,some 5),(150,some 150),(151,some 151),(152,some 152),(153,some 153),(154,some 154),(155,some 155)] rfl rfl rfl ?_ ?_) ?_
 ·exact allT
 ·exact⟨hSm,hSm,HeapOk.box rfl rfl ⟨LeC.ow _ _ rfl,LeC.ow _ _ rfl,LeC.ow _ _ rfl,LeC.ow _ _ rfl,LeC.ow _ _ rfl,trivial⟩ rfl,hrF rdC_imm,.inr ⟨151,p.C.length,_,.inl rfl,rfl,rfl,cpKeep rfl⟩,
  hrF bpC_imm,hrF bgC_imm28,hrF bgC_imm28
  ,hrF bpC_imm,trivial⟩
 by_cases k6:k=6
 ·subst k6
  by_cases hC:0<p.C.length
  ·have hC':(p.C.length:Int)>0:=by omega
   by_cases hL:0<(cpL p.C 0 p.C.length).length
   ·have hL':((cpL p.C 0 p.C.length).length:Int)>0:=by omega
    have hO:=hO6 hC hL
    repeat (first
     |refine vB [3,5,7,9,11,14,17] ?_
     | (refine rG 18 ?_
        (iterate 7 refine vA ?_)
        refine qr10eo (AList.idxOw (k:=0) tyOk) ?_
        (iterate 4 refine vA ?_)
        refine aB ?_)
     |(refine AWp.draw (id:=19) mixed ?_;(iterate 2 refine vA ?_);refine qr10eo (AList.idxOw (k:=0) tyOk) ?_;(iterate 3 refine vA ?_);refine qr10eo (AList.idxOw (k:=0) tyOk) ?_;refine vA ?_;refine qr10eo (AList.idxOw (k:=0) tyOk) ?_;(iterate 3 refine vA ?_);refine aH rfl rfl rfl rfl Try.func29 rfl (by kernel_rfl) (hO) ?_;refine qr10eo (AList.idxOw (k:=0) tyOk) ?_;refine vA ?_;refine aB ⟨by kernel_rfl,?_⟩))
    refine AWp.weak (S':=
     mkSt 147 [(3,.c (.pt 3 3 0 0)),(4,.c (.pt 4 5 0 0)),(5,.c (.pt 5 5 0 0))] [(3,⟨false,1,3,24,lF [iC q0,iC q1,iC q2]⟩),(4,⟨false,1,5,34,lF [nl8,nl8,nl8,nl8,nl8]⟩),(5,⟨false,1,5,34,lF [.ow 150,.ow 151,.ow 152,.ow 153,.ow 154]⟩),(150,rdB p.R),(151,chB (p.C.set 0 ((cpL p.C 0 p.C.length).set 0 r6))),(152,bpB p.F),(153,bgB p.O),(154,bgB p.T)] [3,4,5,150,151,152,153,154]
     ) (Wk.mk [(3,some 3),(4,some 4),(5,some 5),(150,some 150),(151,some 151),(152,some 152),(153,some 153),(154,some 154)] rfl rfl rfl ?_ ?_) ?_
    ·exact allT
    ·exact⟨hSm,hSm,HeapOk.box rfl rfl ⟨LeC.ow _ _ rfl,LeC.ow _ _ rfl,LeC.ow _ _ rfl,LeC.ow _ _ rfl,LeC.ow _ _ rfl,trivial⟩ rfl,hrF rdC_imm,.inr ⟨151,p.C.length,_,.inl rfl,List.length_set,rfl,fun i hi j hj=>by
      show LeC _ _ (cpF p.C 0 155 i j) (lsB ((p.C.set 0 _).getD i []))
      unfold cpF
      by_cases hi0:i=0
      ·subst hi0
       rw[if_pos rfl,List.getD_eq_getElem?_getD,List.getElem?_set_self hC]
       exact LeC.fz rfl rfl List.length_set (set_row _ bpC_imm hL)
      ·rw[if_neg hi0,List.getD_eq_getElem?_getD (l:=p.C.set 0 _),List.getElem?_set_ne (Ne.symm hi0),←List.getD_eq_getElem?_getD]
       exact LeC.refl _ rfl⟩,
     hrF bpC_imm,hrF bgC_imm28,hrF bgC_imm28
     ,trivial⟩
    refine vB [26] ?_
    refine⟨mkSt 147 [(4,.c (.pt 4 5 0 0))] [(4,⟨false,1,5,34,lF (pbC (odd28X p q1 q2 u b r5 r6 n 6))⟩)] [4],[(4,⟨false,1,5,34,lF (pbC (odd28X p q1 q2 u b r5 r6 n 6))⟩)],Wk.mk [(4,some 4)] rfl rfl rfl ?_ ?_,rfl,rfl,ARets.one (x:=.ag _) (ARes.box tyOk rfl rfl rfl rfl rfl rfl rfl)⟩
    ·exact allT
    ·exact⟨HeapOk.box rfl rfl ⟨
     fzR rfl rfl,(by show LeC _ _ _ (lsC (if 0<p.C.length then _ else p.C));rw[if_pos hC];exact fzC rfl rfl),fzB rfl rfl,fzG rfl rfl,fzG rfl rfl
     ,trivial⟩ rfl,trivial⟩
   ·have hL':¬((cpL p.C 0 p.C.length).length:Int)>0:=by omega
    have e6:p.C.set 0 ((cpL p.C 0 p.C.length).set 0 r6)=p.C:=by
     have hK:cpL p.C 0 p.C.length=p.C.getD 0 []:=by unfold cpL;rw[if_pos hC]
     rw[show(cpL p.C 0 p.C.length).set 0 r6=cpL p.C 0 p.C.length from set_nil hL,hK,List.getD_eq_getElem?_getD,List.getElem?_eq_getElem hC]
     exact List.set_getElem_self hC
    repeat (first
     |refine vB [3,5,7,9,11,14,17] ?_
     | (refine rG 18 ?_
        (iterate 7 refine vA ?_)
        refine qr10eo (AList.idxOw (k:=0) tyOk) ?_
        (iterate 4 refine vA ?_)
        refine aB ?_))
    refine AWp.weak (S':=
     mkSt 147 [(3,.c (.pt 3 3 0 0)),(4,.c (.pt 4 5 0 0)),(5,.c (.pt 5 5 0 0)),(10,.c (iC ((6:Nat):Int)))] [(3,⟨false,1,3,24,lF [iC q0,iC q1,iC q2]⟩),(4,⟨false,1,5,34,lF [nl8,nl8,nl8,nl8,nl8]⟩),(5,⟨false,1,5,34,lF [.ow 150,.ow 151,.ow 152,.ow 153,.ow 154]⟩),(150,rdB p.R),(151,chB p.C),(152,bpB p.F),(153,bgB p.O),(154,bgB p.T)] [3,4,5,150,151,152,153,154]
     ) (Wk.mk [(3,some 3),(4,some 4),(5,some 5),(150,some 150),(151,some 151),(152,some 152),(153,some 153),(154,some 154)] rfl rfl rfl ?_ ?_) ?_
    ·exact allT
    ·exact⟨hSm,hSm,HeapOk.box rfl rfl ⟨LeC.ow _ _ rfl,LeC.ow _ _ rfl,LeC.ow _ _ rfl,LeC.ow _ _ rfl,LeC.ow _ _ rfl,trivial⟩ rfl,hrF rdC_imm,.inr ⟨151,p.C.length,_,.inl rfl,rfl,rfl,cpFz rfl rfl⟩,
     hrF bpC_imm,hrF bgC_imm28,hrF bgC_imm28
     ,trivial⟩
    refine vB [26] ?_
    refine⟨mkSt 147 [(4,.c (.pt 4 5 0 0))] [(4,⟨false,1,5,34,lF (pbC (odd28X p q1 q2 u b r5 r6 n 6))⟩)] [4],[(4,⟨false,1,5,34,lF (pbC (odd28X p q1 q2 u b r5 r6 n 6))⟩)],Wk.mk [(4,some 4)] rfl rfl rfl ?_ ?_,rfl,rfl,ARets.one (x:=.ag _) (ARes.box tyOk rfl rfl rfl rfl rfl rfl rfl)⟩
    ·exact allT
    ·exact⟨HeapOk.box rfl rfl ⟨
     fzR rfl rfl,(by show LeC _ _ _ (lsC (if 0<p.C.length then _ else p.C));rw[if_pos hC,e6];exact fzC rfl rfl),fzB rfl rfl,fzG rfl rfl,fzG rfl rfl
     ,trivial⟩ rfl,trivial⟩
  ·have hC':¬(p.C.length:Int)>0:=by omega
   refine vB [3,5,7,9,11,14,17,18] ?_
   refine AWp.weak (S':=
    mkSt 147 [(3,.c (.pt 3 3 0 0)),(4,.c (.pt 4 5 0 0)),(5,.c (.pt 5 5 0 0)),(10,.c (iC ((6:Nat):Int)))] [(3,⟨false,1,3,24,lF [iC q0,iC q1,iC q2]⟩),(4,⟨false,1,5,34,lF [nl8,nl8,nl8,nl8,nl8]⟩),(5,⟨false,1,5,34,lF [.ow 150,.ow 151,.ow 152,.ow 153,.ow 154]⟩),(150,rdB p.R),(151,chB p.C),(152,bpB p.F),(153,bgB p.O),(154,bgB p.T)] [3,4,5,150,151,152,153,154]
    ) (Wk.mk [(3,some 3),(4,some 4),(5,some 5),(150,some 150),(151,some 151),(152,some 152),(153,some 153),(154,some 154)] rfl rfl rfl ?_ ?_) ?_
   ·exact allT
   ·exact⟨hSm,hSm,HeapOk.box rfl rfl ⟨LeC.ow _ _ rfl,LeC.ow _ _ rfl,LeC.ow _ _ rfl,LeC.ow _ _ rfl,LeC.ow _ _ rfl,trivial⟩ rfl,hrF rdC_imm,.inr ⟨151,p.C.length,_,.inl rfl,rfl,rfl,cpFz rfl rfl⟩,
    hrF bpC_imm,hrF bgC_imm28,hrF bgC_imm28
    ,trivial⟩
   refine vB [26] ?_
   refine⟨mkSt 147 [(4,.c (.pt 4 5 0 0))] [(4,⟨false,1,5,34,lF (pbC (odd28X p q1 q2 u b r5 r6 n 6))⟩)] [4],[(4,⟨false,1,5,34,lF (pbC (odd28X p q1 q2 u b r5 r6 n 6))⟩)],Wk.mk [(4,some 4)] rfl rfl rfl ?_ ?_,rfl,rfl,ARets.one (x:=.ag _) (ARes.box tyOk rfl rfl rfl rfl rfl rfl rfl)⟩
   ·exact allT
   ·exact⟨HeapOk.box rfl rfl ⟨
    fzR rfl rfl,(by show LeC _ _ _ (lsC (if 0<p.C.length then _ else p.C));rw[if_neg hC];exact fzC rfl rfl),fzB rfl rfl,fzG rfl rfl,fzG rfl rfl
    ,trivial⟩ rfl,trivial⟩
 refine AWp.weak (S':=
  mkSt 147 [(3,.c (.pt 3 3 0 0)),(4,.c (.pt 4 5 0 0)),(5,.c (.pt 5 5 0 0)),(10,.c (iC k))] [(3,⟨false,1,3,24,lF [iC q0,iC q1,iC q2]⟩),(4,⟨false,1,5,34,lF [nl8,nl8,nl8,nl8,nl8]⟩),(5,⟨false,1,5,34,lF [.ow 150,.ow 151,.ow 152,.ow 153,.ow 154]⟩),(150,rdB p.R),(151,chB p.C),(152,bpB p.F),(153,bgB p.O),(154,bgB p.T)] [3,4,5,150,151,152,153,154]
  ) (Wk.mk [(3,some 3),(4,some 4),(5,some 5),(150,some 150),(151,some 151),(152,some 152),(153,some 153),(154,some 154)] rfl rfl rfl ?_ ?_) ?_
 ·exact allT
 ·exact⟨hSm,hSm,HeapOk.box rfl rfl ⟨LeC.ow _ _ rfl,LeC.ow _ _ rfl,LeC.ow _ _ rfl,LeC.ow _ _ rfl,LeC.ow _ _ rfl,trivial⟩ rfl,hrF rdC_imm,.inr ⟨151,p.C.length,_,.inl rfl,rfl,rfl,cpFz rfl rfl⟩,
  hrF bpC_imm,hrF bgC_imm28,hrF bgC_imm28
  ,trivial⟩
 by_cases k0:k=0
 ·subst k0
  repeat (first
   |refine vB [3,26] ?_
   |(refine AWp.draw (id:=4) mixed ?_;(iterate 4 refine vA ?_);refine aH rfl rfl rfl rfl Try.func27 rfl (by kernel_rfl) (hM4) ?_;(iterate 4 refine vA ?_);refine AList.appL tyOk rfl rfl rfl rfl rfl rfl rfl rfl rfl rfl oM oM ?_;(iterate 2 refine vA ?_);refine aB ⟨by kernel_rfl,?_⟩))
  refine⟨mkSt 147 [(4,.c (.pt 4 5 0 0))] [(4,⟨false,1,5,34,lF (pbC (odd28X p q1 q2 u b r5 r6 n 0))⟩)] [4],[(4,⟨false,1,5,34,lF (pbC (odd28X p q1 q2 u b r5 r6 n 0))⟩)],Wk.mk [(4,some 4)] rfl rfl rfl ?_ ?_,rfl,rfl,ARets.one (x:=.ag _) (ARes.box tyOk rfl rfl rfl rfl rfl rfl rfl)⟩
  ·exact allT
  ·exact⟨HeapOk.box rfl rfl ⟨
   LeC.fz rfl rfl List.length_append (row_snoc (c:=rdC) (z:=rdZ) p.R ⟨u,q2⟩ rdC_imm rfl),fzC rfl rfl,fzB rfl rfl,fzG rfl rfl,fzG rfl rfl
   ,trivial⟩ rfl,trivial⟩
 refine vB [3] ?_
 by_cases k1:k=1
 ·subst k1
  repeat (first
   |refine vB [5,26] ?_
   | (refine rG 6 ?_
      refine qr9e2o2 (AList.makeSl (n:=5) tyOk) ?_
      (iterate 2 refine vA ?_)
      refine aB ?_))
  refine⟨mkSt 147 [(4,.c (.pt 4 5 0 0))] [(4,⟨false,1,5,34,lF (pbC (odd28X p q1 q2 u b r5 r6 n 1))⟩)] [4],[(4,⟨false,1,5,34,lF (pbC (odd28X p q1 q2 u b r5 r6 n 1))⟩)],Wk.mk [(4,some 4)] rfl rfl rfl ?_ ?_,rfl,rfl,ARets.one (x:=.ag _) (ARes.box tyOk rfl rfl rfl rfl rfl rfl rfl)⟩
  ·exact allT
  ·exact⟨HeapOk.box rfl rfl ⟨
   LeC.fz rfl rfl rfl rd5_F,fzC rfl rfl,fzB rfl rfl,fzG rfl rfl,fzG rfl rfl
   ,trivial⟩ rfl,trivial⟩
 refine vB [5] ?_
 by_cases k2:k=2
 ·subst k2
  repeat (first
   |refine vB [7,26] ?_
   | (refine rG 8 ?_
      (iterate 4 refine vA ?_)
      refine AList.appL tyOk rfl rfl rfl rfl rfl rfl rfl rfl rfl rfl oM oM ?_
      (iterate 2 refine vA ?_)
      refine aB ?_))
  refine⟨mkSt 147 [(4,.c (.pt 4 5 0 0))] [(4,⟨false,1,5,34,lF (pbC (odd28X p q1 q2 u b r5 r6 n 2))⟩)] [4],[(4,⟨false,1,5,34,lF (pbC (odd28X p q1 q2 u b r5 r6 n 2))⟩)],Wk.mk [(4,some 4)] rfl rfl rfl ?_ ?_,rfl,rfl,ARets.one (x:=.ag _) (ARes.box tyOk rfl rfl rfl rfl rfl rfl rfl)⟩
  ·exact allT
  ·exact⟨HeapOk.box rfl rfl ⟨
   fzR rfl rfl,fzC rfl rfl,fzB rfl rfl,LeC.fz rfl rfl List.length_append (row_snoc (c:=bgC) (z:=bgZ) p.O bgZ bgC_imm28 rfl),fzG rfl rfl
   ,trivial⟩ rfl,trivial⟩
 refine vB [7] ?_
 by_cases k3:k=3
 ·subst k3
  have hlen:(p.T.take (p.T.length/2)).length=p.T.length/2:=by rw[List.length_take];omega
  refine AWp.weak (S':=mkSt 147 [(3,.c (.pt 3 3 0 0)),(4,.c (.pt 4 5 0 0)),(5,.c (.pt 5 5 0 0)),(10,.c (iC ((3:Nat):Int)))] [(3,⟨false,1,3,24,lF [iC q0,iC q1,iC q2]⟩),(4,⟨false,1,5,34,lF [nl8,nl8,nl8,nl8,nl8]⟩),(5,⟨false,1,5,34,lF (pbC p)⟩)] [3,4,5]) (Wk.mk [(3,some 3),(4,some 4),(5,some 5)] rfl rfl rfl ?_ ?_) ?_
  ·exact allT
  ·exact⟨hSm,hSm,HeapOk.box rfl rfl ⟨fzR rfl rfl,fzC rfl rfl,fzB rfl rfl,fzG rfl rfl,fzG rfl rfl,trivial⟩ rfl,trivial⟩
  have e2:(p.T.length:Int)/2=((p.T.length/2:Nat):Int):=by omega
  repeat (first
   |refine vB [9,26] ?_
   | (refine rG 10 ?_
      (iterate 6 refine vA ?_)
      refine AList.cut (l:=0) (h:=p.T.length/2) tyOk rfl rfl rfl rfl rfl rfl rfl rfl ⟨_,_,rfl,by first|rfl|omega⟩ (by omega) (by omega) ?_
      (iterate 2 refine vA ?_)
      refine aB ?_))
  refine⟨mkSt 147 [(4,.c (.pt 4 5 0 0))] [(4,⟨false,1,5,34,lF (pbC (odd28X p q1 q2 u b r5 r6 n 3))⟩)] [4],[(4,⟨false,1,5,34,lF (pbC (odd28X p q1 q2 u b r5 r6 n 3))⟩)],Wk.mk [(4,some 4)] rfl rfl rfl ?_ ?_,rfl,rfl,ARets.one (x:=.ag _) (ARes.box tyOk rfl rfl rfl rfl rfl rfl rfl)⟩
  ·exact allT
  ·exact⟨HeapOk.box rfl rfl ⟨
   LeC.refl _ rfl,LeC.refl _ rfl,LeC.refl _ rfl,LeC.refl _ rfl,LeC.lz hlen (fun i hi j hj=>by rw[Nat.zero_add];exact row_take (sz:=4) p.T _ i hi j hj)
   ,trivial⟩ rfl,trivial⟩
 refine vB [9] ?_
 by_cases k4:k=4
 ·subst k4
  repeat (first
   |refine vB [11,26] ?_
   |(refine AWp.draw (id:=12) mixed ?_;(iterate 7 refine vA ?_);refine aH rfl rfl rfl rfl Try.func28 rfl (by kernel_rfl) (hMd) ?_;refine vA ?_;refine AList.appL tyOk rfl rfl rfl rfl rfl rfl rfl rfl rfl rfl oM oM ?_;(iterate 2 refine vA ?_);refine aB ⟨by kernel_rfl,?_⟩)
   | (refine rG 13 ?_
      (iterate 8 refine vA ?_)
      refine AList.appL tyOk rfl rfl rfl rfl rfl rfl rfl rfl rfl rfl oM oM ?_
      (iterate 2 refine vA ?_)
      refine aB ?_))
  refine⟨mkSt 147 [(4,.c (.pt 4 5 0 0))] [(4,⟨false,1,5,34,lF (pbC (odd28X p q1 q2 u b r5 r6 n 4))⟩)] [4],[(4,⟨false,1,5,34,lF (pbC (odd28X p q1 q2 u b r5 r6 n 4))⟩)],Wk.mk [(4,some 4)] rfl rfl rfl ?_ ?_,rfl,rfl,ARets.one (x:=.ag _) (ARes.box tyOk rfl rfl rfl rfl rfl rfl rfl)⟩
  ·exact allT
  ·exact⟨HeapOk.box rfl rfl ⟨
   fzR rfl rfl,fzC rfl rfl,LeC.fz rfl rfl List.length_append (row_snoc (c:=bpC) (z:=bpZ) p.F b bpC_imm rfl),fzG rfl rfl,LeC.fz rfl rfl List.length_append (row_snoc (c:=bgC) (z:=bgZ) p.T ⟨q1,0,q2,0⟩ bgC_imm28 rfl)
   ,trivial⟩ rfl,trivial⟩
 refine vB [11] ?_
 by_cases k5:k=5
 ·subst k5
  by_cases hF:0<p.F.length
  ·have hF':(p.F.length:Int)>0:=by omega
   have hO:=hO5 hF
   repeat (first
    |refine vB [14,15,26] ?_
    |(refine AWp.draw (id:=16) mixed ?_;(iterate 4 refine vA ?_);refine qr10eo (AList.idxOw (k:=0) tyOk) ?_;(iterate 3 refine vA ?_);refine aH rfl rfl rfl rfl Try.func29 rfl (by kernel_rfl) (hO) ?_;refine qr10eo (AList.idxOw (k:=0) tyOk) ?_;refine vA ?_;refine aB ⟨by kernel_rfl,?_⟩))
   refine⟨mkSt 147 [(4,.c (.pt 4 5 0 0))] [(4,⟨false,1,5,34,lF (pbC (odd28X p q1 q2 u b r5 r6 n 5))⟩)] [4],[(4,⟨false,1,5,34,lF (pbC (odd28X p q1 q2 u b r5 r6 n 5))⟩)],Wk.mk [(4,some 4)] rfl rfl rfl ?_ ?_,rfl,rfl,ARets.one (x:=.ag _) (ARes.box tyOk rfl rfl rfl rfl rfl rfl rfl)⟩
   ·exact allT
   ·exact⟨HeapOk.box rfl rfl ⟨
    fzR rfl rfl,fzC rfl rfl,LeC.fz rfl rfl List.length_set (set_row (c:=bpC) (z:=bpZ) (e:=r5) p.F bpC_imm hF),fzG rfl rfl,fzG rfl rfl
    ,trivial⟩ rfl,trivial⟩
  ·have hF':¬(p.F.length:Int)>0:=by omega
   refine vB [14,15,26] ?_
   refine⟨mkSt 147 [(4,.c (.pt 4 5 0 0))] [(4,⟨false,1,5,34,lF (pbC (odd28X p q1 q2 u b r5 r6 n 5))⟩)] [4],[(4,⟨false,1,5,34,lF (pbC (odd28X p q1 q2 u b r5 r6 n 5))⟩)],Wk.mk [(4,some 4)] rfl rfl rfl ?_ ?_,rfl,rfl,ARets.one (x:=.ag _) (ARes.box tyOk rfl rfl rfl rfl rfl rfl rfl)⟩
   ·exact allT
   ·exact⟨HeapOk.box rfl rfl ⟨
    fzR rfl rfl,fzC rfl rfl,(by show LeC _ _ _ (lsB (p.F.set 0 r5));rw[set_nil hF];exact fzB rfl rfl),fzG rfl rfl,fzG rfl rfl
    ,trivial⟩ rfl,trivial⟩
 refine vB [14,17] ?_
 by_cases k7:k=7
 ·subst k7
  repeat (first
   |refine vB [20] ?_
   |(refine AWp.draw (id:=21) mixed ?_;(iterate 4 refine vA ?_);refine aH rfl rfl rfl rfl Try.func27 rfl (by kernel_rfl) (hM7) ?_;refine qr9e2o2 (AList.makeSl (n:=n) tyOk) ?_;refine qr11 (AList.litOw tyOk) ?_;refine AList.appO tyOk rfl rfl rfl rfl rfl rfl rfl rfl rfl rfl rfl oM oM ?_;(iterate 2 refine vA ?_);refine aB ⟨by kernel_rfl,?_⟩)
   | (refine rG 22 ?_
      (iterate 4 refine vA ?_)
      refine AList.appL tyOk rfl rfl rfl rfl rfl rfl rfl rfl rfl rfl oM oM ?_
      (iterate 2 refine vA ?_)
      refine aB ?_))
  refine AWp.weak (S':=mkSt 147 [(4,.c (.pt 4 5 0 0)),(5,.c (.pt 5 5 0 0))] [(4,⟨false,1,5,34,lF [nl8,nl8,nl8,nl8,nl8]⟩),(5,⟨false,1,5,34,lF [.ow 150,.ow 151,.ow 152,.ow 153,.ow 154]⟩),(150,rdB p.R),(151,chM (p.C++ [List.replicate n bpZ]) p.C.length 155 (p.C.length+1)),(152,bpB p.F),(153,bgB (p.O++ [bgZ])),(154,bgB p.T),(155,bpB (List.replicate n bpZ))] [4,5,150,151,152,153,154,155]) (Wk.mk [(4,some 4),(5,some 5),(150,some 150),(151,some 122),(152,some 152),(153,some 128),(154,some 154),(155,some 120)] rfl rfl rfl ?_ ?_) ?_
  ·exact allT
  ·exact⟨hSm,HeapOk.box rfl rfl ⟨LeC.ow _ _ rfl,LeC.ow _ _ rfl,LeC.ow _ _ rfl,LeC.ow _ _ rfl,LeC.ow _ _ rfl,trivial⟩ rfl,hrF rdC_imm,.inr ⟨122,p.C.length+1,_,.inl rfl,rfl,rfl,fun i hi j hj=>by
    obtain rfl:j=0:=Nat.lt_one_iff.mp hj
    show LeC _ _ _ (cpF (p.C++ [List.replicate n bpZ]) p.C.length 155 i 0)
    unfold cpF
    by_cases hil:i<p.C.length
    ·rw[if_neg (by omega),appF_lo hil]
     refine LeC.eq ?_ rfl
     show lsB (p.C.getD i [])=lsB ((p.C++ [List.replicate n bpZ]).getD i [])
     rw[List.getD_eq_getElem?_getD (l:=p.C++_),List.getElem?_append_left hil,←List.getD_eq_getElem?_getD]
    ·obtain rfl:i=p.C.length:=by omega
     rw[if_pos rfl,appF_hi (Nat.le_refl _),Nat.sub_self]
     exact LeC.ow _ _ rfl⟩,hrF bpC_imm,HeapOk.row rfl rfl List.length_append (row_snoc p.O bgZ bgC_imm28 rfl),hrF bgC_imm28,.inr ⟨120,n,_,.inl rfl,List.length_replicate,rfl,bpz_le n⟩,trivial⟩
  have hcl:cpL (p.C++ [List.replicate n bpZ]) p.C.length (p.C++ [List.replicate n bpZ]).length=List.replicate n bpZ:=by
   unfold cpL
   rw[if_pos (by simp),List.getD_eq_getElem?_getD,List.getElem?_append_right (Nat.le_refl _),Nat.sub_self]
   rfl
  refine AWp.weak (S':=mkSt 147 [(4,.c (.pt 4 5 0 0)),(5,.c (.pt 5 5 0 0))] [(4,⟨false,1,5,34,lF [nl8,nl8,nl8,nl8,nl8]⟩),(5,⟨false,1,5,34,lF [.ow 150,.ow 151,.ow 152,.ow 153,.ow 154]⟩),(150,rdB p.R),(151,chB (p.C++ [List.replicate n bpZ])),(152,bpB p.F),(153,bgB (p.O++ [bgZ])),(154,bgB p.T)] [4,5,150,151,152,153,154]) (Wk.mk [(4,some 4),(5,some 5),(150,some 150),(151,some 151),(152,some 152),(153,some 153),(154,some 154)] rfl rfl rfl ?_ ?_) ?_
  ·exact allT
  ·exact⟨hSm,HeapOk.box rfl rfl ⟨LeC.ow _ _ rfl,LeC.ow _ _ rfl,LeC.ow _ _ rfl,LeC.ow _ _ rfl,LeC.ow _ _ rfl,trivial⟩ rfl,hrF rdC_imm,.inr ⟨151,p.C.length+1,_,.inl rfl,by simp,rfl,fun i hi j hj=>cpFz (C:=p.C++ [List.replicate n bpZ]) (by rw[hcl];rfl) rfl i (by simp;omega) j hj⟩,hrF bpC_imm,hrF bgC_imm28,hrF bgC_imm28,trivial⟩
  refine vB [26] ?_
  refine⟨mkSt 147 [(4,.c (.pt 4 5 0 0))] [(4,⟨false,1,5,34,lF (pbC (odd28X p q1 q2 u b r5 r6 n 7))⟩)] [4],[(4,⟨false,1,5,34,lF (pbC (odd28X p q1 q2 u b r5 r6 n 7))⟩)],Wk.mk [(4,some 4)] rfl rfl rfl ?_ ?_,rfl,rfl,ARets.one (x:=.ag _) (ARes.box tyOk rfl rfl rfl rfl rfl rfl rfl)⟩
  ·exact allT
  ·exact⟨HeapOk.box rfl rfl ⟨
   fzR rfl rfl,fzC rfl rfl,fzB rfl rfl,fzG rfl rfl,fzG rfl rfl
   ,trivial⟩ rfl,trivial⟩
 obtain rfl:k=8:=by omega
 by_cases hF:0<p.O.length
 ·have hF':(p.O.length:Int)>0:=by omega
  repeat (first
   |refine vB [20,23,24,26] ?_
   | (refine rG 25 ?_
      (iterate 9 refine vA ?_)
      refine qr10eo (AList.idxOw (k:=0) tyOk) ?_
      refine vA ?_
      refine aB ?_))
  refine⟨mkSt 147 [(4,.c (.pt 4 5 0 0))] [(4,⟨false,1,5,34,lF (pbC (odd28X p q1 q2 u b r5 r6 n 8))⟩)] [4],[(4,⟨false,1,5,34,lF (pbC (odd28X p q1 q2 u b r5 r6 n 8))⟩)],Wk.mk [(4,some 4)] rfl rfl rfl ?_ ?_,rfl,rfl,ARets.one (x:=.ag _) (ARes.box tyOk rfl rfl rfl rfl rfl rfl rfl)⟩
  ·exact allT
  ·exact⟨HeapOk.box rfl rfl ⟨
   fzR rfl rfl,fzC rfl rfl,fzB rfl rfl,LeC.fz rfl rfl List.length_set (set_row (c:=bgC) (z:=bgZ) (sz:=4) (e:=(⟨q1,q2,0,q1⟩:Bg)) p.O bgC_imm28 hF),fzG rfl rfl
   ,trivial⟩ rfl,trivial⟩
 ·have hF':¬(p.O.length:Int)>0:=by omega
  refine vB [20,23,24,26] ?_
  refine⟨mkSt 147 [(4,.c (.pt 4 5 0 0))] [(4,⟨false,1,5,34,lF (pbC (odd28X p q1 q2 u b r5 r6 n 8))⟩)] [4],[(4,⟨false,1,5,34,lF (pbC (odd28X p q1 q2 u b r5 r6 n 8))⟩)],Wk.mk [(4,some 4)] rfl rfl rfl ?_ ?_,rfl,rfl,ARets.one (x:=.ag _) (ARes.box tyOk rfl rfl rfl rfl rfl rfl rfl)⟩
  ·exact allT
  ·exact⟨HeapOk.box rfl rfl ⟨
   fzR rfl rfl,fzC rfl rfl,fzB rfl rfl,(by show LeC _ _ _ (lsG (p.O.set 0 _));rw[set_nil hF];exact fzG rfl rfl),fzG rfl rfl
   ,trivial⟩ rfl,trivial⟩
theorem sm_bd{p:Pb}(h:Sm p):p.bd 200:=by
 obtain⟨hR,hr,hC,hc,hF,hf,hO,hT⟩:=h
 have h65:∀b:Bp,(∃d,b=bp65 d)→BpBd 200 b:=fun b ⟨d,e⟩=>by subst e;exact⟨(by decide:-((200:Nat):Int)≤6∧(6:Int)≤((200:Nat):Int)),(by decide:30≤200)⟩
 exact⟨fun r h=>(hr r h).2,by omega,by omega,by omega,by omega,by omega,fun l hl=>⟨by have:=(hc l hl).1;omega,fun b hb=>h65 b ((hc l hl).2 b hb)⟩,fun b hb=>h65 b (hf b hb)⟩
theorem pbZ_ok:pbZ.ok:=⟨rd_nil,by decide,by decide,by decide,by decide,by decide,fun _ h=>by cases h⟩
set_option maxRecDepth 100000 in
theorem in30_A(s:List Int)(x:Int)(hl:s.length≤1000000):ACalls Try.prog 38 [.c (lsI s),.c (iC x)] (.c (bC (decide (x∈s)))):=by
 obtain⟨v,hv⟩:∃v,decide (x∈s)=v:=⟨_,rfl⟩
 rw[hv]
 refine acalls_at Try.func38 rfl rfl Try.ntmps38 rfl ?_
 refine vB [0,1] ?_
 refine AWp.round (fun k:Nat=>mkSt 18 [(0,.c (lsI s)),(1,.c (iC x)),(5,.c (iC (k:Nat)))] [] []) (fun k=>k≤s.length∧∀j,j<k→¬fI s j=x) (fun k=>s.length-k) 0 ⟨Nat.zero_le _,fun j hj=>absurd hj (Nat.not_lt_zero _)⟩ ?_ (fun k hk=> ?_)
 ·refine Wk.mk [] rfl rfl rfl ?_ trivial
  exact allT
 obtain⟨hk,hno⟩:=hk
 by_cases hks:k<s.length
 ·have hkl:(k:Int)<s.length:=by omega
  obtain⟨y,hy⟩:∃y,fI s k=y:=⟨_,rfl⟩
  have hcy:iF (fI s) k 0=iC y:=by rw[←hy]
  by_cases hxy:y=x
  ·obtain rfl:true=v:=by rw[←hv];exact(decide_eq_true (mem_fI.2 ⟨k,hks,hy.trans hxy⟩)).symm
   repeat (first
    |refine vB [2,5] ?_
    | (refine rG 4 ?_
       (iterate 2 refine vA ?_)
       first|refine qr8eo2 (aP (k:=k) tyOk) ?_|refine qr10eo (AList.idxOw (k:=k) tyOk) ?_
       first|refine AList.load1lE tyOk (hcy) rfl rfl rfl rfl rfl oM ?_|refine AList.load1F tyOk rfl rfl rfl rfl rfl rfl rfl oM oM (hcy) ?_
       (iterate 2 refine vA ?_)
       refine aB ?_))
   refine⟨mkSt 18 [(4,.c (bC true))] [] [],[],Wk.mk [] rfl rfl rfl ?_ trivial,rfl,rfl,aR1⟩
   exact allT
  · -- ax 16 ref30.in
    repeat (first
     |refine vB [2,3] ?_
     | (refine rG 4 ?_
        (iterate 2 refine vA ?_)
        first|refine qr8eo2 (aP (k:=k) tyOk) ?_|refine qr10eo (AList.idxOw (k:=k) tyOk) ?_
        first|refine AList.load1lE tyOk (hcy) rfl rfl rfl rfl rfl oM ?_|refine AList.load1F tyOk rfl rfl rfl rfl rfl rfl rfl oM oM (hcy) ?_
        (iterate 2 refine vA ?_)
        refine aB ?_))
    refine⟨k+1,⟨hks,fun j hj=> ?_⟩,Wk.mk [] rfl rfl rfl ?_ trivial,by omega⟩
    ·by_cases e:j=k
     ·subst e;rw[hy];exact hxy
     ·exact hno j (by omega)
    ·exact allT
 ·obtain rfl:k=s.length:=by omega
  have hkl:¬((s.length:Nat):Int)<s.length:=by omega
  obtain rfl:false=v:=by rw[←hv];exact(decide_eq_false fun hm=>by obtain⟨i,h1,h2⟩:=mem_fI.1 hm;exact hno i h1 h2).symm
  refine vB [2,6] ?_
  refine⟨mkSt 18 [(4,.c (bC false))] [] [],[],Wk.mk [] rfl rfl rfl ?_ trivial,rfl,rfl,aR1⟩
  exact allT
end Go.Proofs.Ytbffmfeldkjkcaa
end
