/- Parts of the proof: A24m, A24o, A24p, A24q, A24t, A24u, A24v. -/
import Derived.Test.YtpefnljgalpllaaG20
set_option linter.unusedSimpArgs false
set_option linter.unusedVariables false
set_option maxHeartbeats 0
section
namespace Go.Proofs.Ytpefnljgalpllaa
open Go.RowKit Go.Flow Go.AV Go.Plain
theorem LeC.fzP{h:Nat→Option AB}{ren:List (Nat×Option Nat)}{o sz:Nat}{ty:TypeId}{F:Nat→Nat→CV}{l:List CV}(hh:h o=some ⟨false,1,sz,ty,F⟩)(hr:renNo ren o=true)(hc:cellsFrom (F 0) 0 sz=l)(hi:l.all immC=true):LeC h ren (.pt o sz 0 0) (.pl 1 sz (lF l) 0 0):=
 .frzP o 1 sz 0 0 false ty F (lF l) hh (by omega) (fun k hk j hj=>by rw[lendBox_eq hc k hk j hj];exact lF_imm hi k j) (fun k hk j hj=>lendBox_eq hc k hk j hj) (renNo_at hr) (renNo_lt hr)
theorem Wk.trans{A B C:St}(h1:Wk A B)(h2:Wk B C):Wk A C:=fun b0 a w h=>h2 b0 a w (h1 b0 a w h)
theorem AWp.join3{P:Program}{x y:Code}{Q:Exit→St→Prop}{S:St}(S1:St)(h:AWp P x (thenA (AWp P y (fun e S'=>e=.normal∧Wk S' S1)) (fun e S'=>e=.normal∧Wk S' S1)) S)(hz:∀S',Wk S' S1→Q .normal S'):
 AWp P x (thenA (AWp P y Q) Q) S:=h.mono fun e S' h=>by
 cases e with
 |normal=>exact AWp.mono h fun e S' ⟨he,hw⟩=>by subst he;exact hz S' hw
 |_=>cases h.1
abbrev addC(i:Nat):CV:= [CV.pt 5 1 0 0,CV.pt 6 2 0 0].getD i .any
theorem le_add{h:Nat→Option AB}{ren:List (Nat×Option Nat)}{C:Nat→CV}(hc:∀i,C i=addC i)(h5:assoc ren 5=some (some 5))(h6:assoc ren 6=some (some 6)):LeC h ren (.fn 91 2 C) (.fn 91 2 addC):=by
 obtain rfl:C=addC:=funext hc
 refine LeC.fn _ _ _ _ (fun i hi=> ?_) (fun i hi=> ?_)
 ·obtain rfl|rfl:i=0∨i=1:=by omega
  ·exact⟨trivial,trivial⟩
  ·exact⟨trivial,trivial⟩
 ·obtain rfl|rfl:i=0∨i=1:=by omega
  ·exact .pt 5 5 1 0 0 h5
  ·exact .pt 6 6 2 0 0 h6
abbrev itC(a b:Bp)(x y:Bg)(n:Nat)(c0 c1:Nat→Int)(t0 t1:Int)(i:Nat):CV:=
 [CV.pl 1 14 (lF (prC a b (lim4 x) (lim4 y))) 0 0,CV.pl 1 1 (lF [.ls n 2 (cF c0 c1)]) 0 0,CV.pl 1 2 (lF [iC t0,iC t1]) 0 0].getD i .any
set_option maxRecDepth 100000 in
theorem strips_A(a b:Bp)(x y:Bg)(d:Int×Int)(Wn Hn:Nat)(ha:chk a.W a.H a.n=0)(hb:chk b.W b.H b.n=0)(hWn:a.W=Wn)(hHn:a.H=Hn)(hWb:b.W=a.W)(hHb:b.H=a.H)(hd:(-4≤d.1∧d.1≤4)∧-4≤d.2∧d.2≤4):
 ACalls Try.prog 78 [.ag (prC a b (lim4 x) (lim4 y)),.ag (mvC d)]
  (.c (.fn 93 3 (itC a b x y (Wn+40) (colP (alB a b d.1 d.2) Wn 0 Hn 0) (colP (alB b a (-d.1) (-d.2)) Wn d.1 Hn 0) (totP (alB a b d.1 d.2) Wn Hn 0) (totP (alB b a (-d.1) (-d.2)) Wn Hn 0)))):=by
 obtain⟨hw0,hw1,hh0,hh1,hn⟩:=okB ha
 obtain⟨-,-,-,-,hnb⟩:=okB hb
 rw[hWb,hHb]at hnb
 rw[hWn,hHn]at hn hnb
 obtain⟨A0,hA0⟩:∃A0,alB a b d.1 d.2=A0:=⟨_,rfl⟩
 obtain⟨A1,hA1⟩:∃A1,alB b a (-d.1) (-d.2)=A1:=⟨_,rfl⟩
 rw[hA0,hA1]
 obtain⟨n,hnn⟩:∃n,Wn+40=n:=⟨_,rfl⟩
 rw[hnn]
 have hW96:Wn≤96:=by omega
 have hH96:Hn≤96:=by omega
 refine acalls_at Try.func78 rfl rfl Try.ntmps78 rfl ?_
 repeat (first
  |refine vB [0,2,4] ?_
  | (refine rG 1 ?_
     (iterate 5 refine vA ?_)
     refine qr9e2o2 (AList.makeSl (n:=n) tyOk) ?_
     (iterate 2 refine vA ?_)
     refine aB ?_)
  | (refine rG 3 ?_
     refine qr5 AList.makeFn ?_
     refine vA ?_
     refine aB ?_))
 refine AWp.round (fun r:Nat=>mkSt 93 [(2,.c (.pt 2 14 0 0)),(3,.c (.pt 3 2 0 0)),(5,.c (.pt 5 1 0 0)),(6,.c (.pt 6 2 0 0)),(7,.c (.fn 91 2 addC)),(19,.c (iC Hn)),(20,.c (iC r))] [(2,⟨false,1,14,142,lF (prC a b (lim4 x) (lim4 y))⟩),(3,⟨false,1,2,132,lF (mvC d)⟩),(5,sB 15),(15,cB n (colP A0 Wn 0 r 0) (colP A1 Wn d.1 r 0)),(6,tB (totP A0 Wn r 0) (totP A1 Wn r 0))] [2,3,5,15,6])
  (fun r=>r≤Hn) (fun r=>Hn-r) 0 (Nat.zero_le _) ?_ (fun r hr=> ?_)
 ·refine Wk.mk [(2,some 2),(3,some 3),(5,some 5),(15,some 15),(6,some 6)] rfl rfl rfl ?_ ?_
  ·repeat (first|exact trivial|refine⟨⟨_,rfl,by first|exact LeA.c (le_add (fun i=>rfl) rfl rfl)|exact leT⟩,?_⟩)
  ·refine⟨hSm,hSm,HeapOk.box rfl rfl ⟨LeC.ow _ _ rfl,trivial⟩ rfl,HeapOk.row rfl rfl rfl (fun k _ j hj=> ?_),hSm,trivial⟩
   rw[show colP A0 Wn 0 0 0=fun _=>0 from funext fun k=>colP_zero _ _ _ k,show colP A1 Wn d.1 0 0=fun _=>0 from funext fun k=>colP_zero _ _ _ k,←zF_cF k j hj]
   exact⟨rfl,by rw[zF_cF k j hj];exact cF_imm _ _ k j⟩
 ·by_cases hrl:r<Hn
  ·have hrow0 :=colP_row A0 Wn 0 r
   have hrow1:=colP_row A1 Wn d.1 r
   have hrt0:=totP_row A0 Wn r
   have hrt1:=totP_row A1 Wn r
   refine vB [5,6,7] ?_
   refine AWp.round (fun c:Nat=>mkSt 93 [(2,.c (.pt 2 14 0 0)),(3,.c (.pt 3 2 0 0)),(5,.c (.pt 5 1 0 0)),(6,.c (.pt 6 2 0 0)),(7,.c (.fn 91 2 addC)),(8,.c (iC r)),(19,.c (iC Hn)),(20,.c (iC r)),(25,.c (iC Wn)),(26,.c (iC c))] [(2,⟨false,1,14,142,lF (prC a b (lim4 x) (lim4 y))⟩),(3,⟨false,1,2,132,lF (mvC d)⟩),(5,sB 15),(15,cB n (colP A0 Wn 0 r c) (colP A1 Wn d.1 r c)),(6,tB (totP A0 Wn r c) (totP A1 Wn r c))] [2,3,5,15,6])
    (fun c=>c≤Wn) (fun c=>Wn-c) 0 (Nat.zero_le _) ?_ (fun c hc=> ?_)
   ·refine Wk.mk [(2,some 2),(3,some 3),(5,some 5),(15,some 15),(6,some 6)] rfl rfl rfl ?_ ?_
    ·repeat (first|exact trivial|refine⟨⟨_,rfl,by first|exact LeA.c (le_add (fun i=>rfl) rfl rfl)|exact leT⟩,?_⟩)
    ·refine⟨hSm,hSm,HeapOk.box rfl rfl ⟨LeC.ow _ _ rfl,trivial⟩ rfl,HeapOk.row rfl rfl rfl (fun k _ j _=>⟨rfl,cF_imm _ _ k j⟩),hSm,trivial⟩
   ·by_cases hcl:c<Wn
    ·obtain ⟨p,hp⟩:∃p,r*Wn+c=p:=⟨_,rfl⟩
     have hpi:(r:Int)*a.W+(c:Int)=(p:Int):=by rw[←hp,hWn];simp
     have hpi2:(r:Int)*b.W+(c:Int)=(p:Int):=by rw[hWb];exact hpi
     have hrW:(0:Int)≤(r:Int)*a.W:=Int.mul_nonneg (by omega) (by omega)
     have hpl:r*Wn+Wn≤Wn*Hn:=by
      have:=Nat.mul_le_mul_right Wn (show r+1≤Hn by omega)
      rw[Nat.succ_mul,Nat.mul_comm Hn]at this
      exact this
     have hWH:(Wn*Hn:Nat)≤9216:=Nat.mul_le_mul hW96 hH96
     have hna:a.n=Wn*Hn:=by omega
     have hnb':b.n=Wn*Hn:=by omega
     have hGb:=bGet_A b.W b.H b.n b.d ((c:Int)-d.1) ((r:Int)-d.2) hb
     have hGa:=bGet_A a.W a.H a.n a.d ((c:Int)+d.1) ((r:Int)+d.2) ha
     have hv0:A0 r c=(a.d p && !hasB b.W b.H b.d ((c:Int)-d.1) ((r:Int)-d.2)):=by
      rw[←hA0]
      show(hasB a.W a.H a.d c r && !hasB b.W b.H b.d ((c:Int)-d.1) ((r:Int)-d.2))=_
      rw[hasB_in (by omega) (by omega) (by omega) (by omega),hpi,Int.toNat_natCast]
     have hv1:A1 r c=(b.d p && !hasB a.W a.H a.d ((c:Int)+d.1) ((r:Int)+d.2)):=by
      rw[←hA1]
      show(hasB b.W b.H b.d c r && !hasB a.W a.H a.d ((c:Int) - -d.1) ((r:Int) - -d.2))=_
      rw[hasB_in (by omega) (by omega) (by omega) (by omega),hpi2,Int.toNat_natCast,Int.sub_neg,Int.sub_neg]
     obtain⟨k1,hk1⟩:=Int.eq_ofNat_of_zero_le (show 0≤(c:Int)+d.1+4 by omega)
     have b0:=colP_bd A0 Wn 0 r c (c+4)
     have b1:=colP_bd A1 Wn d.1 r c k1
     have b2:=totP_bd A0 Wn r c hW96 (by omega)
     have b3:=totP_bd A1 Wn r c hW96 (by omega)
     have s0:=fun (h:A0 r c=true)=>colP_step (s:=0) h hcl (show((c+4:Nat):Int)=c+4+0 by omega)
     have s1:=fun (h:A1 r c=true)=>colP_step (s:=d.1) h hcl (show((k1:Nat):Int)=c+4+d.1 by omega)
     have n0:=fun (h:A0 r c=false)=>colP_skip (W:=Wn) (s:=0) h
     have n1:=fun (h:A1 r c=false)=>colP_skip (W:=Wn) (s:=d.1) h
     have u0:=fun (h:A0 r c=true)=>totP_step (W:=Wn) h
     have u1:=fun (h:A1 r c=true)=>totP_step (W:=Wn) h
     have v0:=fun (h:A0 r c=false)=>totP_skip (W:=Wn) h
     have v1:=fun (h:A1 r c=false)=>totP_skip (W:=Wn) h
     obtain⟨c0n,hc0n⟩:∃q,colP A0 Wn 0 r (c+1)=q:=⟨_,rfl⟩
     obtain⟨c1n,hc1n⟩:∃q,colP A1 Wn d.1 r (c+1)=q:=⟨_,rfl⟩
     obtain⟨t0n,ht0n⟩:∃q,totP A0 Wn r (c+1)=q:=⟨_,rfl⟩
     obtain⟨t1n,ht1n⟩:∃q,totP A1 Wn r (c+1)=q:=⟨_,rfl⟩
     rw[hc0n]at s0 n0
     rw[hc1n]at s1 n1
     rw[ht0n]at u0 v0
     rw[ht1n]at u1 v1
     obtain⟨c0,hc0⟩:∃q,colP A0 Wn 0 r c=q:=⟨_,rfl⟩
     obtain⟨c1,hc1⟩:∃q,colP A1 Wn d.1 r c=q:=⟨_,rfl⟩
     obtain⟨t0,ht0⟩:∃q,totP A0 Wn r c=q:=⟨_,rfl⟩
     obtain⟨t1,ht1⟩:∃q,totP A1 Wn r c=q:=⟨_,rfl⟩
     rw[hc0]at s0 n0 b0
     rw[hc1]at s1 n1 b1
     rw[ht0]at u0 v0 b2
     rw[ht1]at u1 v1 b3
     rw[hc0,hc1,ht0,ht1]
     have hK0:A0 r c=true→HCalls Try.prog 91 [.c (iC 0),.c (iC c),.c (.pt 1000 1 0 0),.c (.pt 1002 2 0 0)] [(1000,sB 1001),(1001,cB n c0 c1),(1002,tB t0 t1)] (.tu []) [(1000,sB 1001),(1001,cB n c0n c1),(1002,tB t0n t1)]:=fun h=>by
      have:=add0_H n c0 c1 t0 t1 c (c+4) (by omega) (by omega) (by omega) ⟨b0.1,by omega⟩ ⟨b2.1,by omega⟩
      rw[s0 h,u0 h]at this
      exact this
     have hK1:A1 r c=true→HCalls Try.prog 91 [.c (iC 1),.c (iC ((c:Int)+d.1)),.c (.pt 1000 1 0 0),.c (.pt 1002 2 0 0)] [(1000,sB 1001),(1001,cB n c0n c1),(1002,tB t0n t1)] (.tu []) [(1000,sB 1001),(1001,cB n c0n c1n),(1002,tB t0n t1n)]:=fun h=>by
      have:=add1_H n c0n c1 t0n t1 ((c:Int)+d.1) k1 (by omega) (by omega) (by omega) ⟨b1.1,by omega⟩ ⟨b3.1,by omega⟩
      rw[s1 h,u1 h]at this
      exact this
     clear s0 s1 u0 u1 hA0 hA1 hrow0 hrow1 hrt0 hrt1
     refine vB [8,9] ?_
     refine AWp.join2 (mkSt 93 [(2,.c (.pt 2 14 0 0)),(3,.c (.pt 3 2 0 0)),(5,.c (.pt 5 1 0 0)),(6,.c (.pt 6 2 0 0)),(7,.c (.fn 91 2 addC)),(8,.c (iC r)),(9,.c (iC c)),(19,.c (iC Hn)),(20,.c (iC r)),(25,.c (iC Wn)),(26,.c (iC c))] [(2,⟨false,1,14,142,lF (prC a b (lim4 x) (lim4 y))⟩),(3,⟨false,1,2,132,lF (mvC d)⟩),(5,sB 15),(15,cB n c0n c1),(6,tB t0n t1)] [2,3,5,15,6]) ?_ ?_
     ·cases hd0:a.d p with
      | false=>
        have hv:A0 r c=false:=by rw[hv0,hd0];rfl
        have q0:=n0 hv
        have q1:=v0 hv
        subst q0 q1
        repeat (first
         |refine vB [] ?_
         | (refine rG 10 ?_
            (iterate 10 refine vA ?_)
            refine qr8eo2 (aP (k:=p) tyOk) ?_
            refine AList.load1lE tyOk (congrArg (fun q=>CV.p (.bool q)) hd0) rfl rfl rfl rfl rfl oM ?_
            (iterate 14 refine vA ?_)
            refine aB ?_))
        refine⟨rfl,Wk.mk [(2,some 2),(3,some 3),(5,some 5),(15,some 15),(6,some 6)] rfl rfl rfl ?_ ?_⟩
        ·repeat (first|exact trivial|refine⟨⟨_,rfl,by first|exact LeA.c (le_add (fun i=>rfl) rfl rfl)|exact leT⟩,?_⟩)
        ·refine⟨hSm,hSm,HeapOk.box rfl rfl ⟨LeC.ow _ _ rfl,trivial⟩ rfl,HeapOk.row rfl rfl rfl (fun k _ j _=>⟨rfl,cF_imm _ _ k j⟩),hSm,trivial⟩
      | true=>
        cases hg0:hasB b.W b.H b.d ((c:Int)-d.1) ((r:Int)-d.2)with
        | true=>
          rw[hg0]at hGb
          have hv:A0 r c=false:=by rw[hv0,hd0,hg0];rfl
          have q0:=n0 hv
          have q1:=v0 hv
          subst q0 q1
          repeat (first
           |refine vB [] ?_
           | (refine rG 10 ?_
              (iterate 10 refine vA ?_)
              refine qr8eo2 (aP (k:=p) tyOk) ?_
              refine AList.load1lE tyOk (congrArg (fun q=>CV.p (.bool q)) hd0) rfl rfl rfl rfl rfl oM ?_
              (iterate 11 refine vA ?_)
              refine aH rfl rfl rfl rfl Try.func92 rfl (by kernel_rfl) (hGb) ?_
              (iterate 2 refine vA ?_)
              refine aB ?_))
          refine⟨rfl,Wk.mk [(2,some 2),(3,some 3),(5,some 5),(15,some 15),(6,some 6)] rfl rfl rfl ?_ ?_⟩
          ·repeat (first|exact trivial|refine⟨⟨_,rfl,by first|exact LeA.c (le_add (fun i=>rfl) rfl rfl)|exact leT⟩,?_⟩)
          ·refine⟨hSm,hSm,HeapOk.box rfl rfl ⟨LeC.ow _ _ rfl,trivial⟩ rfl,HeapOk.row rfl rfl rfl (fun k _ j _=>⟨rfl,cF_imm _ _ k j⟩),hSm,trivial⟩
        | false=>
          rw[hg0]at hGb
          have hv:A0 r c=true:=by rw[hv0,hd0,hg0];rfl
          repeat (first
           |refine vB [] ?_
           | (refine rG 10 ?_
              (iterate 10 refine vA ?_)
              refine qr8eo2 (aP (k:=p) tyOk) ?_
              refine AList.load1lE tyOk (congrArg (fun q=>CV.p (.bool q)) hd0) rfl rfl rfl rfl rfl oM ?_
              (iterate 11 refine vA ?_)
              refine aH rfl rfl rfl rfl Try.func92 rfl (by kernel_rfl) (hGb) ?_
              (iterate 2 refine vA ?_)
              refine aB ?_)
           | (refine rG 11 ?_
              (iterate 2 refine vA ?_)
              refine AList.callC [5,15,6] [sB 1001,cB n c0 c1,tB t0 t1] [sB 1001,cB n c0n c1,tB t0n t1] [sB 15,cB n c0n c1,tB t0n t1] rfl rfl rfl rfl rfl Try.func91 rfl (by kernel_rfl) (LendOk2.box rfl ⟨LentC.ow rfl,trivial⟩ rfl (LendOk2.row rfl (by omega) (fun k _ j _=>⟨rfl,cF_imm _ _ k j⟩) (LendOk2.box rfl ⟨LentC.imm rfl,LentC.imm rfl,trivial⟩ rfl trivial))) rfl (BackOk.box ⟨LentC.ow rfl,trivial⟩ rfl rfl (BackOk.row (fun k _ j _=>cF_imm _ _ k j) (BackOk.box ⟨LentC.imm rfl,LentC.imm rfl,trivial⟩ rfl rfl trivial))) (hK0 hv) ?_
              refine aB ?_))
          refine⟨rfl,Wk.mk [(2,some 2),(3,some 3),(5,some 5),(15,some 15),(6,some 6)] rfl rfl rfl ?_ ?_⟩
          ·repeat (first|exact trivial|refine⟨⟨_,rfl,by first|exact LeA.c (le_add (fun i=>rfl) rfl rfl)|exact leT⟩,?_⟩)
          ·refine⟨hSm,hSm,HeapOk.box rfl rfl ⟨LeC.ow _ _ rfl,trivial⟩ rfl,HeapOk.row rfl rfl rfl (fun k _ j _=>⟨rfl,cF_imm _ _ k j⟩),hSm,trivial⟩
     refine uA ?_
     refine AWp.join3 (mkSt 93 [(2,.c (.pt 2 14 0 0)),(3,.c (.pt 3 2 0 0)),(5,.c (.pt 5 1 0 0)),(6,.c (.pt 6 2 0 0)),(7,.c (.fn 91 2 addC)),(8,.c (iC r)),(9,.c (iC c)),(19,.c (iC Hn)),(20,.c (iC r)),(25,.c (iC Wn)),(26,.c (iC c))] [(2,⟨false,1,14,142,lF (prC a b (lim4 x) (lim4 y))⟩),(3,⟨false,1,2,132,lF (mvC d)⟩),(5,sB 15),(15,cB n c0n c1n),(6,tB t0n t1n)] [2,3,5,15,6]) ?_ (fun S2 hw2=>AWp.weak hw2 ?_)
     ·cases hd1:b.d p with
      | false=>
        have hv:A1 r c=false:=by rw[hv1,hd1];rfl
        have q0:=n1 hv
        have q1:=v1 hv
        subst q0 q1
        repeat (first
         |refine vB [] ?_
         | (refine rG 12 ?_
            (iterate 10 refine vA ?_)
            refine qr8eo2 (aP (k:=p) tyOk) ?_
            refine AList.load1lE tyOk (congrArg (fun q=>CV.p (.bool q)) hd1) rfl rfl rfl rfl rfl oM ?_
            (iterate 14 refine vA ?_)
            refine aB ?_))
        refine⟨rfl,Wk.mk [(2,some 2),(3,some 3),(5,some 5),(15,some 15),(6,some 6)] rfl rfl rfl ?_ ?_⟩
        ·repeat (first|exact trivial|refine⟨⟨_,rfl,by first|exact LeA.c (le_add (fun i=>rfl) rfl rfl)|exact leT⟩,?_⟩)
        ·refine⟨hSm,hSm,HeapOk.box rfl rfl ⟨LeC.ow _ _ rfl,trivial⟩ rfl,HeapOk.row rfl rfl rfl (fun k _ j _=>⟨rfl,cF_imm _ _ k j⟩),hSm,trivial⟩
      | true=>
        cases hg1:hasB a.W a.H a.d ((c:Int)+d.1) ((r:Int)+d.2)with
        | true=>
          rw[hg1]at hGa
          have hv:A1 r c=false:=by rw[hv1,hd1,hg1];rfl
          have q0:=n1 hv
          have q1:=v1 hv
          subst q0 q1
          repeat (first
           |refine vB [] ?_
           | (refine rG 12 ?_
              (iterate 10 refine vA ?_)
              refine qr8eo2 (aP (k:=p) tyOk) ?_
              refine AList.load1lE tyOk (congrArg (fun q=>CV.p (.bool q)) hd1) rfl rfl rfl rfl rfl oM ?_
              (iterate 11 refine vA ?_)
              refine aH rfl rfl rfl rfl Try.func92 rfl (by kernel_rfl) (hGa) ?_
              (iterate 2 refine vA ?_)
              refine aB ?_))
          refine⟨rfl,Wk.mk [(2,some 2),(3,some 3),(5,some 5),(15,some 15),(6,some 6)] rfl rfl rfl ?_ ?_⟩
          ·repeat (first|exact trivial|refine⟨⟨_,rfl,by first|exact LeA.c (le_add (fun i=>rfl) rfl rfl)|exact leT⟩,?_⟩)
          ·refine⟨hSm,hSm,HeapOk.box rfl rfl ⟨LeC.ow _ _ rfl,trivial⟩ rfl,HeapOk.row rfl rfl rfl (fun k _ j _=>⟨rfl,cF_imm _ _ k j⟩),hSm,trivial⟩
        | false=>
          rw[hg1]at hGa
          have hv:A1 r c=true:=by rw[hv1,hd1,hg1];rfl
          repeat (first
           |refine vB [] ?_
           | (refine rG 12 ?_
              (iterate 10 refine vA ?_)
              refine qr8eo2 (aP (k:=p) tyOk) ?_
              refine AList.load1lE tyOk (congrArg (fun q=>CV.p (.bool q)) hd1) rfl rfl rfl rfl rfl oM ?_
              (iterate 11 refine vA ?_)
              refine aH rfl rfl rfl rfl Try.func92 rfl (by kernel_rfl) (hGa) ?_
              (iterate 2 refine vA ?_)
              refine aB ?_)
           | (refine rG 13 ?_
              (iterate 5 refine vA ?_)
              refine AList.callC [5,15,6] [sB 1001,cB n c0n c1,tB t0n t1] [sB 1001,cB n c0n c1n,tB t0n t1n] [sB 15,cB n c0n c1n,tB t0n t1n] rfl rfl rfl rfl rfl Try.func91 rfl (by kernel_rfl) (LendOk2.box rfl ⟨LentC.ow rfl,trivial⟩ rfl (LendOk2.row rfl (by omega) (fun k _ j _=>⟨rfl,cF_imm _ _ k j⟩) (LendOk2.box rfl ⟨LentC.imm rfl,LentC.imm rfl,trivial⟩ rfl trivial))) rfl (BackOk.box ⟨LentC.ow rfl,trivial⟩ rfl rfl (BackOk.row (fun k _ j _=>cF_imm _ _ k j) (BackOk.box ⟨LentC.imm rfl,LentC.imm rfl,trivial⟩ rfl rfl trivial))) (hK1 hv) ?_
              refine aB ?_))
          refine⟨rfl,Wk.mk [(2,some 2),(3,some 3),(5,some 5),(15,some 15),(6,some 6)] rfl rfl rfl ?_ ?_⟩
          ·repeat (first|exact trivial|refine⟨⟨_,rfl,by first|exact LeA.c (le_add (fun i=>rfl) rfl rfl)|exact leT⟩,?_⟩)
          ·refine⟨hSm,hSm,HeapOk.box rfl rfl ⟨LeC.ow _ _ rfl,trivial⟩ rfl,HeapOk.row rfl rfl rfl (fun k _ j _=>⟨rfl,cF_imm _ _ k j⟩),hSm,trivial⟩
     refine vB [14] ?_
     refine⟨c+1,by omega,Wk.mk [(2,some 2),(3,some 3),(5,some 5),(15,some 15),(6,some 6)] rfl rfl rfl ?_ ?_,by omega⟩
     ·repeat (first|exact trivial|refine⟨⟨_,rfl,by first|exact LeA.c (le_add (fun i=>rfl) rfl rfl)|exact leT⟩,?_⟩)
     ·rw[hc0n,hc1n,ht0n,ht1n]
      refine⟨hSm,hSm,HeapOk.box rfl rfl ⟨LeC.ow _ _ rfl,trivial⟩ rfl,HeapOk.row rfl rfl rfl (fun k _ j _=>⟨rfl,cF_imm _ _ k j⟩),hSm,trivial⟩
    ·obtain rfl:c=Wn:=by omega
     refine vB [8,15] ?_
     refine⟨r+1,hrl,Wk.mk [(2,some 2),(3,some 3),(5,some 5),(15,some 15),(6,some 6)] rfl rfl rfl ?_ ?_,by omega⟩
     ·repeat (first|exact trivial|refine⟨⟨_,rfl,by first|exact LeA.c (le_add (fun i=>rfl) rfl rfl)|exact leT⟩,?_⟩)
     ·rw[hrow0,hrow1,hrt0,hrt1]
      refine⟨hSm,hSm,HeapOk.box rfl rfl ⟨LeC.ow _ _ rfl,trivial⟩ rfl,HeapOk.row rfl rfl rfl (fun k _ j _=>⟨rfl,cF_imm _ _ k j⟩),hSm,trivial⟩
  ·obtain rfl:r=Hn:=by omega
   repeat (first
    |refine vB [5] ?_
    | (refine rG 16 ?_
       refine qr5 AList.makeFn ?_
       refine vA ?_
       refine aB ?_))
   have hn0:0<n:=by omega
   refine⟨mkSt 93 [(4,.c (.fn 93 3 (itC a b x y n (colP A0 Wn 0 r 0) (colP A1 Wn d.1 r 0) (totP A0 Wn r 0) (totP A1 Wn r 0))))] [] [],[],?_,rfl,rfl,ARets.one (x:=.c _) (ARes.fn rfl fun i hi=> ?_)⟩
   ·refine Wk.trans (B:=mkSt 93 [(4,.c (.fn 93 3 fun i=> [CV.pt 2 14 0 0,CV.pt 5 1 0 0,CV.pt 6 2 0 0].getD i .any))] [(2,⟨false,1,14,142,lF (prC a b (lim4 x) (lim4 y))⟩),(5,⟨false,1,1,155,lF [.ls n 2 (cF (colP A0 Wn 0 r 0) (colP A1 Wn d.1 r 0))]⟩),(6,tB (totP A0 Wn r 0) (totP A1 Wn r 0))] [2,5,6]) (Wk.mk [(2,some 2),(5,some 5),(6,some 6)] rfl rfl rfl ⟨⟨_,rfl,.c (LeC.fn _ _ _ _ (fun i hi=> ?_) (fun i hi=> ?_))⟩,trivial⟩ ⟨hSm,HeapOk.box rfl rfl ⟨LeC.fz rfl rfl rfl (fun k _ j _=>⟨rfl,cF_imm _ _ k j⟩),trivial⟩ rfl,hSm,trivial⟩) (Wk.mk [] rfl rfl rfl ⟨⟨_,rfl,.c (LeC.fn _ _ _ _ (fun i hi=> ?_) (fun i hi=> ?_))⟩,trivial⟩ trivial)
    ·have hi3:i<3:=hi
     obtain rfl|rfl|rfl:i=0∨i=1∨i=2:=by omega
     all_goals exact⟨trivial,trivial⟩
    ·have hi3:i<3:=hi
     obtain rfl|rfl|rfl:i=0∨i=1∨i=2:=by omega
     ·exact .pt 2 2 14 0 0 rfl
     ·exact .pt 5 5 1 0 0 rfl
     ·exact .pt 6 6 2 0 0 rfl
    ·have hi3:i<3:=hi
     obtain rfl|rfl|rfl:i=0∨i=1∨i=2:=by omega
     all_goals exact⟨trivial,trivial⟩
    ·have hi3:i<3:=hi
     obtain rfl|rfl|rfl:i=0∨i=1∨i=2:=by omega
     ·exact LeC.fzP rfl rfl rfl rfl
     ·exact LeC.fzP rfl rfl rfl rfl
     ·exact LeC.fzP rfl rfl rfl rfl
   ·have hi3:i<3:=hi
    obtain rfl|rfl|rfl:i=0∨i=1∨i=2:=by omega
    all_goals rfl
abbrev stYs(a b:Bp)(x y:Bg)(n:Nat)(c0 c1:Nat→Int)(t0 t1:Int):List CV:= [CV.pl 1 14 (lF (prC a b (lim4 x) (lim4 y))) 0 0,CV.pl 1 1 (lF [.ls n 2 (cF c0 c1)]) 0 0,CV.pl 1 2 (lF [iC t0,iC t1]) 0 0]
set_option maxRecDepth 100000 in
theorem stripsIt_A(a b:Bp)(x y:Bg)(n t M Wn:Nat)(c0 c1:Nat→Int)(t0 t1:Int)(hw:a.W=Wn)(hw96:Wn≤96)(hn:n=Wn+40)(ht:stN a.W x y=t)(hM:M+t=Wn+9)(hc0:∀k,0≤c0 k∧c0 k≤97)(hc1:∀k,0≤c1 k∧c1 k≤97)(ht0:∀i,0≤t0-wS c0 i t∧t0-wS c0 i t≤100000)(ht1:∀i,0≤t1-wS c1 i t∧t1-wS c1 i t≤100000):
 ItCalls Try.prog 93 ((stYs a b x y n c0 c1 t0 t1).map .c) (stX x y t c0 c1 t0 t1) M:=by
 have hb:=stN_bd x y (show 0≤a.W by omega)
 have ht16:t≤16∧t≤Wn+8:=by omega
 have hst:=pstrip_A a b x y (by omega)
 rw[ht]at hst
 refine itcalls_of Try.func93 rfl rfl Try.ntmps93 rfl fun l N stop hN1 hN2=> ?_
 repeat (first
  |refine vB [1,2] ?_
  | (refine rG 0 ?_
     refine vA ?_
     refine aH rfl rfl rfl rfl Try.func94 rfl (by kernel_rfl) (hst) ?_
     refine vA ?_
     refine aB ?_))
 refine AWp.round (fun k:Nat=>mkG (itG Try.prog l (stX x y t c0 c1 t0 t1) N stop) 0 false 90 0 [(0,.c (.p (yv l))),(1,.c (.pl 1 14 (lF (prC a b (lim4 x) (lim4 y))) 0 0)),(2,.c (.pl 1 1 (lF [.ls n 2 (cF c0 c1)]) 0 0)),(3,.c (.pl 1 2 (lF [iC t0,iC t1]) 0 0)),(5,.c (iC t)),(6,.c (.pt 6 2 0 0)),(13,.c (iC t)),(14,.c (iC k))] [(6,⟨false,1,2,156,lF [iC (wS c0 0 k),iC (wS c1 0 k)]⟩)] [6])
  (fun k=>k≤t) (fun k=>t-k) 0 (Nat.zero_le _) ?_ (fun k hk=> ?_)
 ·refine Wk.mkG [(6,some 6)] rfl rfl rfl rfl rfl ?_ ?_
  ·exact allT
  ·exact⟨hSm,trivial⟩
 ·by_cases hkl:k<t
  ·have b0:=wS_bd hc0 0 k
   have b1:=wS_bd hc1 0 k
   have d0:=hc0 k
   have d1:=hc1 k
   have e0:=wS_more c0 0 k
   have e1:=wS_more c1 0 k
   rw[Nat.zero_add]at e0 e1
   obtain⟨u0,hu0⟩:∃u,wS c0 0 (k+1)=u:=⟨_,rfl⟩
   obtain⟨u1,hu1⟩:∃u,wS c1 0 (k+1)=u:=⟨_,rfl⟩
   rw[hu0]at e0
   rw[hu1]at e1
   generalize wS c0 0 k=v0 at *
   generalize wS c1 0 k=v1 at *
   repeat (first
    |refine vB [3,4,7] ?_
    |(refine AWp.draw (id:=5) mixed ?_;(iterate 4 refine vA ?_);refine qr8eo2 (aP (k:=k) tyOk) ?_;refine qr8o (AList.idxArrL tyOk) ?_;(iterate 4 refine vA ?_);refine aB ⟨by kernel_rfl,?_⟩)
    |(refine AWp.draw (id:=6) mixed ?_;(iterate 4 refine vA ?_);refine qr8eo2 (aP (k:=k) tyOk) ?_;refine qr8o (AList.idxArrL tyOk) ?_;(iterate 4 refine vA ?_);refine aB ⟨by kernel_rfl,?_⟩))
   refine⟨k+1,hkl,Wk.mkG [(6,some 6)] rfl rfl rfl rfl rfl ?_ ?_,by omega⟩
   ·exact allT
   ·rw[hu0,hu1,e0,e1]
    exact⟨hSm,trivial⟩
  ·obtain rfl:k=t:=by omega
   refine vB [3,8] ?_
   refine AWp.round (fun i:Nat=>mkG (itG Try.prog l (stX x y k c0 c1 t0 t1) N stop) i false 90 0 [(0,.c (.p (yv l))),(1,.c (.pl 1 14 (lF (prC a b (lim4 x) (lim4 y))) 0 0)),(2,.c (.pl 1 1 (lF [.ls n 2 (cF c0 c1)]) 0 0)),(3,.c (.pl 1 2 (lF [iC t0,iC t1]) 0 0)),(5,.c (iC k)),(6,.c (.pt 6 2 0 0)),(8,.c (iC ((i:Int)-4)))] [(6,⟨false,1,2,156,lF [iC (wS c0 i k),iC (wS c1 i k)]⟩)] [6])
    (fun i=>i<M∧(stop=true→i<N)) (fun i=>M-i) 0 ⟨by omega,fun h=>(hN1 h).1⟩ ?_ (fun i hi=> ?_)
   ·refine Wk.mkG [(6,some 6)] rfl rfl rfl rfl rfl ?_ ?_
    ·exact allT
    ·exact⟨hSm,trivial⟩
   ·obtain⟨hiM,hiN0⟩:=hi
    have hiN:i<N:=by
     cases stop with
     |true=>exact hiN0 rfl
     |false=>rw[hN2 rfl];exact hiM
    have q0:=ht0 i
    have q1:=ht1 i
    have b0:=wS_bd hc0 i k
    have b1:=wS_bd hc1 i k
    have hpe:=pexcess_A a b x y (t0-wS c0 i k) (t1-wS c1 i k) q0 q1
    cases hg1:goesB N stop i with
    | false=>
      obtain⟨hst1,hN⟩:=goes_false hg1
      refine vB [] ?_
      refine AWp.text ?_
      refine AText.split 14 ?_
      (iterate 3 refine vA ?_)
      refine qr8o (AList.idxArrL tyOk) ?_
      (iterate 4 refine vA ?_)
      refine qr8o (AList.idxArrL tyOk) ?_
      (iterate 4 refine vA ?_)
      refine aH rfl rfl rfl rfl Try.func95 rfl (by kernel_rfl) (hpe) ?_
      refine aB ?_
      refine AText.yield (i:=i) false rfl rfl rfl rfl (fun _ h=>h) rfl rfl (hiN) (rfl) (hg1) ?_
      refine AText.all ?_
      (iterate 11 refine vA ?_)
      refine aB ?_
      refine vB [] ?_
      exact⟨hN,hst1.symm⟩
    | true=>
      by_cases hlast:i+1=M
      ·have hsf:stop=false:=by
        cases stop with
        |false=>rfl
        |true=>have:=goes_true hg1 rfl;have:=hN1 rfl;omega
       refine vB [] ?_
       refine AWp.text ?_
       refine AText.split 14 ?_
       (iterate 3 refine vA ?_)
       refine qr8o (AList.idxArrL tyOk) ?_
       (iterate 4 refine vA ?_)
       refine qr8o (AList.idxArrL tyOk) ?_
       (iterate 4 refine vA ?_)
       refine aH rfl rfl rfl rfl Try.func95 rfl (by kernel_rfl) (hpe) ?_
       refine aB ?_
       refine AText.yield (i:=i) true rfl rfl rfl rfl (fun _ h=>h) rfl rfl (hiN) (rfl) (hg1) ?_
       refine AText.all ?_
       (iterate 11 refine vA ?_)
       refine aB ?_
       refine vB [] ?_
       exact⟨by rw[hN2 hsf];exact hlast,hsf.symm⟩
      ·have hnx0:=wS_next c0 i k
       have hnx1:=wS_next c1 i k
       have d0:=hc0 i
       have d1:=hc1 i
       have d2:=hc0 (i+k)
       have d3:=hc1 (i+k)
       refine vB [] ?_
       refine AWp.text ?_
       refine AText.split 14 ?_
       (iterate 3 refine vA ?_)
       refine qr8o (AList.idxArrL tyOk) ?_
       (iterate 4 refine vA ?_)
       refine qr8o (AList.idxArrL tyOk) ?_
       (iterate 4 refine vA ?_)
       refine aH rfl rfl rfl rfl Try.func95 rfl (by kernel_rfl) (hpe) ?_
       refine aB ?_
       refine AText.yield (i:=i) true rfl rfl rfl rfl (fun _ h=>h) rfl rfl (hiN) (rfl) (hg1) ?_
       refine AText.all ?_
       (iterate 11 refine vA ?_)
       refine aB ?_
       refine vB [11] ?_
       refine AWp.round (fun z:Nat×Int×Int=>mkG (itG Try.prog l (stX x y k c0 c1 t0 t1) N stop) (i+1) false 90 0 [(0,.c (.p (yv l))),(1,.c (.pl 1 14 (lF (prC a b (lim4 x) (lim4 y))) 0 0)),(2,.c (.pl 1 1 (lF [.ls n 2 (cF c0 c1)]) 0 0)),(3,.c (.pl 1 2 (lF [iC t0,iC t1]) 0 0)),(5,.c (iC k)),(6,.c (.pt 6 2 0 0)),(8,.c (iC ((i:Int)-4))),(64,.c (iC z.1))] [(6,⟨false,1,2,156,lF [iC z.2.1,iC z.2.2]⟩)] [6])
        (fun z=>z=(0,wS c0 i k,wS c1 i k)∨z=(1,wS c0 i k+(c0 (i+k)-c0 i),wS c1 i k)∨z=(2,wS c0 i k+(c0 (i+k)-c0 i),wS c1 i k+(c1 (i+k)-c1 i))) (fun z=>2-z.1) (0,wS c0 i k,wS c1 i k) (.inl rfl) ?_ (fun z hz=> ?_)
       ·refine Wk.mkG [(6,some 6)] rfl rfl rfl rfl rfl ?_ ?_
        ·exact allT
        ·exact⟨hSm,trivial⟩
       ·rcases hz with rfl|rfl|rfl
        ·dsimp only
         generalize wS c0 i k=v0 at *
         generalize wS c1 i k=v1 at *
         repeat (first
          |refine vB [12,13,15] ?_
          |(refine AWp.draw (id:=14) mixed ?_;(iterate 9 refine vA ?_);refine qr8eo2 (aP (k:=i+k) tyOk) ?_;refine qr8o (AList.idxArrL tyOk) ?_;(iterate 5 refine vA ?_);refine qr8eo2 (aP (k:=i) tyOk) ?_;refine qr8o (AList.idxArrL tyOk) ?_;(iterate 5 refine vA ?_);refine aB ⟨by kernel_rfl,?_⟩))
         refine⟨(1,v0+(c0 (i+k)-c0 i),v1),.inr (.inl rfl),Wk.mkG [(6,some 6)] rfl rfl rfl rfl rfl ?_ ?_,by dsimp only;omega⟩
         ·exact allT
         ·exact⟨hSm,trivial⟩
        ·dsimp only
         generalize wS c0 i k=v0 at *
         generalize wS c1 i k=v1 at *
         repeat (first
          |refine vB [12,13,15] ?_
          |(refine AWp.draw (id:=14) mixed ?_;(iterate 9 refine vA ?_);refine qr8eo2 (aP (k:=i+k) tyOk) ?_;refine qr8o (AList.idxArrL tyOk) ?_;(iterate 5 refine vA ?_);refine qr8eo2 (aP (k:=i) tyOk) ?_;refine qr8o (AList.idxArrL tyOk) ?_;(iterate 5 refine vA ?_);refine aB ⟨by kernel_rfl,?_⟩))
         refine⟨(2,v0+(c0 (i+k)-c0 i),v1+(c1 (i+k)-c1 i)),.inr (.inr rfl),Wk.mkG [(6,some 6)] rfl rfl rfl rfl rfl ?_ ?_,by dsimp only;omega⟩
         ·exact allT
         ·exact⟨hSm,trivial⟩
        ·dsimp only
         refine vB [9,12] ?_
         refine⟨i+1,⟨by omega,fun h=> ?_⟩,Wk.mkG [(6,some 6)] rfl rfl rfl rfl rfl ?_ ?_,by omega⟩
         ·have:=goes_true hg1 h;have:=hN1 h;omega
         ·exact allT
         ·rw[hnx0,hnx1]
          exact⟨hSm,trivial⟩
def hitC(a b:Bp)(x y:Bg)(c:Cl):Bool:=decide (xsV a b x y c≤0)
def cnfR(p:Cl→Bool)(L:List Cl):Cl×Bool:=match L.find? p with
 |some c=>(c,true)
 |none=>(clZ,false)
instance(a b:Bp):Decidable (cmpOk a b):=by unfold cmpOk;infer_instance
def cnfV(a b:Bp)(x y:Bg):Cl×Bool:=if cmpOk a b then cnfR (hitC a b x y) (alL a.W x y)else (clZ,false)
def lsN(f:Cl→Int)(L:List Cl)(z:Int):Int:=L.foldl (fun m c=>min m (f c)) z
theorem find_at{p:Cl→Bool}{L:List Cl}{k:Nat}(hk:k<L.length)(h:p (L.getD k clZ)=true)(hn:∀i,i<k→p (L.getD i clZ)=false):L.find? p=some (L.getD k clZ):=by
 have hg:∀i (hi:i<L.length),L.getD i clZ=L[i]:=fun i hi=>by rw[List.getD_eq_getElem?_getD,List.getElem?_eq_getElem hi];rfl
 rw[List.find?_eq_some_iff_getElem]
 refine⟨h,k,hk,(hg k hk).symm,fun j hj=> ?_⟩
 rw[←hg j (by omega),hn j hj]
 rfl
theorem find_no{p:Cl→Bool}{L:List Cl}(hn:∀i,i<L.length→p (L.getD i clZ)=false):L.find? p=none:=by
 rw[List.find?_eq_none]
 intro c hc
 obtain⟨i,hi,rfl⟩:=List.getElem_of_mem hc
 have:=hn i hi
 rw[List.getD_eq_getElem?_getD,List.getElem?_eq_getElem hi]at this
 exact fun h=>by rw[show p L[i]=false from this]at h;cases h
def clK(L:List (Int×Int))(k i:Nat):Cl:=⟨(L.getD k mvZ).1,(L.getD k mvZ).2,(i:Int)-4⟩
theorem alI_len(m:Nat)(d:Int×Int)(k:Nat):(alI m d k).length=k:=by unfold alI;simp
theorem alI_get(m:Nat)(d:Int×Int){k i:Nat}(h:i<k):(alI m d k).getD i clZ=⟨d.1,d.2,(i:Int)-4⟩:=by
 unfold alI
 rw[List.getD_eq_getElem?_getD,List.getElem?_map,List.getElem?_range h]
 rfl
theorem find_flat{p:Cl→Bool}{M:Nat}:∀(L:List (Int×Int)) (k i:Nat),k<L.length→i<M→p (clK L k i)=true→(∀k',k'<k→∀i',i'<M→p (clK L k' i')=false)→(∀i',i'<i→p (clK L k i')=false)→
 (L.flatMap fun d=>alI 0 d M).find? p=some (clK L k i)
 | [],_,_,h,_,_,_,_=>by cases h
 | d::L,0,i,_,hi,hp,_,h2=>by
   rw[List.flatMap_cons,List.find?_append]
   have e:(alI 0 d M).find? p=some ((alI 0 d M).getD i clZ):=find_at (by rw[alI_len];exact hi) (by rw[alI_get 0 d hi];exact hp) (fun j hj=>by rw[alI_get 0 d (by omega)];exact h2 j hj)
   rw[e,alI_get 0 d hi]
   rfl
 | d::L,k+1,i,hk,hi,hp,h1,h2=>by
   rw[List.flatMap_cons,List.find?_append]
   have e:(alI 0 d M).find? p=none:=find_no (fun j hj=>by rw[alI_len]at hj;rw[alI_get 0 d hj];exact h1 0 (by omega) j hj)
   have hs:∀k' i',clK (d::L) (k'+1) i'=clK L k' i':=fun _ _=>rfl
   rw[e,find_flat L k i (by simpa using hk) hi hp (fun k' hk' i' hi'=>h1 (k'+1) (by omega) i' hi') h2]
   rfl
theorem find_flat_no{p:Cl→Bool}{M:Nat}:∀(L:List (Int×Int)),(∀k',k'<L.length→∀i',i'<M→p (clK L k' i')=false)→(L.flatMap fun d=>alI 0 d M).find? p=none
 | [],_=>rfl
 | d::L,h=>by
   rw[List.flatMap_cons,List.find?_append,find_no (fun j hj=>by rw[alI_len]at hj;rw[alI_get 0 d hj];exact h 0 (by simp) j hj),find_flat_no L (fun k' hk' i' hi'=>h (k'+1) (by simpa using hk') i' hi')]
   rfl
abbrev clX(a b:Bp)(x y:Bg)(d:Int×Int)(i:Nat):List Value:= [.int .i64 ((i:Int)-4),.int .i64 (xsV a b x y ⟨d.1,d.2,(i:Int)-4⟩)]
theorem strips_any(a b:Bp)(x y:Bg)(d:Int×Int)(h:cmpOk a b)(hd:(-4≤d.1∧d.1≤4)∧-4≤d.2∧d.2≤4):
 ∃ (n:Nat) (c0 c1:Nat→Int) (t0 t1:Int),ACalls Try.prog 78 [.ag (prC a b (lim4 x) (lim4 y)),.ag (mvC d)] (.c (.fn 93 3 (itC a b x y n c0 c1 t0 t1)))∧
   ItCalls Try.prog 93 ((stYs a b x y n c0 c1 t0 t1).map .c) (clX a b x y d) (alM a.W x y):=by
 obtain⟨ha,hb,hW,hH⟩:=h
 obtain⟨q0,q1,q2,q3,q4⟩:=okB ha
 obtain⟨Wn,hWn⟩:=Int.eq_ofNat_of_zero_le q0
 obtain⟨Hn,hHn⟩:=Int.eq_ofNat_of_zero_le q2
 have hst:=stN_bd x y q0
 obtain⟨t,ht⟩:=Int.eq_ofNat_of_zero_le hst.1
 have hM:((alM a.W x y:Nat):Int)=a.W+9-stN a.W x y:=by unfold alM;omega
 refine⟨_,_,_,_,_,strips_A a b x y d Wn Hn ha hb hWn hHn hW.symm hH.symm hd,?_⟩
 have hX:clX a b x y d=stX x y t (colP (alB a b d.1 d.2) Wn 0 Hn 0) (colP (alB b a (-d.1) (-d.2)) Wn d.1 Hn 0) (totP (alB a b d.1 d.2) Wn Hn 0) (totP (alB b a (-d.1) (-d.2)) Wn Hn 0):=funext fun i=>(stX_xs a b x y d Wn Hn t hWn hHn hW.symm hH.symm ht i).symm
 rw[hX]
 have hcb:∀(B:Nat→Nat→Bool) (s:Int) (k:Nat),0≤colP B Wn s Hn 0 k∧colP B Wn s Hn 0 k≤97:=fun B s k=>by have:=colP_bd B Wn s Hn 0 k;omega
 have hob:∀(B:Nat→Nat→Bool) (s:Int) (i:Nat),0≤totP B Wn Hn 0-wS (colP B Wn s Hn 0) i t∧totP B Wn Hn 0-wS (colP B Wn s Hn 0) i t≤100000:=fun B s i=>by
  refine⟨?_,?_⟩
  ·rw[win_law B Wn s ((i:Int)-4-s) i t rfl Hn]
   exact sumTo_nonneg fun k _=>Go.Plain.cnt_nonneg _ _
  ·have h1:=totP_bd B Wn Hn 0 (by omega) (by omega)
   have h2:=wS_bd (hcb B s) i t
   omega
 exact stripsIt_A a b x y (Wn+40) t (alM a.W x y) Wn _ _ _ _ hWn (by omega) rfl ht (by omega) (hcb _ _) (hcb _ _) (hob _ _) (hob _ _)
def cnB(c:Cl)(b:Bool):List AB:= [⟨false,1,3,64,lF (clC c)⟩,⟨false,1,1,4,lF [bC b]⟩]
theorem cnB_plain(c:Cl)(b:Bool):(cnB c b).length= [8,9].length∧∀B∈cnB c b,PlainB B:=⟨rfl,fun B hB=>by
 rcases List.mem_cons.1 hB with rfl|hB
 ·exact PlainB.box [.int .i64 c.dx,.int .i64 c.dy,.int .i64 c.col] rfl rfl
 ·rcases List.mem_cons.1 hB with rfl|hB
  ·exact PlainB.box [.bool b] rfl rfl
  ·cases hB⟩
theorem clX_one(a b:Bp)(x y:Bg)(d:Int×Int)(i:Nat)(v:Value)(hv:v∈clX a b x y d i):v.oneCell'=true:=by
 rcases List.mem_cons.1 hv with rfl|hv
 ·rfl
 ·rcases List.mem_cons.1 hv with rfl|hv
  ·rfl
  ·cases hv
theorem cnfR_hit{p:Cl→Bool}{L:List Cl}{c:Cl}(h:L.find? p=some c):cnfR p L=(c,true):=by unfold cnfR;rw[h]
theorem cnfR_no{p:Cl→Bool}{L:List Cl}(h:L.find? p=none):cnfR p L=(clZ,false):=by unfold cnfR;rw[h]
theorem goes_at(i:Nat):goesB (i+1) true i=false:=by unfold goesB;rw[show Nat.beq (i+1) (i+1)=true from Nat.beq_refl _];rfl
theorem goes_bef{k i:Nat}(h:i<k):goesB (k+1) true i=true:=by
 unfold goesB
 rw[show Nat.beq (i+1) (k+1)=false from Bool.eq_false_iff.2 fun h=>by have:=Nat.eq_of_beq_eq_true h;omega]
 rfl
theorem shN_bd{x y:Bg}{k:Nat}(hk:k<(shL (shN x y)).length):(-4≤((shL (shN x y)).getD k mvZ).1∧((shL (shN x y)).getD k mvZ).1≤4)∧-4≤((shL (shN x y)).getD k mvZ).2∧((shL (shN x y)).getD k mvZ).2≤4:=by
 obtain⟨-,hm⟩:=shN_eq x y
 have:=sh_bd hk
 omega
set_option maxRecDepth 100000 in
theorem Confused_A(a b:Bp)(x y:Bg):ACalls Try.prog 69 [.ag (bpC a),.ag (bpC b),.ag (bgC x),.ag (bgC y)] (.tu [.ag (clC (cnfV a b x y).1),.c (bC (cnfV a b x y).2)]):=by
 have hAl:=alike_A a b
 have hl1:=alim_A x
 have hl2:=alim_A y
 have hSh:=aShifts_A x y
 unfold cnfV
 by_cases hok:cmpOk a b
 ·rw [if_pos hok]
  rw[decide_eq_true hok]at hAl
  have hst:∀k,k<(shL (shN x y)).length→_:=fun k hk=>strips_any a b x y ((shL (shN x y)).getD k mvZ) hok (shN_bd hk)
  have hfl:alL a.W x y=(shL (shN x y)).flatMap fun d=>alI 0 d (alM a.W x y):=rfl
  rw[hfl]
  have hSl:(shL (shN x y)).length≤81:=by
   obtain⟨-,hm4⟩:=shN_eq x y
   rw[shL_len hm4]
   have:=Nat.mul_le_mul (show 2*shN x y+1≤9 by omega) (show 2*shN x y+1≤9 by omega)
   omega
  generalize shL (shN x y)=S at *
  obtain⟨M,hM⟩:∃M,alM a.W x y=M:=⟨_,rfl⟩
  rw[hM]at hst⊢
  obtain⟨n,hnl⟩:∃n,S.length=n:=⟨_,rfl⟩
  rw[hnl]at hSh hSl hst
  refine acalls_at Try.func69 rfl rfl Try.ntmps69 rfl ?_
  repeat (first
   |refine vB [0] ?_
   | (refine rG 1 ?_
      (iterate 2 refine vA ?_)
      refine aH rfl rfl rfl rfl Try.func76 rfl (by kernel_rfl) (hAl) ?_
      refine vA ?_
      refine aB ?_)
   |(refine AWp.draw (id:=3) mixed ?_;(iterate 3 refine vA ?_);refine aH rfl rfl rfl rfl Try.func77 rfl (by kernel_rfl) (hl1) ?_;refine vA ?_;refine aH rfl rfl rfl rfl Try.func77 rfl (by kernel_rfl) (hl2) ?_;(iterate 3 refine vA ?_);refine aB ⟨by kernel_rfl,?_⟩)
   | (refine rG 4 ?_
      (iterate 2 refine vA ?_)
      refine aH rfl rfl rfl rfl Try.func71 rfl (by kernel_rfl) (hSh) ?_
      (iterate 2 refine vA ?_)
      refine aB ?_))
  refine AWp.round (fun k:Nat=>mkSt 51 [(8,.c (.pt 8 3 0 0)),(9,.c (.pt 9 1 0 0)),(10,.c (.pt 10 14 0 0)),(29,.c (.ls n 2 (rowF mvC mvZ S))),(30,.c (iC n)),(31,.c (iC k))] [(8,⟨false,1,3,64,lF (clC clZ)⟩),(9,⟨false,1,1,4,lF [bC false]⟩),(10,⟨false,1,14,142,lF (prC a b (lim4 x) (lim4 y))⟩)] [8,9,10])
   (fun k=>k≤n∧∀k',k'<k→∀i',i'<M→hitC a b x y (clK S k' i')=false) (fun k=>n-k) 0 ⟨Nat.zero_le _,fun _ h=>absurd h (Nat.not_lt_zero _)⟩ ?_ (fun k hk=> ?_)
  ·refine Wk.mk [(8,some 8),(9,some 9),(10,some 10)] rfl rfl rfl ?_ ?_
   ·exact allT
   ·exact allH
  ·obtain⟨hk,hno⟩:=hk
   by_cases hkn:k<n
   ·obtain⟨n',c0,c1,t0,t1,hS,hIt⟩:=hst k hkn
    repeat (first
     |refine vB [5] ?_
     | (refine rG 6 ?_
        refine qr8eo2 (aP (k:=k) tyOk) ?_
        (iterate 3 refine vA ?_)
        refine aB ?_)
     | (refine rG 7 ?_
        (iterate 2 refine vA ?_)
        refine aH rfl rfl rfl rfl Try.func78 rfl (by kernel_rfl) (hS) ?_
        refine aB ?_))
    rcases first_hit (fun i=>hitC a b x y (clK S k i)) M with hn1|⟨i0,hi0,hb,hn1⟩
    ·refine AWp.range (N:=M) (stop:=false) (eS:=.ret) (ids:= [8,9]) (bsI:=fun _=>cnB clZ false) (ts:= [(8,.c (.pt 1000 3 0 0)),(9,.c (.pt 1001 1 0 0)),(12,.c (.pl 1 2 (lF (mvC (S.getD k mvZ))) 0 0))]) (ys:=stYs a b x y n' c0 c1 t0 t1) (xs:=clX a b x y (S.getD k mvZ)) rfl (enters_of Try.func93 (by kernel_rfl) rfl) ⟨ViewC.imm _ rfl,ViewC.imm _ rfl,ViewC.imm _ rfl,trivial⟩ rfl hIt (fun _ h=>h) (fun h=>by cases h) (fun _=>rfl) rfl ?_ (fun i hi=>cnB_plain _ _) ?_ rfl (fun i hi=>⟨rfl,clX_one a b x y _ i⟩) (.inl rfl) (fun i hi=> ?_) ?_
     ·exact LendOk.box rfl rfl rfl (LendOk.box rfl rfl rfl trivial)
     ·repeat (first|exact trivial|refine⟨⟨_,rfl,by first|exact ViewA.c (ViewC.imm _ rfl)|exact ViewA.c (ViewC.lend _ _ _ _ _ rfl)|exact ViewA.c (ViewC.roBox rfl rfl rfl rfl)⟩,?_⟩)
     ·have hfa:¬xsV a b x y ⟨(S.getD k mvZ).1,(S.getD k mvZ).2,(i:Int)-4⟩≤0:=of_decide_eq_false (hn1 i hi)
      refine vB [8,9] ?_
      refine⟨rfl,?_⟩
      refine vB [10] ?_
      refine⟨rfl,mkG (fun _=>True) 0 true 51 2 [] (lentL 0 (cnB (clZ) false)) [],[],Wk.mkG [] rfl rfl rfl rfl rfl trivial ?_,rfl,rfl⟩
      exact allH
     ·refine vB [12] ?_
      refine⟨k+1,⟨by omega,fun k' hk' i' hi'=> ?_⟩,Wk.mk [(8,some 8),(9,some 9),(10,some 10)] rfl rfl rfl ?_ ?_,by omega⟩
      ·by_cases e:k'=k
       ·rw[e];exact hn1 i' hi'
       ·exact hno k' (by omega) i' hi'
      ·exact allT
      ·exact allH
    ·have hfind:=find_flat (p:=hitC a b x y) S k i0 (by rw[hnl];exact hkn) hi0 hb hno hn1
     rw[cnfR_hit hfind]
     refine AWp.range (N:=i0+1) (stop:=true) (eS:=.exit 0) (ids:= [8,9]) (bsI:=fun i=>if i≤i0 then cnB clZ false else cnB (clK S k i0) true) (ts:= [(8,.c (.pt 1000 3 0 0)),(9,.c (.pt 1001 1 0 0)),(12,.c (.pl 1 2 (lF (mvC (S.getD k mvZ))) 0 0))]) (ys:=stYs a b x y n' c0 c1 t0 t1) (xs:=clX a b x y (S.getD k mvZ)) rfl (enters_of Try.func93 (by kernel_rfl) rfl) ⟨ViewC.imm _ rfl,ViewC.imm _ rfl,ViewC.imm _ rfl,trivial⟩ rfl hIt (fun _ h=>h) (fun _=>⟨by omega,by omega⟩) (fun h=>by cases h) rfl ?_ (fun i hi=> ?_) ?_ rfl (fun i hi=>⟨rfl,clX_one a b x y _ i⟩) (.inr ⟨_,rfl⟩) (fun i hi=> ?_) ?_
     ·exact LendOk.box rfl rfl rfl (LendOk.box rfl rfl rfl trivial)
     ·by_cases h:i≤i0
      ·rw[if_pos h];exact cnB_plain _ _
      ·rw[if_neg h];exact cnB_plain _ _
     ·repeat (first|exact trivial|refine⟨⟨_,rfl,by first|exact ViewA.c (ViewC.imm _ rfl)|exact ViewA.c (ViewC.lend _ _ _ _ _ rfl)|exact ViewA.c (ViewC.roBox rfl rfl rfl rfl)⟩,?_⟩)
     ·rw[if_pos (by omega:i≤i0)]
      by_cases hik:i=i0
      ·subst hik
       have hfa:xsV a b x y ⟨(S.getD k mvZ).1,(S.getD k mvZ).2,(i:Int)-4⟩≤0:=of_decide_eq_true hb
       rw[goes_at i,if_neg (by omega:¬i+1≤i)]
       refine vB [8,9] ?_
       refine⟨rfl,?_⟩
       refine vB [10,11] ?_
       refine⟨rfl,mkG (fun _=>True) 0 true 51 2 [] (lentL 0 (cnB (clK S k i) true)) [],[],Wk.mkG [] rfl rfl rfl rfl rfl trivial ?_,rfl,rfl⟩
       exact allH
      ·have hfa:¬xsV a b x y ⟨(S.getD k mvZ).1,(S.getD k mvZ).2,(i:Int)-4⟩≤0:=of_decide_eq_false (hn1 i (by omega))
       rw[goes_bef (by omega:i<i0),if_pos (by omega:i+1≤i0)]
       refine vB [8,9] ?_
       refine⟨rfl,?_⟩
       refine vB [10] ?_
       refine⟨rfl,mkG (fun _=>True) 0 true 51 2 [] (lentL 0 (cnB (clZ) false)) [],[],Wk.mkG [] rfl rfl rfl rfl rfl trivial ?_,rfl,rfl⟩
       exact allH
     ·rw[if_neg (by omega:¬i0+1≤i0)]
      refine vB [13] ?_
      refine⟨mkSt 51 [(8,.c (.pt 8 3 0 0)),(9,.c (.pt 9 1 0 0))] [(8,⟨false,1,3,64,lF (clC (clK S k i0))⟩),(9,⟨false,1,1,4,lF [bC true]⟩)] [8,9],[(8,⟨false,1,3,64,lF (clC (clK S k i0))⟩),(9,⟨false,1,1,4,lF [bC true]⟩)],Wk.mk [(8,some 8),(9,some 9)] rfl rfl rfl ?_ ?_,rfl,rfl,ARets.two (x:=.ag _) (y:=.c _) (ARes.box tyOk rfl rfl rfl rfl rfl rfl rfl) (ARes.box1 tyOk rfl rfl rfl rfl rfl rfl)⟩
      ·exact allT
      ·exact allH
   ·obtain rfl:k=n:=by omega
    rw[cnfR_no (find_flat_no S (fun k' hk'=>hno k' (by rw[←hnl];exact hk')))]
    refine vB [5,13] ?_
    refine⟨mkSt 51 [(8,.c (.pt 8 3 0 0)),(9,.c (.pt 9 1 0 0))] [(8,⟨false,1,3,64,lF (clC (clZ))⟩),(9,⟨false,1,1,4,lF [bC false]⟩)] [8,9],[(8,⟨false,1,3,64,lF (clC (clZ))⟩),(9,⟨false,1,1,4,lF [bC false]⟩)],Wk.mk [(8,some 8),(9,some 9)] rfl rfl rfl ?_ ?_,rfl,rfl,ARets.two (x:=.ag _) (y:=.c _) (ARes.box tyOk rfl rfl rfl rfl rfl rfl rfl) (ARes.box1 tyOk rfl rfl rfl rfl rfl rfl)⟩
    ·exact allT
    ·exact allH
 ·rw [if_neg hok]
  rw[decide_eq_false hok]at hAl
  refine acalls_at Try.func69 rfl rfl Try.ntmps69 rfl ?_
  repeat (first
   |refine vB [0,2] ?_
   | (refine rG 1 ?_
      (iterate 2 refine vA ?_)
      refine aH rfl rfl rfl rfl Try.func76 rfl (by kernel_rfl) (hAl) ?_
      refine vA ?_
      refine aB ?_))
  refine⟨mkSt 51 [(8,.c (.pt 8 3 0 0)),(9,.c (.pt 9 1 0 0))] [(8,⟨false,1,3,64,lF (clC (clZ))⟩),(9,⟨false,1,1,4,lF [bC false]⟩)] [8,9],[(8,⟨false,1,3,64,lF (clC (clZ))⟩),(9,⟨false,1,1,4,lF [bC false]⟩)],Wk.mk [(8,some 8),(9,some 9)] rfl rfl rfl ?_ ?_,rfl,rfl,ARets.two (x:=.ag _) (y:=.c _) (ARes.box tyOk rfl rfl rfl rfl rfl rfl rfl) (ARes.box1 tyOk rfl rfl rfl rfl rfl rfl)⟩
  ·exact allT
  ·exact allH
theorem mo_eq(r s:Int×Int)(w:World):(Go.binOp .eql 132 (.agg #[.int .i64 r.1,.int .i64 r.2]) (.agg #[.int .i64 s.1,.int .i64 s.2])).run Try.prog w=.ok (.bool (decide (r=s))) w:=by
 have hp:Try.prog.stoodInHeld 132=false:=by kernel_rfl
 obtain⟨a0,a1⟩:=r
 obtain⟨b0,b1⟩:=s
 go_simp
 by_cases e0:a0=b0<;>by_cases e1:a1=b1<;>simp[e0,e1]
set_option maxRecDepth 100000 in
theorem Index_A(L:List (Int×Int))(d:Int×Int)(hl:L.length≤1000):∃i:Int,(0≤i↔d∈L)∧ACalls Try.prog 79 [.c (.ls L.length 2 (rowF mvC mvZ L)),.ag (mvC d)] (.c (iC i)):=by
 have hmem:∀i,i<L.length→L.getD i mvZ∈L:=fun i hi=>by
  rw[List.getD_eq_getElem?_getD,List.getElem?_eq_getElem hi]
  exact List.getElem_mem hi
 rcases first_hit (fun i=>decide (d=L.getD i mvZ)) L.length with hno|⟨k0,hk0,hb,hno⟩
 ·refine⟨-1,⟨fun h=>by omega,fun h=> ?_⟩,?_⟩
  ·obtain⟨j,hj,e⟩:=List.getElem_of_mem h
   have:=of_decide_eq_false (hno j hj)
   rw[List.getD_eq_getElem?_getD,List.getElem?_eq_getElem hj]at this
   exact absurd e.symm this
  ·obtain⟨n,hn⟩:∃n,L.length=n:=⟨_,rfl⟩
   rw[hn]at hl hno⊢
   refine acalls_at Try.func79 rfl rfl Try.ntmps79 rfl ?_
   refine vB [0,1] ?_
   refine AWp.round (fun k:Nat=>mkSt 19 [(0,.c (.ls n 2 (rowF mvC mvZ L))),(3,.c (.pt 3 2 0 0)),(7,.c (iC n)),(8,.c (iC k))] [(3,⟨false,1,2,132,lF (mvC d)⟩)] [3]) (fun k=>k≤n) (fun k=>n-k) 0 (Nat.zero_le _) ?_ (fun k hk=> ?_)
   ·refine Wk.mk [(3,some 3)] rfl rfl rfl ?_ ?_
    ·exact allT
    ·exact allH
   ·by_cases hkn:k<n
    ·have he:¬d=L.getD k mvZ:=of_decide_eq_false (hno k hkn)
     have hne:∀w,(Go.binOp .eql 132 _ _).run Try.prog w=.ok (.bool false) w:=fun w=>(mo_eq d (L.getD k mvZ) w).trans (by rw[decide_eq_false he])
     repeat (first
      |refine vB [2,3,6] ?_
      |(refine AWp.draw (id:=4) mixed ?_;(iterate 5 refine vA ?_);refine AList.binAg rfl rfl rfl rfl rfl rfl (by kernel_rfl) (hne) ?_;refine aB ⟨by kernel_rfl,?_⟩))
     refine⟨k+1,hkn,Wk.mk [(3,some 3)] rfl rfl rfl ?_ ?_,by omega⟩
     ·exact allT
     ·exact allH
    ·obtain rfl:k=n:=by omega
     refine vB [2,7] ?_
     refine⟨mkSt 19 [(4,.c (iC (-1)))] [] [],[],Wk.mk [] rfl rfl rfl ?_ trivial,rfl,rfl,aR1⟩
     exact allT
 ·refine⟨k0,⟨fun _=>by rw[of_decide_eq_true hb];exact hmem k0 hk0,fun _=>by omega⟩,?_⟩
  have hb':d=L.getD k0 mvZ:=of_decide_eq_true hb
  obtain⟨n,hn⟩:∃n,L.length=n:=⟨_,rfl⟩
  rw[hn]at hl hk0⊢
  refine acalls_at Try.func79 rfl rfl Try.ntmps79 rfl ?_
  refine vB [0,1] ?_
  refine AWp.round (fun k:Nat=>mkSt 19 [(0,.c (.ls n 2 (rowF mvC mvZ L))),(3,.c (.pt 3 2 0 0)),(7,.c (iC n)),(8,.c (iC k))] [(3,⟨false,1,2,132,lF (mvC d)⟩)] [3]) (fun k=>k≤k0) (fun k=>n-k) 0 (Nat.zero_le _) ?_ (fun k hk=> ?_)
  ·refine Wk.mk [(3,some 3)] rfl rfl rfl ?_ ?_
   ·exact allT
   ·exact allH
  ·have hkn:k<n:=by omega
   by_cases hkk:k<k0
   ·have he:¬d=L.getD k mvZ:=of_decide_eq_false (hno k hkk)
    have hne:∀w,(Go.binOp .eql 132 _ _).run Try.prog w=.ok (.bool false) w:=fun w=>(mo_eq d (L.getD k mvZ) w).trans (by rw[decide_eq_false he])
    repeat (first
     |refine vB [2,3,6] ?_
     |(refine AWp.draw (id:=4) mixed ?_;(iterate 5 refine vA ?_);refine AList.binAg rfl rfl rfl rfl rfl rfl (by kernel_rfl) (hne) ?_;refine aB ⟨by kernel_rfl,?_⟩))
    refine⟨k+1,hkk,Wk.mk [(3,some 3)] rfl rfl rfl ?_ ?_,by omega⟩
    ·exact allT
    ·exact allH
   ·obtain rfl:k=k0:=by omega
    have hne:∀w,(Go.binOp .eql 132 _ _).run Try.prog w=.ok (.bool true) w:=fun w=>(mo_eq d (L.getD k mvZ) w).trans (by rw[decide_eq_true hb'])
    repeat (first
     |refine vB [2,3,5] ?_
     |(refine AWp.draw (id:=4) mixed ?_;(iterate 5 refine vA ?_);refine AList.binAg rfl rfl rfl rfl rfl rfl (by kernel_rfl) (hne) ?_;refine aB ⟨by kernel_rfl,?_⟩))
    refine⟨mkSt 19 [(4,.c (iC k))] [] [],[],Wk.mk [] rfl rfl rfl ?_ trivial,rfl,rfl,aR1⟩
    exact allT
set_option maxRecDepth 100000 in
theorem Contains_A(L:List (Int×Int))(d:Int×Int)(hl:L.length≤1000):ACalls Try.prog 70 [.c (.ls L.length 2 (rowF mvC mvZ L)),.ag (mvC d)] (.c (bC (decide (d∈L)))):=by
 obtain⟨i,hi,hI⟩:=Index_A L d hl
 obtain⟨n,hn⟩:∃n,L.length=n:=⟨_,rfl⟩
 rw[hn]at hl hI⊢
 by_cases h:d∈L
 ·have h0:=hi.2 h
  rw[decide_eq_true h]
  refine acalls_at Try.func70 rfl rfl Try.ntmps70 rfl ?_
  repeat (first
   |refine vB [0] ?_
   | (refine rG 1 ?_
      (iterate 2 refine vA ?_)
      refine aH rfl rfl rfl rfl Try.func79 rfl (by kernel_rfl) (hI) ?_
      (iterate 2 refine vA ?_)
      refine aB ?_))
  refine⟨mkSt 9 [(4,.c (bC true))] [] [],[],Wk.mk [] rfl rfl rfl ?_ trivial,rfl,rfl,aR1⟩
  exact allT
 ·have h0:¬0≤i:=fun h1=>h (hi.1 h1)
  rw[decide_eq_false h]
  refine acalls_at Try.func70 rfl rfl Try.ntmps70 rfl ?_
  repeat (first
   |refine vB [0] ?_
   | (refine rG 1 ?_
      (iterate 2 refine vA ?_)
      refine aH rfl rfl rfl rfl Try.func79 rfl (by kernel_rfl) (hI) ?_
      (iterate 2 refine vA ?_)
      refine aB ?_))
  refine⟨mkSt 9 [(4,.c (bC false))] [] [],[],Wk.mk [] rfl rfl rfl ?_ trivial,rfl,rfl,aR1⟩
  exact allT
def isB(a b:Bp)(x y:Bg)(c:Cl):Bool:=decide (c∈alL a.W x y) && decide (xsV a b x y c≤0)
theorem mem_al{w:Int}{x y:Bg}{c:Cl}:c∈alL w x y↔(c.dx,c.dy)∈shL (shN x y)∧∃i,i<alM w x y∧c.col=(i:Int)-4:=by
 unfold alL alK alI
 simp only[List.mem_flatMap,List.mem_map,List.mem_range]
 constructor
 ·rintro⟨d,hd,i,hi,rfl⟩
  exact⟨hd,i,hi,rfl⟩
 ·rintro⟨hd,i,hi,e⟩
  refine⟨_,hd,i,hi,?_⟩
  rw[←e]
theorem shd_bd{x y:Bg}{d:Int×Int}(h:d∈shL (shN x y)):(-4≤d.1∧d.1≤4)∧-4≤d.2∧d.2≤4:=by
 obtain⟨j,hj,rfl⟩:=List.getElem_of_mem h
 have:=shN_bd (x:=x) (y:=y) hj
 rwa [List.getD_eq_getElem?_getD,List.getElem?_eq_getElem hj]at this
theorem AWp.cut{P:Program}{x:Code}{Q:Exit→St→Prop}{S:St}(S1:St)(h:AWp P x (fun e S'=>e=.normal∧Wk S' S1) S)(hz:∀S',Wk S' S1→Q .normal S'):AWp P x Q S:=
 h.mono fun e S' h=>by obtain⟨rfl,hw⟩:=h;exact hz S' hw
end Go.Proofs.Ytpefnljgalpllaa
end
