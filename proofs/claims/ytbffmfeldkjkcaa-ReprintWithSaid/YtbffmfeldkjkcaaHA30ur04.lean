/- ReprintWith: the statement. No condition. -/
import Derived.Test.YtbffmfeldkjkcaaHA30ur03
import Derived.Test.YtbffmfeldkjkcaaG46
import Derived.Test.YtbffmfeldkjkcaaRows
import Derived.Test.YtbffmfeldkjkcaaHA30ur02
set_option linter.unusedSimpArgs false
set_option linter.unusedVariables false
set_option maxHeartbeats 0
section
namespace Go.Proofs.Ytbffmfeldkjkcaa
open Go.RowKit Go.Flow Go.AV Go.Plain
set_option maxRecDepth 100000 in
theorem set30_A(H:List Hg)(s:List Int)(hH:H.length≤1000000)(hs:s.length≤1000000):ACalls Try.prog 37 [.c (lsH H),.c (lsI s)] (.c (bC (nmOk H.length s))):=by
 obtain⟨v,hv⟩:∃v,nmOk H.length s=v:=⟨_,rfl⟩
 rw[hv]
 refine acalls_at Try.func37 rfl rfl Try.ntmps37 rfl ?_
 refine vB [0,1] ?_
 refine AWp.round (fun k:Nat=>mkSt 42 [(0,.c (lsH H)),(1,.c (lsI s)),(5,.c (iC (k:Nat)))] [] []) (fun k=>k≤s.length∧∀i,i<k→0≤fI s i∧fI s i<H.length∧(0<i→fI s (i-1)<fI s i)) (fun k=>s.length-k) 0 ⟨Nat.zero_le _,fun _ h=>absurd h (Nat.not_lt_zero _)⟩ ?_ (fun k hk=> ?_)
 ·refine Wk.mk [] rfl rfl rfl ?_ trivial
  exact allT
 obtain⟨hk,hok⟩:=hk
 by_cases hkl:k<s.length
 rotate_left
 ·have hkl':¬(k:Int)<s.length:=by omega
  obtain rfl:k=s.length:=by omega
  rw[nmOk_iff.2 hok]at hv
  subst hv
  refine vB [2,6] ?_
  refine⟨mkSt 42 [(4,.c (bC true))] [] [],[],Wk.mk [] rfl rfl rfl ?_ trivial,rfl,rfl,aR1⟩
  exact allT
 have hkl':(k:Int)<s.length:=by omega
 have bad:¬(0≤fI s k∧fI s k<H.length∧(0<k→fI s (k-1)<fI s k))→v=false:=fun h=>by rw[←hv,nmOk_no hkl h]
 have go:0≤fI s k∧fI s k<H.length∧(0<k→fI s (k-1)<fI s k)→k+1≤s.length∧∀i,i<k+1→0≤fI s i∧fI s i<H.length∧(0<i→fI s (i-1)<fI s i):=fun h=>⟨hkl,fun i hi=>by
  by_cases e:i=k
  ·rw[e];exact h
  ·exact hok i (by omega)⟩
 obtain⟨y,hy⟩:∃y,fI s k=y:=⟨_,rfl⟩
 have hcy:iF (fI s) k 0=iC y:=by rw[←hy]
 rw[hy]at bad go
 clear hok
 by_cases c1:y<0
 ·obtain rfl:=bad fun h=>by omega
  repeat (first
   |refine vB [2,5] ?_
   |(refine AWp.draw (id:=4) mixed ?_;(iterate 2 refine vA ?_);(first|refine qr8eo2 (aP (k:=k) tyOk) ?_|refine qr10eo (AList.idxOw (k:=k) tyOk) ?_);(first|refine AList.load1lE tyOk (hcy) rfl rfl rfl rfl rfl oM ?_|refine AList.load1F tyOk rfl rfl rfl rfl rfl rfl rfl oM oM (hcy) ?_);(iterate 26 refine vA ?_);refine aB ⟨by kernel_rfl,?_⟩))
  refine⟨mkSt 42 [(4,.c (bC false))] [] [],[],Wk.mk [] rfl rfl rfl ?_ trivial,rfl,rfl,aR1⟩
  exact allT
 by_cases c2:y≥H.length
 ·obtain rfl:=bad fun h=>by omega
  repeat (first
   |refine vB [2,5] ?_
   |(refine AWp.draw (id:=4) mixed ?_;(iterate 2 refine vA ?_);(first|refine qr8eo2 (aP (k:=k) tyOk) ?_|refine qr10eo (AList.idxOw (k:=k) tyOk) ?_);(first|refine AList.load1lE tyOk (hcy) rfl rfl rfl rfl rfl oM ?_|refine AList.load1F tyOk rfl rfl rfl rfl rfl rfl rfl oM oM (hcy) ?_);(iterate 4 refine vA ?_);(first|refine qr2 aG ?_|refine qr8eo2 (aP (k:=k) tyOk) ?_|refine qr10eo (AList.idxOw (k:=k) tyOk) ?_);(first|refine qr2 aG ?_|refine AList.load1lE tyOk (hcy) rfl rfl rfl rfl rfl oM ?_|refine AList.load1F tyOk rfl rfl rfl rfl rfl rfl rfl oM oM (hcy) ?_);(iterate 20 refine vA ?_);refine aB ⟨by kernel_rfl,?_⟩))
  refine⟨mkSt 42 [(4,.c (bC false))] [] [],[],Wk.mk [] rfl rfl rfl ?_ trivial,rfl,rfl,aR1⟩
  exact allT
 by_cases c3:k=0
 ·have g:=go ⟨by omega,by omega,fun h=>by omega⟩
  have c3':¬(k:Int)>0:=by omega
  repeat (first
   |refine vB [2,3] ?_
   |(refine AWp.draw (id:=4) mixed ?_;(iterate 2 refine vA ?_);(first|refine qr8eo2 (aP (k:=k) tyOk) ?_|refine qr10eo (AList.idxOw (k:=k) tyOk) ?_);(first|refine AList.load1lE tyOk (hcy) rfl rfl rfl rfl rfl oM ?_|refine AList.load1F tyOk rfl rfl rfl rfl rfl rfl rfl oM oM (hcy) ?_);(iterate 4 refine vA ?_);(first|refine qr2 aG ?_|refine qr8eo2 (aP (k:=k) tyOk) ?_|refine qr10eo (AList.idxOw (k:=k) tyOk) ?_);(first|refine qr2 aG ?_|refine AList.load1lE tyOk (hcy) rfl rfl rfl rfl rfl oM ?_|refine AList.load1F tyOk rfl rfl rfl rfl rfl rfl rfl oM oM (hcy) ?_);(iterate 20 refine vA ?_);refine aB ⟨by kernel_rfl,?_⟩))
  refine⟨k+1,g,Wk.mk [] rfl rfl rfl ?_ trivial,by omega⟩
  exact allT
 have c3':(k:Int)>0:=by omega
 obtain⟨m,hm⟩:∃m,k=m+1:=⟨k-1,by omega⟩
 have hm1:k-1=m:=by omega
 have hml:m<s.length:=by omega
 rw[hm1]at bad go
 obtain⟨z,hz⟩:∃z,fI s m=z:=⟨_,rfl⟩
 have hcz:iF (fI s) m 0=iC z:=by rw[←hz]
 rw[hz]at bad go
 by_cases c4:y≤z
 ·obtain rfl:=bad fun h=>by have:=h.2.2 (by omega);omega
  repeat (first
   |refine vB [2,5] ?_
   |(refine AWp.draw (id:=4) mixed ?_;(iterate 2 refine vA ?_);(first|refine qr8eo2 (aP (k:=k) tyOk) ?_|refine qr10eo (AList.idxOw (k:=k) tyOk) ?_);(first|refine AList.load1lE tyOk (hcy) rfl rfl rfl rfl rfl oM ?_|refine AList.load1F tyOk rfl rfl rfl rfl rfl rfl rfl oM oM (hcy) ?_);(iterate 4 refine vA ?_);(first|refine qr2 aG ?_|refine qr8eo2 (aP (k:=k) tyOk) ?_|refine qr10eo (AList.idxOw (k:=k) tyOk) ?_);(first|refine qr2 aG ?_|refine AList.load1lE tyOk (hcy) rfl rfl rfl rfl rfl oM ?_|refine AList.load1F tyOk rfl rfl rfl rfl rfl rfl rfl oM oM (hcy) ?_);(iterate 10 refine vA ?_);(first|refine qr2 aG ?_|refine qr8eo2 (aP (k:=k) tyOk) ?_|refine qr10eo (AList.idxOw (k:=k) tyOk) ?_);(first|refine qr2 aG ?_|refine AList.load1lE tyOk (hcy) rfl rfl rfl rfl rfl oM ?_|refine AList.load1F tyOk rfl rfl rfl rfl rfl rfl rfl oM oM (hcy) ?_);(iterate 3 refine vA ?_);(first|refine qr2 aG ?_|refine qr8eo2 (aP (k:=m) tyOk) ?_|refine qr10eo (AList.idxOw (k:=m) tyOk) ?_);(first|refine qr2 aG ?_|refine AList.load1lE tyOk (hcz) rfl rfl rfl rfl rfl oM ?_|refine AList.load1F tyOk rfl rfl rfl rfl rfl rfl rfl oM oM (hcz) ?_);(iterate 3 refine vA ?_);refine aB ⟨by kernel_rfl,?_⟩))
  refine⟨mkSt 42 [(4,.c (bC false))] [] [],[],Wk.mk [] rfl rfl rfl ?_ trivial,rfl,rfl,aR1⟩
  exact allT
 have g:=go ⟨by omega,by omega,fun h=>by omega⟩
 repeat (first
  |refine vB [2,3] ?_
  |(refine AWp.draw (id:=4) mixed ?_;(iterate 2 refine vA ?_);(first|refine qr8eo2 (aP (k:=k) tyOk) ?_|refine qr10eo (AList.idxOw (k:=k) tyOk) ?_);(first|refine AList.load1lE tyOk (hcy) rfl rfl rfl rfl rfl oM ?_|refine AList.load1F tyOk rfl rfl rfl rfl rfl rfl rfl oM oM (hcy) ?_);(iterate 4 refine vA ?_);(first|refine qr2 aG ?_|refine qr8eo2 (aP (k:=k) tyOk) ?_|refine qr10eo (AList.idxOw (k:=k) tyOk) ?_);(first|refine qr2 aG ?_|refine AList.load1lE tyOk (hcy) rfl rfl rfl rfl rfl oM ?_|refine AList.load1F tyOk rfl rfl rfl rfl rfl rfl rfl oM oM (hcy) ?_);(iterate 10 refine vA ?_);(first|refine qr2 aG ?_|refine qr8eo2 (aP (k:=k) tyOk) ?_|refine qr10eo (AList.idxOw (k:=k) tyOk) ?_);(first|refine qr2 aG ?_|refine AList.load1lE tyOk (hcy) rfl rfl rfl rfl rfl oM ?_|refine AList.load1F tyOk rfl rfl rfl rfl rfl rfl rfl oM oM (hcy) ?_);(iterate 3 refine vA ?_);(first|refine qr2 aG ?_|refine qr8eo2 (aP (k:=m) tyOk) ?_|refine qr10eo (AList.idxOw (k:=m) tyOk) ?_);(first|refine qr2 aG ?_|refine AList.load1lE tyOk (hcz) rfl rfl rfl rfl rfl oM ?_|refine AList.load1F tyOk rfl rfl rfl rfl rfl rfl rfl oM oM (hcz) ?_);(iterate 3 refine vA ?_);refine aB ⟨by kernel_rfl,?_⟩))
 refine⟨k+1,g,Wk.mk [] rfl rfl rfl ?_ trivial,by omega⟩
 exact allT
theorem j30{P:Nat→Prop}(h:P 0∧P 1∧P 2):∀j,j<3→P j:=fun j hj=>by
 obtain⟨h0,h1,h2⟩:=h
 match j,hj with
 |0,_=>exact h0
 |1,_=>exact h1
 |2,_=>exact h2
set_option maxRecDepth 100000 in
theorem rWith_A(p:Pb)(hp:p.ok)(H:List Hg)(hH:HgOk H)(s:List Int)(hs:s.length≤1000000):ACalls Try.prog 12 [.ag (pbC p),.c (lsH H),.c (lsI s)] (.tu [.ag (pbC (withV p H s).1),.c (iC (withV p H s).2)]):=by
 have hC:=rCheck28_A p hp
 obtain⟨e,he⟩:∃e,chkP p=e:=⟨_,rfl⟩
 rw[he]at hC
 by_cases h0:e=0
 rotate_left
 ·rw [show withV p H s=(pbZ,e) by unfold withV;rw[he,if_neg h0]]
  refine acalls_at Try.func12 rfl rfl Try.ntmps12 rfl ?_
  repeat (first
   |refine vB [0,2,3] ?_
   | (refine rG 1 ?_
      refine vA ?_
      refine aH rfl rfl rfl rfl Try.func36 rfl (by kernel_rfl) (hC) ?_
      refine vA ?_
      refine aB ?_))
  refine⟨mkSt 71 [(6,.c (.pt 6 5 0 0)),(7,.c (iC (e)))] [(6,⟨false,1,5,34,lF (pbC pbZ)⟩)] [6],[(6,⟨false,1,5,34,lF (pbC pbZ)⟩)],Wk.mk [(6,some 6)] rfl rfl rfl ?_ ?_,rfl,rfl,ARets.two (x:=.ag _) (y:=.c _) (ARes.box tyOk rfl rfl rfl rfl rfl rfl rfl) (ARes.tmp rfl rfl)⟩
  ·exact allT
  ·exact⟨HeapOk.box rfl rfl ⟨LeC.nils _ _,LeC.nils _ _,LeC.nils _ _,LeC.nils _ _,LeC.nils _ _,trivial⟩ rfl,trivial⟩
 subst h0
 have hfit:=chkP_fit hp he
 have lC:=hfit.c
 have lO:=hfit.o
 have lH:=hH.1
 have hI:=set30_A H s (by omega) hs
 obtain⟨V,hV⟩:∃V,withV p H s=V:=⟨_,rfl⟩
 have hwv:(if nmOk H.length s=true then (if chkP (anP p H s)=0 then (anP p H s,(0:Int))else (pbZ,chkP (anP p H s)))else (pbZ,1))=V:=by rw[←hV];unfold withV;rw[if_pos he]
 rw[hV]
 generalize nmOk H.length s=b at *
 cases b with
 | false=>
   obtain rfl:(pbZ,(1:Int))=V:=hwv
   refine acalls_at Try.func12 rfl rfl Try.ntmps12 rfl ?_
   repeat (first
    |refine vB [0,2,5] ?_
    | (refine rG 1 ?_
       refine vA ?_
       refine aH rfl rfl rfl rfl Try.func36 rfl (by kernel_rfl) (hC) ?_
       refine vA ?_
       refine aB ?_)
    | (refine rG 4 ?_
       (iterate 2 refine vA ?_)
       refine aH rfl rfl rfl rfl Try.func37 rfl (by kernel_rfl) (hI) ?_
       refine vA ?_
       refine aB ?_))
   refine⟨mkSt 71 [(6,.c (.pt 6 5 0 0)),(7,.c (iC (1)))] [(6,⟨false,1,5,34,lF (pbC pbZ)⟩)] [6],[(6,⟨false,1,5,34,lF (pbC pbZ)⟩)],Wk.mk [(6,some 6)] rfl rfl rfl ?_ ?_,rfl,rfl,ARets.two (x:=.ag _) (y:=.c _) (ARes.box tyOk rfl rfl rfl rfl rfl rfl rfl) (ARes.tmp rfl rfl)⟩
   ·exact allT
   ·exact⟨HeapOk.box rfl rfl ⟨LeC.nils _ _,LeC.nils _ _,LeC.nils _ _,LeC.nils _ _,LeC.nils _ _,trivial⟩ rfl,trivial⟩
 |true=>
 rw[if_pos rfl]at hwv
 obtain⟨m,hm⟩:∃m,p.C.length=m:=⟨_,rfl⟩
 have cG:=Copy_G p hp m
 refine acalls_at Try.func12 rfl rfl Try.ntmps12 rfl ?_
 repeat (first
  |refine vB [0,2] ?_
  | (refine rG 1 ?_
     refine vA ?_
     refine aH rfl rfl rfl rfl Try.func36 rfl (by kernel_rfl) (hC) ?_
     refine vA ?_
     refine aB ?_)
  | (refine rG 4 ?_
     (iterate 2 refine vA ?_)
     refine aH rfl rfl rfl rfl Try.func37 rfl (by kernel_rfl) (hI) ?_
     refine vA ?_
     refine aB ?_)
  | (refine rG 6 ?_
     refine vA ?_
     refine AList.callG [] [260,261,262,263,264,265] [] [] (cpNw p m) [] (cpNx p m 265) rfl rfl FnV.func rfl Try.func26 rfl (by kernel_rfl) (trivial) rfl (cpBackA rfl rfl rfl rfl rfl) (trivial) (cpBackB rfl) (cG) ?_
     (iterate 2 refine vA ?_)
     refine aB ?_))
 clear cG
 refine AWp.weak (S':=
  mkSt 71 [(1,.c (lsH H)),(2,.c (lsI s)),(6,.c (.pt 6 5 0 0)),(9,.c (.pt 9 5 0 0))] [(6,⟨false,1,5,34,lF [nl8,nl8,nl8,nl8,nl8]⟩),(9,⟨false,1,5,34,lF [lsR p.R,.ow 120,lsB p.F,.ow 121,lsG p.T]⟩),(120,chB p.C),(121,bgB p.O)] [6,9,120,121]) (Wk.mk [(6,some 6),(9,some 9),(120,some 261),(121,some 263)] rfl rfl rfl ?_ ?_) ?_
 ·exact allT
 ·exact⟨hSm,HeapOk.box rfl rfl ⟨fzR rfl rfl,LeC.ow _ _ rfl,fzB rfl rfl,LeC.ow _ _ rfl,fzG rfl rfl,trivial⟩ rfl,HeapOk.row rfl rfl rfl (fun i hi j _=>by
   have e:cpF p.C m 265 i j=chF p.C i j:=if_neg (by omega)
   exact⟨e,by rw[e];rfl⟩),hrF bgC_imm28,trivial⟩
 clear hm
 refine vB [7] ?_
 refine AWp.round (fun k:Nat=>
  mkSt 71 [(1,.c (lsH H)),(2,.c (lsI s)),(6,.c (.pt 6 5 0 0)),(9,.c (.pt 9 5 0 0)),(10,.c (iC (k:Nat)))] [(6,⟨false,1,5,34,lF [nl8,nl8,nl8,nl8,nl8]⟩),(9,⟨false,1,5,34,lF [lsR p.R,.ow 120,lsB p.F,.ow 121,lsG p.T]⟩),(120,chB (p.C++anC H s k)),(121,bgB (p.O++anO H k))] [6,9,120,121]
  ) (fun k=>k≤H.length) (fun k=>H.length-k) 0 (Nat.zero_le _) ?_ (fun k hk=> ?_)
 ·rw[show p.C++anC H s 0=p.C from List.append_nil _,show p.O++anO H 0=p.O from List.append_nil _]
  refine Wk.mk [(6,some 6),(9,some 9),(120,some 120),(121,some 121)] rfl rfl rfl ?_ ?_
  ·exact allT
  ·exact⟨hSm,HeapOk.box rfl rfl ⟨LeC.refl _ rfl,LeC.ow _ _ rfl,LeC.refl _ rfl,LeC.ow _ _ rfl,LeC.refl _ rfl,trivial⟩ rfl,HeapOk.row rfl rfl rfl (fun i _ j _=>⟨rfl,rfl⟩),hrF bgC_imm28,trivial⟩
 by_cases hkl:k<H.length
 rotate_left
 ·have hkl':¬(k:Int)<H.length:=by omega
  obtain rfl:k=H.length:=by omega
  have hW:=rCheck28_A (anP p H s) (anP_ok s hp hH he)
  refine vB [8] ?_
  refine AWp.weak (S':=mkSt 71 [(6,.c (.pt 6 5 0 0)),(9,.c (.pt 9 5 0 0))] [(6,⟨false,1,5,34,lF [nl8,nl8,nl8,nl8,nl8]⟩),(9,⟨false,1,5,34,lF (pbC (anP p H s))⟩)] [6,9]) (Wk.mk [(6,some 6),(9,some 9)] rfl rfl rfl ?_ ?_) ?_
  ·exact allT
  ·exact⟨hSm,HeapOk.box rfl rfl ⟨LeC.refl _ rfl,LeC.fz rfl rfl rfl (fun _ _ _ _=>⟨rfl,rfl⟩),LeC.refl _ rfl,LeC.fz rfl rfl rfl (fun i _ j _=>⟨rfl,rowF_imm bgC_imm28 _ i j⟩),LeC.refl _ rfl,trivial⟩ rfl,trivial⟩
  generalize chkP (anP p H s)=f at *
  by_cases hf:f=0
  ·rw [if_pos hf]at hwv
   subst hf hwv
   repeat (first
    |refine vB [16,18] ?_
    | (refine rG 15 ?_
       refine vA ?_
       refine aH rfl rfl rfl rfl Try.func36 rfl (by kernel_rfl) (hW) ?_
       refine vA ?_
       refine aB ?_))
   refine⟨mkSt 71 [(6,.c (.pt 6 5 0 0)),(7,.c (iC 0))] [(6,⟨false,1,5,34,lF (pbC (anP p H s))⟩)] [6],[(6,⟨false,1,5,34,lF (pbC (anP p H s))⟩)],Wk.mk [(6,some 6)] rfl rfl rfl ?_ ?_,rfl,rfl,ARets.two (x:=.ag _) (y:=.c _) (ARes.box tyOk rfl rfl rfl rfl rfl rfl rfl) (ARes.tmp rfl rfl)⟩
   ·exact allT
   ·exact⟨hSm,trivial⟩
  ·rw [if_neg hf]at hwv
   subst hwv
   repeat (first
    |refine vB [16,17] ?_
    | (refine rG 15 ?_
       refine vA ?_
       refine aH rfl rfl rfl rfl Try.func36 rfl (by kernel_rfl) (hW) ?_
       refine vA ?_
       refine aB ?_))
   refine⟨mkSt 71 [(6,.c (.pt 6 5 0 0)),(7,.c (iC (f)))] [(6,⟨false,1,5,34,lF (pbC pbZ)⟩)] [6],[(6,⟨false,1,5,34,lF (pbC pbZ)⟩)],Wk.mk [(6,some 6)] rfl rfl rfl ?_ ?_,rfl,rfl,ARets.two (x:=.ag _) (y:=.c _) (ARes.box tyOk rfl rfl rfl rfl rfl rfl rfl) (ARes.tmp rfl rfl)⟩
   ·exact allT
   ·exact⟨HeapOk.box rfl rfl ⟨LeC.nils _ _,LeC.nils _ _,LeC.nils _ _,LeC.nils _ _,LeC.nils _ _,trivial⟩ rfl,trivial⟩
 have hkl':(k:Int)<H.length:=by omega
 have hb:=hgC1_len hH s hkl
 have hcn:=in30_A s (k:Int) hs
 have e1:p.C++anC H s (k+1)=(p.C++anC H s k)++ [hgC1 H s k]:=by rw[anC_succ,List.append_assoc]
 have e2:p.O++anO H (k+1)=(p.O++anO H k)++ [(H.getD k hgZ).own]:=by rw[anO_succ,List.append_assoc]
 have l1:(p.C++anC H s k).length≤1000000:=by rw[List.length_append,anC_len];omega
 have l2:(p.O++anO H k).length≤1000000:=by rw[List.length_append,anO_len];omega
 obtain⟨h,hh⟩:∃h,H.getD k hgZ=h:=⟨_,rfl⟩
 have hlc:h.ch.length≤1000000:=by rw[←hh];exact(hH.2 _ (getD_mem28 hkl)).2.1
 have eN:cellsFrom (rowF hgC hgZ H k) 0 3=bpC h.now:=by rw[←hh];rfl
 have eC:rowF hgC hgZ H k 3=lsB h.ch:=by rw[←hh];rfl
 have eO:cellsFrom (rowF hgC hgZ H k) 4 4=bgC h.own:=by rw[←hh];rfl
 have hX:hgC1 H s k=if (k:Int)∈s then h.ch else [h.now]:=by rw[←hh]
 rw[hh]at e2
 generalize hgC1 H s k=X at *
 generalize p.C++anC H s k=q1 at *
 generalize p.O++anO H k=q2 at *
 repeat (first
  |refine vB [8] ?_
  | (refine rG 10 ?_
     (iterate 2 refine vA ?_)
     first|refine qr8eo2 (aP (k:=k) tyOk) ?_|refine qr10eo (AList.idxOw (k:=k) tyOk) ?_
     refine vA ?_
     refine AList.loadAlE tyOk (eN) rfl rfl rfl rfl rfl oM ?_
     (iterate 2 refine vA ?_)
     refine aB ?_))
 refine AWp.join2 (
  mkSt 71 [(1,.c (lsH H)),(2,.c (lsI s)),(6,.c (.pt 6 5 0 0)),(9,.c (.pt 9 5 0 0)),(10,.c (iC (k:Nat))),(11,.c (lsB X))] [(6,⟨false,1,5,34,lF [nl8,nl8,nl8,nl8,nl8]⟩),(9,⟨false,1,5,34,lF [lsR p.R,.ow 120,lsB p.F,.ow 121,lsG p.T]⟩),(120,chB (q1)),(121,bgB (q2))] [6,9,120,121]
  ) ?_ ?_
 ·by_cases hm:(k:Int)∈s
  ·rw [decide_eq_true hm]at hcn
   rw[if_pos hm]at hX
   subst hX
   repeat (first
    |refine vB [] ?_
    | (refine rG 11 ?_
       (iterate 2 refine vA ?_)
       refine aH rfl rfl rfl rfl Try.func38 rfl (by kernel_rfl) (hcn) ?_
       refine aB ?_)
    | (refine rG 12 ?_
       (iterate 3 refine vA ?_)
       first|refine qr8eo2 (aP (k:=k) tyOk) ?_|refine qr10eo (AList.idxOw (k:=k) tyOk) ?_
       refine vA ?_
       first|refine AList.load1lE tyOk (eC) rfl rfl rfl rfl rfl oM ?_|refine AList.load1F tyOk rfl rfl rfl rfl rfl rfl rfl oM oM (eC) ?_
       first|refine AList.appL0 tyOk rfl rfl rfl rfl rfl rfl rfl rfl rfl rfl oM oM ?_|refine AList.appL tyOk rfl rfl rfl rfl rfl rfl rfl rfl rfl rfl oM oM ?_|refine AList.appN tyOk rfl rfl rfl rfl rfl rfl rfl rfl rfl oM oM ?_|refine AList.appO tyOk rfl rfl rfl rfl rfl rfl rfl rfl rfl rfl rfl oM oM ?_|refine AList.appE tyOk rfl rfl rfl rfl rfl rfl rfl rfl rfl rfl oM oM ?_
       refine vA ?_
       refine aB ?_))
   refine⟨rfl,Wk.mk [(6,some 6),(9,some 9),(120,some 120),(121,some 121)] rfl rfl rfl ?_ ?_⟩
   ·repeat (first|exact trivial|refine⟨⟨_,rfl,by first|exact LeA.c (LeC.fz rfl rfl rfl (fun i _ j _=>⟨rfl,rowF_imm bpC_imm _ i j⟩))|exact leT⟩,?_⟩)
   ·exact⟨hSm,HeapOk.box rfl rfl ⟨LeC.refl _ rfl,LeC.ow _ _ rfl,LeC.refl _ rfl,LeC.ow _ _ rfl,LeC.refl _ rfl,trivial⟩ rfl,HeapOk.row rfl rfl rfl (fun i _ j _=>⟨rfl,rfl⟩),hrF bgC_imm28,trivial⟩
  ·rw [decide_eq_false hm]at hcn
   rw[if_neg hm]at hX
   subst hX
   repeat (first
    |refine vB [] ?_
    | (refine rG 11 ?_
       (iterate 2 refine vA ?_)
       refine aH rfl rfl rfl rfl Try.func38 rfl (by kernel_rfl) (hcn) ?_
       refine aB ?_))
   refine⟨rfl,Wk.mk [(6,some 6),(9,some 9),(120,some 120),(121,some 121)] rfl rfl rfl ?_ ?_⟩
   ·repeat (first|exact trivial|refine⟨⟨_,rfl,by first|exact LeA.c (LeC.lz rfl (fun i hi j hj=>by obtain rfl:i=0:=Nat.lt_one_iff.mp hi;revert j;exact j30 ⟨rfl,rfl,rfl⟩))|exact leT⟩,?_⟩)
   ·exact⟨hSm,HeapOk.box rfl rfl ⟨LeC.refl _ rfl,LeC.ow _ _ rfl,LeC.refl _ rfl,LeC.ow _ _ rfl,LeC.refl _ rfl,trivial⟩ rfl,HeapOk.row rfl rfl rfl (fun i _ j _=>⟨rfl,rfl⟩),hrF bgC_imm28,trivial⟩
 repeat (first
  |refine vB [9] ?_
  | (refine rG 13 ?_
     (iterate 4 refine vA ?_)
     first|refine AList.appL0 tyOk rfl rfl rfl rfl rfl rfl rfl rfl rfl rfl oM oM ?_|refine AList.appL tyOk rfl rfl rfl rfl rfl rfl rfl rfl rfl rfl oM oM ?_|refine AList.appN tyOk rfl rfl rfl rfl rfl rfl rfl rfl rfl oM oM ?_|refine AList.appO tyOk rfl rfl rfl rfl rfl rfl rfl rfl rfl rfl rfl oM oM ?_|refine AList.appE tyOk rfl rfl rfl rfl rfl rfl rfl rfl rfl rfl oM oM ?_
     (iterate 2 refine vA ?_)
     refine aB ?_)
  |(refine AWp.draw (id:=14) mixed ?_;(iterate 4 refine vA ?_);(first|refine qr8eo2 (aP (k:=k) tyOk) ?_|refine qr10eo (AList.idxOw (k:=k) tyOk) ?_);refine vA ?_;refine AList.loadAlE tyOk (eO) rfl rfl rfl rfl rfl oM ?_;refine vA ?_;(first|refine AList.appL0 tyOk rfl rfl rfl rfl rfl rfl rfl rfl rfl rfl oM oM ?_|refine AList.appL tyOk rfl rfl rfl rfl rfl rfl rfl rfl rfl rfl oM oM ?_|refine AList.appN tyOk rfl rfl rfl rfl rfl rfl rfl rfl rfl oM oM ?_|refine AList.appO tyOk rfl rfl rfl rfl rfl rfl rfl rfl rfl rfl rfl oM oM ?_|refine AList.appE tyOk rfl rfl rfl rfl rfl rfl rfl rfl rfl rfl oM oM ?_);(iterate 2 refine vA ?_);refine aB ⟨by kernel_rfl,?_⟩))
 refine⟨k+1,hkl,?_,by omega⟩
 rw[e1,e2]
 refine Wk.mk [(6,some 6),(9,some 9),(120,some 52),(121,some 62)] rfl rfl rfl ?_ ?_
 ·exact allT
 ·exact⟨hSm,HeapOk.box rfl rfl ⟨LeC.refl _ rfl,LeC.ow _ _ rfl,LeC.refl _ rfl,LeC.ow _ _ rfl,LeC.refl _ rfl,trivial⟩ rfl,HeapOk.row rfl rfl List.length_append (chF_snoc _ _),HeapOk.row rfl rfl List.length_append (row_snoc _ _ bgC_imm28 rfl),trivial⟩
theorem hgz_le{h:Nat→Option AB}{ren:List (Nat×Option Nat)}(n:Nat):∀k,k<n→∀j,j<8→LeC h ren (zF [Value.int .i64 0,.int .i64 0,.slice none 0 0,.slice none 0 0,.int .i64 0,.int .i64 0,.int .i64 0,.int .i64 0] k j) (rowF hgC hgZ (List.replicate n hgZ) k j):=fun k hk j hj=>by
 have e:(List.replicate n hgZ).getD k hgZ=hgZ:=by simp[List.getD_eq_getElem?_getD,hk]
 unfold rowF
 rw[e]
 revert j
 exact j8 ⟨LeC.refl _ rfl,LeC.refl _ rfl,LeC.nils _ _,LeC.nils _ _,LeC.refl _ rfl,LeC.refl _ rfl,LeC.refl _ rfl,LeC.refl _ rfl⟩
set_option maxRecDepth 100000 in
theorem odd30_A(c:Cs)(H:List Hg)(B:Nat)(hH:HgBd B H)(hB:B≤1000)(hl2:H.length≤2)(hq:-9223372036854775808≤c.l1∧c.l1≤9223372036854775807):∃H':List Hg,HgBd (B+20) H'∧ACalls Try.prog 10 [.ag (csC c),.c (lsH H)] (.c (lsH H')):=by
 have hHm:∀h∈H,HgB (B+20) h:=fun h hh=>HgB.mono (by omega) (hH.2 h hh)
 by_cases h0:H.length=0
 ·have hM:=Mod_A c.l1 11 (by omega) (by omega)
  have m0:=Int.emod_nonneg c.l1 (show(11:Int)≠0 by omega)
  have m1:=Int.emod_lt_of_pos c.l1 (show(0:Int)<11 by omega)
  generalize c.l1%11=r at hM m0 m1
  obtain⟨r,rfl⟩:=Int.eq_ofNat_of_zero_le m0
  have hz:HgB (B+20) hgZ:=⟨⟨by show -((B+20:Nat):Int)≤0∧(0:Int)≤((B+20:Nat):Int);omega,Nat.zero_le _⟩,Nat.zero_le _,fun _ h=>by cases h⟩
  refine⟨List.replicate r hgZ,⟨by rw[List.length_replicate];omega,fun h hh=>by rw[List.eq_of_mem_replicate hh];exact hz⟩,?_⟩
  have h0':(H.length:Int)=0:=by omega
  refine acalls_at Try.func10 rfl rfl Try.ntmps10 rfl ?_
  repeat (first
   |refine vB [0,2] ?_
   | (refine rG 1 ?_
      (iterate 2 refine vA ?_)
      first|refine AList.appL0 tyOk rfl rfl rfl rfl rfl rfl rfl rfl rfl rfl oM oM ?_|refine AList.appL tyOk rfl rfl rfl rfl rfl rfl rfl rfl rfl rfl oM oM ?_|refine AList.appN tyOk rfl rfl rfl rfl rfl rfl rfl rfl rfl oM oM ?_|refine AList.appO tyOk rfl rfl rfl rfl rfl rfl rfl rfl rfl rfl rfl oM oM ?_|refine AList.appE tyOk rfl rfl rfl rfl rfl rfl rfl rfl rfl rfl oM oM ?_
      refine vA ?_
      refine aB ?_)
   | (refine rG 3 ?_
      refine vA ?_
      first|refine qr7eo (aU (i:=1) tyOk) ?_|refine qr7eo (AList.idxArrP (i:=1) tyOk) ?_|refine qr7eo (AList.idxArrL (i:=1) tyOk) ?_
      refine vA ?_
      refine aH rfl rfl rfl rfl Try.func27 rfl (by kernel_rfl) (hM) ?_
      refine qr9e2o2 (AList.makeSl (n:=r) tyOk) ?_
      refine vA ?_
      refine aB ?_))
  refine⟨mkSt 93 [(4,.c (lsH (List.replicate r hgZ)))] [] [],[],Wk.trans (B:=mkSt 93 [(4,.c (.ow 17))] [(17,hgB (List.replicate r hgZ))] [17]) (Wk.mk [(17,some 17)] rfl rfl rfl ?_ ?_) (Wk.mk [] rfl rfl rfl ?_ trivial),rfl,rfl,aR1⟩
  ·exact allT
  ·exact⟨.inr ⟨17,r,_,.inl rfl,List.length_replicate,rfl,hgz_le r⟩,trivial⟩
  ·exact⟨⟨_,rfl,.c (LeC.fz rfl rfl rfl (fun i _ j _=>⟨rfl,rowF_imm hgC_imm _ i j⟩))⟩,trivial⟩
 have h0':¬(H.length:Int)=0:=by omega
 have hMk:=Mod_A c.l1 H.length (by omega) (by omega)
 have k0:=Int.emod_nonneg c.l1 (show(H.length:Int)≠0 by omega)
 have k1:=Int.emod_lt_of_pos c.l1 (show(0:Int)<H.length by omega)
 generalize c.l1%(H.length:Int)=k at hMk k0 k1
 obtain⟨k,rfl⟩:=Int.eq_ofNat_of_zero_le k0
 have hkl:k<H.length:=by omega
 have hMt:=Mod_A c.l0 4 (by omega) (by omega)
 have t0:=Int.emod_nonneg c.l0 (show(4:Int)≠0 by omega)
 have t1:=Int.emod_lt_of_pos c.l0 (show(0:Int)<4 by omega)
 generalize c.l0%4=t at hMt t0 t1
 obtain⟨h,hh⟩:∃h,H.getD k hgZ=h:=⟨_,rfl⟩
 have hhm:h∈H:=by rw[←hh];exact getD_mem28 hkl
 obtain⟨bN,bC1,bC2⟩:=hH.2 h hhm
 obtain⟨r,hr,hO⟩:=Odd04_A B h.now c.l1 bN (by omega) hq
 have eN:cellsFrom (rowF hgC hgZ H k) 0 3=bpC h.now:=by rw[←hh];rfl
 have eC:rowF hgC hgZ H k 3=lsB h.ch:=by rw[←hh];rfl
 have eA:cellsFrom (rowF hgC hgZ H k) 0 8=hgC h:=by rw[←hh];rfl
 have hset1:∀e:Hg,HgB (B+20) e→HgBd (B+20) (H.set k e):=fun e he=>⟨by rw[List.length_set];have:=hH.1;omega,fun x hx=>(List.mem_or_eq_of_mem_set hx).elim (hHm x) fun q=>by rw[q];exact he⟩
 have hr20:BpBd (B+20) r:=hr.mono (by omega)
 by_cases c0:t=0
 ·subst c0
  refine⟨H.set k ⟨r,h.ch,h.own⟩,hset1 _ ⟨hr20,by show h.ch.length≤_;omega,fun b hb=>(bC2 b hb).mono (by omega)⟩,?_⟩
  have hs:=hset hkl 0 3 (bpC r) ⟨r,h.ch,h.own⟩ (by rw[hh];exact j8 ⟨rfl,rfl,rfl,rfl,rfl,rfl,rfl,rfl⟩)
  refine acalls_at Try.func10 rfl rfl Try.ntmps10 rfl ?_
  repeat (first
   |refine vB [0,2,6,15] ?_
   | (refine rG 1 ?_
      (iterate 2 refine vA ?_)
      first|refine AList.appL0 tyOk rfl rfl rfl rfl rfl rfl rfl rfl rfl rfl oM oM ?_|refine AList.appL tyOk rfl rfl rfl rfl rfl rfl rfl rfl rfl rfl oM oM ?_|refine AList.appN tyOk rfl rfl rfl rfl rfl rfl rfl rfl rfl oM oM ?_|refine AList.appO tyOk rfl rfl rfl rfl rfl rfl rfl rfl rfl rfl rfl oM oM ?_|refine AList.appE tyOk rfl rfl rfl rfl rfl rfl rfl rfl rfl rfl oM oM ?_
      refine vA ?_
      refine aB ?_)
   | (refine rG 4 ?_
      refine vA ?_
      first|refine qr7eo (aU (i:=1) tyOk) ?_|refine qr7eo (AList.idxArrP (i:=1) tyOk) ?_|refine qr7eo (AList.idxArrL (i:=1) tyOk) ?_
      (iterate 3 refine vA ?_)
      first|refine aH rfl rfl rfl rfl Try.func27 rfl (by kernel_rfl) (hMk) ?_|refine aH rfl rfl rfl rfl Try.func27 rfl (by kernel_rfl) (hMt) ?_
      refine vA ?_
      refine aB ?_)
   | (refine rG 5 ?_
      refine vA ?_
      first|refine qr7eo (aU (i:=0) tyOk) ?_|refine qr7eo (AList.idxArrP (i:=0) tyOk) ?_|refine qr7eo (AList.idxArrL (i:=0) tyOk) ?_
      refine vA ?_
      first|refine aH rfl rfl rfl rfl Try.func27 rfl (by kernel_rfl) (hMk) ?_|refine aH rfl rfl rfl rfl Try.func27 rfl (by kernel_rfl) (hMt) ?_
      refine aB ?_)
   |(refine AWp.draw (id:=7) mixed ?_;(iterate 4 refine vA ?_);(first|refine qr8eo2 (aP (k:=k) tyOk) ?_|refine qr10eo (AList.idxOw (k:=k) tyOk) ?_);refine vA ?_;refine AList.loadAF tyOk rfl rfl rfl rfl rfl rfl rfl oM (by first|omega|(dsimp only;omega)|exact of_decide_eq_true rfl|(simp;done)|(simp;omega)|(show _+_*3+3≤12;omega)) (eN) ?_;refine vA ?_;(first|refine qr7eo (aU (i:=1) tyOk) ?_|refine qr7eo (AList.idxArrP (i:=1) tyOk) ?_|refine qr7eo (AList.idxArrL (i:=1) tyOk) ?_);refine vA ?_;refine aH rfl rfl rfl rfl Try.func29 rfl (by kernel_rfl) (hO) ?_;(first|refine qr8eo2 (aP (k:=k) tyOk) ?_|refine qr10eo (AList.idxOw (k:=k) tyOk) ?_);(iterate 2 refine vA ?_);refine aB ⟨by kernel_rfl,?_⟩))
  refine⟨mkSt 93 [(4,.c (lsH (H.set k ⟨r,h.ch,h.own⟩)))] [] [],[],Wk.mk [] rfl rfl rfl ?_ trivial,rfl,rfl,aR1⟩
  exact⟨⟨_,rfl,.c (LeC.fz rfl rfl List.length_set (fun i hi j hj=>hs i (by omega) j hj))⟩,trivial⟩
 by_cases c1:t=1
 ·subst c1
  refine⟨H.set k ⟨h.now,h.ch++ [r],h.own⟩,hset1 _ ⟨bN.mono (by omega),by show(h.ch++ [r]).length≤_;rw[List.length_append,List.length_singleton];omega,fun b hb=>by
   rcases List.mem_append.1 hb with hb|hb
   ·exact(bC2 b hb).mono (by omega)
   ·rw[List.mem_singleton.1 hb];exact hr20⟩,?_⟩
  have hs:=hset hkl 3 1 [lsB (h.ch++ [r])] ⟨h.now,h.ch++ [r],h.own⟩ (by rw[hh];exact j8 ⟨rfl,rfl,rfl,rfl,rfl,rfl,rfl,rfl⟩)
  have hsn:=row_snoc (c:=bpC) (z:=bpZ) (sz:=3) h.ch r bpC_imm rfl
  refine acalls_at Try.func10 rfl rfl Try.ntmps10 rfl ?_
  repeat (first
   |refine vB [0,2,6,8,15] ?_
   | (refine rG 1 ?_
      (iterate 2 refine vA ?_)
      first|refine AList.appL0 tyOk rfl rfl rfl rfl rfl rfl rfl rfl rfl rfl oM oM ?_|refine AList.appL tyOk rfl rfl rfl rfl rfl rfl rfl rfl rfl rfl oM oM ?_|refine AList.appN tyOk rfl rfl rfl rfl rfl rfl rfl rfl rfl oM oM ?_|refine AList.appO tyOk rfl rfl rfl rfl rfl rfl rfl rfl rfl rfl rfl oM oM ?_|refine AList.appE tyOk rfl rfl rfl rfl rfl rfl rfl rfl rfl rfl oM oM ?_
      refine vA ?_
      refine aB ?_)
   | (refine rG 4 ?_
      refine vA ?_
      first|refine qr7eo (aU (i:=1) tyOk) ?_|refine qr7eo (AList.idxArrP (i:=1) tyOk) ?_|refine qr7eo (AList.idxArrL (i:=1) tyOk) ?_
      (iterate 3 refine vA ?_)
      first|refine aH rfl rfl rfl rfl Try.func27 rfl (by kernel_rfl) (hMk) ?_|refine aH rfl rfl rfl rfl Try.func27 rfl (by kernel_rfl) (hMt) ?_
      refine vA ?_
      refine aB ?_)
   | (refine rG 5 ?_
      refine vA ?_
      first|refine qr7eo (aU (i:=0) tyOk) ?_|refine qr7eo (AList.idxArrP (i:=0) tyOk) ?_|refine qr7eo (AList.idxArrL (i:=0) tyOk) ?_
      refine vA ?_
      first|refine aH rfl rfl rfl rfl Try.func27 rfl (by kernel_rfl) (hMk) ?_|refine aH rfl rfl rfl rfl Try.func27 rfl (by kernel_rfl) (hMt) ?_
      refine aB ?_)
   |(refine AWp.draw (id:=9) mixed ?_;(iterate 5 refine vA ?_);(first|refine qr8eo2 (aP (k:=k) tyOk) ?_|refine qr10eo (AList.idxOw (k:=k) tyOk) ?_);refine vA ?_;(first|refine AList.load1lE tyOk (eC) rfl rfl rfl rfl rfl oM ?_|refine AList.load1F tyOk rfl rfl rfl rfl rfl rfl rfl oM oM (eC) ?_);(first|refine AList.appL0 tyOk rfl rfl rfl rfl rfl rfl rfl rfl rfl rfl oM oM ?_|refine AList.appL tyOk rfl rfl rfl rfl rfl rfl rfl rfl rfl rfl oM oM ?_|refine AList.appN tyOk rfl rfl rfl rfl rfl rfl rfl rfl rfl oM oM ?_|refine AList.appO tyOk rfl rfl rfl rfl rfl rfl rfl rfl rfl rfl rfl oM oM ?_|refine AList.appE tyOk rfl rfl rfl rfl rfl rfl rfl rfl rfl rfl oM oM ?_);(iterate 2 refine vA ?_);(first|refine qr8eo2 (aP (k:=k) tyOk) ?_|refine qr10eo (AList.idxOw (k:=k) tyOk) ?_);refine vA ?_;refine AList.loadAF tyOk rfl rfl rfl rfl rfl rfl rfl oM (by first|omega|(dsimp only;omega)|exact of_decide_eq_true rfl|(simp;done)|(simp;omega)|(show _+_*3+3≤12;omega)) (eN) ?_;refine vA ?_;(first|refine qr7eo (aU (i:=1) tyOk) ?_|refine qr7eo (AList.idxArrP (i:=1) tyOk) ?_|refine qr7eo (AList.idxArrL (i:=1) tyOk) ?_);refine vA ?_;refine aH rfl rfl rfl rfl Try.func29 rfl (by kernel_rfl) (hO) ?_;refine vA ?_;refine AList.appFz tyOk rfl rfl rfl rfl rfl rfl rfl rfl rfl rfl (@List.length_append _ h.ch [r]) (hsn) oM oM ?_;(first|refine qr8eo2 (aP (k:=k) tyOk) ?_|refine qr10eo (AList.idxOw (k:=k) tyOk) ?_);(iterate 2 refine vA ?_);refine aB ⟨by kernel_rfl,?_⟩))
  refine⟨mkSt 93 [(4,.c (lsH (H.set k ⟨h.now,h.ch++ [r],h.own⟩)))] [] [],[],Wk.mk [] rfl rfl rfl ?_ trivial,rfl,rfl,aR1⟩
  exact⟨⟨_,rfl,.c (LeC.fz rfl rfl List.length_set (fun i hi j hj=>hs i (by omega) j hj))⟩,trivial⟩
 by_cases c2:t=2
 ·subst c2
  refine⟨H.set k ⟨h.now,h.ch,⟨c.l1,0,0,c.l1⟩⟩,hset1 _ ⟨bN.mono (by omega),by show h.ch.length≤_;omega,fun b hb=>(bC2 b hb).mono (by omega)⟩,?_⟩
  have hs:=hset hkl 4 4 (bgC ⟨c.l1,0,0,c.l1⟩) ⟨h.now,h.ch,⟨c.l1,0,0,c.l1⟩⟩ (by rw[hh];exact j8 ⟨rfl,rfl,rfl,rfl,rfl,rfl,rfl,rfl⟩)
  refine acalls_at Try.func10 rfl rfl Try.ntmps10 rfl ?_
  repeat (first
   |refine vB [0,2,6,8,10,15] ?_
   | (refine rG 1 ?_
      (iterate 2 refine vA ?_)
      first|refine AList.appL0 tyOk rfl rfl rfl rfl rfl rfl rfl rfl rfl rfl oM oM ?_|refine AList.appL tyOk rfl rfl rfl rfl rfl rfl rfl rfl rfl rfl oM oM ?_|refine AList.appN tyOk rfl rfl rfl rfl rfl rfl rfl rfl rfl oM oM ?_|refine AList.appO tyOk rfl rfl rfl rfl rfl rfl rfl rfl rfl rfl rfl oM oM ?_|refine AList.appE tyOk rfl rfl rfl rfl rfl rfl rfl rfl rfl rfl oM oM ?_
      refine vA ?_
      refine aB ?_)
   | (refine rG 4 ?_
      refine vA ?_
      first|refine qr7eo (aU (i:=1) tyOk) ?_|refine qr7eo (AList.idxArrP (i:=1) tyOk) ?_|refine qr7eo (AList.idxArrL (i:=1) tyOk) ?_
      (iterate 3 refine vA ?_)
      first|refine aH rfl rfl rfl rfl Try.func27 rfl (by kernel_rfl) (hMk) ?_|refine aH rfl rfl rfl rfl Try.func27 rfl (by kernel_rfl) (hMt) ?_
      refine vA ?_
      refine aB ?_)
   | (refine rG 5 ?_
      refine vA ?_
      first|refine qr7eo (aU (i:=0) tyOk) ?_|refine qr7eo (AList.idxArrP (i:=0) tyOk) ?_|refine qr7eo (AList.idxArrL (i:=0) tyOk) ?_
      refine vA ?_
      first|refine aH rfl rfl rfl rfl Try.func27 rfl (by kernel_rfl) (hMk) ?_|refine aH rfl rfl rfl rfl Try.func27 rfl (by kernel_rfl) (hMt) ?_
      refine aB ?_)
   | (refine rG 11 ?_
      (iterate 3 refine vA ?_)
      first|refine qr7eo (aU (i:=1) tyOk) ?_|refine qr7eo (AList.idxArrP (i:=1) tyOk) ?_|refine qr7eo (AList.idxArrL (i:=1) tyOk) ?_
      (iterate 2 refine vA ?_)
      first|refine qr7eo (aU (i:=1) tyOk) ?_|refine qr7eo (AList.idxArrP (i:=1) tyOk) ?_|refine qr7eo (AList.idxArrL (i:=1) tyOk) ?_
      (iterate 2 refine vA ?_)
      first|refine qr8eo2 (aP (k:=k) tyOk) ?_|refine qr10eo (AList.idxOw (k:=k) tyOk) ?_
      (iterate 2 refine vA ?_)
      refine aB ?_))
  refine⟨mkSt 93 [(4,.c (lsH (H.set k ⟨h.now,h.ch,⟨c.l1,0,0,c.l1⟩⟩)))] [] [],[],Wk.mk [] rfl rfl rfl ?_ trivial,rfl,rfl,aR1⟩
  exact⟨⟨_,rfl,.c (LeC.fz rfl rfl List.length_set (fun i hi j hj=>hs i (by omega) j hj))⟩,trivial⟩
 obtain rfl:t=3:=by omega
 obtain⟨L,hL⟩:∃L:Nat→List Hg,L=fun m=>H++List.replicate m h:=⟨_,rfl⟩
 have hLl:∀m,(L m).length=H.length+m:=fun m=>by rw[hL];simp
 have hLs:∀m,L (m+1)=L m++ [h]:=fun m=>by rw[hL];show H++List.replicate (m+1) h=H++List.replicate m h++ [h];rw[List.replicate_succ',List.append_assoc]
 have hLk:∀m,cellsFrom (rowF hgC hgZ (L m) k) 0 8=hgC h:=fun m=>by
  have:(L m).getD k hgZ=h:=by rw[hL,←hh];show(H++_).getD k hgZ=_;rw[List.getD_eq_getElem?_getD,List.getElem?_append_left hkl,←List.getD_eq_getElem?_getD]
  show cellsFrom (fun j=>(hgC ((L m).getD k hgZ)).getD j .any) 0 8=_
  rw[this]
  rfl
 refine⟨L (10-H.length),⟨by rw[hLl];omega,fun x hx=> ?_⟩,?_⟩
 ·rw[hL]at hx
  rcases List.mem_append.1 hx with hx|hx
  ·exact hHm x hx
  ·rw[List.eq_of_mem_replicate hx];exact hHm h hhm
 refine acalls_at Try.func10 rfl rfl Try.ntmps10 rfl ?_
 repeat (first
  |refine vB [0,2,6,8,10,12] ?_
  | (refine rG 1 ?_
     (iterate 2 refine vA ?_)
     first|refine AList.appL0 tyOk rfl rfl rfl rfl rfl rfl rfl rfl rfl rfl oM oM ?_|refine AList.appL tyOk rfl rfl rfl rfl rfl rfl rfl rfl rfl rfl oM oM ?_|refine AList.appN tyOk rfl rfl rfl rfl rfl rfl rfl rfl rfl oM oM ?_|refine AList.appO tyOk rfl rfl rfl rfl rfl rfl rfl rfl rfl rfl rfl oM oM ?_|refine AList.appE tyOk rfl rfl rfl rfl rfl rfl rfl rfl rfl rfl oM oM ?_
     refine vA ?_
     refine aB ?_)
  | (refine rG 4 ?_
     refine vA ?_
     first|refine qr7eo (aU (i:=1) tyOk) ?_|refine qr7eo (AList.idxArrP (i:=1) tyOk) ?_|refine qr7eo (AList.idxArrL (i:=1) tyOk) ?_
     (iterate 3 refine vA ?_)
     first|refine aH rfl rfl rfl rfl Try.func27 rfl (by kernel_rfl) (hMk) ?_|refine aH rfl rfl rfl rfl Try.func27 rfl (by kernel_rfl) (hMt) ?_
     refine vA ?_
     refine aB ?_)
  | (refine rG 5 ?_
     refine vA ?_
     first|refine qr7eo (aU (i:=0) tyOk) ?_|refine qr7eo (AList.idxArrP (i:=0) tyOk) ?_|refine qr7eo (AList.idxArrL (i:=0) tyOk) ?_
     refine vA ?_
     first|refine aH rfl rfl rfl rfl Try.func27 rfl (by kernel_rfl) (hMk) ?_|refine aH rfl rfl rfl rfl Try.func27 rfl (by kernel_rfl) (hMt) ?_
     refine aB ?_))
 refine AWp.round (fun m:Nat=>mkSt 93 [(5,.c (.ow 20)),(6,.c (iC (k:Nat)))] [(20,hgB (L m))] [20]) (fun m=>H.length+m≤10) (fun m=>10-H.length-m) 0 (by omega) ?_ (fun m hm=> ?_)
 ·refine Wk.mk [(20,some 9)] rfl rfl rfl ?_ ?_
  ·exact allT
  ·have e0:L 0=H:=by rw[hL];exact List.append_nil _
   rw[e0]
   exact⟨hrF hgC_imm,trivial⟩
 have hlm:=hLl m
 by_cases hm10:H.length+m<10
 ·have hm':((L m).length:Int)<10:=by omega
  have hka:=hLk m
  repeat (first
   |refine vB [13] ?_
   | (refine rG 14 ?_
      (iterate 3 refine vA ?_)
      first|refine qr8eo2 (aP (k:=k) tyOk) ?_|refine qr10eo (AList.idxOw (k:=k) tyOk) ?_
      refine AList.loadAF tyOk rfl rfl rfl rfl rfl rfl rfl oM (by first|omega|(dsimp only;omega)|exact of_decide_eq_true rfl|(simp;done)|(simp;omega)|(show _+_*3+3≤12;omega)) (hka) ?_
      refine vA ?_
      first|refine AList.appL0 tyOk rfl rfl rfl rfl rfl rfl rfl rfl rfl rfl oM oM ?_|refine AList.appL tyOk rfl rfl rfl rfl rfl rfl rfl rfl rfl rfl oM oM ?_|refine AList.appN tyOk rfl rfl rfl rfl rfl rfl rfl rfl rfl oM oM ?_|refine AList.appO tyOk rfl rfl rfl rfl rfl rfl rfl rfl rfl rfl rfl oM oM ?_|refine AList.appE tyOk rfl rfl rfl rfl rfl rfl rfl rfl rfl rfl oM oM ?_
      refine vA ?_
      refine aB ?_))
  refine⟨m+1,by omega,?_,by omega⟩
  rw[hLs]
  refine Wk.mk [(20,some 91)] rfl rfl rfl ?_ ?_
  ·exact allT
  ·exact⟨HeapOk.row rfl rfl List.length_append (row_snoc (c:=hgC) (z:=hgZ) (L m) h hgC_imm rfl),trivial⟩
 have hm':¬((L m).length:Int)<10:=by omega
 obtain rfl:m=10-H.length:=by omega
 refine vB [13,15] ?_
 refine⟨mkSt 93 [(4,.c (lsH (L (10-H.length))))] [] [],[],Wk.mk [] rfl rfl rfl ?_ trivial,rfl,rfl,aR1⟩
 exact⟨⟨_,rfl,.c (LeC.fz rfl rfl rfl (fun i _ j _=>⟨rfl,rowF_imm hgC_imm _ i j⟩))⟩,trivial⟩
theorem with_ok{p:Pb}{H:List Hg}{A B:Nat}(hp:p.bd A)(hA:A≤900000)(hH:HgBd B H)(hB:B≤900000)(s:List Int):(withV p H s).1.ok∧(∀l∈(withV p H s).1.C,∀b∈l,b.n≤1000000)∧∀b∈(withV p H s).1.F,b.n≤1000000:=by
 have hz:pbZ.ok∧(∀l∈pbZ.C,∀b∈l,b.n≤1000000)∧∀b∈pbZ.F,b.n≤1000000:=⟨pbZ_ok,(fun _ h=>by cases h),fun _ h=>by cases h⟩
 unfold withV
 by_cases h1:chkP p=0
 ·rw [if_pos h1]
  by_cases h2:nmOk H.length s=true
  ·rw[if_pos h2]
   by_cases h3:chkP (anP p H s)=0
   ·rw[if_pos h3]
    refine⟨anP_ok s (hp.ok (by omega)) (hH.ok hB) h1,fun l hl b hb=> ?_,fun b hb=>by have:=(hp.F b hb).2;omega⟩
    rcases List.mem_append.1 hl with hl|hl
    ·have:=((hp.C l hl).2 b hb).2;omega
    ·unfold anC at hl
     obtain⟨k,hk,rfl⟩:=List.mem_map.1 hl
     exact(hgC1_len (hH.ok hB) s (List.mem_range.1 hk)).2 b hb
   ·rw[if_neg h3];exact hz
  ·rw[if_neg h2];exact hz
 ·rw[if_neg h1];exact hz
theorem wfacts(x:Pb)(hx:x.bd 240)(H:List Hg)(hH:HgBd 50 H)(s:List Int)(hs:s.length≤1000000):∃(y:Pb) (e e':Int),e=e'∧
 ACalls Try.prog 11 [.ag (pbC x),.c (lsH H),.c (lsI s)] (.tu [.ag (pbC y),.c (iC e)])∧
 ACalls Try.prog 12 [.ag (pbC x),.c (lsH H),.c (lsI s)] (.tu [.ag (pbC y),.c (iC e')])∧
 ACalls Try.prog 13 [.ag (pbC y),.ag (pbC y)] (.c (bC true)):=by
 obtain⟨h1,h2,h3⟩:=with_ok hx (by omega) hH (by omega) s
 exact⟨_,_,_,rfl,With_A x (hx.ok (by omega)) H (hH.ok (by omega)) s hs,rWith_A x (hx.ok (by omega)) H (hH.ok (by omega)) s hs,Same28_A _ h1 h2 h3⟩
set_option maxRecDepth 100000 in
theorem ReprintWith_A(c:Cs)(hc:c.ok)(raw:List Int)(hraw:raw.length≤4611686018427387904):ACalls Try.prog 3 [.ag (csC c),.c (lsI raw)] (.c (bC true)):=by
 obtain⟨⟨hP,hHs⟩,hst,ho1,hl1⟩:=hc
 have hSan:=sanity30_A
 have hMd:=made30_A c hP hHs
 obtain⟨sm1,-⟩:=made_sm c.P
 obtain⟨sm2,-⟩:=made_sm c.Hs
 obtain⟨sp,-⟩:=cut_sm sm1
 have hHm:=hangs_sm sm2
 generalize cutP (made28 c.P)=p at *
 generalize hangs30 (made28 c.Hs)=H at *
 obtain⟨p',bp',hO⟩:=Odd28_A 200 p (sm_bd sp) (by omega) (by omega) c.o0 c.o1 c.o2 ho1
 obtain⟨H',bH',hD⟩:=odd30_A c H 30 hHm.bd (by omega) hHm.1 hl1
 obtain⟨m1,hm1⟩:∃m,m=min c.st.length 3:=⟨_,rfl⟩
 have hm1':min (c.st.length:Int) 3=(m1:Int):=by omega
 have hm1l:m1≤c.st.length:=by omega
 obtain⟨m2,hm2⟩:∃m,m=min raw.length 4:=⟨_,rfl⟩
 have hm2':min (raw.length:Int) 4=(m2:Int):=by omega
 have hm2l:m2≤raw.length:=by omega
 obtain⟨s1,hs1⟩:∃s,c.st.take m1=s:=⟨_,rfl⟩
 obtain⟨s2,hs2⟩:∃s,raw.take m2=s:=⟨_,rfl⟩
 have ls1:s1.length=m1:=by rw[←hs1,List.length_take];omega
 have ls2:s2.length=m2:=by rw[←hs2,List.length_take];omega
 have cu1:=sub_list (l:=c.st) hm1l
 have cu2:=sub_list (l:=raw) hm2l
 rw[hs1]at cu1
 rw[hs2]at cu2
 clear hs1 hs2
 refine acalls_at Try.func3 rfl rfl Try.ntmps3 rfl ?_
 repeat (first
  |refine vB [0] ?_
  | (refine rG 1 ?_
     refine aH rfl rfl rfl rfl Try.func7 rfl (by kernel_rfl) (hSan) ?_
     refine vA ?_
     refine aB ?_)
  | (refine rG 2 ?_
     refine vA ?_
     refine aH rfl rfl rfl rfl Try.func8 rfl (by kernel_rfl) (hMd) ?_
     (iterate 6 refine vA ?_)
     refine aB ?_)
  |(refine AWp.draw (id:=3) mixed ?_;(iterate 4 refine vA ?_);refine aH rfl rfl rfl rfl Try.func9 rfl (by kernel_rfl) (hO) ?_;(iterate 3 refine vA ?_);refine aB ⟨by kernel_rfl,?_⟩)
  | (refine rG 4 ?_
     (iterate 3 refine vA ?_)
     refine aH rfl rfl rfl rfl Try.func10 rfl (by kernel_rfl) (hD) ?_
     (iterate 3 refine vA ?_)
     refine aB ?_))
 repeat (first
  |refine vB [6] ?_
  |(refine AWp.draw (id:=5) mixed ?_;(iterate 6 refine vA ?_);refine AList.cut (l:=0) (h:=m1) tyOk rfl rfl rfl rfl rfl rfl rfl rfl ⟨_,_,rfl,by first|rfl|omega⟩ (by omega) (by omega) ?_;(iterate 4 refine vA ?_);refine AList.cut (l:=0) (h:=m2) tyOk rfl rfl rfl rfl rfl rfl rfl rfl ⟨_,_,rfl,by first|rfl|omega⟩ (by omega) (by omega) ?_;(iterate 3 refine vA ?_);refine aB ⟨by kernel_rfl,?_⟩))
 refine AWp.round (fun i:Nat=>
  mkSt 96 [(5,.c (bC true)),(8,.c (.pl 1 10 (lF (pbC p++pbC p')) 0 0)),(9,.c (.pl 1 2 (lF [lsH H,lsH H']) 0 0)),(10,.c (.pl 1 3 (lF [lsI [],lsI s1,lsI s2]) 0 0)),(11,.c (iC (i:Nat)))] [] []
  ) (fun i=>i≤2) (fun i=>2-i) 0 (Nat.zero_le _) ?_ (fun i hi=> ?_)
 ·refine Wk.trans (B:=mkSt 96 [(5,.c (bC true)),(8,.c (.pt 8 10 0 0)),(9,.c (.pt 9 2 0 0)),(10,.c (.pt 10 3 0 0)),(11,.c (iC 0))] [(8,⟨false,1,10,39,lF (pbC p++pbC p')⟩),(9,⟨false,1,2,41,lF [lsH H,lsH H']⟩),(10,⟨false,1,3,42,lF [lsI [],lsI s1,lsI s2]⟩)] [8,9,10]) (Wk.mk [(8,some 8),(9,some 9),(10,some 10)] rfl rfl rfl ?_ ?_) (Wk.mk [] rfl rfl rfl ?_ trivial)
  ·exact allT
  ·exact⟨hSm,hSm,HeapOk.box rfl rfl ⟨LeC.nils _ _,LeC.lz (by rw[ls1];rfl) cu1,LeC.lz (by rw[ls2];rfl) cu2,trivial⟩ rfl,trivial⟩
  ·repeat (first|exact trivial|refine⟨⟨_,rfl,by first|exact LeA.c (LeC.fzP rfl rfl rfl rfl)|exact leT⟩,?_⟩)
 by_cases hi2:i<2
 rotate_left
 ·have hi2':¬(i:Int)<2:=by omega
  refine vB [7,19] ?_
  refine⟨mkSt 96 [(4,.c (bC true))] [] [],[],Wk.mk [] rfl rfl rfl ?_ trivial,rfl,rfl,aR1⟩
  exact allT
 have hi2':(i:Int)<2:=by omega
 obtain⟨x,ex,hx⟩:∃x,cellsFrom (lF (pbC p++pbC p') 0) (0+i*5) 5=pbC x∧x.bd 240:=by
  match i,hi2 with
  |0,_=>exact⟨p,rfl,(sm_bd sp).mono (by omega)⟩
  |1,_=>exact⟨p',rfl,bp'⟩
 refine vB [7,9] ?_
 refine AWp.round (fun a:Nat=>
  mkSt 96 [(5,.c (bC true)),(8,.c (.pl 1 10 (lF (pbC p++pbC p')) 0 0)),(9,.c (.pl 1 2 (lF [lsH H,lsH H']) 0 0)),(10,.c (.pl 1 3 (lF [lsI [],lsI s1,lsI s2]) 0 0)),(11,.c (iC (i:Nat))),(12,.c (iC (a:Nat)))] [] []
  ) (fun a=>a≤2) (fun a=>2-a) 0 (Nat.zero_le _) ?_ (fun a ha=> ?_)
 ·refine Wk.mk [] rfl rfl rfl ?_ trivial
  exact allT
 by_cases ha2:a<2
 rotate_left
 ·have ha2':¬(a:Int)<2:=by omega
  refine vB [8,10] ?_
  refine⟨i+1,hi2,Wk.mk [] rfl rfl rfl ?_ trivial,by omega⟩
  exact allT
 have ha2':(a:Int)<2:=by omega
 obtain⟨G,eG,hG⟩:∃G,lF [lsH H,lsH H'] 0 (0+a*1)=lsH G∧HgBd 50 G:=by
  match a,ha2 with
  |0,_=>exact⟨H,rfl,⟨by have:=hHm.bd.1;omega,fun h hh=>HgB.mono (by omega) (hHm.bd.2 h hh)⟩⟩
  |1,_=>exact⟨H',rfl,bH'⟩
 refine vB [10,12] ?_
 refine AWp.round (fun b:Nat=>
  mkSt 96 [(5,.c (bC true)),(8,.c (.pl 1 10 (lF (pbC p++pbC p')) 0 0)),(9,.c (.pl 1 2 (lF [lsH H,lsH H']) 0 0)),(10,.c (.pl 1 3 (lF [lsI [],lsI s1,lsI s2]) 0 0)),(11,.c (iC (i:Nat))),(12,.c (iC (a:Nat))),(13,.c (iC (b:Nat)))] [] []
  ) (fun b=>b≤3) (fun b=>3-b) 0 (Nat.zero_le _) ?_ (fun b hb=> ?_)
 ·refine Wk.mk [] rfl rfl rfl ?_ trivial
  exact allT
 by_cases hb3:b<3
 rotate_left
 ·have hb3':¬(b:Int)<3:=by omega
  refine vB [11,13] ?_
  refine⟨a+1,ha2,Wk.mk [] rfl rfl rfl ?_ trivial,by omega⟩
  exact allT
 have hb3':(b:Int)<3:=by omega
 obtain⟨s,eS,hs⟩:∃s,lF [lsI [],lsI s1,lsI s2] 0 (0+b*1)=lsI s∧s.length≤1000000:=by
  match b,hb3 with
  |0,_=>exact⟨[],rfl,Nat.zero_le _⟩
  |1,_=>exact⟨s1,rfl,by omega⟩
  |2,_=>exact⟨s2,rfl,by omega⟩
 obtain⟨y,e,e',he,q1,q2,q3⟩:=wfacts x hx G hG s hs
 repeat (first
  |refine vB [13,14] ?_
  |(refine AWp.draw (id:=15) mixed ?_;refine vA ?_;(first|refine qr7eo (aU (i:=i) tyOk) ?_|refine qr7eo (AList.idxArrP (i:=i) tyOk) ?_|refine qr7eo (AList.idxArrL (i:=i) tyOk) ?_);refine AList.loadAlE tyOk (ex) rfl rfl rfl rfl rfl oM ?_;refine vA ?_;(first|refine qr7eo (aU (i:=a) tyOk) ?_|refine qr7eo (AList.idxArrP (i:=a) tyOk) ?_|refine qr7eo (AList.idxArrL (i:=a) tyOk) ?_);(first|refine AList.load1lE tyOk (eG) rfl rfl rfl rfl rfl oM ?_|refine AList.load1F tyOk rfl rfl rfl rfl rfl rfl rfl oM oM (eG) ?_);refine vA ?_;(first|refine qr7eo (aU (i:=b) tyOk) ?_|refine qr7eo (AList.idxArrP (i:=b) tyOk) ?_|refine qr7eo (AList.idxArrL (i:=b) tyOk) ?_);(first|refine AList.load1lE tyOk (eS) rfl rfl rfl rfl rfl oM ?_|refine AList.load1F tyOk rfl rfl rfl rfl rfl rfl rfl oM oM (eS) ?_);refine aH rfl rfl rfl rfl Try.func11 rfl (by kernel_rfl) (q1) ?_;(iterate 6 refine vA ?_);refine aB ⟨by kernel_rfl,?_⟩)
  |(refine AWp.draw (id:=16) mixed ?_;refine vA ?_;(first|refine qr7eo (aU (i:=i) tyOk) ?_|refine qr7eo (AList.idxArrP (i:=i) tyOk) ?_|refine qr7eo (AList.idxArrL (i:=i) tyOk) ?_);refine AList.loadAlE tyOk (ex) rfl rfl rfl rfl rfl oM ?_;refine vA ?_;(first|refine qr7eo (aU (i:=a) tyOk) ?_|refine qr7eo (AList.idxArrP (i:=a) tyOk) ?_|refine qr7eo (AList.idxArrL (i:=a) tyOk) ?_);(first|refine AList.load1lE tyOk (eG) rfl rfl rfl rfl rfl oM ?_|refine AList.load1F tyOk rfl rfl rfl rfl rfl rfl rfl oM oM (eG) ?_);refine vA ?_;(first|refine qr7eo (aU (i:=b) tyOk) ?_|refine qr7eo (AList.idxArrP (i:=b) tyOk) ?_|refine qr7eo (AList.idxArrL (i:=b) tyOk) ?_);(first|refine AList.load1lE tyOk (eS) rfl rfl rfl rfl rfl oM ?_|refine AList.load1F tyOk rfl rfl rfl rfl rfl rfl rfl oM oM (eS) ?_);refine aH rfl rfl rfl rfl Try.func12 rfl (by kernel_rfl) (q2) ?_;(iterate 6 refine vA ?_);refine aB ⟨by kernel_rfl,?_⟩)
  | (refine rG 17 ?_
     (iterate 6 refine vA ?_)
     first|refine qr2 aG ?_|refine aH rfl rfl rfl rfl Try.func13 rfl (by kernel_rfl) (q3) ?_
     (iterate 2 refine vA ?_)
     refine aB ?_))
 refine⟨b+1,hb3,Wk.mk [] rfl rfl rfl ?_ trivial,by omega⟩
 exact allT
end Go.Proofs.Ytbffmfeldkjkcaa
end
section
namespace Go.Proofs.Ytbffmfeldkjkcaa.reprintWith
open Go.ChangeShapes Go.WideShapes Go.ChangeAt Go.RowKit Go.Flow Go.AV
set_option maxRecDepth 100000 in
theorem contract(H:Type)(enc:TypeId×Value→H)(W:World)(base:Nat)(args:Array Value)(ds gs:List (DataW H))(before:List MemPlace)
 (hval:∀(j:Nat) t v,Try.f3.params[j]?=some t→args[j]?=some v→Value.okWide Try.prog W .any base t v)
 (hW:DataW.Whole enc Try.prog Try.f3.params.toList Rows.reprintWithSpec.vars false W args.toList ds gs before)
 (hsz:(DataW.weightsEach Try.prog (Try.f3.params.toList++(OpenSpec.ofChange Rows.reprintWithSpec).bare.plain.varTypes Try.prog) (ds++gs)).all (·≤reachBytes)=true):
 Calls Try.prog 3 args W fun e W'=>∃v,e=.returned v∧Rows.reprintWithSpec.post enc Try.prog Try.f3 false true false false W args v W':=by
 have hW':=hW
 obtain⟨p,q,hA0,hV,rfl,hfz,hnd⟩:=hW
 have hA:DataW.TrodAll enc Try.prog W 0 (fun _=>true) true Try.f3.params.toList args.toList ds p:=hA0
 have hAk:=hA0
 rw[Try.params3]at hA hval hsz
 obtain⟨rfl,rfl⟩:=trodVars_none hV
 obtain⟨v0,vs0,d0,ds0,p0,q0,hargs,rfl,rfl,h0,t0⟩:=trodAll_cons hA
 obtain⟨v1,vs1,d1,ds1,p1,q1,rfl,rfl,rfl,h1,t1⟩:=trodAll_cons t0
 obtain⟨rfl,rfl,rfl⟩:=trodAll_nil t1
 obtain rfl:args= #[v0,v1]:=by rw[←Array.toList_inj];exact hargs
 have hlt:=fun x hx=>hW'.lt x hx
 simp only[List.append_nil]at hW'
 rw[List.append_nil]at hsz
 obtain⟨a0,ok0,r0⟩:=opn_ca30.argS Try.underlying27 (hval 0 27 v0 rfl rfl) h0 (weigh hsz 0 (t:=27) (d:=d0) rfl rfl)
 obtain⟨a1,ok1,r1⟩:=opn_ints.argC (cells_slice Try.underlying23 (hval 1 23 v1 rfl rfl)) h1 (weigh hsz 1 (t:=23) (d:=d1) rfl rfl)
 refine((ECalls.of (ReprintWith_A a0 ok0 a1 ok1.1)) O0 W [_,_] (fun b h=>h.elim) ⟨r0,r1,trivial⟩).mono fun e W' ⟨v,r,he,hr,hv,hE⟩=> ?_
 subst hr
 obtain rfl:v=.bool true:=hv.2
 subst he
 exact⟨_,rfl,post_below (pv:= []) hW' (fun _ _ _=>trodAll_cons_mk (shut_bool Try.underlying4 _) trodAll_mk0)
  (fun sp hsp=>trodAll_below laidOut hE (by rw[Try.params3];intro t ht;simp only[List.mem_cons,List.not_mem_nil,or_false]at ht;rcases ht with rfl|rfl<;>exact⟨by kernel_rfl,of_decide_eq_true (by kernel_rfl)⟩) hAk (fun x hx=>hlt x (by rw[List.append_nil];exact hx)) sp (fun x hx=>hsp x (by simpa only[List.append_nil]using hx)))
  (fun _ _=>rfl) (by simp) hE (ok_one (by kernel_rfl) rfl (okWide_bool_mk Try.underlying4 _))⟩
theorem own:ownKnob Try.prog.godebug=none:=by kernel_rfl
set_option maxRecDepth 100000 in
theorem lifted(os:Os)(started:os.Started)(H:Type)(enc:TypeId×Value→H):
 ReturnsInHanded {} Try.checked os 3 .any (Rows.reprintWithSpec.pre6 enc Try.prog Try.f3 Rows.reprintWithRow.domain false) (Rows.reprintWithSpec.post enc Try.prog Try.f3 false true false false):=by
 refine returnsInHanded_of_change_sized (C:=Try.checked) own started (by kernel_rfl) Try.func3
  (ChangeSpec.witness6 (enc:=enc) (C:=Try.checked) false ⟨#[], #[.agg #[.slice none 0 0,.slice none 0 0,.slice none 0 0,.int .i64 0,.int .i64 0,.int .i64 0,.int .i64 0,.int .i64 0],.slice none 0 0],[]⟩ 8 (by kernel_rfl) (by kernel_rfl) (by kernel_rfl) (by kernel_rfl)) ?_
 intro W base args ds gs before hval hW _ hsz _
 exact contract H enc W base args ds gs before hval hW hsz
theorem said:Rows.ReprintWithSaid:=
 OpenClaim.holds_of_wide 3 Try.f3 rfl rfl rfl rfl rfl rfl rfl ⟨rfl,rfl,rfl,rfl,rfl⟩ rfl rfl rfl rfl rfl (by kernel_rfl) Try.func3 (by kernel_rfl)
  (of_decide_eq_true (by kernel_rfl)) (by unfold Func.isWrapper;first|(rw[if_pos (by decide +kernel)];kernel_rfl)|(rw[if_neg (by decide +kernel)];exact⟨rfl,rfl⟩))
  (fun os started H enc _=>lifted os started H enc)
end Go.Proofs.Ytbffmfeldkjkcaa.reprintWith
end
