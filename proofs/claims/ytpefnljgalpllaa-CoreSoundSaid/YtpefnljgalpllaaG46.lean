/- Parts of the proof: A29k, A29l. -/
import Derived.Test.YtpefnljgalpllaaG45
set_option linter.unusedSimpArgs false
set_option linter.unusedVariables false
set_option maxHeartbeats 0
section
namespace Go.Proofs.Ytpefnljgalpllaa
open Go.RowKit Go.Flow Go.AV Go.Plain
abbrev wkL(p:Pb)(ch:List Int)(out:List Stp)(q r:Nat):List AB:= [bxT 1001,tbB p q,bxO r,bxW p 1000 1002 1003]
set_option maxRecDepth 100000 in
theorem walk_M(p:Pb)(hp:p.fit):∀(m:Nat) (ch:List Int) (out:List Stp),ch.length+m=p.C.length→ChOk p ch→deadP p m ch→out.length+(walkV p m ch).length≤1000000→
 GMCalls Try.prog 40 [.c (.pt 1000 1 0 0),.c (plP p),.c (.pt 1002 1 0 0),.c (.pt 1003 1 0 0)] (wkL p ch out 800 801) [chI ch,stR out] (.tu []) (wkL p ch (out++walkV p m ch) 900 901) [chI ch,stR (out++walkV p m ch)]
 |0,_,_,_,_,h,_=>h.elim
 | m + 1,ch,out,hm,hc,hd,hlen=>by
   have hi:ch.length<p.C.length:=by omega
   have lC:=hp.c
   have lO:=hp.o
   have hL32:=hp.l _ (getD_mem28 (L:=p.C) (k:=ch.length) (z:= []) hi)
   have hcF:chF p.C ch.length 0=lsB (p.C.getD ch.length []):=rfl
   have h80:((800+0,chI ch):Nat×AB).snd.n=ch.length:=rfl
   have hih:=walk_M p hp m
   have hwv:walkV p (m+1) ch=walkN p m ch (p.C.getD ch.length []).length:=rfl
   rw[hwv]at hlen⊢
   have hst:=step_M p hp ch hc
   obtain⟨n,hn⟩:∃n,(p.C.getD ch.length []).length=n:=⟨_,rfl⟩
   rw[hn]at hlen⊢
   refine gm_at Try.func40 rfl rfl Try.ntmps40 rfl ?_
   repeat (first
    |refine vB [0] ?_
    | (refine rG 1 ?_
       (iterate 3 refine vA ?_)
       refine qr8eo2 (aP (k:=ch.length) tyOk) ?_
       refine AList.load1lE tyOk (hcF) rfl rfl rfl rfl rfl oM ?_
       (iterate 2 refine vA ?_)
       refine aB ?_))
   refine AWp.round (fun c:Nat=>mkG (fun _=>True) 0 false 52 4 [(0,.c (.pt 1000 1 0 0)),(1,.c (plP p)),(2,.c (.pt 1002 1 0 0)),(3,.c (.pt 1003 1 0 0)),(4,.c (iC (ch.length:Nat))),(17,.c (iC (n:Nat))),(18,.c (iC (c:Nat)))] [(30,chI ch),(31,stR (out++walkN p m ch c)),(1000,bxT 1001),(1001,tbB p 30),(1002,bxO 31),(1003,bxW p 1000 1002 1003)] [30,31]) (fun c=>c≤n) (fun c=>n-c) 0 (Nat.zero_le _) ?_ (fun c hcn=> ?_)
   ·refine Wk.mkG [(30,some 800),(31,some 801)] rfl rfl rfl rfl rfl ?_ ?_ rfl rfl (fun _ _=>trivial)
    ·rw[←hn]
     repeat (first|exact trivial|refine⟨⟨_,rfl,by first|exact LeA.c (LeC.ptB _ _ _ _ rfl)|exact leT⟩,?_⟩)
    ·exact⟨HeapOk.row rfl rfl rfl (fun _ _=>cell1 ⟨rfl,rfl⟩),HeapOk.row rfl rfl (by rw[show walkN p m ch 0= []from rfl,List.append_nil]) (fun i _ j _=>⟨by rw[show walkN p m ch 0= []from rfl,List.append_nil],rowF_imm stC_imm _ i j⟩),
     HeapOk.lentC rfl rfl ⟨LeC.ptB _ _ _ _ rfl,trivial⟩ rfl,HeapOk.lentC rfl rfl ⟨LeC.refl _ rfl,LeC.refl _ rfl,LeC.refl _ rfl,LeC.refl _ rfl,LeC.refl _ rfl,LeC.ow _ _ rfl,trivial⟩ rfl,HeapOk.lentC rfl rfl ⟨LeC.ow _ _ rfl,trivial⟩ rfl,HeapOk.lentC rfl rfl ⟨wk_le rfl rfl rfl,trivial⟩ rfl,trivial⟩
   by_cases hcl:c<n
   rotate_left
   ·have hcl':¬(c:Int)<n:=by omega
    obtain rfl:c=n:=by omega
    refine vB [2] ?_
    refine⟨mkG (fun _=>True) 0 false 52 4 [] (endL [chI ch,stR (out++walkN p m ch c)] (wkL p ch out 900 901)) [900,901],[],_,_,_,⟨rfl,rfl,rfl⟩,rfl,Wk.mkG [(900,some 30),(901,some 31)] rfl rfl rfl rfl rfl trivial ?_ rfl rfl (fun _ _=>trivial),rfl,rfl,GRets.no⟩
    exact⟨HeapOk.row rfl rfl rfl (fun _ _=>cell1 ⟨rfl,rfl⟩),hrF stC_imm,
     HeapOk.lentC rfl rfl ⟨LeC.ptB _ _ _ _ rfl,trivial⟩ rfl,HeapOk.lentC rfl rfl ⟨LeC.refl _ rfl,LeC.refl _ rfl,LeC.refl _ rfl,LeC.refl _ rfl,LeC.refl _ rfl,LeC.ow _ _ rfl,trivial⟩ rfl,HeapOk.lentC rfl rfl ⟨LeC.ow _ _ rfl,trivial⟩ rfl,HeapOk.lentC rfl rfl ⟨wk_le rfl rfl rfl,trivial⟩ rfl,trivial⟩
   have hcl':(c:Int)<n:=by omega
   have hsc:=hst c hi (by rw[hn];exact hcl)
   have hdd:(stepV p ch c).dp=true→deadP p m (ch++ [(c:Int)]):=hd c (by rw[hn];exact hcl)
   have hck:ChOk p (ch++ [(c:Int)]):=hc.snoc (hp.pk hi (by rw[hn];exact hcl))
   have hws:walkN p m ch (c+1)=walkN p m ch c++(stepV p ch c::(if (stepV p ch c).dp=true then walkV p m (ch++ [(c:Int)])else [])):=walkN_succ
   have hwl:=walkN_len (p:=p) (m:=m) (ch:=ch) (show c+1≤n by omega)
   obtain⟨O,hO⟩:∃O,out++walkN p m ch c=O:=⟨_,rfl⟩
   have hOl:O.length≤1000000:=by
    have:=walkN_len (p:=p) (m:=m) (ch:=ch) (show c≤n by omega)
    rw[←hO,List.length_append];omega
   have h81:((31,stR O):Nat×AB).snd.n=O.length:=rfl
   have hO2:out++walkN p m ch (c+1)=(O++ [stepV p ch c])++(if (stepV p ch c).dp=true then walkV p m (ch++ [(c:Int)])else []):=by
    rw[hws,←List.append_assoc,hO,List.append_assoc]
    rfl
   rw[hO]
   have hO2l:(out++walkN p m ch (c+1)).length≤1000000:=by rw[List.length_append];omega
   obtain⟨s,hs⟩:∃s,stepV p ch c=s:=⟨_,rfl⟩
   rw[hs]at hsc hdd hO2
   obtain⟨nm,sc,wi,rd,dp,cl⟩:=s
   cases dp with
   | false=>
     rw[hO2,show(if (⟨nm,sc,wi,rd,false,cl⟩:Stp).dp=true then walkV p m (ch++ [(c:Int)])else [])= []from rfl,List.append_nil]at hO2l
     rw[show(if (⟨nm,sc,wi,rd,false,cl⟩:Stp).dp=true then walkV p m (ch++ [(c:Int)])else [])= []from rfl,List.append_nil]at hO2
     repeat (first
      |refine vB [2,3,6,10] ?_
      | (refine rG 4 ?_
         (iterate 2 refine vA ?_)
         refine AList.callM [1001] [30] [33] [tbB p 800] [chI ch] [tbB p 900] [chI ch] [tbB p 33] [chI ch] rfl rfl FnV.func rfl Try.func41 rfl (by kernel_rfl) (tb_lend 0 rfl rfl trivial) (⟨⟨_,rfl,rfl,fun _ _ _ _=>⟨rfl,rfl⟩⟩,trivial⟩) rfl (by exact⟨.c (.b (.pt 1001 0 6 0 0 rfl)),.c (.b (.imm _ rfl)),trivial⟩) (.ag (backI (stC_imm _))) (tb_back 0 rfl trivial) (⟨⟨_,rfl,fun _ _ _ _=>.imm _ rfl⟩,trivial⟩) (hsc) ?_
         (iterate 2 refine vA ?_)
         refine aB ?_)
      | (refine rG 5 ?_
         (iterate 3 refine vA ?_)
         refine AList.appL tyOk rfl rfl rfl rfl rfl rfl rfl rfl rfl rfl oM oM ?_
         refine vA ?_
         refine aB ?_))
     refine⟨c+1,hcl,?_,by omega⟩
     rw[hO2]
     refine Wk.mkG [(30,some 33),(31,some 27)] rfl rfl rfl rfl rfl ?_ ?_ rfl rfl (fun _ _=>trivial)
     ·repeat (first|exact trivial|refine⟨⟨_,rfl,by first|exact LeA.c (LeC.ptB _ _ _ _ rfl)|exact leT⟩,?_⟩)
     ·exact⟨HeapOk.row rfl rfl rfl (fun _ _=>cell1 ⟨rfl,rfl⟩),HeapOk.row rfl rfl List.length_append (row_snoc _ _ stC_imm rfl),
       HeapOk.lentC rfl rfl ⟨LeC.ptB _ _ _ _ rfl,trivial⟩ rfl,HeapOk.lentC rfl rfl ⟨LeC.refl _ rfl,LeC.refl _ rfl,LeC.refl _ rfl,LeC.refl _ rfl,LeC.refl _ rfl,LeC.ow _ _ rfl,trivial⟩ rfl,HeapOk.lentC rfl rfl ⟨LeC.ow _ _ rfl,trivial⟩ rfl,HeapOk.lentC rfl rfl ⟨wk_le rfl rfl rfl,trivial⟩ rfl,trivial⟩
   | true=>
     rw[hO2,List.length_append]at hO2l
     replace hO2l:(O++ [(⟨nm,sc,wi,rd,true,cl⟩:Stp)]).length+(walkV p m (ch++ [(c:Int)])).length≤1000000:=hO2l
     replace hO2:out++walkN p m ch (c+1)=(O++ [(⟨nm,sc,wi,rd,true,cl⟩:Stp)])++walkV p m (ch++ [(c:Int)]):=hO2
     have hw:=hih (ch++ [(c:Int)]) (O++ [(⟨nm,sc,wi,rd,true,cl⟩:Stp)]) (by rw[List.length_append,List.length_singleton];omega) hck (hdd rfl) hO2l
     rw[←hO2]at hw
     obtain⟨O2,hO22⟩:∃O2,out++walkN p m ch (c+1)=O2:=⟨_,rfl⟩
     rw[hO22]at hw hO2
     repeat (first
      |refine vB [2,3,6] ?_
      | (refine rG 4 ?_
         (iterate 2 refine vA ?_)
         refine AList.callM [1001] [30] [33] [tbB p 800] [chI ch] [tbB p 900] [chI ch] [tbB p 33] [chI ch] rfl rfl FnV.func rfl Try.func41 rfl (by kernel_rfl) (tb_lend 0 rfl rfl trivial) (⟨⟨_,rfl,rfl,fun _ _ _ _=>⟨rfl,rfl⟩⟩,trivial⟩) rfl (by exact⟨.c (.b (.pt 1001 0 6 0 0 rfl)),.c (.b (.imm _ rfl)),trivial⟩) (.ag (backI (stC_imm _))) (tb_back 0 rfl trivial) (⟨⟨_,rfl,fun _ _ _ _=>.imm _ rfl⟩,trivial⟩) (hsc) ?_
         (iterate 2 refine vA ?_)
         refine aB ?_)
      | (refine rG 5 ?_
         (iterate 3 refine vA ?_)
         refine AList.appL tyOk rfl rfl rfl rfl rfl rfl rfl rfl rfl rfl oM oM ?_
         refine vA ?_
         refine aB ?_)
      |(refine AWp.draw (id:=7) mixed ?_;(iterate 7 refine vA ?_);refine AList.appL tyOk rfl rfl rfl rfl rfl rfl rfl rfl rfl rfl oM oM ?_;(iterate 3 refine vA ?_);refine aB ⟨by kernel_rfl,?_⟩))
     refine AWp.weak (S':=mkG (fun _=>True) 0 false 52 4 [(0,.c (.pt 1000 1 0 0)),(1,.c (plP p)),(2,.c (.pt 1002 1 0 0)),(3,.c (.pt 1003 1 0 0)),(4,.c (iC (ch.length:Nat))),(17,.c (iC (n:Nat))),(18,.c (iC (c:Nat)))] [(30,chI (ch++ [(c:Int)])),(31,stR (O++ [(⟨nm,sc,wi,rd,true,cl⟩:Stp)])),(1000,bxT 1001),(1001,tbB p 30),(1002,bxO 31),(1003,bxW p 1000 1002 1003)] [30,31]) (Wk.mkG [(30,some 37),(31,some 27)] rfl rfl rfl rfl rfl ?_ ?_ rfl rfl (fun _ _=>trivial)) ?_
     ·repeat (first|exact trivial|refine⟨⟨_,rfl,by first|exact LeA.c (LeC.ptB _ _ _ _ rfl)|exact leT⟩,?_⟩)
     ·exact⟨HeapOk.row rfl rfl List.length_append (chI_snoc ch c),HeapOk.row rfl rfl List.length_append (row_snoc _ _ stC_imm rfl),
      HeapOk.lentC rfl rfl ⟨LeC.ptB _ _ _ _ rfl,trivial⟩ rfl,HeapOk.lentC rfl rfl ⟨LeC.refl _ rfl,LeC.refl _ rfl,LeC.refl _ rfl,LeC.refl _ rfl,LeC.refl _ rfl,LeC.ow _ _ rfl,trivial⟩ rfl,HeapOk.lentC rfl rfl ⟨LeC.ow _ _ rfl,trivial⟩ rfl,HeapOk.lentC rfl rfl ⟨wk_le rfl rfl rfl,trivial⟩ rfl,trivial⟩
     have h34:ch.length≤((34,chI (ch++ [(c:Int)])):Nat×AB).snd.n:=by show _≤(ch++ [(c:Int)]).length;rw[List.length_append];omega
     repeat (first
      |refine vB [10] ?_
      | (refine rG 8 ?_
         refine vA ?_
         refine AList.callM [1000,1001,1002,1003] [30,31] [34,35] (wkL p ch O 800 801) [chI (ch++ [(c:Int)]),stR (O++ [(⟨nm,sc,wi,rd,true,cl⟩:Stp)])] (wkL p ch O 900 901) [chI (ch++ [(c:Int)]),stR O2] (wkL p ch O 34 35) [chI (ch++ [(c:Int)]),stR O2] rfl rfl (FnV.fn 4 (wkC p 1000 1002 1003) rfl rfl) rfl Try.func40 rfl (by kernel_rfl) (bxT_lend 1 rfl rfl (tb_lend 0 rfl rfl (bxO_lend 1 rfl rfl (bxW_lend 0 2 3 rfl rfl rfl rfl trivial)))) (⟨⟨_,rfl,rfl,fun _ _ _ _=>⟨rfl,rfl⟩⟩,⟨_,rfl,rfl,fun i _ j _=>⟨rfl,rowF_imm stC_imm _ i j⟩⟩,trivial⟩) rfl (by exact⟨.c (.b (.pt 1000 0 1 0 0 rfl)),.c (.b (.imm _ rfl)),.c (.b (.pt 1002 2 1 0 0 rfl)),.c (.b (.pt 1003 3 1 0 0 rfl)),trivial⟩) (.tu (l:= []) (m:= []) trivial) (bxT_back 1 rfl (tb_back 0 rfl (bxO_back 1 rfl (bxW_back 0 2 3 rfl rfl rfl trivial)))) (⟨⟨_,rfl,fun _ _ _ _=>.imm _ rfl⟩,⟨_,rfl,fun i _ j _=>.imm _ (rowF_imm stC_imm _ i j)⟩,trivial⟩) (hw) ?_
         refine aB ?_)
      |(refine AWp.draw (id:=9) mixed ?_;(iterate 6 refine vA ?_);refine AList.cutOw (m:=ch.length) tyOk rfl rfl rfl rfl rfl rfl rfl rfl rfl ⟨_,_,rfl,by first|rfl|omega⟩ (by omega) ?_;(iterate 3 refine vA ?_);refine aB ⟨by kernel_rfl,?_⟩))
     refine⟨c+1,hcl,?_,by omega⟩
     rw[hO22]
     refine Wk.mkG [(30,some 48),(31,some 35)] rfl rfl rfl rfl rfl ?_ ?_ rfl rfl (fun _ _=>trivial)
     ·repeat (first|exact trivial|refine⟨⟨_,rfl,by first|exact LeA.c (LeC.ptB _ _ _ _ rfl)|exact leT⟩,?_⟩)
     ·exact⟨HeapOk.row rfl rfl rfl (fun k hk=>cell1 ⟨congrArg iC (fI_ap1 hk),rfl⟩),hrF stC_imm,
      HeapOk.lentC rfl rfl ⟨LeC.ptB _ _ _ _ rfl,trivial⟩ rfl,HeapOk.lentC rfl rfl ⟨LeC.refl _ rfl,LeC.refl _ rfl,LeC.refl _ rfl,LeC.refl _ rfl,LeC.refl _ rfl,LeC.ow _ _ rfl,trivial⟩ rfl,HeapOk.lentC rfl rfl ⟨LeC.ow _ _ rfl,trivial⟩ rfl,HeapOk.lentC rfl rfl ⟨wk_le rfl rfl rfl,trivial⟩ rfl,trivial⟩
abbrev lsSt(l:List Stp):CV:=.ls l.length 8 (rowF stC stZ l)
def refuteV(p:Pb):List Stp×Int:=if chkP p=0 then (if unsV p=0 then (walkV p p.C.length [],0)else ([],unsV p))else ([],chkP p)
set_option maxRecDepth 100000 in
theorem Refute_A(p:Pb)(hp:p.ok)(hd:chkP p=0→unsV p=0→deadP p p.C.length []∧(walkV p p.C.length []).length≤1000000):ACalls Try.prog 15 [.ag (pbC p)] (.tu [.c (lsSt (refuteV p).1),.c (iC (refuteV p).2)]):=by
 have hC:=Check28_A p hp
 have hfit:= @chkP_fit p hp
 unfold refuteV
 obtain⟨e,he⟩:∃e,chkP p=e:=⟨_,rfl⟩
 rw[he]at hC hd hfit⊢
 by_cases h0:e=0
 rotate_left
 ·rw [if_neg h0]
  refine acalls_at Try.func15 rfl rfl Try.ntmps15 rfl ?_
  repeat (first
   |refine vB [0,2,3] ?_
   | (refine rG 1 ?_
      refine vA ?_
      refine aH rfl rfl rfl rfl Try.func30 rfl (by kernel_rfl) (hC) ?_
      refine vA ?_
      refine aB ?_))
  refine⟨mkSt 26 [(2,.c (lsSt ([]))),(3,.c (iC (e)))] [] [],[],Wk.mk [] rfl rfl rfl ?_ trivial,rfl,rfl,ARets.two (x:=.c _) (y:=.c _) (ARes.tmp rfl rfl) (ARes.tmp rfl rfl)⟩
  exact⟨⟨_,rfl,.c (LeC.nils _ _)⟩,⟨_,rfl,.c (LeC.refl _ rfl)⟩,trivial⟩
 subst h0
 have hU:=uns_A p hp
 rw[if_pos rfl]
 obtain⟨u,hu⟩:∃u,unsV p=u:=⟨_,rfl⟩
 rw[hu]at hU hd⊢
 by_cases hu0:u=0
 rotate_left
 ·rw [if_neg hu0]
  refine acalls_at Try.func15 rfl rfl Try.ntmps15 rfl ?_
  repeat (first
   |refine vB [0,2,5,6] ?_
   | (refine rG 1 ?_
      refine vA ?_
      refine aH rfl rfl rfl rfl Try.func30 rfl (by kernel_rfl) (hC) ?_
      refine vA ?_
      refine aB ?_)
   | (refine rG 4 ?_
      refine vA ?_
      refine aH rfl rfl rfl rfl Try.func37 rfl (by kernel_rfl) (hU) ?_
      refine vA ?_
      refine aB ?_))
  refine⟨mkSt 26 [(2,.c (lsSt ([]))),(3,.c (iC (u)))] [] [],[],Wk.mk [] rfl rfl rfl ?_ trivial,rfl,rfl,ARets.two (x:=.c _) (y:=.c _) (ARes.tmp rfl rfl) (ARes.tmp rfl rfl)⟩
  exact⟨⟨_,rfl,.c (LeC.nils _ _)⟩,⟨_,rfl,.c (LeC.refl _ rfl)⟩,trivial⟩
 subst hu0
 rw[if_pos rfl]
 obtain⟨hd1,hd2⟩:=hd rfl rfl
 have hw:=walk_M p (hfit rfl) p.C.length [] [] (Nat.zero_add _) (fun k hk=>absurd hk (Nat.not_lt_zero _)) hd1 (by simpa using hd2)
 rw[List.nil_append]at hw
 obtain⟨W,hW⟩:∃W,walkV p p.C.length []=W:=⟨_,rfl⟩
 rw[hW]at hw⊢
 refine acalls_at Try.func15 rfl rfl Try.ntmps15 rfl ?_
 repeat (first
  |refine vB [0,2,5,7,8,9] ?_
  | (refine rG 1 ?_
     refine vA ?_
     refine aH rfl rfl rfl rfl Try.func30 rfl (by kernel_rfl) (hC) ?_
     refine vA ?_
     refine aB ?_)
  | (refine rG 4 ?_
     refine vA ?_
     refine aH rfl rfl rfl rfl Try.func37 rfl (by kernel_rfl) (hU) ?_
     refine vA ?_
     refine aB ?_)
  | (refine rG 10 ?_
     refine qr5 AList.makeFn ?_
     refine vA ?_
     refine aB ?_))
 refine AWp.weak (S':=mkSt 26 [(6,.c (.pt 6 1 0 0)),(8,.c (.pt 8 1 0 0))] [(7,bxT 21),(21,tbB p 30),(6,bxO 31),(8,bxW p 7 6 8),(30,chI []),(31,stR [])] [6,7,8,21,30,31]) (Wk.mk [(6,some 6),(7,some 7),(8,some 8),(21,some 21),(30,none),(31,none)] rfl rfl rfl ?_ ?_) ?_
 ·exact allT
 ·refine⟨HeapOk.box rfl rfl ⟨LeC.pt _ _ _ _ _ rfl,trivial⟩ rfl,HeapOk.box rfl rfl ⟨LeC.refl _ rfl,LeC.refl _ rfl,LeC.refl _ rfl,LeC.refl _ rfl,LeC.refl _ rfl,LeC.nil _ rfl,trivial⟩ rfl,HeapOk.box rfl rfl ⟨LeC.nil _ rfl,trivial⟩ rfl,HeapOk.box rfl rfl ⟨LeC.fn _ 4 _ _ (fun i hi=> ?_) (fun i hi=> ?_),trivial⟩ rfl,HeapOk.nil rfl rfl,HeapOk.nil rfl rfl,trivial⟩
  all_goals
   obtain rfl|rfl|rfl|rfl:i=0∨i=1∨i=2∨i=3:=by omega
  ·exact⟨trivial,trivial⟩
  ·exact⟨trivial,trivial⟩
  ·exact⟨trivial,trivial⟩
  ·exact⟨trivial,trivial⟩
  ·exact .pt _ _ _ _ _ rfl
  ·exact LeC.fzP rfl rfl rfl rfl
  ·exact .pt _ _ _ _ _ rfl
  ·exact .pt _ _ _ _ _ rfl
 repeat (first
  |refine vB [12] ?_
  | (refine rG 11 ?_
     refine vA ?_
     refine AList.callM [7,21,6,8] [30,31] [34,35] (wkL p [] [] 800 801) [chI [],stR []] (wkL p [] W 900 901) [chI [],stR W] [bxT 21,tbB p 34,bxO 35,bxW p 7 6 8] [chI [],stR W] rfl rfl (FnV.fn 4 (wkC p 7 6 8) rfl rfl) rfl Try.func40 rfl (by kernel_rfl) (bxT_lend 1 rfl rfl (tb_lend 0 rfl rfl (bxO_lend 1 rfl rfl (bxW_lend 0 2 3 rfl rfl rfl rfl trivial)))) (⟨⟨_,rfl,rfl,fun _ _ _ _=>⟨rfl,rfl⟩⟩,⟨_,rfl,rfl,fun i _ j _=>⟨rfl,rowF_imm stC_imm _ i j⟩⟩,trivial⟩) rfl (by exact⟨.c (.b (.pt 7 0 1 0 0 rfl)),.c (.b (.imm _ rfl)),.c (.b (.pt 6 2 1 0 0 rfl)),.c (.b (.pt 8 3 1 0 0 rfl)),trivial⟩) (.tu (l:= []) (m:= []) trivial) (bxT_back 1 rfl (tb_back 0 rfl (bxO_back 1 rfl (bxW_back 0 2 3 rfl rfl rfl trivial)))) (⟨⟨_,rfl,fun _ _ _ _=>.imm _ rfl⟩,⟨_,rfl,fun i _ j _=>.imm _ (rowF_imm stC_imm _ i j)⟩,trivial⟩) (hw) ?_
     refine aB ?_))
 refine⟨mkSt 26 [(2,.c (lsSt (W))),(3,.c (iC (0)))] [] [],[],Wk.mk [] rfl rfl rfl ?_ trivial,rfl,rfl,ARets.two (x:=.c _) (y:=.c _) (ARes.tmp rfl rfl) (ARes.tmp rfl rfl)⟩
 exact⟨⟨_,rfl,.c (LeC.fz rfl rfl rfl (fun i _ j _=>⟨rfl,rowF_imm stC_imm _ i j⟩))⟩,⟨_,rfl,.c (LeC.refl _ rfl)⟩,trivial⟩
end Go.Proofs.Ytpefnljgalpllaa
end
