/- Parts of the proof: A29t, A29u, A29v, A29w, A29x, A29y, A29za. -/
import Derived.Test.YtpefnljgalpllaaG49
set_option linter.unusedSimpArgs false
set_option linter.unusedVariables false
set_option maxHeartbeats 0
section
namespace Go.Proofs.Ytpefnljgalpllaa
open Go.RowKit Go.Flow Go.AV Go.Plain
abbrev ck2(p:Pb)(l:List Stp):St:=mkSt 20 [(1,.c (lsSt l)),(2,.c (plP p)),(4,.c (.pt 4 1 0 0))] [(4,bxE)] [4]
set_option maxRecDepth 100000 in
theorem Check_A(p:Pb)(hp:p.ok)(l:List Stp)(hl:l.length≤1000000):ACalls Try.prog 17 [.ag (pbC p),.c (lsSt l)] (.c (iC (checkV p l))):=by
 have hC:=Check28_A p hp
 have hfit:= @chkP_fit p hp
 unfold checkV
 obtain⟨e,he⟩:∃e,chkP p=e:=⟨_,rfl⟩
 rw[he]at hC hfit⊢
 by_cases h0:e=0
 rotate_left
 ·rw [if_neg h0]
  refine acalls_at Try.func17 rfl rfl Try.ntmps17 rfl ?_
  repeat (first
   |refine vB [0,2,3] ?_
   | (refine rG 1 ?_
      refine vA ?_
      refine aH rfl rfl rfl rfl Try.func30 rfl (by kernel_rfl) (hC) ?_
      refine vA ?_
      refine aB ?_))
  refine⟨mkSt 20 [(4,.c (.pt 4 1 0 0))] [(4,⟨false,1,1,36,lF [iC e]⟩)] [4],[(4,⟨false,1,1,36,lF [iC e]⟩)],Wk.mk [(4,some 4)] rfl rfl rfl ?_ ?_,rfl,rfl,ARets.one (x:=.c _) (ARes.box1 tyOk rfl rfl rfl rfl rfl rfl)⟩
  ·exact allT
  ·exact⟨hSm,trivial⟩
 subst h0
 rw[if_pos rfl]
 obtain⟨hF1,hF2⟩:=follow_MD p (hfit rfl) p.C.length [] l (Nat.zero_add _) (fun k hk=>absurd hk (Nat.not_lt_zero _)) hl
 cases hv:followV p p.C.length [] l with
 | none =>
   rw[if_neg (by simp)]
   refine acalls_defer (t:=4) (g:=43) (S1:=ck2 p l) (S2:=ck2 p l) (Qz:=fun e S=>e=.panic wrongP∧Wk S chZ) rfl Try.func17 rfl Try.ntmps17 rfl ?_ ?_ ?_ ?_
   ·refine vB [0] ?_
    refine⟨rfl,?_⟩
    repeat (first
     |refine vB [2] ?_
     | (refine rG 1 ?_
        refine vA ?_
        refine aH rfl rfl rfl rfl Try.func30 rfl (by kernel_rfl) (hC) ?_
        refine vA ?_
        refine aB ?_))
    refine⟨rfl,Wk.mk [(4,some 4)] rfl rfl rfl ?_ ?_⟩
    ·repeat (first|exact trivial|refine⟨⟨_,rfl,by first|exact LeA.c (LeC.fzP rfl rfl rfl rfl)|exact leT⟩,?_⟩)
    ·exact⟨hSm,trivial⟩
   ·refine ADt.split 1 ?_
    refine qr5 AList.makeFn ?_
    refine aB ?_
    refine ADt.defer rfl rfl rfl rfl (Wk.mk [(4,some 4)] rfl rfl rfl ?_ ?_)
    ·exact allT
    ·exact⟨hSm,trivial⟩
   ·have hdie:=hF2 hv
    refine DWp.seq (DWp.die rfl (fun _ h=>by cases h.1) ?_)
    refine ADie.split 4 ?_
    (iterate 4 refine vA ?_)
    refine aB ?_
    refine ADie.weak (S':=mkSt 20 [(4,.c (.pt 4 1 0 0)),(14,.c (.pt 14 6 0 0)),(15,.c (lsSt l))] [(4,bxE),(14,tbB p 30),(30,chI [])] [4,14,30]) (Wk.mk [(4,some 4),(14,some 14),(30,none)] rfl rfl rfl ?_ ?_) ?_
    ·exact allT
    ·exact⟨hSm,HeapOk.box rfl rfl ⟨LeC.refl _ rfl,LeC.refl _ rfl,LeC.refl _ rfl,LeC.refl _ rfl,LeC.refl _ rfl,LeC.nil _ rfl,trivial⟩ rfl,HeapOk.nil rfl rfl,trivial⟩
    refine ADie.call [14] [30] [] [tbB p 800] [chI []] [tbX p] [] [tbX p] [] rfl FnV.func rfl Try.func45 rfl (by kernel_rfl) (tb_lend 0 rfl rfl trivial) (⟨⟨_,rfl,rfl,fun _ _ _ _=>⟨rfl,rfl⟩⟩,trivial⟩) rfl (by exact⟨.c (.b (.pt 14 0 6 0 0 rfl)),.c (.b (.imm _ rfl)),trivial⟩) (tbX_back trivial) (trivial) (hdie) ?_
    refine⟨rfl,Wk.mk [(4,some 4)] rfl rfl rfl ?_ ?_⟩
    ·exact allT
    ·exact⟨hSm,trivial⟩
   ·intro b2 a a' w u ds e S hY hV hR hi ⟨h1,h2⟩
    subst h1
    exact ch_bad hY hV (h2 b2 a w hR) hi
 | some x=>
   have hgo:=hF1 x hv
   by_cases hx:x= []
   ·subst hx
    rw[if_pos rfl]
    refine acalls_defer (t:=4) (g:=43) (S1:=ck2 p l) (S2:=ck2 p l) (Qz:=fun e S=>e=.ret∧Wk S chZ) rfl Try.func17 rfl Try.ntmps17 rfl ?_ ?_ ?_ ?_
    ·refine vB [0] ?_
     refine⟨rfl,?_⟩
     repeat (first
      |refine vB [2] ?_
      | (refine rG 1 ?_
         refine vA ?_
         refine aH rfl rfl rfl rfl Try.func30 rfl (by kernel_rfl) (hC) ?_
         refine vA ?_
         refine aB ?_))
     refine⟨rfl,Wk.mk [(4,some 4)] rfl rfl rfl ?_ ?_⟩
     ·repeat (first|exact trivial|refine⟨⟨_,rfl,by first|exact LeA.c (LeC.fzP rfl rfl rfl rfl)|exact leT⟩,?_⟩)
     ·exact⟨hSm,trivial⟩
    ·refine ADt.split 1 ?_
     refine qr5 AList.makeFn ?_
     refine aB ?_
     refine ADt.defer rfl rfl rfl rfl (Wk.mk [(4,some 4)] rfl rfl rfl ?_ ?_)
     ·exact allT
     ·exact⟨hSm,trivial⟩
    ·refine DWp.seq (DWp.text rfl (fun _ h=>by cases h.1) ?_)
     refine AText.split 4 ?_
     (iterate 4 refine vA ?_)
     refine aB ?_
     refine AText.weak (S':=mkSt 20 [(4,.c (.pt 4 1 0 0)),(14,.c (.pt 14 6 0 0)),(15,.c (lsSt l))] [(4,bxE),(14,tbB p 30),(30,chI [])] [4,14,30]) (Wk.mk [(4,some 4),(14,some 14),(30,none)] rfl rfl rfl ?_ ?_) ?_
     ·exact allT
     ·exact⟨hSm,HeapOk.box rfl rfl ⟨LeC.refl _ rfl,LeC.refl _ rfl,LeC.refl _ rfl,LeC.refl _ rfl,LeC.refl _ rfl,LeC.nil _ rfl,trivial⟩ rfl,HeapOk.nil rfl rfl,trivial⟩
     refine AText.all ?_
     refine AList.callM [14] [30] [31] [tbB p 800] [chI []] [tbB p 900] [chI []] [tbB p 31] [chI []] rfl rfl FnV.func rfl Try.func45 rfl (by kernel_rfl) (tb_lend 0 rfl rfl trivial) (⟨⟨_,rfl,rfl,fun _ _ _ _=>⟨rfl,rfl⟩⟩,trivial⟩) rfl (by exact⟨.c (.b (.pt 14 0 6 0 0 rfl)),.c (.b (.imm _ rfl)),trivial⟩) (.c (.imm _ rfl)) (tb_back 0 rfl trivial) (⟨⟨_,rfl,fun _ _ _ _=>.imm _ rfl⟩,trivial⟩) (hgo) ?_
     (iterate 2 refine vA ?_)
     refine aH rfl rfl rfl rfl Try.func44 rfl (by kernel_rfl) (req_A) ?_
     refine aB ?_
     refine DWp.seq (DWp.text rfl (fun _ h=>by cases h.1) ?_)
     refine AText.all ?_
     refine vA ?_
     refine aB ?_
     refine DWp.ret ?_
     refine⟨rfl,Wk.mk [(4,some 4)] rfl rfl rfl ?_ ?_⟩
     ·exact allT
     ·exact⟨hSm,trivial⟩
    ·intro b2 a a' w u ds e S hY hV hR hi ⟨h1,h2⟩
     subst h1
     exact ch_good hY hV (h2 b2 a w hR) hi
   ·rw[if_neg (fun h=>hx (Option.some.inj h))]
    have hxl:¬(x.length:Int)=0:=fun h=>hx (List.eq_nil_of_length_eq_zero (by omega))
    refine acalls_defer (t:=4) (g:=43) (S1:=ck2 p l) (S2:=ck2 p l) (Qz:=fun e S=>e=.panic wrongP∧Wk S chZ) rfl Try.func17 rfl Try.ntmps17 rfl ?_ ?_ ?_ ?_
    ·refine vB [0] ?_
     refine⟨rfl,?_⟩
     repeat (first
      |refine vB [2] ?_
      | (refine rG 1 ?_
         refine vA ?_
         refine aH rfl rfl rfl rfl Try.func30 rfl (by kernel_rfl) (hC) ?_
         refine vA ?_
         refine aB ?_))
     refine⟨rfl,Wk.mk [(4,some 4)] rfl rfl rfl ?_ ?_⟩
     ·repeat (first|exact trivial|refine⟨⟨_,rfl,by first|exact LeA.c (LeC.fzP rfl rfl rfl rfl)|exact leT⟩,?_⟩)
     ·exact⟨hSm,trivial⟩
    ·refine ADt.split 1 ?_
     refine qr5 AList.makeFn ?_
     refine aB ?_
     refine ADt.defer rfl rfl rfl rfl (Wk.mk [(4,some 4)] rfl rfl rfl ?_ ?_)
     ·exact allT
     ·exact⟨hSm,trivial⟩
    ·refine DWp.seq (DWp.die rfl (fun _ h=>by cases h.1) ?_)
     refine ADie.split 4 ?_
     (iterate 4 refine vA ?_)
     refine aB ?_
     refine ADie.weak (S':=mkSt 20 [(4,.c (.pt 4 1 0 0)),(14,.c (.pt 14 6 0 0)),(15,.c (lsSt l))] [(4,bxE),(14,tbB p 30),(30,chI [])] [4,14,30]) (Wk.mk [(4,some 4),(14,some 14),(30,none)] rfl rfl rfl ?_ ?_) ?_
     ·exact allT
     ·exact⟨hSm,HeapOk.box rfl rfl ⟨LeC.refl _ rfl,LeC.refl _ rfl,LeC.refl _ rfl,LeC.refl _ rfl,LeC.refl _ rfl,LeC.nil _ rfl,trivial⟩ rfl,HeapOk.nil rfl rfl,trivial⟩
     refine ADie.split 3 ?_
     refine AList.callM [14] [30] [31] [tbB p 800] [chI []] [tbB p 900] [chI []] [tbB p 31] [chI []] rfl rfl FnV.func rfl Try.func45 rfl (by kernel_rfl) (tb_lend 0 rfl rfl trivial) (⟨⟨_,rfl,rfl,fun _ _ _ _=>⟨rfl,rfl⟩⟩,trivial⟩) rfl (by exact⟨.c (.b (.pt 14 0 6 0 0 rfl)),.c (.b (.imm _ rfl)),trivial⟩) (.c (.imm _ rfl)) (tb_back 0 rfl trivial) (⟨⟨_,rfl,fun _ _ _ _=>.imm _ rfl⟩,trivial⟩) (hgo) ?_
     (iterate 2 refine vA ?_)
     refine aB ?_
     refine ADie.call [] [] [] [] [] [] [] [] [] rfl FnV.func rfl Try.func44 rfl (by kernel_rfl) (trivial) (trivial) rfl (by exact⟨.c (.b (.imm _ rfl)),trivial⟩) (trivial) (trivial) (req_D) ?_
     refine⟨rfl,Wk.mk [(4,some 4)] rfl rfl rfl ?_ ?_⟩
     ·exact allT
     ·exact⟨hSm,trivial⟩
    ·intro b2 a a' w u ds e S hY hV hR hi ⟨h1,h2⟩
     subst h1
     exact ch_bad hY hV (h2 b2 a w hR) hi
abbrev dt29(k:Nat):Bp:=⟨6,5,30,fun j=>Nat.beq j k⟩
abbrev pb29(C:List (List Bp))(F:List Bp):Pb:=⟨[],C,F,C.map fun _=>bgZ,F.map fun _=>bgZ⟩
abbrev x29a:Pb:=pb29 [[dt29 0],[dt29 0,dt29 29],[dt29 29]] []
abbrev x29b:Pb:=pb29 [[dt29 29],[dt29 0]] [dt29 0]
abbrev x29c:Pb:=pb29 [[dt29 0],[dt29 29]] []
abbrev x29d:Pb:=pb29 [[dt29 0],[]] []
abbrev cl29:Cl:=⟨0,0,-4⟩
abbrev st29a:List Stp:= [deepS 0 0,⟨1,0,0,0,false,cl29⟩,deepS 1 1,⟨2,0,1,0,false,cl29⟩]
abbrev st29b:List Stp:= [deepS 0 0,⟨1,0,-1,0,false,cl29⟩]
abbrev st29d:List Stp:= [deepS 0 0]
def deadB(p:Pb):Nat→List Int→Bool
 |0,_=>false
 |m+1,ch=>(List.range (p.C.getD ch.length []).length).all fun c=> !(stepV p ch c).dp||deadB p m (ch++ [(c:Int)])
theorem dead_of(p:Pb):∀(m:Nat) (ch:List Int),deadB p m ch=true→deadP p m ch
 |0,_,h=>by cases h
 | m+1,ch,h=>fun c hc hd=>by
   have:=List.all_eq_true.1 h c (List.mem_range.2 hc)
   rw[hd]at this
   exact dead_of p m _ (by simpa using this)
theorem v29_l1:leastV x29a=([0,1,2],0):=by decide +kernel
theorem v29_l2:leastV x29b=([1],0):=by decide +kernel
theorem v29_l3:leastV x29c=([],7):=by decide +kernel
theorem v29_l4:leastV x29d=([1],0):=by decide +kernel
theorem v29_r1:refuteV x29a=(st29a,0):=by decide +kernel
theorem v29_r2:refuteV x29b=(st29b,0):=by decide +kernel
theorem v29_r3:refuteV x29c=([],7):=by decide +kernel
theorem v29_r4:refuteV x29d=(st29d,0):=by decide +kernel
theorem v29_c1:checkV x29a st29a=0:=by decide +kernel
theorem v29_c2:checkV x29a (st29a.take 3)=62:=by decide +kernel
theorem v29_d1:deadB x29a 3 []=true:=by decide +kernel
theorem v29_d2:deadB x29b 2 []=true:=by decide +kernel
theorem v29_d4:deadB x29d 2 []=true:=by decide +kernel
theorem dot_F(k i j:Nat)(hj:j<1):setF (zF [.bool false]) k 0 1 [bC true] i j=bF (fun j=>Nat.beq j k) i j∧immC (setF (zF [.bool false]) k 0 1 [bC true] i j)=true:=by
 obtain rfl:j=0:=by omega
 rw[setG1]
 by_cases h:i=k
 ·subst h
  rw[if_pos ⟨rfl,rfl⟩]
  exact⟨by show bC true=CV.p (.bool (Nat.beq i i));rw[Nat.beq_refl],rfl⟩
 ·rw[if_neg fun e=>h e.1]
  exact⟨by show bC false=CV.p (.bool (Nat.beq i k));rw[show Nat.beq i k=false from Bool.eq_false_iff.2 fun e=>h (Nat.eq_of_beq_eq_true e)],rfl⟩
set_option maxRecDepth 100000 in
theorem dot29_A(k:Nat)(hk:k<30):ACalls Try.prog 19 [.c (iC (k:Nat))] (.ag (bpC (dt29 k))):=by
 refine acalls_at Try.func19 rfl rfl Try.ntmps19 rfl ?_
 repeat (first
  |refine vB [0,3] ?_
  | (refine rG 1 ?_
     refine qr9e2o2 (AList.makeSl tyOk) ?_
     (iterate 3 refine vA ?_)
     refine aB ?_)
  | (refine rG 2 ?_
     (iterate 3 refine vA ?_)
     refine qr10eo (AList.idxOw (k:=k) tyOk) ?_
     refine vA ?_
     refine aB ?_))
 refine⟨mkSt 11 [(2,.c (.pt 2 3 0 0))] [(2,⟨false,1,3,47,lF (bpC (dt29 k))⟩)] [2],[(2,⟨false,1,3,47,lF (bpC (dt29 k))⟩)],Wk.mk [(2,some 2)] rfl rfl rfl ?_ ?_,rfl,rfl,ARets.one (x:=.ag _) (ARes.box tyOk rfl rfl rfl rfl rfl rfl rfl)⟩
 ·exact allT
 ·exact⟨HeapOk.box rfl rfl ⟨LeC.refl _ rfl,LeC.refl _ rfl,LeC.fz rfl rfl rfl (fun i _ j hj=>dot_F k i j hj),trivial⟩ rfl,trivial⟩
theorem zer_F{α:Type}(C:List α)(i j:Nat)(hj:j<4):zF [.int .i64 0,.int .i64 0,.int .i64 0,.int .i64 0] i j=rowF bgC bgZ (C.map fun _=>bgZ) i j∧immC (zF [.int .i64 0,.int .i64 0,.int .i64 0,.int .i64 0] i j)=true:=by
 have h:(C.map fun _=>bgZ).getD i bgZ=bgZ:=by
  rw[List.getD_eq_getElem?_getD,List.getElem?_map]
  cases C[i]?<;>rfl
 unfold rowF
 rw[h]
 match j,hj with
 |0,_|1,_|2,_|3,_=>exact⟨rfl,rfl⟩
set_option maxRecDepth 100000 in
theorem problem29_A(C:List (List Bp))(F:List Bp)(hC:C.length≤1000)(hF:F.length≤1000):ACalls Try.prog 20 [.c (lsC C),.c (lsB F)] (.ag (pbC (pb29 C F))):=by
 refine acalls_at Try.func20 rfl rfl Try.ntmps20 rfl ?_
 repeat (first
  |refine vB [0] ?_
  |(refine AWp.draw (id:=1) mixed ?_;(iterate 4 refine vA ?_);refine qr9e2o2 (AList.makeSl tyOk) ?_;(iterate 2 refine vA ?_);refine qr9e2o2 (AList.makeSl tyOk) ?_;(iterate 2 refine vA ?_);refine aB ⟨by kernel_rfl,?_⟩))
 refine⟨mkSt 14 [(4,.c (.pt 4 5 0 0))] [(4,⟨false,1,5,30,lF (pbC (pb29 C F))⟩)] [4],[(4,⟨false,1,5,30,lF (pbC (pb29 C F))⟩)],Wk.mk [(4,some 4)] rfl rfl rfl ?_ ?_,rfl,rfl,ARets.one (x:=.ag _) (ARes.box tyOk rfl rfl rfl rfl rfl rfl rfl)⟩
 ·exact allT
 ·exact⟨HeapOk.box rfl rfl ⟨LeC.nils _ _,LeC.refl _ rfl,LeC.refl _ rfl,LeC.fz rfl rfl (List.length_map ..) (fun i _ j hj=>zer_F C i j hj),LeC.fz rfl rfl (List.length_map ..) (fun i _ j hj=>zer_F F i j hj),trivial⟩ rfl,trivial⟩
theorem stepD_A(n c:Int):ACalls Try.prog 22 [.ag (stC (deepS n c)),.c (iC n),.c (iC c),.c (iC 9)] (.c (bC true)):=by
 have hq:=st_eq (deepS n c) (deepS n c)
 rw[decide_eq_true rfl]at hq
 refine acalls_at Try.func22 rfl rfl Try.ntmps22 rfl ?_
 repeat (first
  |refine vB [0,1] ?_
  | (refine rG 2 ?_
     (iterate 4 refine vA ?_)
     refine AList.binAg rfl rfl rfl rfl rfl rfl (by kernel_rfl) (hq) ?_
     refine vA ?_
     refine aB ?_))
 refine⟨mkSt 42 [(8,.c (bC true))] [] [],[],Wk.mk [] rfl rfl rfl ?_ trivial,rfl,rfl,aR1⟩
 exact allT
theorem stepW_A0(nm sc wi rd n c w:Int)(cl:Cl)(h1:nm=n)(h2:sc=c)(h3:wi=w)(h4:rd=0)(hw:¬w=9):ACalls Try.prog 22 [.ag (stC ⟨nm,sc,wi,rd,false,cl⟩),.c (iC n),.c (iC c),.c (iC w)] (.c (bC true)):=by
 have e17:lF (stC ⟨nm,sc,wi,rd,false,cl⟩) 0 0=iC nm:=rfl
 have e22:lF (stC ⟨nm,sc,wi,rd,false,cl⟩) 0 1=iC sc:=rfl
 have e28:lF (stC ⟨nm,sc,wi,rd,false,cl⟩) 0 2=iC wi:=rfl
 have e39:lF (stC ⟨nm,sc,wi,rd,false,cl⟩) 0 3=iC rd:=rfl
 refine acalls_at Try.func22 rfl rfl Try.ntmps22 rfl ?_
 repeat (first
  |refine vB [0,1] ?_
  | (refine rG 3 ?_
     refine vA ?_
     refine AList.load1F tyOk rfl rfl rfl rfl rfl rfl rfl oM oM (e17) ?_
     (iterate 4 refine vA ?_)
     refine AList.load1F tyOk rfl rfl rfl rfl rfl rfl rfl oM oM (e22) ?_
     (iterate 5 refine vA ?_)
     refine AList.load1F tyOk rfl rfl rfl rfl rfl rfl rfl oM oM (e28) ?_
     (iterate 10 refine vA ?_)
     refine AList.load1F tyOk rfl rfl rfl rfl rfl rfl rfl oM oM (e39) ?_
     (iterate 3 refine vA ?_)
     refine aB ?_))
 refine⟨mkSt 42 [(8,.c (bC true))] [] [],[],Wk.mk [] rfl rfl rfl ?_ trivial,rfl,rfl,aR1⟩
 exact allT
theorem stepW_A(n c w:Int)(cl:Cl)(hw:¬w=9):ACalls Try.prog 22 [.ag (stC ⟨n,c,w,0,false,cl⟩),.c (iC n),.c (iC c),.c (iC w)] (.c (bC true)):=stepW_A0 n c w 0 n c w cl rfl rfl rfl rfl hw
theorem repI_ls{O:Nat→Prop}{w:World}{n sz:Nat}{F G:Nat→Nat→CV}{u:Value}(h:∀k,k<n→∀j,j<sz→F k j=G k j)(hu:RepI O w (.ls n sz F) u):RepI O w (.ls n sz G) u:=by
 obtain⟨A,cap,e1,e2,e3⟩:=hu
 exact⟨A,cap,e1,e2,fun k hk j hj=>by have:=e3 k hk j hj;rw[h k hk j hj]at this;exact this⟩
theorem bmp1(a:Bp):∀k,k<1→∀j,j<3→sF (bpC a) 3 k j=rowF bpC bpZ [a] k j:=fun k hk j hj=>by
 obtain rfl:k=0:=by omega
 match j,hj with
 |0,_|1,_|2,_=>rfl
theorem bmp2(a b:Bp):∀k,k<2→∀j,j<3→sF (bpC a++bpC b) 3 k j=rowF bpC bpZ [a,b] k j:=fun k hk j hj=>by
 obtain rfl|rfl:k=0∨k=1:=by omega
 all_goals
  match j,hj with
  |0,_|1,_|2,_=>rfl
theorem pb29_ok(C:List (List Bp))(F:List Bp)(h:(Nat.ble C.length 1000 && (Nat.ble F.length 1000 && C.all fun l=>Nat.ble l.length 1000))=true):(pb29 C F).ok:=by
 simp only[Bool.and_eq_true,Nat.ble_eq,List.all_eq_true]at h
 refine⟨rd_nil,Nat.zero_le _,by show C.length≤_;omega,by show F.length≤_;omega,by show(C.map _).length≤_;rw[List.length_map];omega,by show(F.map _).length≤_;rw[List.length_map];omega,fun l hl=>by have:=h.2.2 l hl;omega⟩
theorem w29_1:(walkV x29a 3 []).length≤1000000:=by decide +kernel
theorem w29_2:(walkV x29b 2 []).length≤1000000:=by decide +kernel
theorem w29_4:(walkV x29d 2 []).length≤1000000:=by decide +kernel
theorem u29_3:unsV x29c≠0:=by decide +kernel
theorem ok29a:x29a.ok:=pb29_ok _ _ (by decide)
theorem ok29b:x29b.ok:=pb29_ok _ _ (by decide)
theorem ok29c:x29c.ok:=pb29_ok _ _ (by decide)
theorem ok29d:x29d.ok:=pb29_ok _ _ (by decide)
theorem least29{p:Pb}(hp:p.ok){l:List Int}{e:Int}(h:leastV p=(l,e)):ACalls Try.prog 13 [.ag (pbC p)] (.tu [.c (lsI l),.c (iC e)]):=by
 have:=Least_A p hp
 rwa [h]at this
theorem ref29{p:Pb}(hp:p.ok){l:List Stp}{e:Int}(h:refuteV p=(l,e))(hd:unsV p=0→deadB p p.C.length []=true∧(walkV p p.C.length []).length≤1000000):ACalls Try.prog 15 [.ag (pbC p)] (.tu [.c (lsSt l),.c (iC e)]):=by
 have:=Refute_A p hp fun _ hu=>⟨dead_of _ _ _ (hd hu).1,(hd hu).2⟩
 rwa [h]at this
abbrev d29:CV:=.ls 1 3 (sF (bpC (dt29 0)) 3)
abbrev e29:CV:=.ls 1 3 (sF (bpC (dt29 29)) 3)
abbrev de29:CV:=.ls 2 3 (sF (bpC (dt29 0)++bpC (dt29 29)) 3)
theorem cv_d{O:Nat→Prop}{w:World}{u:Value}(k:Nat)(h:RepI O w (.ls 1 3 (sF (bpC (dt29 k)) 3)) u):RepI O w (lsB [dt29 k]) u:=repI_ls (bmp1 _) h
theorem arg29a:Cv (.ls 3 1 (sF [d29,de29,e29] 1)) (lsC x29a.C):=Cv.lsN fun k hk j hj O w u h=>by
 obtain rfl:j=0:=by omega
 obtain rfl|rfl|rfl:k=0∨k=1∨k=2:=by omega
 ·exact cv_d 0 h
 ·exact repI_ls (bmp2 _ _) h
 ·exact cv_d 29 h
theorem arg29b:Cv (.ls 2 1 (sF [e29,d29] 1)) (lsC x29b.C):=Cv.lsN fun k hk j hj O w u h=>by
 obtain rfl:j=0:=by omega
 obtain rfl|rfl:k=0∨k=1:=by omega
 ·exact cv_d 29 h
 ·exact cv_d 0 h
theorem arg29c:Cv (.ls 2 1 (sF [d29,e29] 1)) (lsC x29c.C):=Cv.lsN fun k hk j hj O w u h=>by
 obtain rfl:j=0:=by omega
 obtain rfl|rfl:k=0∨k=1:=by omega
 ·exact cv_d 0 h
 ·exact cv_d 29 h
theorem arg29d:Cv (.ls 2 1 (sF [d29,.ls 0 3 (sF [] 3)] 1)) (lsC x29d.C):=Cv.lsN fun k hk j hj O w u h=>by
 obtain rfl:j=0:=by omega
 obtain rfl|rfl:k=0∨k=1:=by omega
 ·exact cv_d 0 h
 ·exact repI_ls (fun k hk=>absurd hk (Nat.not_lt_zero _)) h
theorem arg29f:Cv d29 (lsB x29b.F):=Cv.lsN fun k hk j hj O w u h=>by rw[bmp1 _ k hk j hj]at h;exact h
theorem arg29t:Cv (.ls 3 8 (fun k j=>rowF stC stZ st29a (0+k) j)) (lsSt (st29a.take 3)):=Cv.lsN fun k hk j hj O w u h=>by
 have e:rowF stC stZ st29a (0+k) j=rowF stC stZ (st29a.take 3) k j:=by
  obtain rfl|rfl|rfl:k=0∨k=1∨k=2:=by omega
  all_goals
   match j,hj with
   |0,_|1,_|2,_|3,_|4,_|5,_|6,_|7,_=>rfl
 rw[←e]
 exact h
set_option maxRecDepth 100000 in
theorem sanity29_A:ACalls Try.prog 7 [] (.c (bC true)):=by
 have hd0:=dot29_A 0 (by omega)
 have hd1:=dot29_A 29 (by omega)
 have hPa:=(problem29_A x29a.C x29a.F (by decide) (by decide)).cv (args':= [.c (.ls 3 1 (sF [d29,de29,e29] 1)),.c (.p (.slice none 0 0))]) ⟨.c arg29a,.c Cv.nil,trivial⟩
 have hPb:=(problem29_A x29b.C x29b.F (by decide) (by decide)).cv (args':= [.c (.ls 2 1 (sF [e29,d29] 1)),.c d29]) ⟨.c arg29b,.c arg29f,trivial⟩
 have hPc:=(problem29_A x29c.C x29c.F (by decide) (by decide)).cv (args':= [.c (.ls 2 1 (sF [d29,e29] 1)),.c (.p (.slice none 0 0))]) ⟨.c arg29c,.c Cv.nil,trivial⟩
 have hPd:=(problem29_A x29d.C x29d.F (by decide) (by decide)).cv (args':= [.c (.ls 2 1 (sF [d29,.ls 0 3 (sF [] 3)] 1)),.c (.p (.slice none 0 0))]) ⟨.c arg29d,.c Cv.nil,trivial⟩
 have hLa:=least29 ok29a v29_l1
 have hLb:=least29 ok29b v29_l2
 have hLc:=least29 ok29c v29_l3
 have hLd:=least29 ok29d v29_l4
 have hRa:=ref29 ok29a v29_r1 fun _=>⟨v29_d1,w29_1⟩
 have hRb:=ref29 ok29b v29_r2 fun _=>⟨v29_d2,w29_2⟩
 have hRc:=ref29 ok29c v29_r3 fun h=>(u29_3 h).elim
 have hRd:=ref29 ok29d v29_r4 fun _=>⟨v29_d4,w29_4⟩
 have hK1:=Check_A x29a ok29a st29a (by decide)
 rw[v29_c1]at hK1
 have hK2:=Check_A x29a ok29a (st29a.take 3) (by decide)
 rw[v29_c2]at hK2
 replace hK2:=hK2.cv (args':= [.ag (pbC x29a),.c (.ls 3 8 (fun k j=>rowF stC stZ st29a (0+k) j))]) ⟨.ag (cvRefl _),.c arg29t,trivial⟩
 have hI1:=(SameInts_A [0,1,2] [0,1,2] (by decide)).cv (args':= [.c (lsI [0,1,2]),.c (.ls 3 1 (sF [iC 0,iC 1,iC 2] 1))]) ⟨.c (Cv.refl _),.c (Cv.lit fun k hk=>by obtain rfl|rfl|rfl:k=0∨k=1∨k=2:=(by omega);all_goals rfl),trivial⟩
 have hI2:=(SameInts_A [1] [1] (by decide)).cv (args':= [.c (lsI [1]),.c (.ls 1 1 (sF [iC 1] 1))]) ⟨.c (Cv.refl _),.c (Cv.lit fun k hk=>by obtain rfl:k=0:=(by omega);rfl),trivial⟩
 rw[decide_eq_true rfl]at hI1 hI2
 have n4:st29a.length=4:=rfl
 have n2:st29b.length=2:=rfl
 have n1:st29d.length=1:=rfl
 have hs0:=stepD_A 0 0
 have hs1:=stepW_A 1 0 0 cl29 (by decide)
 have hs2:=stepD_A 1 1
 have hs3:=stepW_A 2 0 1 cl29 (by decide)
 have hs4:=stepW_A 1 0 (-1) cl29 (by decide)
 refine acalls_at Try.func7 rfl rfl Try.ntmps7 rfl ?_
 repeat (first
  |refine vB [0] ?_
  | (refine rG 1 ?_
     refine aH rfl rfl rfl rfl Try.func19 rfl (by kernel_rfl) (hd0) ?_
     refine aH rfl rfl rfl rfl Try.func19 rfl (by kernel_rfl) (hd1) ?_
     (iterate 4 refine vA ?_)
     refine aB ?_)
  | (refine rG 2 ?_
     (iterate 8 refine vA ?_)
     refine aH rfl rfl rfl rfl Try.func20 rfl (by kernel_rfl) (hPa) ?_
     (iterate 2 refine vA ?_)
     refine aB ?_)
  | (refine rG 3 ?_
     refine vA ?_
     refine aH rfl rfl rfl rfl Try.func13 rfl (by kernel_rfl) (hLa) ?_
     (iterate 5 refine vA ?_)
     refine aB ?_)
  | (refine rG 4 ?_
     refine vA ?_
     refine aH rfl rfl rfl rfl Try.func15 rfl (by kernel_rfl) (hRa) ?_
     (iterate 5 refine vA ?_)
     refine aB ?_))
 refine AWp.weak (S':=mkSt 215 [(1,.c (.pt 1 3 0 0)),(2,.c (.pt 2 3 0 0)),(3,.c (.pt 3 5 0 0)),(4,.c (lsI [0,1,2])),(5,.c (iC 0)),(6,.c (lsSt st29a)),(7,.c (iC 0))] [(1,⟨false,1,3,47,lF (bpC (dt29 0))⟩),(2,⟨false,1,3,47,lF (bpC (dt29 29))⟩),(3,⟨false,1,5,30,lF (pbC x29a)⟩)] [1,2,3]) (Wk.mk [(1,some 1),(2,some 2),(3,some 3)] rfl rfl rfl ?_ ?_) ?_
 ·exact allT
 ·exact⟨hSm,hSm,hSm,trivial⟩
 repeat (first
  |refine vB [] ?_
  |(refine AWp.draw (id:=5) mixed ?_;(iterate 9 refine vA ?_);refine aH rfl rfl rfl rfl Try.func21 rfl (by kernel_rfl) (hI1) ?_;(iterate 10 refine vA ?_);refine aH rfl rfl rfl rfl Try.func17 rfl (by kernel_rfl) (hK1) ?_;(iterate 5 refine vA ?_);refine AList.cut (l:=0) (h:=3) tyOk rfl rfl rfl rfl rfl rfl rfl rfl ⟨_,_,rfl,by first|rfl|omega⟩ (by omega) (by omega) ?_;refine aH rfl rfl rfl rfl Try.func17 rfl (by kernel_rfl) (hK2) ?_;(iterate 2 refine vA ?_);refine aB ⟨by kernel_rfl,?_⟩)
  | (refine rG 7 ?_
     refine vA ?_
     refine qr8eo2 (aP (k:=0) tyOk) ?_
     refine vA ?_
     refine aH rfl rfl rfl rfl Try.func22 rfl (by kernel_rfl) (hs0) ?_
     (iterate 3 refine vA ?_)
     refine qr8eo2 (aP (k:=1) tyOk) ?_
     refine vA ?_
     refine aH rfl rfl rfl rfl Try.func22 rfl (by kernel_rfl) (hs1) ?_
     (iterate 4 refine vA ?_)
     refine qr8eo2 (aP (k:=2) tyOk) ?_
     refine vA ?_
     refine aH rfl rfl rfl rfl Try.func22 rfl (by kernel_rfl) (hs2) ?_
     (iterate 4 refine vA ?_)
     refine qr8eo2 (aP (k:=3) tyOk) ?_
     refine vA ?_
     refine aH rfl rfl rfl rfl Try.func22 rfl (by kernel_rfl) (hs3) ?_
     (iterate 2 refine vA ?_)
     refine aB ?_))
 refine AWp.weak (S':=mkSt 215 [(1,.c (.pt 1 3 0 0)),(2,.c (.pt 2 3 0 0))] [(1,⟨false,1,3,47,lF (bpC (dt29 0))⟩),(2,⟨false,1,3,47,lF (bpC (dt29 29))⟩)] [1,2]) (Wk.mk [(1,some 1),(2,some 2)] rfl rfl rfl ?_ ?_) ?_
 ·exact allT
 ·exact⟨hSm,hSm,trivial⟩
 repeat (first
  |refine vB [] ?_
  | (refine rG 9 ?_
     (iterate 7 refine vA ?_)
     refine aH rfl rfl rfl rfl Try.func20 rfl (by kernel_rfl) (hPb) ?_
     (iterate 2 refine vA ?_)
     refine aB ?_)
  | (refine rG 10 ?_
     refine vA ?_
     refine aH rfl rfl rfl rfl Try.func13 rfl (by kernel_rfl) (hLb) ?_
     (iterate 5 refine vA ?_)
     refine aB ?_)
  | (refine rG 11 ?_
     refine vA ?_
     refine aH rfl rfl rfl rfl Try.func15 rfl (by kernel_rfl) (hRb) ?_
     (iterate 5 refine vA ?_)
     refine aB ?_))
 repeat (first
  |refine vB [] ?_
  | (refine rG 12 ?_
     (iterate 9 refine vA ?_)
     refine aH rfl rfl rfl rfl Try.func21 rfl (by kernel_rfl) (hI2) ?_
     (iterate 9 refine vA ?_)
     refine qr8eo2 (aP (k:=0) tyOk) ?_
     refine vA ?_
     refine aH rfl rfl rfl rfl Try.func22 rfl (by kernel_rfl) (hs0) ?_
     (iterate 4 refine vA ?_)
     refine qr8eo2 (aP (k:=1) tyOk) ?_
     refine vA ?_
     refine aH rfl rfl rfl rfl Try.func22 rfl (by kernel_rfl) (hs4) ?_
     (iterate 2 refine vA ?_)
     refine aB ?_))
 refine AWp.weak (S':=mkSt 215 [(1,.c (.pt 1 3 0 0)),(2,.c (.pt 2 3 0 0))] [(1,⟨false,1,3,47,lF (bpC (dt29 0))⟩),(2,⟨false,1,3,47,lF (bpC (dt29 29))⟩)] [1,2]) (Wk.mk [(1,some 1),(2,some 2)] rfl rfl rfl ?_ ?_) ?_
 ·exact allT
 ·exact⟨hSm,hSm,trivial⟩
 repeat (first
  |refine vB [] ?_
  | (refine rG 14 ?_
     (iterate 5 refine vA ?_)
     refine aH rfl rfl rfl rfl Try.func20 rfl (by kernel_rfl) (hPc) ?_
     refine aH rfl rfl rfl rfl Try.func13 rfl (by kernel_rfl) (hLc) ?_
     (iterate 5 refine vA ?_)
     refine aB ?_)
  | (refine rG 15 ?_
     (iterate 5 refine vA ?_)
     refine aH rfl rfl rfl rfl Try.func20 rfl (by kernel_rfl) (hPc) ?_
     refine aH rfl rfl rfl rfl Try.func15 rfl (by kernel_rfl) (hRc) ?_
     (iterate 5 refine vA ?_)
     refine aB ?_))
 refine AWp.weak (S':=mkSt 215 [(1,.c (.pt 1 3 0 0)),(2,.c (.pt 2 3 0 0)),(14,.c (iC 7)),(16,.c (iC 7))] [(1,⟨false,1,3,47,lF (bpC (dt29 0))⟩),(2,⟨false,1,3,47,lF (bpC (dt29 29))⟩)] [1,2]) (Wk.mk [(1,some 1),(2,some 2)] rfl rfl rfl ?_ ?_) ?_
 ·repeat (first|exact trivial|refine⟨⟨_,rfl,by first|exact LeA.c (LeC.fz rfl rfl rfl (fun i hi=>absurd hi (Nat.not_lt_zero i)))|exact leT⟩,?_⟩)
 ·exact⟨hSm,hSm,trivial⟩
 refine AWp.text ?_
 refine AText.split 3 ?_
 (iterate 3 refine vA ?_)
 refine aB ?_
 refine AText.weak (S':=mkSt 215 [(1,.c (.pt 1 3 0 0)),(2,.c (.pt 2 3 0 0)),(14,.c (iC 7)),(16,.c (iC 7)),(169,.c d29),(170,.c (.ls 0 3 (sF [] 3)))] [(1,⟨false,1,3,47,lF (bpC (dt29 0))⟩),(2,⟨false,1,3,47,lF (bpC (dt29 29))⟩)] [1,2]) (Wk.mk [(1,some 1),(2,some 2)] rfl rfl rfl ?_ ?_) ?_
 ·repeat (first|exact trivial|refine⟨⟨_,rfl,by first|exact LeA.c (LeC.fz rfl rfl rfl (fun i hi=>absurd hi (Nat.not_lt_zero i)))|exact leT⟩,?_⟩)
 ·exact⟨hSm,hSm,trivial⟩
 refine AText.all ?_
 refine vA ?_
 refine aH rfl rfl rfl rfl Try.func20 rfl (by kernel_rfl) (hPd) ?_
 refine aH rfl rfl rfl rfl Try.func13 rfl (by kernel_rfl) (hLd) ?_
 (iterate 5 refine vA ?_)
 refine aB ?_
 refine vB [] ?_
 refine AWp.weak (S':=mkSt 215 [(1,.c (.pt 1 3 0 0)),(2,.c (.pt 2 3 0 0)),(14,.c (iC 7)),(16,.c (iC 7)),(17,.c (lsI [1])),(18,.c (iC 0))] [(1,⟨false,1,3,47,lF (bpC (dt29 0))⟩),(2,⟨false,1,3,47,lF (bpC (dt29 29))⟩)] [1,2]) (Wk.mk [(1,some 1),(2,some 2)] rfl rfl rfl ?_ ?_) ?_
 ·repeat (first|exact trivial|refine⟨⟨_,rfl,by first|exact LeA.c (LeC.fz rfl rfl rfl (fun i hi=>absurd hi (Nat.not_lt_zero i)))|exact leT⟩,?_⟩)
 ·exact⟨hSm,hSm,trivial⟩
 refine AWp.text ?_
 refine AText.split 3 ?_
 (iterate 3 refine vA ?_)
 refine aB ?_
 refine AText.weak (S':=mkSt 215 [(1,.c (.pt 1 3 0 0)),(2,.c (.pt 2 3 0 0)),(14,.c (iC 7)),(16,.c (iC 7)),(17,.c (lsI [1])),(18,.c (iC 0)),(178,.c d29),(179,.c (.ls 0 3 (sF [] 3)))] [(1,⟨false,1,3,47,lF (bpC (dt29 0))⟩),(2,⟨false,1,3,47,lF (bpC (dt29 29))⟩)] [1,2]) (Wk.mk [(1,some 1),(2,some 2)] rfl rfl rfl ?_ ?_) ?_
 ·repeat (first|exact trivial|refine⟨⟨_,rfl,by first|exact LeA.c (LeC.fz rfl rfl rfl (fun i hi=>absurd hi (Nat.not_lt_zero i)))|exact leT⟩,?_⟩)
 ·exact⟨hSm,hSm,trivial⟩
 refine AText.all ?_
 refine vA ?_
 refine aH rfl rfl rfl rfl Try.func20 rfl (by kernel_rfl) (hPd) ?_
 refine aH rfl rfl rfl rfl Try.func15 rfl (by kernel_rfl) (hRd) ?_
 (iterate 5 refine vA ?_)
 refine aB ?_
 repeat (first
  |refine vB [] ?_
  | (refine rG 18 ?_
     (iterate 13 refine vA ?_)
     refine aH rfl rfl rfl rfl Try.func21 rfl (by kernel_rfl) (hI2) ?_
     (iterate 12 refine vA ?_)
     refine qr8eo2 (aP (k:=0) tyOk) ?_
     refine vA ?_
     refine aH rfl rfl rfl rfl Try.func22 rfl (by kernel_rfl) (hs0) ?_
     (iterate 2 refine vA ?_)
     refine aB ?_))
 refine⟨mkSt 215 [(0,.c (bC true))] [] [],[],Wk.mk [] rfl rfl rfl ?_ trivial,rfl,rfl,aR1⟩
 exact allT
abbrev cuF(ll:List (List Int))(k _:Nat):CV:=.ls (min (ll.getD k []).length 40) 1 (fun i j=>iF (fI (ll.getD k [])) (0+i) j)
theorem cu_snoc(ll:List (List Int))(k h:Nat)(hh:h=min (ll.getD k []).length 40):∀i,i<k+1→∀j,j<1→appF (cuF ll) k (sF [.ls (h-0) 1 (fun i j=>iF (fI (ll.getD k [])) (0+i) j)] 1) i j=cuF ll i j∧immC (appF (cuF ll) k (sF [.ls (h-0) 1 (fun i j=>iF (fI (ll.getD k [])) (0+i) j)] 1) i j)=true:=by
 subst hh
 exact app_F (G:=cuF ll) (fun i _ j _=>rfl) (cell1 rfl) (fun _ _ _ _=>rfl)
set_option maxRecDepth 100000 in
theorem cut29_A(ll:List (List Int))(hll:LlOk ll):ACalls Try.prog 9 [.c (lsL ll)] (.c (.ls (min ll.length 16) 1 (cuF ll))):=by
 obtain⟨hn,hl⟩:=hll
 obtain⟨n,hn0⟩:∃n,ll.length=n:=⟨_,rfl⟩
 refine acalls_at Try.func9 rfl rfl Try.ntmps9 rfl ?_
 refine vB [0,1,2] ?_
 refine AWp.round (fun k:Nat=>mkSt 30 [(0,.c (lsL ll)),(3,.c (.ow 20)),(4,.c (iC (k:Nat)))] [(20,⟨true,k,1,23,cuF ll⟩)] [20]) (fun k=>k≤ll.length∧k≤16) (fun k=>16-k) 0 ⟨Nat.zero_le _,Nat.zero_le _⟩ ?_ (fun k hk=> ?_)
 ·refine Wk.mk [(20,none)] rfl rfl rfl ?_ ?_
  ·exact allT
  ·exact⟨HeapOk.nil rfl rfl,trivial⟩
 obtain⟨hk,hk16⟩:=hk
 by_cases c1:k<ll.length
 rotate_left
 ·have c1':¬(k:Int)<ll.length:=by omega
  have e:min ll.length 16=k:=by omega
  rw[e]
  refine vB [3,6] ?_
  refine⟨mkSt 30 [(2,.c (.ls k 1 (cuF ll)))] [] [],[],Wk.mk [] rfl rfl rfl ?_ trivial,rfl,rfl,aR1⟩
  exact⟨⟨_,rfl,.c (LeC.fz rfl rfl rfl (fun i _ j _=>⟨rfl,rfl⟩))⟩,trivial⟩
 have c1':(k:Int)<ll.length:=by omega
 by_cases c2:k<16
 rotate_left
 ·have c2':¬(k:Int)<16:=by omega
  have e:min ll.length 16=k:=by omega
  rw[e]
  refine vB [3,6] ?_
  refine⟨mkSt 30 [(2,.c (.ls k 1 (cuF ll)))] [] [],[],Wk.mk [] rfl rfl rfl ?_ trivial,rfl,rfl,aR1⟩
  exact⟨⟨_,rfl,.c (LeC.fz rfl rfl rfl (fun i _ j _=>⟨rfl,rfl⟩))⟩,trivial⟩
 have c2':(k:Int)<16:=by omega
 have hcell:(fun (k _:Nat)=>lsI (ll.getD k [])) k 0=lsI (ll.getD k []):=rfl
 have hx:=hl k c1
 obtain⟨h,hh⟩:∃h,h=min (ll.getD k []).length 40:=⟨_,rfl⟩
 have hh':min ((ll.getD k []).length:Int) 40=(h:Int):=by omega
 have hhl:h≤(ll.getD k []).length:=by omega
 repeat (first
  |refine vB [3,4] ?_
  |(refine AWp.draw (id:=5) mixed ?_;(iterate 3 refine vA ?_);refine qr8eo2 (aP (k:=k) tyOk) ?_;refine AList.load1lE tyOk (hcell) rfl rfl rfl rfl rfl oM ?_;(iterate 2 refine vA ?_);refine qr8eo2 (aP (k:=k) tyOk) ?_;refine AList.load1lE tyOk (hcell) rfl rfl rfl rfl rfl oM ?_;(iterate 2 refine vA ?_);refine AList.cut (l:=0) (h:=h) tyOk rfl rfl rfl rfl rfl rfl rfl rfl ⟨_,_,rfl,by first|rfl|omega⟩ (by omega) (by omega) ?_;refine vA ?_;refine AList.appL tyOk rfl rfl rfl rfl rfl rfl rfl rfl rfl rfl oM oM ?_;refine vA ?_;refine aB ⟨by kernel_rfl,?_⟩))
 refine⟨k+1,⟨c1,c2⟩,Wk.mk [(20,some 28)] rfl rfl rfl ?_ ?_,by omega⟩
 ·exact allT
 ·exact⟨HeapOk.row rfl rfl rfl (cu_snoc ll k h hh),trivial⟩
def nmL(f:Nat→Int)(k:Nat):List Int:=(List.range k).map f
theorem nmL_len(f:Nat→Int)(k:Nat):(nmL f k).length=k:=by unfold nmL;rw[List.length_map,List.length_range]
theorem nmL_at(f:Nat→Int){k i:Nat}(h:i<k):fI (nmL f k) i=f i:=by
 show(nmL f k).getD i 0=_
 unfold nmL
 rw[List.getD_eq_getElem?_getD,List.getElem?_map,List.getElem?_range h]
 rfl
theorem erase29{l:List Int}{k i:Nat}(hk:k<l.length):appF (fun i j=>iF (fun j=>l.getD j 0) (0+i) j) (k-0) (fun i j=>iF (fun j=>l.getD j 0) (k+1+i) j) i 0=iC ((l.eraseIdx k).getD i 0):=by
 unfold appF
 rw[Nat.sub_zero]
 by_cases h:i<k
 ·rw[Nat.blt_eq.mpr h,List.getD_eq_getElem?_getD,List.getElem?_eraseIdx,if_pos h]
  show iC (l.getD (0+i) 0)=_
  rw[Nat.zero_add,List.getD_eq_getElem?_getD]
 ·rw[show Nat.blt i k=false from Bool.eq_false_iff.2 fun h'=>h (Nat.blt_eq.mp h'),List.getD_eq_getElem?_getD,List.getElem?_eraseIdx,if_neg h]
  show iC (l.getD (k+1+(i-k)) 0)=_
  rw[show k+1+(i-k)=i+1 by omega,List.getD_eq_getElem?_getD]
def Sol(p:Pb):Prop:=∃f:Nat→Int,∀k,k<p.C.length→stepOk p f k=true
theorem step_congr{p:Pb}{f g:Nat→Int}{k:Nat}(h:∀j,j≤k→f j=g j)(hs:stepOk p f k=true):stepOk p g k=true:=by
 rw[stepOk_iff]at hs⊢
 rw[←h k (Nat.le_refl k),←freeV_congr2 fun j hj=>h j (by omega)]
 exact hs
theorem sol_of{p:Pb}(sp:Sm p):((solveV p).2=0∧Sol p)∨((solveV p).2=60∧¬Sol p):=by
 have hT:stT p.C.length≤20000:=by
  have:=sp.C
  have:p.C.length=0∨p.C.length=1∨p.C.length=2∨p.C.length=3∨p.C.length=4∨p.C.length=5:=by omega
  rcases this with h|h|h|h|h|h<;>rw[h]<;>decide
 obtain⟨hS,-,-⟩:=fromV_spec (fun l h=>(sp.Cc l h).1) p.C.length [] 0 (by simp) (fun k hk=>absurd hk (Nat.not_lt_zero _)) (Int.le_refl _) (by omega)
 unfold solveV
 rw[if_pos sp.chk]
 generalize fromV p p.C.length [] 0=o at *
 rcases hS with ⟨k1,e0,-,k3,k4,-⟩|⟨k1,-,k3⟩
 ·exact .inl ⟨k1,fI e0,fun k hk=>k4 k (by rw[List.nil_append,k3];exact hk)⟩
 ·refine .inr ⟨k1,fun ⟨f,hf⟩=>k3 (nmL f p.C.length) (nmL_len _ _) fun k hk=> ?_⟩
  rw[List.nil_append,nmL_len]at hk
  exact step_congr (fun j hj=>(nmL_at f (by omega)).symm) (hf k hk)
theorem sol_zero{p:Pb}(sp:Sm p):(solveV p).2=0↔Sol p:=by
 rcases sol_of sp with ⟨h1,h2⟩|⟨h1,h2⟩
 ·exact⟨fun _=>h2,fun _=>h1⟩
 ·exact⟨fun h=>(by rw[h1]at h;cases h),fun h=>absurd h h2⟩
theorem uns_iff{p:Pb}(sp:Sm p):unsV p=0↔(solveV p).2=60:=by
 unfold unsV
 rcases sol_of sp with ⟨h1,-⟩|⟨h1,-⟩<;>rw[h1]<;>decide
theorem nm_mono{n:Nat}{ns:List Int}(h:nmOk n ns=true){i:Nat}:∀{j:Nat},i<j→j<ns.length→fI ns i<fI ns j
 |0,h0,_=>absurd h0 (Nat.not_lt_zero _)
 | j+1,h1,h2=>by
   have h3:=(nmOk_iff.1 h (j+1) h2).2.2 (Nat.succ_pos _)
   rw[Nat.add_sub_cancel]at h3
   by_cases e:i=j
   ·subst e;exact h3
   ·exact Int.lt_trans (nm_mono h (show i<j by omega) (by omega)) h3
theorem nm_ge{n:Nat}{ns:List Int}(h:nmOk n ns=true):∀{k:Nat},k<ns.length→(k:Int)≤fI ns k
 |0,h1=>(nmOk_iff.1 h 0 h1).1
 | k+1,h1=>by
   have h2:=nm_ge h (show k<ns.length by omega)
   have h3:fI ns k<fI ns (k+1):=nm_mono h (Nat.lt_succ_self k) h1
   omega
theorem nm_len{n:Nat}{ns:List Int}(h:nmOk n ns=true):ns.length≤n:=by
 rcases Nat.eq_zero_or_pos ns.length with e|e
 ·omega
 ·have h1:=nm_ge h (show ns.length-1<ns.length by omega)
  have h2:=(nmOk_iff.1 h (ns.length-1) (by omega)).2.1
  omega
theorem pick_get{α β:Type}(f:Int→β)(z:β){ns:List Int}{k:Nat}(hk:k<ns.length):(ns.map f).getD k z=f (fI ns k):=by
 show _=f (ns.getD k 0)
 rw[List.getD_eq_getElem?_getD,List.getElem?_map,List.getElem?_eq_getElem hk,List.getD_eq_getElem?_getD,List.getElem?_eq_getElem hk]
 rfl
theorem sub_sm{p:Pb}(sp:Sm p){ns:List Int}(h:nmOk p.C.length ns=true):Sm (subP p ns):=by
 have hl:=nm_len h
 refine⟨sp.R,sp.Rr,?_,fun l hl=> ?_,sp.F,sp.Ff,?_,sp.T⟩
 ·show(ns.map _).length≤5
  rw[List.length_map]
  exact Nat.le_trans hl sp.C
 ·obtain⟨x,hx,rfl⟩:=List.mem_map.1 hl
  rcases Nat.lt_or_ge x.toNat p.C.length with g|g
  ·exact sp.Cc _ (getD_mem28 g)
  ·rw[List.getD_eq_getElem?_getD,List.getElem?_eq_none g]
   exact⟨Nat.zero_le _,fun b hb=>by cases hb⟩
 ·show(ns.map _).length=(ns.map _).length
  rw[List.length_map,List.length_map]
theorem sol_sub{p:Pb}{ns:List Int}(h:nmOk p.C.length ns=true)(hs:Sol p):Sol (subP p ns):=by
 obtain⟨f,hf⟩:=hs
 have hlen:(subP p ns).C.length=ns.length:=List.length_map _
 refine⟨fun k=>f (fI ns k).toNat,fun k hk=> ?_⟩
 rw[hlen]at hk
 have hC:∀j,j<ns.length→(subP p ns).C.getD j []=p.C.getD (fI ns j).toNat []:=fun j hj=>pick_get (α:=Nat) _ _ hj
 have hO:∀j,j<ns.length→(subP p ns).O.getD j bgZ=p.O.getD (fI ns j).toNat bgZ:=fun j hj=>pick_get (α:=Nat) _ _ hj
 obtain⟨b1,b2,-⟩:=nmOk_iff.1 h k hk
 obtain⟨g1,g2,g3⟩:=step_iff.1 (hf (fI ns k).toNat (by omega))
 rw[step_iff,hC k hk]
 refine⟨g1,fun j hj=> ?_,fun j hj=> ?_⟩
 ·rw[hC k hk,hO k hk]
  exact g2 j hj
 ·rw[hC k hk,hO k hk,hC j (by omega),hO j (by omega)]
  have h1:=nm_mono h hj hk
  have h2:=(nmOk_iff.1 h j (by omega)).1
  exact g3 (fI ns j).toNat (by omega)
theorem combX_in{rec:List Int→Nat→List (List Int)}{l s:List Int}{y:Nat}:∀{m x:Nat},x≤y→y<x+m→s∈rec (l++ [(y:Int)]) (y+1)→s∈combX rec l m x
 |0,x,h1,h2,_=>by omega
 | m+1,x,h1,h2,h=>by
   show s∈_++combX rec l m (x+1)
   by_cases e:x=y
   ·subst e;exact List.mem_append.2 (.inl h)
   ·exact List.mem_append.2 (.inr (combX_in (by omega) (by omega) h))
theorem comb_in{n:Nat}:∀(r:Nat) (l t:List Int) (x:Nat),nmOk n (l++t)=true→t.length=r→(∀k,l.length≤k→k<(l++t).length→(x:Int)≤fI (l++t) k)→l++t∈combG n r l x
 | 0,l,t,x,_,ht,_=>by
   obtain rfl:=List.eq_nil_of_length_eq_zero ht
   simp[combG]
 |r+1,l,[],x,_,ht,_=>by cases ht
 | r+1,l,v::t,x,h,ht,hx=>by
   have hlt:l.length<(l++v::t).length:=by simp
   have e:=fI_app_at l t v
   have h1:=hx l.length (Nat.le_refl _) hlt
   have h2:=(nmOk_iff.1 h l.length hlt).2.1
   rw[e]at h1 h2
   obtain⟨y,rfl⟩:=Int.eq_ofNat_of_zero_le (show 0≤v by omega)
   show _∈combX (combG n r) l (n-x) x
   refine combX_in (y:=y) (by omega) (by omega) ?_
   have ih:=comb_in r (l++ [(y:Int)]) t (y+1) (by rw[List.append_assoc];exact h) (by simpa using ht) fun k hk1 hk2=>by
    rw[List.length_append,List.length_singleton]at hk1
    rw[List.append_assoc]at hk2⊢
    have h4:=nm_mono h (show l.length<k by omega) hk2
    rw[e]at h4
    show((y+1:Nat):Int)≤fI (l++(y:Int)::t) k
    omega
   rw[List.append_assoc]at ih
   exact ih
theorem sets_in{n:Nat}{s:List Int}(h:nmOk n s=true):s∈setsL n s.length:=
 comb_in s.length [] s 0 h rfl fun k _ hk=>(nmOk_iff.1 h k hk).1
theorem to_in{n:Nat}{s:List Int}:∀{k:Nat},s∈setsTo n k↔∃i,i<k∧s∈setsL n i
 |0=>⟨fun h=>by(cases h),fun ⟨i,h,_⟩=>absurd h (Nat.not_lt_zero _)⟩
 | k+1=>by
   show s∈setsTo n k++setsL n k↔_
   rw[List.mem_append,to_in]
   constructor
   ·rintro(⟨i,h1,h2⟩|h)
    ·exact⟨i,by omega,h2⟩
    ·exact⟨k,by omega,h⟩
   ·rintro⟨i,h1,h2⟩
    by_cases e:i=k
    ·subst e;exact .inr h2
    ·exact .inl ⟨i,by omega,h2⟩
theorem find_min{n:Nat}{bad:List Int→Bool}{s:List Int}(h:(setsTo n (n+1)).find? bad=some s):bad s=true∧nmOk n s=true∧∀t,nmOk n t=true→t.length<s.length→bad t=false:=by
 obtain⟨i,h1,h2⟩:=to_in.1 (List.mem_of_find?_eq_some h)
 obtain⟨h3,h4⟩:=sets_ok h2
 refine⟨List.find?_some h,h3,fun t ht hl=> ?_⟩
 obtain⟨r,hr⟩:=to_le (n:=n) (show s.length≤n+1 by omega)
 rw[hr,List.find?_append]at h
 cases hA:(setsTo n s.length).find? bad with
 | none=>
   have:=List.find?_eq_none.1 hA t (to_in.2 ⟨_,hl,sets_in ht⟩)
   simpa using this
 | some u=>
   rw[hA]at h
   obtain rfl:u=s:=by simpa using h
   obtain⟨j,g1,g2⟩:=to_in.1 (List.mem_of_find?_eq_some hA)
   have:=(sets_ok g2).2
   omega
theorem fI_erase{l:List Int}{k i:Nat}:fI (l.eraseIdx k) i=if i<k then fI l i else fI l (i+1):=by
 show(l.eraseIdx k).getD i 0=if i<k then l.getD i 0 else l.getD (i+1) 0
 rw[List.getD_eq_getElem?_getD,List.getElem?_eraseIdx]
 split<;>rw[List.getD_eq_getElem?_getD]
theorem nm_erase{n k:Nat}{s:List Int}(h:nmOk n s=true)(hk:k<s.length):nmOk n (s.eraseIdx k)=true:=nmOk_iff.2 fun i hi=>by
 rw[List.length_eraseIdx,if_pos hk]at hi
 have hb:∀j,j<s.length→0≤fI s j∧fI s j<n:=fun j hj=>⟨(nmOk_iff.1 h j hj).1,(nmOk_iff.1 h j hj).2.1⟩
 have hm:∀a b,a<b→b<s.length→fI s a<fI s b:=fun a b h1 h2=>nm_mono h h1 h2
 rw[fI_erase,fI_erase]
 have e1:=hb i (by omega)
 have e2:=hb (i+1) (by omega)
 refine⟨by split<;>omega,by split<;>omega,fun h0=> ?_⟩
 by_cases c:i<k
 ·rw[if_pos c,if_pos (by omega)]
  exact hm _ _ (by omega) (by omega)
 ·rw[if_neg c]
  by_cases d:i-1<k
  ·rw[if_pos d]
   exact hm _ _ (by omega) (by omega)
  ·rw[if_neg d]
   exact hm _ _ (by omega) (by omega)
theorem least_ne{p:Pb}(sp:Sm p)(h:(leastV p).2≠0):(solveV p).2=0↔(leastV p).2=7:=by
 have h8:¬8<p.C.length:=by have:=sp.C;omega
 unfold leastV at h⊢
 rw[if_pos sp.chk,if_neg h8]at h⊢
 rcases sol_of sp with ⟨h1,-⟩|⟨h1,-⟩
 ·have hu:unsV p=7:=by unfold unsV;rw[h1];rfl
  rw[hu,h1]
  simp
 ·have hu:=(uns_iff sp).2 h1
  rw[if_pos hu]at h⊢
  rw[h1]
  cases hf:(setsTo p.C.length (p.C.length+1)).find? (badP p)with
  |none=>exact⟨fun h=>(by cases h),fun h=>(by cases h)⟩
  |some s=>rw[hf]at h;exact absurd rfl h
theorem least_eq{p:Pb}(sp:Sm p)(h:(leastV p).2=0):(solveV p).2=60∧nmOk p.C.length (leastV p).1=true∧(solveV (subP p (leastV p).1)).2=60∧0<(leastV p).1.length∧
 ∀k,k<(leastV p).1.length→nmOk p.C.length ((leastV p).1.eraseIdx k)=true∧(solveV (subP p ((leastV p).1.eraseIdx k))).2=0:=by
 have h8:¬8<p.C.length:=by have:=sp.C;omega
 unfold leastV at h⊢
 rw[if_pos sp.chk,if_neg h8]at h⊢
 by_cases hu:unsV p=0
 ·rw [if_pos hu]at h⊢
  cases hf:(setsTo p.C.length (p.C.length+1)).find? (badP p)with
  |none=>rw[hf]at h;cases h
  | some s=>
    obtain⟨h1,h2,h3⟩:=find_min hf
    have h4:=(uns_iff (sub_sm sp h2)).1 (of_decide_eq_true h1)
    refine⟨(uns_iff sp).1 hu,h2,h4,?_,fun k hk=>⟨nm_erase h2 hk,?_⟩⟩
    ·show 0<s.length
     rcases Nat.eq_zero_or_pos s.length with e|e
     ·obtain rfl:=List.eq_nil_of_length_eq_zero e
      have:=(sol_zero (sub_sm sp h2)).2 ⟨fun _=>0,fun k hk=>absurd hk (Nat.not_lt_zero _)⟩
      rw[h4]at this
      cases this
     ·exact e
    ·have h5:=h3 _ (nm_erase h2 hk) (by change k<s.length at hk;rw[List.length_eraseIdx,if_pos hk];omega)
     have h6:¬(solveV (subP p (s.eraseIdx k))).2=60:=fun e=>by
      rw[badP,decide_eq_false_iff_not,uns_iff (sub_sm sp (nm_erase h2 hk))]at h5
      exact h5 e
     rcases sol_of (sub_sm sp (nm_erase h2 hk))with g|g
     ·exact g.1
     ·exact absurd g.1 h6
 ·rw[if_neg hu]at h
  exact absurd h hu
end Go.Proofs.Ytpefnljgalpllaa
end
