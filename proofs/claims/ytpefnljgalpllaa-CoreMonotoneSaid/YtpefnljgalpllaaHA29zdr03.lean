/- CoreMonotone: the statement. No condition. -/
import Derived.Test.YtpefnljgalpllaaG50
import Derived.Test.YtpefnljgalpllaaRows
import Derived.Test.YtpefnljgalpllaaHA29zdr02
set_option linter.unusedSimpArgs false
set_option linter.unusedVariables false
set_option maxHeartbeats 0
section
namespace Go.Proofs.Ytpefnljgalpllaa
open Go.RowKit Go.Flow Go.AV Go.Plain
theorem rd_md21(bl sh:Int):rdE (md21 bl sh)=0∧-1000000≤(md21 bl sh).bl∧(md21 bl sh).bl≤1000000:=by
 unfold md21
 have h0:=Int.emod_nonneg bl (show(3:Int)≠0 by omega)
 have h3:=Int.emod_lt_of_pos bl (show(0:Int)<3 by omega)
 generalize bl%3=c at *
 have hc:c=0∨c=1∨c=2:=by omega
 refine⟨?_,by dsimp only;omega,by dsimp only;omega⟩
 rcases hc with rfl|rfl|rfl
 ·have h1:=Int.emod_nonneg sh (show((2*0+1)*(2*0+1):Int)≠0 by decide)
  have h2:=Int.emod_lt_of_pos sh (show(0:Int)<(2*0+1)*(2*0+1) by decide)
  generalize sh%((2*0+1)*(2*0+1))=v at *
  unfold rdE
  simp
  omega
 ·have h1:=Int.emod_nonneg sh (show((2*1+1)*(2*1+1):Int)≠0 by decide)
  have h2:=Int.emod_lt_of_pos sh (show(0:Int)<(2*1+1)*(2*1+1) by decide)
  generalize sh%((2*1+1)*(2*1+1))=v at *
  unfold rdE
  simp
  omega
 ·have h1:=Int.emod_nonneg sh (show((2*2+1)*(2*2+1):Int)≠0 by decide)
  have h2:=Int.emod_lt_of_pos sh (show(0:Int)<(2*2+1)*(2*2+1) by decide)
  generalize sh%((2*2+1)*(2*2+1))=v at *
  unfold rdE
  simp
  omega
theorem rdIter_md(ll:List (List Int)):∀k,∀r∈(rdIter ll k).2,∃bl sh,r=md21 bl sh
 |0,r,h=>by cases h
 | k+1,r,h=>by
   rcases List.mem_append.1 (show r∈(rdIter ll k).2++ [md21 _ _]from h)with h|h
   ·exact rdIter_md ll k r h
   ·exact⟨_,_,List.mem_singleton.1 h⟩
theorem lists_bd(ll:List (List Int)):rdN ll≤2∧lsN28 ll≤3∧fxN28 ll≤2:=by
 have h1:=dvA_bd ll 0 3 (by decide)
 have h2:=dvA_bd ll (rdIter ll (rdN ll)).1 4 (by decide)
 have h3:=dvA_bd ll (nxA ll (rdIter ll (rdN ll)).1) 3 (by decide)
 unfold lsN28 fxN28
 refine⟨by unfold rdN;omega,by omega,by omega⟩
theorem made_sm(ll:List (List Int)):Sm (made28 ll)∧∀l∈(made28 ll).C,l.length≤3:=by
 obtain⟨b1,b2,b3⟩:=lists_bd ll
 have h:=moIter_ok ll (lsN28 ll+fxN28 ll)
 have hR:=rdIter_len ll (rdN ll)
 have hC:=h.C
 have hF:=h.F
 refine⟨⟨?_,fun r hr=> ?_,?_,fun l hl=> ?_,?_,h.Ff,h.O,h.T⟩,fun l hl=>(h.Cc l hl).1⟩
 ·show(rdIter ll (rdN ll)).2.length≤4
  omega
 ·obtain⟨bl,sh,rfl⟩:=rdIter_md ll _ r hr
  exact rd_md21 bl sh
 ·show(moIter ll (lsN28 ll+fxN28 ll)).C.length≤5
  omega
 ·have:=h.Cc l hl
  exact⟨by omega,this.2⟩
 ·show(moIter ll (lsN28 ll+fxN28 ll)).F.length≤6
  omega
theorem fzC{h:Nat→Option AB}{ren:List (Nat×Option Nat)}{id:Nat}{C:List (List Bp)}(hh:h id=some (chB C))(hr:renNo ren id=true):LeC h ren (.ow id) (lsC C):=LeC.fz hh hr rfl (fun i _ j _=>⟨rfl,rfl⟩)
def cutL(ll:List (List Int)):List (List Int):=(ll.take 16).map fun l=>l.take 40
theorem cutL_len(ll:List (List Int)):(cutL ll).length=min ll.length 16:=by
 unfold cutL
 rw[List.length_map,List.length_take]
 omega
theorem cutL_at(ll:List (List Int)){k:Nat}(hk:k<min ll.length 16):(cutL ll).getD k []=(ll.getD k []).take 40:=by
 unfold cutL
 rw[List.getD_eq_getElem?_getD,List.getElem?_map,List.getElem?_take,if_pos (by omega),List.getD_eq_getElem?_getD,List.getElem?_eq_getElem (by omega)]
 rfl
theorem cutL_ok(ll:List (List Int)):LlOk (cutL ll):=by
 refine⟨by rw[cutL_len];omega,fun k hk=> ?_⟩
 rw[cutL_len]at hk
 rw[cutL_at ll hk,List.length_take]
 omega
theorem take_fI(l:List Int)(m:Nat){k:Nat}(hk:k<min l.length m):fI (l.take m) k=fI l k:=by
 show(l.take m).getD k 0=l.getD k 0
 rw[List.getD_eq_getElem?_getD,List.getD_eq_getElem?_getD,List.getElem?_take,if_pos (by omega)]
theorem cut_cv(ll:List (List Int)):Cv (.ls (min ll.length 16) 1 (cuF ll)) (lsL (cutL ll)):=by
 have e:=cutL_len ll
 show Cv _ (.ls (cutL ll).length 1 _)
 rw[e]
 refine Cv.lsN fun k hk j hj O w u h=> ?_
 show RepI O w (.ls ((cutL ll).getD k []).length 1 (iF (fI ((cutL ll).getD k [])))) u
 rw[cutL_at ll hk,show((ll.getD k []).take 40).length=min (ll.getD k []).length 40 by rw[List.length_take];omega]
 refine repI_ls (fun i hi j hj=> ?_) h
 show iC (fI (ll.getD k []) (0+i))=iC (fI ((ll.getD k []).take 40) i)
 rw[Nat.zero_add,take_fI _ _ hi]
theorem sol_map{p q:Pb}(h:Sol p)(hC:q.C.length=p.C.length)(hR:q.R=p.R)(hO:q.O=p.O)
 (hF:∀j,j<q.F.length→j<p.F.length∧q.F.getD j bpZ=p.F.getD j bpZ∧q.T.getD j bgZ=p.T.getD j bgZ) (u:Nat→Int→Int)
 (hu:∀k,k<p.C.length→∀c:Int,0≤c→c<(p.C.getD k []).length→(0≤u k c∧u k c<(q.C.getD k []).length)∧(q.C.getD k []).getD (u k c).toNat bpZ=(p.C.getD k []).getD c.toNat bpZ):Sol q:=by
 obtain⟨f,hf⟩:=h
 refine⟨fun k=>u k (f k),fun k hk=> ?_⟩
 rw[hC]at hk
 obtain⟨g1,g2,g3⟩:=step_iff.1 (hf k hk)
 obtain⟨u1,u2⟩:=hu k hk (f k) g1.1 g1.2
 rw[step_iff]
 refine⟨u1,fun j hj=> ?_,fun j hj=> ?_⟩
 ·obtain⟨f1,f2,f3⟩:=hF j hj
  rw[u2,f2,f3,hR,hO]
  exact g2 j f1
 ·obtain⟨d1,-⟩:=step_iff.1 (hf j (by omega))
  obtain⟨-,v2⟩:=hu j (by omega) (f j) d1.1 d1.2
  rw[u2,v2,hR,hO]
  exact g3 j hj
def nmU(o:Nat):Nat→List Int
 |0=> []
 |k+1=>if k=o then nmU o k else nmU o k++ [(k:Int)]
theorem nmU_ne{o k:Nat}(h:¬k=o):nmU o (k+1)=nmU o k++ [(k:Int)]:=if_neg h
theorem nmU_ok(n o:Nat):∀{k:Nat},k≤n→nmOk n (nmU o k)=true∧(∀i,i<(nmU o k).length→fI (nmU o k) i<k)∧(nmU o k).length≤k
 |0,_=>⟨nmOk_iff.2 fun k hk=>absurd hk (Nat.not_lt_zero _),fun k hk=>absurd hk (Nat.not_lt_zero _),Nat.le_refl _⟩
 | k +1,h=>by
   obtain⟨h1,h2,h3⟩:=nmU_ok n o (show k≤n by omega)
   by_cases e:k=o
   ·rw[show nmU o (k+1)=nmU o k from if_pos e]
    exact⟨h1,fun i hi=>by have:=h2 i hi;omega,by omega⟩
   ·rw[nmU_ne e]
    refine⟨nmOk_snoc h1 h2 (by omega),fun i hi=> ?_,by simp;omega⟩
    rw[List.length_append,List.length_singleton]at hi
    by_cases c:i<(nmU o k).length
    ·rw[fI_ap1 c];have:=h2 i c;omega
    ·obtain rfl:i=(nmU o k).length:=by omega
     rw[fI_at1];omega
def frP(p:Pb):Pb:=⟨p.R,p.C,[],p.O,[]⟩
theorem fr_sm{p:Pb}(h:Sm p):Sm (frP p):=⟨h.R,h.Rr,h.C,h.Cc,Nat.zero_le _,fun b hb=>by(cases hb),h.O,rfl⟩
theorem fr_sol{p:Pb}(h:Sol p):Sol (frP p):=
 sol_map h rfl rfl rfl (fun j hj=>absurd hj (Nat.not_lt_zero _)) (fun _ c=>c) (fun k _ c h1 h2=>⟨⟨h1,h2⟩,rfl⟩)
def wdP(p:Pb)(a b:Nat):Pb:=if 0<(p.C.getD a []).length∧(p.C.getD b []).length<30 then ⟨p.R,p.C.set b ((p.C.getD a []).getD 0 bpZ::p.C.getD b []),p.F,p.O,p.T⟩else p
theorem set_get{α:Type}{L:List α}{m k:Nat}{x z:α}(hm:m<L.length):(L.set m x).getD k z=if k=m then x else L.getD k z:=by
 rw[List.getD_eq_getElem?_getD]
 by_cases e:k=m
 ·subst e
  rw[List.getElem?_set_self hm,if_pos rfl];rfl
 ·rw[List.getElem?_set_ne (Ne.symm e),if_neg e,←List.getD_eq_getElem?_getD]
theorem wd_sm{p:Pb}(h:Sm p)(h3:∀l∈p.C,l.length≤3){a b:Nat}(ha:a<p.C.length)(hb:b<p.C.length):Sm (wdP p a b):=by
 unfold wdP
 split
 ·rename_i hc
  refine⟨h.R,h.Rr,by show(p.C.set _ _).length≤5;rw[List.length_set];exact h.C,fun l hl=> ?_,h.F,h.Ff,by show p.O.length=(p.C.set _ _).length;rw[List.length_set];exact h.O,h.T⟩
  rcases List.mem_or_eq_of_mem_set hl with hl|rfl
  ·exact h.Cc l hl
  ·refine⟨?_,fun x hx=> ?_⟩
   ·have:=h3 _ (getD_mem28 (z:= []) hb)
    rw[List.length_cons]
    omega
   ·rcases List.mem_cons.1 hx with rfl|hx
    ·exact(h.Cc _ (getD_mem28 (z:= []) ha)).2 _ (getD_mem28 hc.1)
    ·exact(h.Cc _ (getD_mem28 (z:= []) hb)).2 _ hx
 ·exact h
theorem wd_sol{p:Pb}(h:Sol p){a b:Nat}(hb:b<p.C.length):Sol (wdP p a b):=by
 unfold wdP
 split
 ·refine sol_map h (List.length_set ..) rfl rfl (fun j hj=>⟨hj,rfl,rfl⟩) (fun k c=>if k=b then c+1 else c) (fun k hk c h1 h2=> ?_)
  show(0≤(if k=b then c+1 else c)∧(if k=b then c+1 else c)<((p.C.set b _).getD k []).length)∧((p.C.set b _).getD k []).getD _ bpZ=_
  rw[set_get hb]
  by_cases e:k=b
  ·subst e
   rw[if_pos rfl,if_pos rfl,List.length_cons,show(c+1).toNat=c.toNat+1 by omega,List.getD_cons_succ]
   exact⟨⟨by omega,by omega⟩,rfl⟩
  ·rw[if_neg e,if_neg e]
   exact⟨⟨h1,h2⟩,rfl⟩
 ·exact h
theorem u8w{o:Int}(h:0≤o∧o≤255):IntKind.i64.wrap o=o:=by
 rw[IntKind.wrap_i64]
 omega
theorem cons_B(b:Bp)(L:List Bp):∀i,i<1+L.length→∀j,j<3→appF (sF (bpC b) 3) 1 (rowF bpC bpZ L) i j=rowF bpC bpZ (b::L) i j∧immC (appF (sF (bpC b) 3) 1 (rowF bpC bpZ L) i j)=true:=fun i _ j hj=>by
 cases i with
 | zero=>
   match j,hj with
   |0,_|1,_|2,_=>exact⟨rfl,rfl⟩
 | succ i=>
   have e:appF (sF (bpC b) 3) 1 (rowF bpC bpZ L) (i+1) j=rowF bpC bpZ L i j:=by
    unfold appF
    have:Nat.blt (i+1) 1=false:=by
     cases h:Nat.blt (i+1) 1 with
     |false=>rfl
     |true=>have:=Nat.blt_eq.mp h;omega
    first|rw[this]|skip
    rfl
   rw[e]
   exact⟨rfl,rowF_imm bpC_imm L i j⟩
theorem wd_fz{h:Nat→Option AB}{ren:List (Nat×Option Nat)}{C:List (List Bp)}{m id:Nat}{L:List Bp}{b:Bp}{F:Nat→Nat→CV}(hm:m<C.length)(hh:h id=some ⟨true,1+L.length,3,47,appF (sF (bpC b) 3) 1 (rowF bpC bpZ L)⟩)(hr:renNo ren id=true)(hF:F=setF (chF C) m 0 1 [.ow id]):
 ∀i,i<C.length→∀j,j<1→LeC h ren (F i j) (chF (C.set m (b::L)) i j):=fun i hi j hj=>by
 subst hF
 obtain rfl:j=0:=Nat.lt_one_iff.mp hj
 show LeC _ _ _ (lsB ((C.set m (b::L)).getD i []))
 unfold setF
 rw[set_get hm]
 by_cases e:i=m
 ·subst e
  rw[Nat.beq_refl,if_pos rfl]
  exact LeC.fz hh hr (Nat.add_comm _ _) (cons_B b L)
 ·rw[show Nat.beq i m=false from Bool.eq_false_iff.2 fun h'=>e (Nat.eq_of_beq_eq_true h'),if_neg e]
  exact LeC.refl _ rfl
abbrev pB29(l:List CV):AB:=⟨false,1,5,30,lF l⟩
set_option maxRecDepth 100000 in
theorem CoreMonotone_A(ll:List (List Int))(hll:LlOk ll)(o a b:Int)(ho:0≤o∧o≤255)(ha:0≤a∧a≤255)(hb:0≤b∧b≤255):ACalls Try.prog 5 [.c (lsL ll),.c (.p (.int .u8 o)),.ag [.p (.int .u8 a),.p (.int .u8 b)]] (.c (bC true)):=by
 have hSan:=sanity29_A
 have hCut:=cut29_A ll hll
 have hM:=(Made28_A (cutL ll) (cutL_ok ll)).cv (args':= [.c (.ls (min ll.length 16) 1 (cuF ll))]) ⟨.c (cut_cv ll),trivial⟩
 obtain⟨sm,h3⟩:=made_sm (cutL ll)
 generalize made28 (cutL ll)=p at *
 have hok:=sm.ok
 have hS:=Solve28_A p hok
 have hC5:=sm.C
 have hSol:=sol_of sm
 generalize solveV p=v at *
 obtain⟨g,f⟩:=v
 dsimp only at hS hSol
 obtain⟨n,hn⟩:∃n,p.C.length=n:=⟨_,rfl⟩
 have wo:=u8w ho
 have wa:=u8w ha
 have wb:=u8w hb
 rcases hSol with ⟨rfl,hsol⟩|⟨rfl,-⟩
 rotate_left
 ·refine acalls_at Try.func5 rfl rfl Try.ntmps5 rfl ?_
  repeat (first
   |refine vB [0,4,5,6] ?_
   | (refine rG 1 ?_
      refine aH rfl rfl rfl rfl Try.func7 rfl (by kernel_rfl) (hSan) ?_
      refine vA ?_
      refine aB ?_)
   | (refine rG 2 ?_
      refine vA ?_
      refine aH rfl rfl rfl rfl Try.func9 rfl (by kernel_rfl) (hCut) ?_
      refine aH rfl rfl rfl rfl Try.func8 rfl (by kernel_rfl) (hM) ?_
      (iterate 2 refine vA ?_)
      refine aB ?_)
   | (refine rG 3 ?_
      refine vA ?_
      refine aH rfl rfl rfl rfl Try.func14 rfl (by kernel_rfl) (hS) ?_
      (iterate 5 refine vA ?_)
      refine aB ?_))
  refine⟨mkSt 153 [(6,.c (bC true))] [] [],[],Wk.mk [] rfl rfl rfl ?_ trivial,rfl,rfl,aR1⟩
  exact allT
 by_cases hn0:n=0
 ·have hn0':(p.C.length:Int)=0:=by omega
  refine acalls_at Try.func5 rfl rfl Try.ntmps5 rfl ?_
  repeat (first
   |refine vB [0,4,5,6] ?_
   | (refine rG 1 ?_
      refine aH rfl rfl rfl rfl Try.func7 rfl (by kernel_rfl) (hSan) ?_
      refine vA ?_
      refine aB ?_)
   | (refine rG 2 ?_
      refine vA ?_
      refine aH rfl rfl rfl rfl Try.func9 rfl (by kernel_rfl) (hCut) ?_
      refine aH rfl rfl rfl rfl Try.func8 rfl (by kernel_rfl) (hM) ?_
      (iterate 2 refine vA ?_)
      refine aB ?_)
   | (refine rG 3 ?_
      refine vA ?_
      refine aH rfl rfl rfl rfl Try.func14 rfl (by kernel_rfl) (hS) ?_
      (iterate 5 refine vA ?_)
      refine aB ?_))
  refine⟨mkSt 153 [(6,.c (bC true))] [] [],[],Wk.mk [] rfl rfl rfl ?_ trivial,rfl,rfl,aR1⟩
  exact allT
 have hn0':¬(p.C.length:Int)=0:=by omega
 have hmod:∀x:Int,0≤x→∃m:Nat,x%(p.C.length:Int)=(m:Int)∧m<n:=fun x hx=>by
  have h1:=Int.emod_nonneg x (show(p.C.length:Int)≠0 by omega)
  have h2:=Int.emod_lt_of_pos x (show 0<(p.C.length:Int) by omega)
  obtain⟨m,hm⟩:=Int.eq_ofNat_of_zero_le h1
  exact⟨m,hm,by omega⟩
 obtain⟨m,hm,hmn⟩:=hmod o ho.1
 obtain⟨u,hu,hun⟩:=hmod a ha.1
 obtain⟨t,ht,htn⟩:=hmod b hb.1
 obtain⟨k1,k2,k3⟩:=nmU_ok p.C.length m (k:=n) (by omega)
 have hPt:=Part_A p hok (nmU m n) (by omega)
 rw[part_sub sm.chk k1]at hPt
 have hT:=Solve28_A (subP p (nmU m n)) (sub_sm sm k1).ok
 have hTs:=(sol_zero (sub_sm sm k1)).2 (sol_sub k1 hsol)
 generalize solveV (subP p (nmU m n))=v at *
 obtain⟨g1,f1⟩:=v
 dsimp only at hT hTs
 subst hTs
 have hFr:=(Solve28_A (frP p) (fr_sm sm).ok).cv (args':= [.ag [lsR p.R,lsC p.C,.p (.slice none 0 0),lsG p.O,.p (.slice none 0 0)]]) ⟨.ag ⟨Cv.refl _,Cv.refl _,Cv.nil,Cv.refl _,Cv.nil,trivial⟩,trivial⟩
 have hFs:=(sol_zero (fr_sm sm)).2 (fr_sol hsol)
 generalize solveV (frP p)=v at *
 obtain⟨g2,f2⟩:=v
 dsimp only at hFr hFs
 subst hFs
 have swd:=wd_sm sm h3 (a:=u) (b:=t) (by omega) (by omega)
 have hW:=Solve28_A (wdP p u t) swd.ok
 have hWs:=(sol_zero swd).2 (wd_sol hsol (a:=u) (b:=t) (by omega))
 generalize solveV (wdP p u t)=v at *
 obtain⟨g3,f3⟩:=v
 dsimp only at hW hWs
 subst hWs
 refine acalls_at Try.func5 rfl rfl Try.ntmps5 rfl ?_
 repeat (first
  |refine vB [0,4,5] ?_
  | (refine rG 1 ?_
     refine aH rfl rfl rfl rfl Try.func7 rfl (by kernel_rfl) (hSan) ?_
     refine vA ?_
     refine aB ?_)
  | (refine rG 2 ?_
     refine vA ?_
     refine aH rfl rfl rfl rfl Try.func9 rfl (by kernel_rfl) (hCut) ?_
     refine aH rfl rfl rfl rfl Try.func8 rfl (by kernel_rfl) (hM) ?_
     (iterate 2 refine vA ?_)
     refine aB ?_)
  | (refine rG 3 ?_
     refine vA ?_
     refine aH rfl rfl rfl rfl Try.func14 rfl (by kernel_rfl) (hS) ?_
     (iterate 5 refine vA ?_)
     refine aB ?_))
 refine vB [7,8] ?_
 refine AWp.round (fun k:Nat=>mkSt 153 [(1,.c (.p (.int .u8 o))),(5,.c (.pt 5 2 0 0)),(7,.c (bC true)),(8,.c (.pt 8 5 0 0)),(11,.c (iC p.C.length)),(12,.c (.ow 200)),(13,.c (iC (k:Nat)))] [(5,⟨false,1,2,44,lF [.p (.int .u8 a),.p (.int .u8 b)]⟩),(8,pB29 (pbC p)),(200,chI (nmU m k))] [5,8,200]) (fun k=>k≤n) (fun k=>n-k) 0 (Nat.zero_le _) ?_ (fun k hk=> ?_)
 ·refine Wk.mk [(5,some 5),(8,some 8),(200,none)] rfl rfl rfl ?_ ?_
  ·exact allT
  ·exact⟨hSm,hSm,HeapOk.nil rfl rfl,trivial⟩
 obtain⟨j1,j2,j3⟩:=nmU_ok p.C.length m (k:=k) (by omega)
 by_cases hkn:k<n
 ·have hkn':(k:Int)<p.C.length:=by omega
  by_cases hkm:k=m
  ·have hkm':(k:Int)=o%(p.C.length:Int):=by omega
   repeat (first
    |refine vB [9,10] ?_
    | (refine rG 11 ?_
       (iterate 2 refine vA ?_)
       refine AList.convI (wo) (by kernel_rfl) Try.underlying3 rfl rfl rfl ?_
       refine vA ?_
       first|refine qr4w2 AList.rem ?_|refine AList.remZ rfl rfl rfl rfl (by omega) ?_
       refine vA ?_
       refine aB ?_))
   refine⟨k+1,hkn,Wk.mk [(5,some 5),(8,some 8),(200,some 200)] rfl rfl rfl ?_ ?_,by omega⟩
   ·exact allT
   ·rw[show nmU m (k+1)=nmU m k from if_pos hkm]
    exact⟨hSm,hSm,HeapOk.row rfl rfl rfl (fun i _ j _=>⟨rfl,rfl⟩),trivial⟩
  ·have hkm':¬(k:Int)=o%(p.C.length:Int):=by omega
   repeat (first
    |refine vB [9,10] ?_
    | (refine rG 11 ?_
       (iterate 2 refine vA ?_)
       refine AList.convI (wo) (by kernel_rfl) Try.underlying3 rfl rfl rfl ?_
       refine vA ?_
       first|refine qr4w2 AList.rem ?_|refine AList.remZ rfl rfl rfl rfl (by omega) ?_
       refine vA ?_
       refine aB ?_)
    | (refine rG 12 ?_
       (iterate 3 refine vA ?_)
       first|refine AList.appL0 tyOk rfl rfl rfl rfl rfl rfl rfl rfl rfl rfl oM oM ?_|refine AList.appL tyOk rfl rfl rfl rfl rfl rfl rfl rfl rfl rfl oM oM ?_|refine AList.appN tyOk rfl rfl rfl rfl rfl rfl rfl rfl rfl oM oM ?_|refine AList.appO tyOk rfl rfl rfl rfl rfl rfl rfl rfl rfl rfl rfl oM oM ?_|refine AList.appE tyOk rfl rfl rfl rfl rfl rfl rfl rfl rfl rfl oM oM ?_
       refine vA ?_
       refine aB ?_))
   refine⟨k+1,hkn,Wk.mk [(5,some 5),(8,some 8),(200,some 59)] rfl rfl rfl ?_ ?_,by omega⟩
   ·exact allT
   ·rw[nmU_ne hkm]
    exact⟨hSm,hSm,HeapOk.row rfl rfl List.length_append (chI_snoc (nmU m k) k),trivial⟩
 have hkn':¬(k:Int)<p.C.length:=by omega
 obtain rfl:k=n:=by omega
 refine vB [9] ?_
 refine AWp.weak (S':=mkSt 153 [(5,.c (.pt 5 2 0 0)),(7,.c (bC true)),(8,.c (.pt 8 5 0 0)),(11,.c (iC p.C.length)),(12,.c (lsI (nmU m k)))] [(5,⟨false,1,2,44,lF [.p (.int .u8 a),.p (.int .u8 b)]⟩),(8,pB29 (pbC p))] [5,8]) (Wk.mk [(5,some 5),(8,some 8)] rfl rfl rfl ?_ ?_) ?_
 ·repeat (first|exact trivial|refine⟨⟨_,rfl,by first|exact LeA.c (LeC.fz rfl rfl rfl (fun i _ j _=>⟨rfl,rfl⟩))|exact leT⟩,?_⟩)
 ·exact⟨hSm,hSm,trivial⟩
 repeat (first
  |refine vB [15,16] ?_
  | (refine rG 13 ?_
     (iterate 2 refine vA ?_)
     refine aH rfl rfl rfl rfl Try.func10 rfl (by kernel_rfl) (hPt) ?_
     (iterate 6 refine vA ?_)
     refine aB ?_)
  | (refine rG 14 ?_
     refine vA ?_
     refine aH rfl rfl rfl rfl Try.func14 rfl (by kernel_rfl) (hT) ?_
     (iterate 5 refine vA ?_)
     refine aB ?_))
 repeat (first
  |refine vB [18] ?_
  | (refine rG 17 ?_
     refine vA ?_
     refine aH rfl rfl rfl rfl Try.func14 rfl (by kernel_rfl) (hFr) ?_
     (iterate 5 refine vA ?_)
     refine aB ?_)
  | (refine rG 19 ?_
     (iterate 3 refine vA ?_)
     first|refine AList.appL0 tyOk rfl rfl rfl rfl rfl rfl rfl rfl rfl rfl oM oM ?_|refine AList.appL tyOk rfl rfl rfl rfl rfl rfl rfl rfl rfl rfl oM oM ?_|refine AList.appN tyOk rfl rfl rfl rfl rfl rfl rfl rfl rfl oM oM ?_|refine AList.appO tyOk rfl rfl rfl rfl rfl rfl rfl rfl rfl rfl rfl oM oM ?_|refine AList.appE tyOk rfl rfl rfl rfl rfl rfl rfl rfl rfl rfl oM oM ?_
     (iterate 2 refine vA ?_)
     refine aB ?_)
  |(refine AWp.draw (id:=20) mixed ?_;(first|refine qr8o (aU tyOk) ?_|refine qr8o (AList.idxArrP tyOk) ?_|refine qr8o (AList.idxArrL tyOk) ?_);refine vA ?_;refine AList.convI (wa) (by kernel_rfl) Try.underlying3 rfl rfl rfl ?_;refine vA ?_;(first|refine qr4w2 AList.rem ?_|refine AList.remZ rfl rfl rfl rfl (by omega) ?_);(first|refine qr8o (aU tyOk) ?_|refine qr8o (AList.idxArrP tyOk) ?_|refine qr8o (AList.idxArrL tyOk) ?_);refine vA ?_;refine AList.convI (wb) (by kernel_rfl) Try.underlying3 rfl rfl rfl ?_;refine vA ?_;(first|refine qr4w2 AList.rem ?_|refine AList.remZ rfl rfl rfl rfl (by omega) ?_);(iterate 2 refine vA ?_);refine aB ⟨by kernel_rfl,?_⟩))
 refine AWp.weak (S':=mkSt 153 [(7,.c (bC true)),(8,.c (.pt 8 5 0 0)),(15,.c (iC 0)),(17,.c (iC 0)),(20,.c (iC 0)),(21,.c (.pt 21 5 0 0)),(22,.c (iC u)),(23,.c (iC t))] [(8,pB29 (pbC p)),(21,pB29 [lsR p.R,.ow 201,lsB p.F,lsG p.O,lsG p.T]),(201,chB p.C)] [8,21,201]) (Wk.mk [(8,some 8),(21,some 21),(201,some 83)] rfl rfl rfl ?_ ?_) ?_
 ·rw[←hu,←ht]
  exact allT
 ·exact⟨hSm,HeapOk.box rfl rfl ⟨LeC.refl _ rfl,LeC.ow _ _ rfl,LeC.refl _ rfl,LeC.refl _ rfl,LeC.refl _ rfl,trivial⟩ rfl,HeapOk.row rfl rfl rfl (fun i _ j _=>⟨rfl,rfl⟩),trivial⟩
 obtain⟨X,hX⟩:∃X,p.C.getD u []=X:=⟨_,rfl⟩
 obtain⟨Y,hY⟩:∃Y,p.C.getD t []=Y:=⟨_,rfl⟩
 have hcX:chF p.C u 0=lsB X:=by rw[←hX]
 have hcY:chF p.C t 0=lsB Y:=by rw[←hY]
 have hYl:Y.length≤3:=by rw[←hY];exact h3 _ (getD_mem28 (by omega))
 refine AWp.join2 (mkSt 153 [(7,.c (bC true)),(15,.c (iC 0)),(17,.c (iC 0)),(20,.c (iC 0)),(21,.c (.pt 21 5 0 0))] [(21,pB29 (pbC (wdP p u t)))] [21]) ?_ ?_
 ·unfold wdP
  rw[hX,hY]
  by_cases h:0<X.length
  ·have h':(X.length:Int)>0:=by omega
   have hY':(Y.length:Int)<30:=by omega
   rw[if_pos ⟨h,by omega⟩]
   repeat (first
    |refine vB [] ?_
    | (refine rG 21 ?_
       (iterate 3 refine vA ?_)
       first|refine qr8eo2 (aP (k:=u) tyOk) ?_|refine qr10eo (AList.idxOw (k:=u) tyOk) ?_
       first|refine AList.load1lE tyOk (hcX) rfl rfl rfl rfl rfl oM ?_|refine AList.load1F tyOk rfl rfl rfl rfl rfl rfl rfl oM oM (hcX) ?_
       (iterate 6 refine vA ?_)
       first|refine qr2 aG ?_|refine qr8eo2 (aP (k:=t) tyOk) ?_|refine qr10eo (AList.idxOw (k:=t) tyOk) ?_
       first|refine qr2 aG ?_|refine AList.load1lE tyOk (hcY) rfl rfl rfl rfl rfl oM ?_|refine AList.load1F tyOk rfl rfl rfl rfl rfl rfl rfl oM oM (hcY) ?_
       (iterate 3 refine vA ?_)
       refine aB ?_)
    |(refine AWp.draw (id:=22) mixed ?_;(iterate 7 refine vA ?_);(first|refine qr8eo2 (aP (k:=u) tyOk) ?_|refine qr10eo (AList.idxOw (k:=u) tyOk) ?_);(first|refine AList.load1lE tyOk (hcX) rfl rfl rfl rfl rfl oM ?_|refine AList.load1F tyOk rfl rfl rfl rfl rfl rfl rfl oM oM (hcX) ?_);(first|refine qr8eo2 (aP (k:=0) tyOk) ?_|refine qr10eo (AList.idxOw (k:=0) tyOk) ?_);(iterate 2 refine vA ?_);(first|refine AList.appL0 tyOk rfl rfl rfl rfl rfl rfl rfl rfl rfl rfl oM oM ?_|refine AList.appL tyOk rfl rfl rfl rfl rfl rfl rfl rfl rfl rfl oM oM ?_|refine AList.appN tyOk rfl rfl rfl rfl rfl rfl rfl rfl rfl oM oM ?_|refine AList.appO tyOk rfl rfl rfl rfl rfl rfl rfl rfl rfl rfl rfl oM oM ?_|refine AList.appE tyOk rfl rfl rfl rfl rfl rfl rfl rfl rfl rfl oM oM ?_);(iterate 3 refine vA ?_);(first|refine qr8eo2 (aP (k:=t) tyOk) ?_|refine qr10eo (AList.idxOw (k:=t) tyOk) ?_);(first|refine AList.load1lE tyOk (hcY) rfl rfl rfl rfl rfl oM ?_|refine AList.load1F tyOk rfl rfl rfl rfl rfl rfl rfl oM oM (hcY) ?_);(first|refine AList.appL0 tyOk rfl rfl rfl rfl rfl rfl rfl rfl rfl rfl oM oM ?_|refine AList.appL tyOk rfl rfl rfl rfl rfl rfl rfl rfl rfl rfl oM oM ?_|refine AList.appN tyOk rfl rfl rfl rfl rfl rfl rfl rfl rfl oM oM ?_|refine AList.appO tyOk rfl rfl rfl rfl rfl rfl rfl rfl rfl rfl rfl oM oM ?_|refine AList.appE tyOk rfl rfl rfl rfl rfl rfl rfl rfl rfl rfl oM oM ?_);(first|refine qr8eo2 (aP (k:=t) tyOk) ?_|refine qr10eo (AList.idxOw (k:=t) tyOk) ?_);refine vA ?_;refine aB ⟨by kernel_rfl,?_⟩))
   refine⟨rfl,Wk.trans (B:=mkSt 153 [(7,.c (bC true)),(15,.c (iC 0)),(17,.c (iC 0)),(20,.c (iC 0)),(21,.c (.pt 21 5 0 0))] [(21,pB29 [lsR p.R,.ow 201,lsB p.F,lsG p.O,lsG p.T]),(201,chB (p.C.set t (X.getD 0 bpZ::Y)))] [21,201]) (Wk.mk [(21,some 21),(201,some 201)] rfl rfl rfl ?_ ?_) (Wk.mk [(21,some 21)] rfl rfl rfl ?_ ?_)⟩
   ·exact allT
   ·exact⟨HeapOk.box rfl rfl ⟨LeC.refl _ rfl,LeC.ow _ _ rfl,LeC.refl _ rfl,LeC.refl _ rfl,LeC.refl _ rfl,trivial⟩ rfl,.inr ⟨201,p.C.length,_,.inl rfl,List.length_set ..,rfl,wd_fz (by omega) rfl rfl rfl⟩,trivial⟩
   ·exact allT
   ·exact⟨HeapOk.box rfl rfl ⟨LeC.refl _ rfl,fzC rfl rfl,LeC.refl _ rfl,LeC.refl _ rfl,LeC.refl _ rfl,trivial⟩ rfl,trivial⟩
  ·have h':¬(X.length:Int)>0:=by omega
   rw[if_neg fun e=>h e.1]
   repeat (first
    |refine vB [] ?_
    | (refine rG 21 ?_
       (iterate 3 refine vA ?_)
       first|refine qr8eo2 (aP (k:=u) tyOk) ?_|refine qr10eo (AList.idxOw (k:=u) tyOk) ?_
       first|refine AList.load1lE tyOk (hcX) rfl rfl rfl rfl rfl oM ?_|refine AList.load1F tyOk rfl rfl rfl rfl rfl rfl rfl oM oM (hcX) ?_
       (iterate 6 refine vA ?_)
       first|refine qr2 aG ?_|refine qr8eo2 (aP (k:=t) tyOk) ?_|refine qr10eo (AList.idxOw (k:=t) tyOk) ?_
       first|refine qr2 aG ?_|refine AList.load1lE tyOk (hcY) rfl rfl rfl rfl rfl oM ?_|refine AList.load1F tyOk rfl rfl rfl rfl rfl rfl rfl oM oM (hcY) ?_
       (iterate 3 refine vA ?_)
       refine aB ?_))
   refine⟨rfl,Wk.mk [(21,some 21)] rfl rfl rfl ?_ ?_⟩
   ·exact allT
   ·exact⟨HeapOk.box rfl rfl ⟨LeC.refl _ rfl,fzC rfl rfl,LeC.refl _ rfl,LeC.refl _ rfl,LeC.refl _ rfl,trivial⟩ rfl,trivial⟩
 repeat (first
  |refine vB [24] ?_
  | (refine rG 23 ?_
     refine vA ?_
     refine aH rfl rfl rfl rfl Try.func14 rfl (by kernel_rfl) (hW) ?_
     (iterate 5 refine vA ?_)
     refine aB ?_))
 refine⟨mkSt 153 [(6,.c (bC true))] [] [],[],Wk.mk [] rfl rfl rfl ?_ trivial,rfl,rfl,aR1⟩
 exact allT
end Go.Proofs.Ytpefnljgalpllaa
end
section
namespace Go.Proofs.Ytpefnljgalpllaa.coreMonotone
open Go.ChangeShapes Go.WideShapes Go.ChangeAt Go.RowKit Go.Flow Go.AV
theorem wf_u8{n:Int}(h:(Lit.int .u8 n).wf=true):0≤n∧n≤255:=by
 have e1:IntKind.u8.min=0:=by decide
 have e2:IntKind.u8.max=255:=by decide
 simp[Lit.wf]at h
 omega
section
variable{H:Type}{enc:TypeId×Value→H}{W:World}
theorem opn_u8:Opn enc Try.prog W 5 (fun i:Int=> [.p (.int .u8 i)]) (fun i=>0≤i∧i≤255):=(Opn.int Try.underlying5).mono fun _ h=>wf_u8 h
theorem opn_two8:Opn enc Try.prog W 44 (fun p:Int×Int=> [.p (.int .u8 p.1),.p (.int .u8 p.2)]) (fun p=>(0≤p.1∧p.1≤255)∧0≤p.2∧p.2≤255):=
 (opn_u8.array Try.underlying44 (by kernel_rfl:Try.prog.cellsOf 5=1) (by kernel_rfl)).conv fun L h=>by
   obtain⟨h1,h2⟩:=h
   obtain⟨x,y,rfl⟩:∃x y,L= [x,y]:=by
    match L,h1 with
    | [x,y],_=>exact⟨x,y,rfl⟩
   exact⟨(x,y),⟨h2 x (by simp),h2 y (by simp)⟩,fun _ h=>h⟩
end
set_option maxRecDepth 100000 in
theorem contract(H:Type)(enc:TypeId×Value→H)(W:World)(base:Nat)(args:Array Value)(ds gs:List (DataW H))(before:List MemPlace)
 (hval:∀(j:Nat) t v,Try.f5.params[j]?=some t→args[j]?=some v→Value.okWide Try.prog W .any base t v)
 (hW:DataW.Whole enc Try.prog Try.f5.params.toList Rows.coreMonotoneSpec.vars false W args.toList ds gs before)
 (hsz:(DataW.weightsEach Try.prog (Try.f5.params.toList++(OpenSpec.ofChange Rows.coreMonotoneSpec).bare.plain.varTypes Try.prog) (ds++gs)).all (·≤reachBytes)=true):
 Calls Try.prog 5 args W fun e W'=>∃v,e=.returned v∧Rows.coreMonotoneSpec.post enc Try.prog Try.f5 false true false false W args v W':=by
 have hW':=hW
 obtain⟨p,q,hA0,hV,rfl,hfz,hnd⟩:=hW
 have hA:DataW.TrodAll enc Try.prog W 0 (fun _=>true) true Try.f5.params.toList args.toList ds p:=hA0
 have hAk:=hA0
 rw[Try.params5]at hA hval hsz
 obtain⟨rfl,rfl⟩:=trodVars_none hV
 obtain⟨v0,vs0,d0,ds0,p0,q0,hargs,rfl,rfl,h0,t0⟩:=trodAll_cons hA
 obtain⟨v1,vs1,d1,ds1,p1,q1,rfl,rfl,rfl,h1,t1⟩:=trodAll_cons t0
 obtain⟨v2,vs2,d2,ds2,p2,q2,rfl,rfl,rfl,h2,t2⟩:=trodAll_cons t1
 obtain⟨rfl,rfl,rfl⟩:=trodAll_nil t2
 obtain rfl:args= #[v0,v1,v2]:=by rw[←Array.toList_inj];exact hargs
 have hlt:=fun x hx=>hW'.lt x hx
 simp only[List.append_nil]at hW'
 rw[List.append_nil]at hsz
 obtain⟨a0,ok0,r0⟩:=opn_ll.argC (cells_slice Try.underlying22 (hval 0 22 v0 rfl rfl)) h0 (weigh hsz 0 (t:=22) (d:=d0) rfl rfl)
 obtain⟨a1,ok1,r1⟩:=opn_u8.argC (cells_int Try.underlying5 (hval 1 5 v1 rfl rfl)) h1 (weigh hsz 1 (t:=5) (d:=d1) rfl rfl)
 obtain⟨a2,ok2,r2⟩:=opn_two8.argA Try.underlying44 (hval 2 44 v2 rfl rfl) h2 (weigh hsz 2 (t:=44) (d:=d2) rfl rfl)
 refine((ECalls.of (CoreMonotone_A a0 ok0 a1 a2.1 a2.2 ok1 ok2.1 ok2.2)) O0 W [_,_,_] (fun b h=>h.elim) ⟨r0,r1,r2,trivial⟩).mono fun e W' ⟨v,r,he,hr,hv,hE⟩=> ?_
 subst hr
 obtain rfl:v=.bool true:=hv.2
 subst he
 exact⟨_,rfl,post_below (pv:= []) hW' (fun _ _ _=>trodAll_cons_mk (shut_bool Try.underlying4 _) trodAll_mk0)
  (fun sp hsp=>trodAll_below laidOut hE (by rw[Try.params5];intro t ht;simp only[List.mem_cons,List.not_mem_nil,or_false]at ht;rcases ht with rfl|rfl|rfl<;>exact⟨by kernel_rfl,of_decide_eq_true (by kernel_rfl)⟩) hAk (fun x hx=>hlt x (by rw[List.append_nil];exact hx)) sp (fun x hx=>hsp x (by simpa only[List.append_nil]using hx)))
  (fun _ _=>rfl) (by simp) hE (ok_one (by kernel_rfl) rfl (okWide_bool_mk Try.underlying4 _))⟩
theorem own:ownKnob Try.prog.godebug=none:=by kernel_rfl
set_option maxRecDepth 100000 in
theorem lifted(os:Os)(started:os.Started)(H:Type)(enc:TypeId×Value→H):
 ReturnsInHanded {} Try.checked os 5 .any (Rows.coreMonotoneSpec.pre6 enc Try.prog Try.f5 Rows.coreMonotoneRow.domain false) (Rows.coreMonotoneSpec.post enc Try.prog Try.f5 false true false false):=by
 refine returnsInHanded_of_change_sized (C:=Try.checked) own started (by kernel_rfl) Try.func5
  (ChangeSpec.witness6 (enc:=enc) (C:=Try.checked) false ⟨#[], #[.slice none 0 0,.int .u8 0,.agg #[.int .u8 0,.int .u8 0]],[]⟩ 8 (by kernel_rfl) (by kernel_rfl) (by kernel_rfl) (by kernel_rfl)) ?_
 intro W base args ds gs before hval hW _ hsz _
 exact contract H enc W base args ds gs before hval hW hsz
theorem said:Rows.CoreMonotoneSaid:=
 OpenClaim.holds_of_wide 5 Try.f5 rfl rfl rfl rfl rfl rfl rfl ⟨rfl,rfl,rfl,rfl,rfl⟩ rfl rfl rfl rfl rfl (by kernel_rfl) Try.func5 (by kernel_rfl)
  (of_decide_eq_true (by kernel_rfl)) (by unfold Func.isWrapper;first|(rw[if_pos (by decide +kernel)];kernel_rfl)|(rw[if_neg (by decide +kernel)];exact⟨rfl,rfl⟩))
  (fun os started H enc _=>lifted os started H enc)
end Go.Proofs.Ytpefnljgalpllaa.coreMonotone
end
