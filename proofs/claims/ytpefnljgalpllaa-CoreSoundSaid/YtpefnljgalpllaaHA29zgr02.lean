/- Parts of the proof: A28s, A28ze, A28zj, A28zk, A29x, A29ze, A29zc, A29zf. -/
import Derived.Test.YtpefnljgalpllaaG50
set_option linter.unusedSimpArgs false
set_option linter.unusedVariables false
set_option maxHeartbeats 0
section
namespace Go.Proofs.Ytpefnljgalpllaa
open Go.RowKit Go.Flow Go.AV Go.Plain
def holdsV(p:Pb)(n:Nat)(f:Nat→Int):Bool:=decide (chkP p=0∧n=p.C.length) && (List.range n).all (stepOk p f)
theorem holdsV_iff{p:Pb}{n:Nat}{f:Nat→Int}:holdsV p n f=true↔(chkP p=0∧n=p.C.length)∧∀k,k<n→stepOk p f k=true:=by
 unfold holdsV
 simp[List.all_eq_true]
theorem holdsV_no{p:Pb}{n:Nat}{f:Nat→Int}(h:¬((chkP p=0∧n=p.C.length)∧∀k,k<n→stepOk p f k=true)):holdsV p n f=false:=Bool.eq_false_iff.2 fun e=>h (holdsV_iff.1 e)
set_option maxRecDepth 100000 in
theorem Holds28_A(p:Pb)(hp:p.ok)(n:Nat)(f:Nat→Int)(hn:n≤1000000):ACalls Try.prog 18 [.ag (pbC p),.c (.ls n 1 (iF f))] (.c (bC (holdsV p n f))):=by
 have hC:=Check28_A p hp
 have hno:= @holdsV_no p n f
 have lC:=hp.lC
 obtain⟨e,he⟩:∃e,chkP p=e:=⟨_,rfl⟩
 rw[he]at hC hno
 by_cases h0:e=0
 ·subst h0
  have hfit:=chkP_fit hp he
  by_cases hl:n=p.C.length
  ·have hl':(n:Int)=p.C.length:=by omega
   obtain⟨V,hV⟩:∃V,holdsV p n f=V:=⟨_,rfl⟩
   rw[hV]at hno⊢
   have hyes:= @holdsV_iff p n f
   rw[hV,he]at hyes
   refine acalls_at Try.func18 rfl rfl Try.ntmps18 rfl ?_
   repeat (first
    |refine vB [0,4] ?_
    | (refine rG 1 ?_
       refine vA ?_
       refine aH rfl rfl rfl rfl Try.func30 rfl (by kernel_rfl) (hC) ?_
       (iterate 9 refine vA ?_)
       refine aB ?_)
    | (refine rG 3 ?_
       refine vA ?_
       refine AList.makeMap ((knK p)) (KM.empty) rfl rfl rfl ?_
       (iterate 3 refine vA ?_)
       refine aB ?_))
   refine AWp.round (fun k:Nat=>
    mkSt 52 [(1,.c (.ls n 1 (iF f))),(2,.c (.pt 2 5 0 0)),(5,.c (.pt 22 7 0 0)),(23,.c (.ls n 1 (iF f))),(24,.c (iC n)),(25,.c (iC (k:Nat)))] [(2,⟨false,1,5,30,lF (pbC p)⟩),(20,knB p),(22,srB p 20 0)] [2,20,22]
    ) (fun k=>k≤n∧∀j,j<k→stepOk p f j=true) (fun k=>n-k) 0 ⟨Nat.zero_le _,fun _ h=>absurd h (Nat.not_lt_zero _)⟩ ?_ (fun k hk=> ?_)
   ·refine Wk.mk [(2,some 2),(20,some 20),(22,some 22)] rfl rfl rfl ?_ ?_
    ·exact allT
    ·exact⟨hSm,HeapOk.mo rfl rfl (fun _ _ h=>h),HeapOk.box rfl rfl ⟨LeC.refl _ rfl,LeC.refl _ rfl,LeC.refl _ rfl,LeC.refl _ rfl,LeC.refl _ rfl,LeC.ow _ _ rfl,LeC.int rfl,trivial⟩ rfl,trivial⟩
   obtain⟨hk,hok⟩:=hk
   by_cases hkl:k<n
   ·have hkl':(k:Int)<n:=by omega
    obtain⟨L,hL⟩:∃L,p.C.getD k []=L:=⟨_,rfl⟩
    have hcF:chF p.C k 0=lsB L:=by rw[←hL]
    have hLl:L.length≤32:=by rw[←hL];exact hfit.l _ (getD_mem28 (by omega))
    have hst:= @stepOk_iff p f k
    rw[hL]at hst
    by_cases c1:f k<0
    ·obtain rfl:=hno fun h=>absurd (hst.1 (h.2 k hkl)).1.1 (by omega)
     repeat (first
      |refine vB [5,7,8] ?_
      | (refine rG 6 ?_
         refine vA ?_
         refine qr8eo2 (aP (k:=k) tyOk) ?_
         (iterate 3 refine vA ?_)
         refine aB ?_))
     refine⟨mkSt 52 [(4,.c (bC false))] [] [],[],Wk.mk [] rfl rfl rfl ?_ trivial,rfl,rfl,aR1⟩
     exact allT
    by_cases c2:f k≥L.length
    ·obtain rfl:=hno fun h=>absurd (hst.1 (h.2 k hkl)).1.2 (by omega)
     repeat (first
      |refine vB [5,8] ?_
      | (refine rG 6 ?_
         refine vA ?_
         refine qr8eo2 (aP (k:=k) tyOk) ?_
         (iterate 3 refine vA ?_)
         refine aB ?_)
      | (refine rG 7 ?_
         (iterate 7 refine vA ?_)
         refine qr8eo2 (aP (k:=k) tyOk) ?_
         refine AList.load1lE tyOk (hcF) rfl rfl rfl rfl rfl oM ?_
         (iterate 12 refine vA ?_)
         refine aB ?_))
     refine⟨mkSt 52 [(4,.c (bC false))] [] [],[],Wk.mk [] rfl rfl rfl ?_ trivial,rfl,rfl,aR1⟩
     exact allT
    have hpk:=PkOk.of hfit (k:=k) (c:=f k) (by omega) (by rw[hL];omega)
    have hfr:=sfree_A p hp hfit.t 0 k (fun i=>f (0+i)) (f k) (by omega) hpk (fun i hi=>by rw[Nat.zero_add];exact PkOk.of hfit (by omega) (stepOk_iff.1 (hok i hi)).1)
    rw[show freeV p k (fun i=>f (0+i)) (f k)=freeV p k f (f k) by rw[show(fun i=>f (0+i))=f from funext fun i=>by rw[Nat.zero_add]]]at hfr
    cases hf:freeV p k f (f k)with
    | false=>
      rw[hf]at hfr
      obtain rfl:=hno fun h=>by have:=(hst.1 (h.2 k hkl)).2;rw[hf]at this;cases this
      repeat (first
       |refine vB [5,8] ?_
       | (refine rG 6 ?_
          refine vA ?_
          refine qr8eo2 (aP (k:=k) tyOk) ?_
          (iterate 3 refine vA ?_)
          refine aB ?_)
       | (refine rG 7 ?_
          (iterate 7 refine vA ?_)
          refine qr8eo2 (aP (k:=k) tyOk) ?_
          refine AList.load1lE tyOk (hcF) rfl rfl rfl rfl rfl oM ?_
          (iterate 7 refine vA ?_)
          refine AList.cut (l:=0) (h:=k) tyOk rfl rfl rfl rfl rfl rfl rfl rfl ⟨_,_,rfl,by first|rfl|omega⟩ (by omega) (by omega) ?_
          refine vA ?_
          refine AList.callG [22,20] [] [srB p 1001 0,knB p] [srB p 1001 0,knB p] [] [srB p 20 0,knB p] [] rfl rfl FnV.func rfl Try.func46 rfl (by kernel_rfl) (lendS rfl rfl rfl rfl trivial) rfl (backP (bC false) rfl) (backS rfl trivial) (trivial) (hfr) ?_
          (iterate 2 refine vA ?_)
          refine aB ?_))
      refine⟨mkSt 52 [(4,.c (bC false))] [] [],[],Wk.mk [] rfl rfl rfl ?_ trivial,rfl,rfl,aR1⟩
      exact allT
    | true=>
      rw[hf]at hfr
      repeat (first
       |refine vB [5,9] ?_
       | (refine rG 6 ?_
          refine vA ?_
          refine qr8eo2 (aP (k:=k) tyOk) ?_
          (iterate 3 refine vA ?_)
          refine aB ?_)
       | (refine rG 7 ?_
          (iterate 7 refine vA ?_)
          refine qr8eo2 (aP (k:=k) tyOk) ?_
          refine AList.load1lE tyOk (hcF) rfl rfl rfl rfl rfl oM ?_
          (iterate 7 refine vA ?_)
          refine AList.cut (l:=0) (h:=k) tyOk rfl rfl rfl rfl rfl rfl rfl rfl ⟨_,_,rfl,by first|rfl|omega⟩ (by omega) (by omega) ?_
          refine vA ?_
          refine AList.callG [22,20] [] [srB p 1001 0,knB p] [srB p 1001 0,knB p] [] [srB p 20 0,knB p] [] rfl rfl FnV.func rfl Try.func46 rfl (by kernel_rfl) (lendS rfl rfl rfl rfl trivial) rfl (backP (bC true) rfl) (backS rfl trivial) (trivial) (hfr) ?_
          (iterate 2 refine vA ?_)
          refine aB ?_))
      refine⟨k+1,⟨hkl,fun j hj=> ?_⟩,Wk.mk [(2,some 2),(20,some 20),(22,some 22)] rfl rfl rfl ?_ ?_,by omega⟩
      ·by_cases ej:j=k
       ·rw[ej];exact hst.2 ⟨⟨by omega,by omega⟩,hf⟩
       ·exact hok j (by omega)
      ·exact allT
      ·exact⟨hSm,HeapOk.mo rfl rfl (fun _ _ h=>h),HeapOk.box rfl rfl ⟨LeC.refl _ rfl,LeC.refl _ rfl,LeC.refl _ rfl,LeC.refl _ rfl,LeC.refl _ rfl,LeC.ow _ _ rfl,LeC.int rfl,trivial⟩ rfl,trivial⟩
   have hkl':¬(k:Int)<n:=by omega
   obtain rfl:n=k:=by omega
   obtain rfl:V=true:=hyes.2 ⟨⟨rfl,hl⟩,hok⟩
   refine vB [5,10] ?_
   refine⟨mkSt 52 [(4,.c (bC true))] [] [],[],Wk.mk [] rfl rfl rfl ?_ trivial,rfl,rfl,aR1⟩
   exact allT
  ·have hl':¬(n:Int)=p.C.length:=by omega
   rw[hno fun h=>hl h.1.2]
   refine acalls_at Try.func18 rfl rfl Try.ntmps18 rfl ?_
   repeat (first
    |refine vB [0,2] ?_
    | (refine rG 1 ?_
       refine vA ?_
       refine aH rfl rfl rfl rfl Try.func30 rfl (by kernel_rfl) (hC) ?_
       (iterate 9 refine vA ?_)
       refine aB ?_))
   refine⟨mkSt 52 [(4,.c (bC false))] [] [],[],Wk.mk [] rfl rfl rfl ?_ trivial,rfl,rfl,aR1⟩
   exact allT
 ·rw [hno fun h=>h0 h.1.1]
  refine acalls_at Try.func18 rfl rfl Try.ntmps18 rfl ?_
  repeat (first
   |refine vB [0,2] ?_
   | (refine rG 1 ?_
      refine vA ?_
      refine aH rfl rfl rfl rfl Try.func30 rfl (by kernel_rfl) (hC) ?_
      (iterate 9 refine vA ?_)
      refine aB ?_))
  refine⟨mkSt 52 [(4,.c (bC false))] [] [],[],Wk.mk [] rfl rfl rfl ?_ trivial,rfl,rfl,aR1⟩
  exact allT
theorem rd_md21(bl sh:Int):rdE (md21 bl sh)=0∧-1000000≤(md21 bl sh).bl∧(md21 bl sh).bl≤1000000:=by
 unfold md21
 have h0:=Int.emod_nonneg bl (show(3:Int)≠0 by omega)
 have h3:=Int.emod_lt_of_pos bl (show(0:Int)<3 by omega)
 generalize bl%3=c at *
 have hc:c=0∨c=1∨c=2:=by omega
 refine⟨?_,by dsimp only;omega,by dsimp only;omega⟩
 rcases hc with rfl|rfl|rfl
 ·have h1:=Int.emod_nonneg sh (show((2*0+1)*(2*0+1):Int)≠0 by decide)
  have h2:=Int.emod_lt_of_pos sh (show(0:Int)<(2*0+1)*(2*0+1) by decide)
  generalize sh%((2*0+1)*(2*0+1))=v at *
  unfold rdE
  simp
  omega
 ·have h1:=Int.emod_nonneg sh (show((2*1+1)*(2*1+1):Int)≠0 by decide)
  have h2:=Int.emod_lt_of_pos sh (show(0:Int)<(2*1+1)*(2*1+1) by decide)
  generalize sh%((2*1+1)*(2*1+1))=v at *
  unfold rdE
  simp
  omega
 ·have h1:=Int.emod_nonneg sh (show((2*2+1)*(2*2+1):Int)≠0 by decide)
  have h2:=Int.emod_lt_of_pos sh (show(0:Int)<(2*2+1)*(2*2+1) by decide)
  generalize sh%((2*2+1)*(2*2+1))=v at *
  unfold rdE
  simp
  omega
theorem rdIter_md(ll:List (List Int)):∀k,∀r∈(rdIter ll k).2,∃bl sh,r=md21 bl sh
 |0,r,h=>by cases h
 | k+1,r,h=>by
   rcases List.mem_append.1 (show r∈(rdIter ll k).2++ [md21 _ _]from h)with h|h
   ·exact rdIter_md ll k r h
   ·exact⟨_,_,List.mem_singleton.1 h⟩
theorem lists_bd(ll:List (List Int)):rdN ll≤2∧lsN28 ll≤3∧fxN28 ll≤2:=by
 have h1:=dvA_bd ll 0 3 (by decide)
 have h2:=dvA_bd ll (rdIter ll (rdN ll)).1 4 (by decide)
 have h3:=dvA_bd ll (nxA ll (rdIter ll (rdN ll)).1) 3 (by decide)
 unfold lsN28 fxN28
 refine⟨by unfold rdN;omega,by omega,by omega⟩
theorem clash_any(a b:Bp)(x y:Bg):∀(L:List Rd) (k:Nat),(clashL a b x y L k).2.2=L.any (fun r=>rcB r a b x y)
 | [],_=>rfl
 | r::L,k=>by
   unfold clashL
   rw[List.any_cons]
   cases h:rcB r a b x y with
   |true=>rw[if_pos rfl];rfl
   |false=>rw[if_neg (by simp),clash_any a b x y L (k+1)];rfl
theorem made_sm(ll:List (List Int)):Sm (made28 ll)∧∀l∈(made28 ll).C,l.length≤3:=by
 obtain⟨b1,b2,b3⟩:=lists_bd ll
 have h:=moIter_ok ll (lsN28 ll+fxN28 ll)
 have hR:=rdIter_len ll (rdN ll)
 have hC:=h.C
 have hF:=h.F
 refine⟨⟨?_,fun r hr=> ?_,?_,fun l hl=> ?_,?_,h.Ff,h.O,h.T⟩,fun l hl=>(h.Cc l hl).1⟩
 ·show(rdIter ll (rdN ll)).2.length≤4
  omega
 ·obtain⟨bl,sh,rfl⟩:=rdIter_md ll _ r hr
  exact rd_md21 bl sh
 ·show(moIter ll (lsN28 ll+fxN28 ll)).C.length≤5
  omega
 ·have:=h.Cc l hl
  exact⟨by omega,this.2⟩
 ·show(moIter ll (lsN28 ll+fxN28 ll)).F.length≤6
  omega
theorem appF_lo{F G:Nat→Nat→CV}{n i j:Nat}(h:i<n):appF F n G i j=F i j:=by
 unfold appF
 rw[show Nat.blt i n=true from Nat.blt_eq.mpr h]
 rfl
theorem appF_hi{F G:Nat→Nat→CV}{n i j:Nat}(h:n≤i):appF F n G i j=G (i-n) j:=by
 unfold appF
 rw[show Nat.blt i n=false from Bool.eq_false_iff.2 fun e=>by have:=Nat.blt_eq.mp e;omega]
 rfl
def cutL(ll:List (List Int)):List (List Int):=(ll.take 16).map fun l=>l.take 40
theorem cutL_len(ll:List (List Int)):(cutL ll).length=min ll.length 16:=by
 unfold cutL
 rw[List.length_map,List.length_take]
 omega
theorem cutL_at(ll:List (List Int)){k:Nat}(hk:k<min ll.length 16):(cutL ll).getD k []=(ll.getD k []).take 40:=by
 unfold cutL
 rw[List.getD_eq_getElem?_getD,List.getElem?_map,List.getElem?_take,if_pos (by omega),List.getD_eq_getElem?_getD,List.getElem?_eq_getElem (by omega)]
 rfl
theorem cutL_ok(ll:List (List Int)):LlOk (cutL ll):=by
 refine⟨by rw[cutL_len];omega,fun k hk=> ?_⟩
 rw[cutL_len]at hk
 rw[cutL_at ll hk,List.length_take]
 omega
theorem take_fI(l:List Int)(m:Nat){k:Nat}(hk:k<min l.length m):fI (l.take m) k=fI l k:=by
 show(l.take m).getD k 0=l.getD k 0
 rw[List.getD_eq_getElem?_getD,List.getD_eq_getElem?_getD,List.getElem?_take,if_pos (by omega)]
theorem cut_cv(ll:List (List Int)):Cv (.ls (min ll.length 16) 1 (cuF ll)) (lsL (cutL ll)):=by
 have e:=cutL_len ll
 show Cv _ (.ls (cutL ll).length 1 _)
 rw[e]
 refine Cv.lsN fun k hk j hj O w u h=> ?_
 show RepI O w (.ls ((cutL ll).getD k []).length 1 (iF (fI ((cutL ll).getD k [])))) u
 rw[cutL_at ll hk,show((ll.getD k []).take 40).length=min (ll.getD k []).length 40 by rw[List.length_take];omega]
 refine repI_ls (fun i hi j hj=> ?_) h
 show iC (fI (ll.getD k []) (0+i))=iC (fI ((ll.getD k []).take 40) i)
 rw[Nat.zero_add,take_fI _ _ hi]
theorem see_cmp{r:Rd}{a b:Bp}(ha:seeE r a=0)(hb:seeE r b=0)(hW:a.W=b.W)(hH:a.H=b.H):cmpOk (seeB r a) (seeB r b):=by
 refine⟨see_chk ha,see_chk hb,?_,?_⟩<;>unfold seeB<;>rw[if_pos ha,if_pos hb]
 ·exact hW
 ·exact hH
theorem holds_rc{r:Rd}{a b:Bp}{x y:Bg}{c:Cl}(hW:a.W=b.W)(hH:a.H=b.H)(h:holdsC r a b x y c=true):rcB r a b x y=true:=by
 unfold holdsC isB at h
 rw[Bool.and_eq_true,Bool.and_eq_true,Bool.and_eq_true,decide_eq_true_eq,decide_eq_true_eq,decide_eq_true_eq,decide_eq_true_eq]at h
 obtain⟨h1,h2,h3,h4⟩:=h
 unfold rcB
 rw[decide_eq_true h1,decide_eq_true h2,Bool.true_and,Bool.true_and]
 unfold cnfV cnfR
 rw[if_pos (see_cmp h1 h2 hW hH)]
 cases hf:(alL (seeB r a).W x y).find? (hitC (seeB r a) (seeB r b) x y)with
 |some c=>rfl
 |none=>exact absurd (show hitC (seeB r a) (seeB r b) x y c=true from decide_eq_true h4) (by rw[List.find?_eq_none]at hf;exact hf c h3)
theorem rc_holds{r:Rd}{a b:Bp}{x y:Bg}(h:rcB r a b x y=true):holdsC r a b x y (rcC r a b x y)=true:=by
 unfold rcB at h
 rw[Bool.and_eq_true,Bool.and_eq_true]at h
 obtain⟨h1,h2,h3⟩:=h
 unfold holdsC isB rcC
 rw[h1,h2,Bool.true_and,Bool.true_and]
 unfold cnfV at h3⊢
 by_cases hok:cmpOk (seeB r a) (seeB r b)
 ·rw[if_pos hok]at h3⊢
  unfold cnfR at h3⊢
  cases hf:(alL (seeB r a).W x y).find? (hitC (seeB r a) (seeB r b) x y)with
  |none=>rw[hf]at h3;cases h3
  | some d=>
    show(decide (d∈alL (seeB r a).W x y) && decide (xsV (seeB r a) (seeB r b) x y d≤0))=true
    rw[decide_eq_true (List.mem_of_find?_eq_some hf),Bool.true_and]
    exact(show hitC (seeB r a) (seeB r b) x y d=true from List.find?_some hf)
 ·rw[if_neg hok]at h3
  cases h3
theorem clash_hit{a b:Bp}{x y:Bg}:∀{L:List Rd} {k:Nat},(clashL a b x y L k).2.2=true→∃m,m<L.length∧clashL a b x y L k=(k+m,rcC (L.getD m rdZ) a b x y,true)∧rcB (L.getD m rdZ) a b x y=true
 | [],k,h=>by cases h
 | r ::L,k,h=>by
   cases hr:rcB r a b x y with
   |true=>exact⟨0,by simp,by unfold clashL;rw[if_pos hr];rfl,hr⟩
   | false=>
     have e:clashL a b x y (r::L) k=clashL a b x y L (k+1):=by rw[clashL,if_neg (by rw[hr];simp)]
     rw[e]at h
     obtain⟨m,h1,h2,h3⟩:=clash_hit h
     exact⟨m+1,by simpa using h1,by rw[e,h2,Nat.add_assoc,Nat.add_comm 1];rfl,h3⟩
theorem clash_rc{R:List Rd}{a b:Bp}{x y:Bg}{m:Nat}(hm:m<(rdL R).length)(h:rcB ((rdL R).getD m rdZ) a b x y=true):(clashV R a b x y).2.2=true:=by
 unfold clashV
 rw[clash_any,List.any_eq_true]
 exact⟨_,getD_mem28 hm,h⟩
theorem step_nm(p:Pb)(ch:List Int)(c:Nat):(stepV p ch c).nm=ch.length∧(stepV p ch c).ch=c:=by
 unfold stepV
 cases (List.range (p.F.length+ch.length)).find? fun k=>(stepK p ch c k).2.2<;>exact⟨rfl,rfl⟩
theorem step_dp{p:Pb}{ch:List Int}{c:Nat}(h:(stepV p ch c).dp=true):stepV p ch c=deepS ch.length c∧∀k,k<p.F.length+ch.length→(stepK p ch c k).2.2=false:=by
 unfold stepV at h⊢
 cases hf:(List.range (p.F.length+ch.length)).find? fun k=>(stepK p ch c k).2.2 with
 |some k=>rw[hf]at h;cases h
 | none=>
   refine⟨rfl,fun k hk=> ?_⟩
   rw[List.find?_eq_none]at hf
   simpa using hf k (List.mem_range.2 hk)
theorem step_good{p:Pb}{ch:List Int}{c:Nat}(h:(stepV p ch c).dp=false):goodV p ch c (stepV p ch c)=true:=by
 unfold stepV at h⊢
 cases hf:(List.range (p.F.length+ch.length)).find? fun k=>(stepK p ch c k).2.2 with
 |none=>rw[hf]at h;cases h
 | some k=>
   have hk:=List.mem_range.1 (List.mem_of_find?_eq_some hf)
   have ht:(stepK p ch c k).2.2=true:=List.find?_some (p:=fun k=>(stepK p ch c k).2.2) hf
   obtain⟨m,h1,h2,h3⟩:=clash_hit (show(clashL _ _ _ _ (rdL p.R) 0).2.2=true from ht)
   have h2':stepK p ch c k=(0+m,rcC ((rdL p.R).getD m rdZ) _ _ _ _,true):=h2
   show goodV p ch c ⟨ch.length,c,obN p k,(stepK p ch c k).1,false,(stepK p ch c k).2.1⟩=true
   rw[h2']
   unfold goodV
   rw[Bool.and_eq_true,decide_eq_true_eq]
   refine⟨⟨?_,?_,?_,?_⟩,?_⟩
   ·show obN p k<ch.length
    unfold obN
    split<;>omega
   ·show -(p.F.length:Int)≤obN p k
    unfold obN
    split<;>omega
   ·show(0:Int)≤((0+m:Nat):Int)
    omega
   ·show((0+m:Nat):Int)<(rdL p.R).length
    omega
   ·show holdsC ((rdL p.R).getD (((0+m:Nat):Int)).toNat rdZ) _ _ _ _ _=true
    rw[show(((0+m:Nat):Int)).toNat=m by omega]
    exact rc_holds h3
def walkT(p:Pb)(m:Nat)(ch:List Int)(c k:Nat):List Stp:=(List.range k).flatMap fun i=>walkC p m ch (c+i)
theorem walkT_succ{p:Pb}{m:Nat}{ch:List Int}{c k:Nat}:walkT p m ch c (k+1)=walkC p m ch c++walkT p m ch (c+1) k:=by
 unfold walkT
 rw[List.range_succ_eq_map,List.flatMap_cons,List.flatMap_map]
 congr 2
 funext i
 show walkC p m ch (c+(i+1))=_
 rw[Nat.add_comm i 1,←Nat.add_assoc]
theorem walkV_T{p:Pb}{m:Nat}{ch:List Int}:walkV p (m+1) ch=walkT p m ch 0 (p.C.getD ch.length []).length:=by
 unfold walkV walkT walkC
 simp only[Nat.zero_add]
theorem follow_walk(p:Pb):∀(m:Nat) (ch:List Int) (rest:List Stp),deadP p m ch→followV p m ch (walkV p m ch++rest)=some rest
 |0,_,_,h=>h.elim
 | m + 1,ch,rest,h=>by
   have key:∀k c,c+k=(p.C.getD ch.length []).length→followC p (followV p m) ch k c (walkT p m ch c k++rest)=some rest:=fun k=>by
    induction k with
    |zero=>intro c _;rfl
    | succ k ih=>
      intro c hc
      have hs:stepF p (followV p m) ch c (walkT p m ch c (k+1)++rest)=some (walkT p m ch (c+1) k++rest):=by
       rw[walkT_succ]
       unfold walkC
       rw[List.cons_append,List.cons_append]
       show(if _ then _ else _)=_
       rw[if_pos (step_nm p ch c)]
       cases hd:(stepV p ch c).dp with
       | true=>
         rw[if_pos rfl,if_pos (step_dp hd).1,if_pos rfl,List.append_assoc]
         exact follow_walk p m _ _ (h c (by omega) hd)
       | false=>
         rw[if_neg (by simp),if_pos (step_good hd),if_neg (by simp),List.nil_append]
      show(stepF p (followV p m) ch c (walkT p m ch c (k+1)++rest)).bind (followC p (followV p m) ch k (c+1))=_
      rw[hs]
      exact ih (c+1) (by omega)
   rw[walkV_T]
   exact key _ 0 (Nat.zero_add _)
theorem walk_len{p:Pb}(hl:∀l∈p.C,l.length≤4):∀(m:Nat) (ch:List Int),((walkV p m ch).length:Int)≤stT m
 |0,_=>Int.le_refl _
 | m + 1,ch=>by
   have hT:=stT_nn m
   have key:∀k,((walkN p m ch k).length:Int)≤k*(1+stT m):=fun k=>by
    induction k with
    |zero=>simp[walkN]
    | succ k ih=>
      rw[walkN_succ,List.length_append]
      have h1:((walkC p m ch k).length:Int)≤1+stT m:=by
       unfold walkC
       have:=walk_len hl m (ch++ [(k:Int)])
       rw[List.length_cons]
       split
       ·omega
       ·simp only[List.length_nil];omega
      rw[Int.natCast_add,Int.natCast_add,Int.add_mul]
      simp only[Int.natCast_one,Int.one_mul]
      omega
   have h4:(p.C.getD ch.length []).length≤4:=by
    by_cases h:ch.length<p.C.length
    ·exact hl _ (getD_mem28 h)
    ·rw[List.getD_eq_getElem?_getD,List.getElem?_eq_none (by omega)];exact Nat.zero_le _
   have h5:((p.C.getD ch.length []).length:Int)*(1+stT m)≤4*(1+stT m):=Int.mul_le_mul_of_nonneg_right (by omega) (by omega)
   exact Int.le_trans (key _) h5
theorem dim65{p:Pb}(sp:Sm p):(∀j i,j<p.C.length→i<(p.C.getD j []).length→((p.C.getD j []).getD i bpZ).W=6∧((p.C.getD j []).getD i bpZ).H=5)∧∀j,j<p.F.length→(p.F.getD j bpZ).W=6∧(p.F.getD j bpZ).H=5:=
 ⟨fun j i hj hi=>by
   obtain⟨d,hd⟩:=(sp.Cc _ (getD_mem28 (z:= []) hj)).2 _ (getD_mem28 (z:=bpZ) hi)
   rw[hd]
   exact⟨rfl,rfl⟩,fun j hj=>by
   obtain⟨d,hd⟩:=sp.Ff _ (getD_mem28 (z:=bpZ) hj)
   rw[hd]
   exact⟨rfl,rfl⟩⟩
theorem followC_all{p:Pb}{rec:List Int→List Stp→Option (List Stp)}{ch:List Int}:∀{k c:Nat} {l x:List Stp},followC p rec ch k c l=some x→∀i,c≤i→i<c+k→∃l' l'',stepF p rec ch i l'=some l''
 |0,c,l,x,_,i,h1,h2=>by omega
 | k+1,c,l,x,h,i,h1,h2=>by
   obtain⟨y,h3,h4⟩:=Option.bind_eq_some_iff.1 (show(stepF p rec ch c l).bind (followC p rec ch k (c+1))=some x from h)
   by_cases e:i=c
   ·subst e;exact⟨l,y,h3⟩
   ·exact followC_all h4 i (by omega) (by omega)
theorem follow_sound{p:Pb}(sp:Sm p):∀(m:Nat) (ch:List Int) (l x:List Stp),ch.length+m=p.C.length→followV p m ch l=some x→∀e,e.length=m→¬GoodC p (ch++e)
 |0,_,_,_,_,h,_,_,_=>by cases h
 |m+1,ch,l,x,hm,h,[],he,_=>by cases he
 | m + 1,ch,l,x,hm,h,d::e,he,hg=>by
   obtain⟨b1,b2⟩:=hg.head.1
   obtain⟨c,rfl⟩:=Int.eq_ofNat_of_zero_le b1
   obtain⟨l',l'',hs⟩:=followC_all (show followC p (followV p m) ch (p.C.getD ch.length []).length 0 l=some x from h) c (Nat.zero_le _) (by omega)
   cases l' with
   |nil=>cases hs
   | cons s l'=>
     change (if s.nm=ch.length∧s.ch=c then (if s.dp=true then (if s=deepS ch.length c then followV p m (ch++ [(c:Int)]) l' else none)else (if goodV p ch c s=true then some l' else none))else none)=some l'' at hs
     by_cases c1:s.nm=ch.length∧s.ch=c
     ·rw [if_pos c1]at hs
      by_cases c2:s.dp=true
      ·rw[if_pos c2]at hs
       by_cases c3:s=deepS ch.length c
       ·rw[if_pos c3]at hs
        exact follow_sound sp m (ch++ [(c:Int)]) l' l'' (by simp;omega) hs e (by simpa using he) (by rw[List.append_assoc];exact hg)
       ·rw[if_neg c3]at hs;cases hs
      ·rw[if_neg c2]at hs
       by_cases c4:goodV p ch c s=true
       ·unfold goodV at c4
        rw[Bool.and_eq_true,decide_eq_true_eq]at c4
        obtain⟨⟨w1,w2,w3,w4⟩,c4⟩:=c4
        have hlt:ch.length<(ch++(c:Int)::e).length:=by simp
        obtain⟨g1,g2,g3⟩:=step_iff.1 (hg ch.length hlt)
        rw[fI_app_at]at g1 g2 g3
        obtain⟨dC,dF⟩:=dim65 sp
        have hc:=dC ch.length c (by omega) (by omega)
        obtain⟨mr,hmr⟩:=Int.eq_ofNat_of_zero_le w3
        rw[hmr,show((mr:Int)).toNat=mr from rfl]at c4
        rw[show((c:Int)).toNat=c from rfl]at g2 g3
        by_cases hw:s.wi<0
        ·unfold obB obG at c4
         rw[if_pos hw,if_pos hw]at c4
         have hj:(-1-s.wi).toNat<p.F.length:=by omega
         have hf:=dF _ hj
         have:=clash_rc (R:=p.R) (m:=mr) (by omega) (holds_rc (hc.1.trans hf.1.symm) (hc.2.trans hf.2.symm) c4)
         rw[g2 _ hj]at this
         cases this
        ·unfold obB obG at c4
         rw[if_neg hw,if_neg hw]at c4
         have hj:s.wi.toNat<ch.length:=by omega
         obtain⟨i1,-⟩:=step_iff.1 (hg s.wi.toNat (by simp;omega))
         rw[fI_app_lt ch _ _ hj]at i1
         have hf:=dC s.wi.toNat (fI ch s.wi.toNat).toNat (by omega) (by omega)
         have:=clash_rc (R:=p.R) (m:=mr) (by omega) (holds_rc (hc.1.trans hf.1.symm) (hc.2.trans hf.2.symm) c4)
         have g4:=g3 _ hj
         rw[fI_app_lt ch _ _ hj]at g4
         rw[g4]at this
         cases this
       ·rw[if_neg c4]at hs;cases hs
     ·rw[if_neg c1]at hs;cases hs
theorem dead_no{p:Pb}:∀(m:Nat) (ch:List Int),ch.length+m=p.C.length→GoodC p ch→(∀e,e.length=m→¬GoodC p (ch++e))→deadP p m ch
 |0,ch,_,hg,hn=>hn [] rfl (by rw[List.append_nil];exact hg)
 | m +1,ch,hm,hg,hn=>fun c hc hd=>by
   obtain⟨-,h0⟩:=step_dp hd
   refine dead_no m (ch++ [(c:Int)]) (by simp;omega) (fun k hk=> ?_) (fun e he h=>hn ((c:Int)::e) (by simp[he]) (by rw[List.append_assoc]at h;exact h))
   rw[List.length_append,List.length_singleton]at hk
   by_cases e:k=ch.length
   ·subst e
    rw[step_iff,fI_last]
    refine⟨⟨by omega,by omega⟩,fun j hj=> ?_,fun j hj=> ?_⟩
    ·rw[fI_last,show((c:Int)).toNat=c from rfl]
     have:=h0 j (by omega)
     unfold stepK obN at this
     rw[if_pos hj,(obB_f (ch:=ch)).1,(obB_f (ch:=ch)).2]at this
     exact this
    ·rw[fI_last,show((c:Int)).toNat=c from rfl,fI_snoc ch c j hj]
     have:=h0 (p.F.length+j) (by omega)
     unfold stepK obN at this
     rw[if_neg (by omega),show((p.F.length+j:Nat):Int)-p.F.length=(j:Int) by omega]at this
     unfold obB obG at this
     rw[if_neg (by omega),if_neg (by omega),show((j:Int)).toNat=j from rfl]at this
     exact this
   ·exact step_congr (fun j hj=>(fI_snoc ch c j (by omega)).symm) (hg k (by omega))
theorem nosol_e{p:Pb}(h:¬Sol p):∀e,e.length=p.C.length→¬GoodC p ([]++e):=fun e he hg=>h ⟨fI e,fun k hk=>hg k (by rw[List.nil_append,he];exact hk)⟩
theorem made_dead{p:Pb}(sp:Sm p)(h:unsV p=0):deadP p p.C.length []∧(walkV p p.C.length []).length≤1000000:=by
 refine⟨dead_no _ [] (Nat.zero_add _) (fun k hk=>absurd hk (Nat.not_lt_zero _)) (nosol_e fun hs=> ?_),?_⟩
 ·have:=(sol_zero sp).2 hs
  rw[(uns_iff sp).1 h]at this
  cases this
 ·have h1:=walk_len (fun l hl=>(sp.Cc l hl).1) p.C.length []
  have h2:stT p.C.length≤20000:=by
   have:=sp.C
   have:p.C.length=0∨p.C.length=1∨p.C.length=2∨p.C.length=3∨p.C.length=4∨p.C.length=5:=by omega
   rcases this with h|h|h|h|h|h<;>rw[h]<;>decide
  omega
theorem ref_check{p:Pb}(sp:Sm p)(h:(refuteV p).2=0):checkV p (refuteV p).1=0:=by
 unfold refuteV at h⊢
 rw[if_pos sp.chk]at h⊢
 by_cases hu:unsV p=0
 ·rw[if_pos hu]
  unfold checkV
  rw[if_pos sp.chk]
  have:=follow_walk p p.C.length [] [] (made_dead sp hu).1
  rw[List.append_nil]at this
  rw[if_pos this]
 ·rw[if_neg hu]at h
  exact absurd h hu
theorem check_sound{p:Pb}(sp:Sm p){l:List Stp}(h:checkV p l=0):¬Sol p:=fun ⟨f,hf⟩=>by
 unfold checkV at h
 rw[if_pos sp.chk]at h
 by_cases hc:followV p p.C.length [] l=some []
 ·refine follow_sound sp p.C.length [] l [] (Nat.zero_add _) hc (nmL f p.C.length) (nmL_len _ _) fun k hk=> ?_
  rw[List.nil_append,nmL_len]at hk
  exact step_congr (fun j hj=>(nmL_at f (by omega)).symm) (hf k hk)
 ·rw[if_neg hc]at h
  cases h
theorem set_get{α:Type}{L:List α}{m k:Nat}{x z:α}(hm:m<L.length):(L.set m x).getD k z=if k=m then x else L.getD k z:=by
 rw[List.getD_eq_getElem?_getD]
 by_cases e:k=m
 ·subst e
  rw[List.getElem?_set_self hm,if_pos rfl];rfl
 ·rw[List.getElem?_set_ne (Ne.symm e),if_neg e,←List.getD_eq_getElem?_getD]
def updS(w:Nat)(q:Int)(s:Stp):Stp:=
 match w with
 |2=>⟨q,s.ch,s.wi,s.rd,s.dp,s.cl⟩
 |3=>⟨s.nm,q,s.wi,s.rd,s.dp,s.cl⟩
 |4=>⟨s.nm,s.ch,q,s.rd,s.dp,s.cl⟩
 |5=>⟨s.nm,s.ch,s.wi,q,s.dp,s.cl⟩
 |6=>⟨s.nm,s.ch,s.wi,s.rd, !s.dp,s.cl⟩
 |7=>⟨s.nm,s.ch,s.wi,s.rd,s.dp,⟨q,s.cl.dy,s.cl.col⟩⟩
 |8=>⟨s.nm,s.ch,s.wi,s.rd,s.dp,⟨s.cl.dx,q,s.cl.col⟩⟩
 |_=>⟨s.nm,s.ch,s.wi,s.rd,s.dp,⟨s.cl.dx,s.cl.dy,q⟩⟩
def oddL(l:List Stp)(k w:Nat)(q:Int):List Stp:=
 if w=0 then l.eraseIdx k else if w=1 then l++ [l.getD k stZ]else l.set k (updS w q (l.getD k stZ))
def oddV(l:List Stp)(q0 q1 q2:Int):List Stp:=
 if l.length=0 then [⟨q0,q1,q2,0,false,clZ⟩]else oddL l (q0%(l.length:Int)).toNat (q1%10).toNat q2
theorem oddV_len(l:List Stp)(q0 q1 q2:Int):(oddV l q0 q1 q2).length≤l.length+1:=by
 unfold oddV oddL
 split
 ·simp
 ·split
  ·have:=List.length_eraseIdx_le l (q0%(l.length:Int)).toNat
   omega
  ·split
   ·simp
   ·simp
theorem st_set{l:List Stp}{k f:Nat}{v:CV}{s:Stp}(hk:k<l.length)(hs:∀j,j<8→(stC s).getD j .any=if j=f then v else (stC (l.getD k stZ)).getD j .any):∀i,i<l.length→∀j,j<8→setF (rowF stC stZ l) k f 1 [v] i j=rowF stC stZ (l.set k s) i j∧immC (setF (rowF stC stZ l) k f 1 [v] i j)=true:=fun i hi j hj=>by
 have e:setF (rowF stC stZ l) k f 1 [v] i j=rowF stC stZ (l.set k s) i j:=by
  rw[setG1]
  show _=(stC ((l.set k s).getD i stZ)).getD j .any
  rw[set_get hk]
  by_cases c:i=k
  ·subst c
   rw[if_pos rfl,hs j hj]
   by_cases d:j=f
   ·rw[if_pos ⟨rfl,d⟩,if_pos d]
   ·rw[if_neg (fun h=>d h.2),if_neg d];rfl
  ·rw[if_neg (fun h=>c h.1),if_neg c];rfl
 rw[e]
 exact⟨rfl,rowF_imm stC_imm _ i j⟩
theorem st_erase{l:List Stp}{k:Nat}(hk:k<l.length):∀i,i<k+(l.length-(k+1))→∀j,j<8→appF (rowF stC stZ l) k (fun i j=>rowF stC stZ l (k+1+i) j) i j=rowF stC stZ (l.eraseIdx k) i j∧immC (appF (rowF stC stZ l) k (fun i j=>rowF stC stZ l (k+1+i) j) i j)=true:=fun i hi j hj=>by
 have e:appF (rowF stC stZ l) k (fun i j=>rowF stC stZ l (k+1+i) j) i j=rowF stC stZ (l.eraseIdx k) i j:=by
  unfold appF rowF
  by_cases h:i<k
  ·rw[Nat.blt_eq.mpr h,List.getD_eq_getElem?_getD (l:=l.eraseIdx k),List.getElem?_eraseIdx,if_pos h,←List.getD_eq_getElem?_getD]
   rfl
  ·rw[show Nat.blt i k=false from Bool.eq_false_iff.2 fun h'=>h (Nat.blt_eq.mp h'),List.getD_eq_getElem?_getD (l:=l.eraseIdx k),List.getElem?_eraseIdx,if_neg h,←List.getD_eq_getElem?_getD]
   show(stC (l.getD (k+1+(i-k)) stZ)).getD j .any=_
   rw[show k+1+(i-k)=i+1 by omega]
 rw[e]
 exact⟨rfl,rowF_imm stC_imm _ i j⟩
theorem j8{P:Nat→Prop}(h:P 0∧P 1∧P 2∧P 3∧P 4∧P 5∧P 6∧P 7):∀j,j<8→P j:=fun j hj=>by
 obtain⟨h0,h1,h2,h3,h4,h5,h6,h7⟩:=h
 match j,hj with
 |0,_=>exact h0
 |1,_=>exact h1
 |2,_=>exact h2
 |3,_=>exact h3
 |4,_=>exact h4
 |5,_=>exact h5
 |6,_=>exact h6
 |7,_=>exact h7
set_option maxRecDepth 100000 in
theorem odd29_A(l:List Stp)(q0 q1 q2:Int)(hl:l.length≤900000):ACalls Try.prog 16 [.c (lsSt l),.ag [iC q0,iC q1,iC q2]] (.c (lsSt (oddV l q0 q1 q2))):=by
 unfold oddV
 by_cases h0:l.length=0
 ·rw [if_pos h0]
  have h0':(l.length:Int)=0:=by omega
  refine acalls_at Try.func16 rfl rfl Try.ntmps16 rfl ?_
  repeat (first
   |refine vB [0,1] ?_
   | (refine rG 2 ?_
      first|refine qr8o (aU tyOk) ?_|refine qr8o (AList.idxArrP tyOk) ?_|refine qr8o (AList.idxArrL tyOk) ?_
      refine vA ?_
      first|refine qr8o (aU tyOk) ?_|refine qr8o (AList.idxArrP tyOk) ?_|refine qr8o (AList.idxArrL tyOk) ?_
      refine vA ?_
      first|refine qr8o (aU tyOk) ?_|refine qr8o (AList.idxArrP tyOk) ?_|refine qr8o (AList.idxArrL tyOk) ?_
      (iterate 4 refine vA ?_)
      refine aB ?_))
  refine⟨mkSt 120 [(4,.c (lsSt [⟨q0,q1,q2,0,false,clZ⟩]))] [] [],[],Wk.mk [] rfl rfl rfl ?_ trivial,rfl,rfl,aR1⟩
  exact⟨⟨_,rfl,.c (LeC.lz rfl (fun i hi j hj=>by
   obtain rfl:i=0:=Nat.lt_one_iff.mp hi
   revert j hj
   exact j8 ⟨rfl,rfl,rfl,rfl,rfl,rfl,rfl,rfl⟩))⟩,trivial⟩
 rw[if_neg h0]
 have h0':¬(l.length:Int)=0:=by omega
 have hm0:=Mod_A q0 l.length (by omega) (by omega)
 have hm1:=Mod_A q1 10 (by omega) (by omega)
 have b1:=Int.emod_nonneg q0 (show(l.length:Int)≠0 by omega)
 have b2:=Int.emod_lt_of_pos q0 (show 0<(l.length:Int) by omega)
 obtain⟨k,hk⟩:=Int.eq_ofNat_of_zero_le b1
 obtain⟨w,hw⟩:=Int.eq_ofNat_of_zero_le (show 0≤q1%10 by omega)
 have hw10:w<10:=by omega
 rw[hk]at hm0 b2⊢
 rw[hw]at hm1⊢
 rw[show((k:Int)).toNat=k from rfl,show((w:Int)).toNat=w from rfl]
 have hkl:k<l.length:=by omega
 clear hk hw b1
 rcases(show w=0∨w=1∨w=2∨w=3∨w=4∨w=5∨w=6∨w=7∨w=8∨w=9 by omega)with rfl|rfl|rfl|rfl|rfl|rfl|rfl|rfl|rfl|rfl
 ·show ACalls _ _ _ (.c (lsSt (l.eraseIdx k)))
  refine acalls_at Try.func16 rfl rfl Try.ntmps16 rfl ?_
  repeat (first
   |refine vB [0,1,6] ?_
   | (refine rG 3 ?_
      (iterate 2 refine vA ?_)
      first|refine AList.appL0 tyOk rfl rfl rfl rfl rfl rfl rfl rfl rfl rfl oM oM ?_|refine AList.appL tyOk rfl rfl rfl rfl rfl rfl rfl rfl rfl rfl oM oM ?_|refine AList.appN tyOk rfl rfl rfl rfl rfl rfl rfl rfl rfl oM oM ?_|refine AList.appO tyOk rfl rfl rfl rfl rfl rfl rfl rfl rfl rfl rfl oM oM ?_|refine AList.appE tyOk rfl rfl rfl rfl rfl rfl rfl rfl rfl rfl oM oM ?_
      refine vA ?_
      refine aB ?_)
   | (refine rG 4 ?_
      first|refine qr8o (aU tyOk) ?_|refine qr8o (AList.idxArrP tyOk) ?_|refine qr8o (AList.idxArrL tyOk) ?_
      (iterate 3 refine vA ?_)
      first|refine aH rfl rfl rfl rfl Try.func42 rfl (by kernel_rfl) (hm0) ?_|refine aH rfl rfl rfl rfl Try.func42 rfl (by kernel_rfl) (hm1) ?_
      refine vA ?_
      refine aB ?_)
   | (refine rG 5 ?_
      first|refine qr8o (aU tyOk) ?_|refine qr8o (AList.idxArrP tyOk) ?_|refine qr8o (AList.idxArrL tyOk) ?_
      refine vA ?_
      first|refine aH rfl rfl rfl rfl Try.func42 rfl (by kernel_rfl) (hm0) ?_|refine aH rfl rfl rfl rfl Try.func42 rfl (by kernel_rfl) (hm1) ?_
      refine aB ?_)
   |(refine AWp.draw (id:=7) mixed ?_;(iterate 2 refine vA ?_);refine AList.cutOw (m:=k) tyOk rfl rfl rfl rfl rfl rfl rfl rfl rfl ⟨_,_,rfl,by first|rfl|omega⟩ (by omega) ?_;(iterate 3 refine vA ?_);refine AList.cut (l:=k+1) (h:=l.length) tyOk rfl rfl rfl rfl rfl rfl rfl ⟨_,_,rfl,by first|rfl|omega⟩ rfl (by omega) (by omega) ?_;(first|refine AList.appL0 tyOk rfl rfl rfl rfl rfl rfl rfl rfl rfl rfl oM oM ?_|refine AList.appL tyOk rfl rfl rfl rfl rfl rfl rfl rfl rfl rfl oM oM ?_|refine AList.appN tyOk rfl rfl rfl rfl rfl rfl rfl rfl rfl oM oM ?_|refine AList.appO tyOk rfl rfl rfl rfl rfl rfl rfl rfl rfl rfl rfl oM oM ?_|refine AList.appE tyOk rfl rfl rfl rfl rfl rfl rfl rfl rfl rfl oM oM ?_);refine vA ?_;refine aB ⟨by kernel_rfl,?_⟩))
  refine⟨mkSt 120 [(4,.c (lsSt (l.eraseIdx k)))] [] [],[],Wk.mk [] rfl rfl rfl ?_ trivial,rfl,rfl,aR1⟩
  exact⟨⟨_,rfl,.c (LeC.fz rfl rfl (by rw[List.length_eraseIdx,if_pos hkl];omega) (st_erase hkl))⟩,trivial⟩
 ·show ACalls _ _ _ (.c (lsSt (l++ [l.getD k stZ])))
  refine acalls_at Try.func16 rfl rfl Try.ntmps16 rfl ?_
  repeat (first
   |refine vB [0,1,6,8] ?_
   | (refine rG 3 ?_
      (iterate 2 refine vA ?_)
      first|refine AList.appL0 tyOk rfl rfl rfl rfl rfl rfl rfl rfl rfl rfl oM oM ?_|refine AList.appL tyOk rfl rfl rfl rfl rfl rfl rfl rfl rfl rfl oM oM ?_|refine AList.appN tyOk rfl rfl rfl rfl rfl rfl rfl rfl rfl oM oM ?_|refine AList.appO tyOk rfl rfl rfl rfl rfl rfl rfl rfl rfl rfl rfl oM oM ?_|refine AList.appE tyOk rfl rfl rfl rfl rfl rfl rfl rfl rfl rfl oM oM ?_
      refine vA ?_
      refine aB ?_)
   | (refine rG 4 ?_
      first|refine qr8o (aU tyOk) ?_|refine qr8o (AList.idxArrP tyOk) ?_|refine qr8o (AList.idxArrL tyOk) ?_
      (iterate 3 refine vA ?_)
      first|refine aH rfl rfl rfl rfl Try.func42 rfl (by kernel_rfl) (hm0) ?_|refine aH rfl rfl rfl rfl Try.func42 rfl (by kernel_rfl) (hm1) ?_
      refine vA ?_
      refine aB ?_)
   | (refine rG 5 ?_
      first|refine qr8o (aU tyOk) ?_|refine qr8o (AList.idxArrP tyOk) ?_|refine qr8o (AList.idxArrL tyOk) ?_
      refine vA ?_
      first|refine aH rfl rfl rfl rfl Try.func42 rfl (by kernel_rfl) (hm0) ?_|refine aH rfl rfl rfl rfl Try.func42 rfl (by kernel_rfl) (hm1) ?_
      refine aB ?_)
   | (refine rG 9 ?_
      (iterate 3 refine vA ?_)
      first|refine qr8eo2 (aP (k:=k) tyOk) ?_|refine qr10eo (AList.idxOw (k:=k) tyOk) ?_
      (iterate 2 refine vA ?_)
      first|refine AList.appL0 tyOk rfl rfl rfl rfl rfl rfl rfl rfl rfl rfl oM oM ?_|refine AList.appL tyOk rfl rfl rfl rfl rfl rfl rfl rfl rfl rfl oM oM ?_|refine AList.appN tyOk rfl rfl rfl rfl rfl rfl rfl rfl rfl oM oM ?_|refine AList.appO tyOk rfl rfl rfl rfl rfl rfl rfl rfl rfl rfl rfl oM oM ?_|refine AList.appE tyOk rfl rfl rfl rfl rfl rfl rfl rfl rfl rfl oM oM ?_
      refine vA ?_
      refine aB ?_))
  refine⟨mkSt 120 [(4,.c (lsSt (l++ [l.getD k stZ])))] [] [],[],Wk.mk [] rfl rfl rfl ?_ trivial,rfl,rfl,aR1⟩
  exact⟨⟨_,rfl,.c (LeC.fz rfl rfl List.length_append (row_snoc (c:=stC) (z:=stZ) l (l.getD k stZ) stC_imm rfl))⟩,trivial⟩
 ·show ACalls _ _ _ (.c (lsSt (l.set k (updS 2 q2 (l.getD k stZ)))))
  refine acalls_at Try.func16 rfl rfl Try.ntmps16 rfl ?_
  repeat (first
   |refine vB [0,1,6,8,10,12,14,16,18,20,22,24,26] ?_
   | (refine rG 3 ?_
      (iterate 2 refine vA ?_)
      first|refine AList.appL0 tyOk rfl rfl rfl rfl rfl rfl rfl rfl rfl rfl oM oM ?_|refine AList.appL tyOk rfl rfl rfl rfl rfl rfl rfl rfl rfl rfl oM oM ?_|refine AList.appN tyOk rfl rfl rfl rfl rfl rfl rfl rfl rfl oM oM ?_|refine AList.appO tyOk rfl rfl rfl rfl rfl rfl rfl rfl rfl rfl rfl oM oM ?_|refine AList.appE tyOk rfl rfl rfl rfl rfl rfl rfl rfl rfl rfl oM oM ?_
      refine vA ?_
      refine aB ?_)
   | (refine rG 4 ?_
      first|refine qr8o (aU tyOk) ?_|refine qr8o (AList.idxArrP tyOk) ?_|refine qr8o (AList.idxArrL tyOk) ?_
      (iterate 3 refine vA ?_)
      first|refine aH rfl rfl rfl rfl Try.func42 rfl (by kernel_rfl) (hm0) ?_|refine aH rfl rfl rfl rfl Try.func42 rfl (by kernel_rfl) (hm1) ?_
      refine vA ?_
      refine aB ?_)
   | (refine rG 5 ?_
      first|refine qr8o (aU tyOk) ?_|refine qr8o (AList.idxArrP tyOk) ?_|refine qr8o (AList.idxArrL tyOk) ?_
      refine vA ?_
      first|refine aH rfl rfl rfl rfl Try.func42 rfl (by kernel_rfl) (hm0) ?_|refine aH rfl rfl rfl rfl Try.func42 rfl (by kernel_rfl) (hm1) ?_
      refine aB ?_)
   | (refine rG 11 ?_
      (iterate 2 refine vA ?_)
      first|refine qr8o (aU tyOk) ?_|refine qr8o (AList.idxArrP tyOk) ?_|refine qr8o (AList.idxArrL tyOk) ?_
      refine vA ?_
      first|refine qr8eo2 (aP (k:=k) tyOk) ?_|refine qr10eo (AList.idxOw (k:=k) tyOk) ?_
      (iterate 2 refine vA ?_)
      refine aB ?_))
  refine⟨mkSt 120 [(4,.c (lsSt (l.set k (updS 2 q2 (l.getD k stZ)))))] [] [],[],Wk.mk [] rfl rfl rfl ?_ trivial,rfl,rfl,aR1⟩
  exact⟨⟨_,rfl,.c (LeC.fz rfl rfl (List.length_set ..) (st_set hkl (j8 ⟨rfl,rfl,rfl,rfl,rfl,rfl,rfl,rfl⟩)))⟩,trivial⟩
 ·show ACalls _ _ _ (.c (lsSt (l.set k (updS 3 q2 (l.getD k stZ)))))
  refine acalls_at Try.func16 rfl rfl Try.ntmps16 rfl ?_
  repeat (first
   |refine vB [0,1,6,8,10,12,14,16,18,20,22,24,26] ?_
   | (refine rG 3 ?_
      (iterate 2 refine vA ?_)
      first|refine AList.appL0 tyOk rfl rfl rfl rfl rfl rfl rfl rfl rfl rfl oM oM ?_|refine AList.appL tyOk rfl rfl rfl rfl rfl rfl rfl rfl rfl rfl oM oM ?_|refine AList.appN tyOk rfl rfl rfl rfl rfl rfl rfl rfl rfl oM oM ?_|refine AList.appO tyOk rfl rfl rfl rfl rfl rfl rfl rfl rfl rfl rfl oM oM ?_|refine AList.appE tyOk rfl rfl rfl rfl rfl rfl rfl rfl rfl rfl oM oM ?_
      refine vA ?_
      refine aB ?_)
   | (refine rG 4 ?_
      first|refine qr8o (aU tyOk) ?_|refine qr8o (AList.idxArrP tyOk) ?_|refine qr8o (AList.idxArrL tyOk) ?_
      (iterate 3 refine vA ?_)
      first|refine aH rfl rfl rfl rfl Try.func42 rfl (by kernel_rfl) (hm0) ?_|refine aH rfl rfl rfl rfl Try.func42 rfl (by kernel_rfl) (hm1) ?_
      refine vA ?_
      refine aB ?_)
   | (refine rG 5 ?_
      first|refine qr8o (aU tyOk) ?_|refine qr8o (AList.idxArrP tyOk) ?_|refine qr8o (AList.idxArrL tyOk) ?_
      refine vA ?_
      first|refine aH rfl rfl rfl rfl Try.func42 rfl (by kernel_rfl) (hm0) ?_|refine aH rfl rfl rfl rfl Try.func42 rfl (by kernel_rfl) (hm1) ?_
      refine aB ?_)
   | (refine rG 13 ?_
      (iterate 2 refine vA ?_)
      first|refine qr8o (aU tyOk) ?_|refine qr8o (AList.idxArrP tyOk) ?_|refine qr8o (AList.idxArrL tyOk) ?_
      refine vA ?_
      first|refine qr8eo2 (aP (k:=k) tyOk) ?_|refine qr10eo (AList.idxOw (k:=k) tyOk) ?_
      (iterate 2 refine vA ?_)
      refine aB ?_))
  refine⟨mkSt 120 [(4,.c (lsSt (l.set k (updS 3 q2 (l.getD k stZ)))))] [] [],[],Wk.mk [] rfl rfl rfl ?_ trivial,rfl,rfl,aR1⟩
  exact⟨⟨_,rfl,.c (LeC.fz rfl rfl (List.length_set ..) (st_set hkl (j8 ⟨rfl,rfl,rfl,rfl,rfl,rfl,rfl,rfl⟩)))⟩,trivial⟩
 ·show ACalls _ _ _ (.c (lsSt (l.set k (updS 4 q2 (l.getD k stZ)))))
  refine acalls_at Try.func16 rfl rfl Try.ntmps16 rfl ?_
  repeat (first
   |refine vB [0,1,6,8,10,12,14,16,18,20,22,24,26] ?_
   | (refine rG 3 ?_
      (iterate 2 refine vA ?_)
      first|refine AList.appL0 tyOk rfl rfl rfl rfl rfl rfl rfl rfl rfl rfl oM oM ?_|refine AList.appL tyOk rfl rfl rfl rfl rfl rfl rfl rfl rfl rfl oM oM ?_|refine AList.appN tyOk rfl rfl rfl rfl rfl rfl rfl rfl rfl oM oM ?_|refine AList.appO tyOk rfl rfl rfl rfl rfl rfl rfl rfl rfl rfl rfl oM oM ?_|refine AList.appE tyOk rfl rfl rfl rfl rfl rfl rfl rfl rfl rfl oM oM ?_
      refine vA ?_
      refine aB ?_)
   | (refine rG 4 ?_
      first|refine qr8o (aU tyOk) ?_|refine qr8o (AList.idxArrP tyOk) ?_|refine qr8o (AList.idxArrL tyOk) ?_
      (iterate 3 refine vA ?_)
      first|refine aH rfl rfl rfl rfl Try.func42 rfl (by kernel_rfl) (hm0) ?_|refine aH rfl rfl rfl rfl Try.func42 rfl (by kernel_rfl) (hm1) ?_
      refine vA ?_
      refine aB ?_)
   | (refine rG 5 ?_
      first|refine qr8o (aU tyOk) ?_|refine qr8o (AList.idxArrP tyOk) ?_|refine qr8o (AList.idxArrL tyOk) ?_
      refine vA ?_
      first|refine aH rfl rfl rfl rfl Try.func42 rfl (by kernel_rfl) (hm0) ?_|refine aH rfl rfl rfl rfl Try.func42 rfl (by kernel_rfl) (hm1) ?_
      refine aB ?_)
   | (refine rG 15 ?_
      (iterate 2 refine vA ?_)
      first|refine qr8o (aU tyOk) ?_|refine qr8o (AList.idxArrP tyOk) ?_|refine qr8o (AList.idxArrL tyOk) ?_
      refine vA ?_
      first|refine qr8eo2 (aP (k:=k) tyOk) ?_|refine qr10eo (AList.idxOw (k:=k) tyOk) ?_
      (iterate 2 refine vA ?_)
      refine aB ?_))
  refine⟨mkSt 120 [(4,.c (lsSt (l.set k (updS 4 q2 (l.getD k stZ)))))] [] [],[],Wk.mk [] rfl rfl rfl ?_ trivial,rfl,rfl,aR1⟩
  exact⟨⟨_,rfl,.c (LeC.fz rfl rfl (List.length_set ..) (st_set hkl (j8 ⟨rfl,rfl,rfl,rfl,rfl,rfl,rfl,rfl⟩)))⟩,trivial⟩
 ·show ACalls _ _ _ (.c (lsSt (l.set k (updS 5 q2 (l.getD k stZ)))))
  refine acalls_at Try.func16 rfl rfl Try.ntmps16 rfl ?_
  repeat (first
   |refine vB [0,1,6,8,10,12,14,16,18,20,22,24,26] ?_
   | (refine rG 3 ?_
      (iterate 2 refine vA ?_)
      first|refine AList.appL0 tyOk rfl rfl rfl rfl rfl rfl rfl rfl rfl rfl oM oM ?_|refine AList.appL tyOk rfl rfl rfl rfl rfl rfl rfl rfl rfl rfl oM oM ?_|refine AList.appN tyOk rfl rfl rfl rfl rfl rfl rfl rfl rfl oM oM ?_|refine AList.appO tyOk rfl rfl rfl rfl rfl rfl rfl rfl rfl rfl rfl oM oM ?_|refine AList.appE tyOk rfl rfl rfl rfl rfl rfl rfl rfl rfl rfl oM oM ?_
      refine vA ?_
      refine aB ?_)
   | (refine rG 4 ?_
      first|refine qr8o (aU tyOk) ?_|refine qr8o (AList.idxArrP tyOk) ?_|refine qr8o (AList.idxArrL tyOk) ?_
      (iterate 3 refine vA ?_)
      first|refine aH rfl rfl rfl rfl Try.func42 rfl (by kernel_rfl) (hm0) ?_|refine aH rfl rfl rfl rfl Try.func42 rfl (by kernel_rfl) (hm1) ?_
      refine vA ?_
      refine aB ?_)
   | (refine rG 5 ?_
      first|refine qr8o (aU tyOk) ?_|refine qr8o (AList.idxArrP tyOk) ?_|refine qr8o (AList.idxArrL tyOk) ?_
      refine vA ?_
      first|refine aH rfl rfl rfl rfl Try.func42 rfl (by kernel_rfl) (hm0) ?_|refine aH rfl rfl rfl rfl Try.func42 rfl (by kernel_rfl) (hm1) ?_
      refine aB ?_)
   | (refine rG 17 ?_
      (iterate 2 refine vA ?_)
      first|refine qr8o (aU tyOk) ?_|refine qr8o (AList.idxArrP tyOk) ?_|refine qr8o (AList.idxArrL tyOk) ?_
      refine vA ?_
      first|refine qr8eo2 (aP (k:=k) tyOk) ?_|refine qr10eo (AList.idxOw (k:=k) tyOk) ?_
      (iterate 2 refine vA ?_)
      refine aB ?_))
  refine⟨mkSt 120 [(4,.c (lsSt (l.set k (updS 5 q2 (l.getD k stZ)))))] [] [],[],Wk.mk [] rfl rfl rfl ?_ trivial,rfl,rfl,aR1⟩
  exact⟨⟨_,rfl,.c (LeC.fz rfl rfl (List.length_set ..) (st_set hkl (j8 ⟨rfl,rfl,rfl,rfl,rfl,rfl,rfl,rfl⟩)))⟩,trivial⟩
 ·show ACalls _ _ _ (.c (lsSt (l.set k (updS 6 q2 (l.getD k stZ)))))
  refine acalls_at Try.func16 rfl rfl Try.ntmps16 rfl ?_
  repeat (first
   |refine vB [0,1,6,8,10,12,14,16,18,20,22,24,26] ?_
   | (refine rG 3 ?_
      (iterate 2 refine vA ?_)
      first|refine AList.appL0 tyOk rfl rfl rfl rfl rfl rfl rfl rfl rfl rfl oM oM ?_|refine AList.appL tyOk rfl rfl rfl rfl rfl rfl rfl rfl rfl rfl oM oM ?_|refine AList.appN tyOk rfl rfl rfl rfl rfl rfl rfl rfl rfl oM oM ?_|refine AList.appO tyOk rfl rfl rfl rfl rfl rfl rfl rfl rfl rfl rfl oM oM ?_|refine AList.appE tyOk rfl rfl rfl rfl rfl rfl rfl rfl rfl rfl oM oM ?_
      refine vA ?_
      refine aB ?_)
   | (refine rG 4 ?_
      first|refine qr8o (aU tyOk) ?_|refine qr8o (AList.idxArrP tyOk) ?_|refine qr8o (AList.idxArrL tyOk) ?_
      (iterate 3 refine vA ?_)
      first|refine aH rfl rfl rfl rfl Try.func42 rfl (by kernel_rfl) (hm0) ?_|refine aH rfl rfl rfl rfl Try.func42 rfl (by kernel_rfl) (hm1) ?_
      refine vA ?_
      refine aB ?_)
   | (refine rG 5 ?_
      first|refine qr8o (aU tyOk) ?_|refine qr8o (AList.idxArrP tyOk) ?_|refine qr8o (AList.idxArrL tyOk) ?_
      refine vA ?_
      first|refine aH rfl rfl rfl rfl Try.func42 rfl (by kernel_rfl) (hm0) ?_|refine aH rfl rfl rfl rfl Try.func42 rfl (by kernel_rfl) (hm1) ?_
      refine aB ?_)
   | (refine rG 19 ?_
      (iterate 4 refine vA ?_)
      first|refine qr8eo2 (aP (k:=k) tyOk) ?_|refine qr10eo (AList.idxOw (k:=k) tyOk) ?_
      (iterate 3 refine vA ?_)
      first|refine qr8eo2 (aP (k:=k) tyOk) ?_|refine qr10eo (AList.idxOw (k:=k) tyOk) ?_
      (iterate 2 refine vA ?_)
      refine aB ?_))
  refine⟨mkSt 120 [(4,.c (lsSt (l.set k (updS 6 q2 (l.getD k stZ)))))] [] [],[],Wk.mk [] rfl rfl rfl ?_ trivial,rfl,rfl,aR1⟩
  exact⟨⟨_,rfl,.c (LeC.fz rfl rfl (List.length_set ..) (st_set hkl (j8 ⟨rfl,rfl,rfl,rfl,rfl,rfl,rfl,rfl⟩)))⟩,trivial⟩
 ·show ACalls _ _ _ (.c (lsSt (l.set k (updS 7 q2 (l.getD k stZ)))))
  refine acalls_at Try.func16 rfl rfl Try.ntmps16 rfl ?_
  repeat (first
   |refine vB [0,1,6,8,10,12,14,16,18,20,22,24,26] ?_
   | (refine rG 3 ?_
      (iterate 2 refine vA ?_)
      first|refine AList.appL0 tyOk rfl rfl rfl rfl rfl rfl rfl rfl rfl rfl oM oM ?_|refine AList.appL tyOk rfl rfl rfl rfl rfl rfl rfl rfl rfl rfl oM oM ?_|refine AList.appN tyOk rfl rfl rfl rfl rfl rfl rfl rfl rfl oM oM ?_|refine AList.appO tyOk rfl rfl rfl rfl rfl rfl rfl rfl rfl rfl rfl oM oM ?_|refine AList.appE tyOk rfl rfl rfl rfl rfl rfl rfl rfl rfl rfl oM oM ?_
      refine vA ?_
      refine aB ?_)
   | (refine rG 4 ?_
      first|refine qr8o (aU tyOk) ?_|refine qr8o (AList.idxArrP tyOk) ?_|refine qr8o (AList.idxArrL tyOk) ?_
      (iterate 3 refine vA ?_)
      first|refine aH rfl rfl rfl rfl Try.func42 rfl (by kernel_rfl) (hm0) ?_|refine aH rfl rfl rfl rfl Try.func42 rfl (by kernel_rfl) (hm1) ?_
      refine vA ?_
      refine aB ?_)
   | (refine rG 5 ?_
      first|refine qr8o (aU tyOk) ?_|refine qr8o (AList.idxArrP tyOk) ?_|refine qr8o (AList.idxArrL tyOk) ?_
      refine vA ?_
      first|refine aH rfl rfl rfl rfl Try.func42 rfl (by kernel_rfl) (hm0) ?_|refine aH rfl rfl rfl rfl Try.func42 rfl (by kernel_rfl) (hm1) ?_
      refine aB ?_)
   | (refine rG 21 ?_
      (iterate 2 refine vA ?_)
      first|refine qr8o (aU tyOk) ?_|refine qr8o (AList.idxArrP tyOk) ?_|refine qr8o (AList.idxArrL tyOk) ?_
      refine vA ?_
      first|refine qr8eo2 (aP (k:=k) tyOk) ?_|refine qr10eo (AList.idxOw (k:=k) tyOk) ?_
      (iterate 3 refine vA ?_)
      refine aB ?_))
  refine⟨mkSt 120 [(4,.c (lsSt (l.set k (updS 7 q2 (l.getD k stZ)))))] [] [],[],Wk.mk [] rfl rfl rfl ?_ trivial,rfl,rfl,aR1⟩
  exact⟨⟨_,rfl,.c (LeC.fz rfl rfl (List.length_set ..) (st_set hkl (j8 ⟨rfl,rfl,rfl,rfl,rfl,rfl,rfl,rfl⟩)))⟩,trivial⟩
 ·show ACalls _ _ _ (.c (lsSt (l.set k (updS 8 q2 (l.getD k stZ)))))
  refine acalls_at Try.func16 rfl rfl Try.ntmps16 rfl ?_
  repeat (first
   |refine vB [0,1,6,8,10,12,14,16,18,20,22,24,26] ?_
   | (refine rG 3 ?_
      (iterate 2 refine vA ?_)
      first|refine AList.appL0 tyOk rfl rfl rfl rfl rfl rfl rfl rfl rfl rfl oM oM ?_|refine AList.appL tyOk rfl rfl rfl rfl rfl rfl rfl rfl rfl rfl oM oM ?_|refine AList.appN tyOk rfl rfl rfl rfl rfl rfl rfl rfl rfl oM oM ?_|refine AList.appO tyOk rfl rfl rfl rfl rfl rfl rfl rfl rfl rfl rfl oM oM ?_|refine AList.appE tyOk rfl rfl rfl rfl rfl rfl rfl rfl rfl rfl oM oM ?_
      refine vA ?_
      refine aB ?_)
   | (refine rG 4 ?_
      first|refine qr8o (aU tyOk) ?_|refine qr8o (AList.idxArrP tyOk) ?_|refine qr8o (AList.idxArrL tyOk) ?_
      (iterate 3 refine vA ?_)
      first|refine aH rfl rfl rfl rfl Try.func42 rfl (by kernel_rfl) (hm0) ?_|refine aH rfl rfl rfl rfl Try.func42 rfl (by kernel_rfl) (hm1) ?_
      refine vA ?_
      refine aB ?_)
   | (refine rG 5 ?_
      first|refine qr8o (aU tyOk) ?_|refine qr8o (AList.idxArrP tyOk) ?_|refine qr8o (AList.idxArrL tyOk) ?_
      refine vA ?_
      first|refine aH rfl rfl rfl rfl Try.func42 rfl (by kernel_rfl) (hm0) ?_|refine aH rfl rfl rfl rfl Try.func42 rfl (by kernel_rfl) (hm1) ?_
      refine aB ?_)
   | (refine rG 23 ?_
      (iterate 2 refine vA ?_)
      first|refine qr8o (aU tyOk) ?_|refine qr8o (AList.idxArrP tyOk) ?_|refine qr8o (AList.idxArrL tyOk) ?_
      refine vA ?_
      first|refine qr8eo2 (aP (k:=k) tyOk) ?_|refine qr10eo (AList.idxOw (k:=k) tyOk) ?_
      (iterate 3 refine vA ?_)
      refine aB ?_))
  refine⟨mkSt 120 [(4,.c (lsSt (l.set k (updS 8 q2 (l.getD k stZ)))))] [] [],[],Wk.mk [] rfl rfl rfl ?_ trivial,rfl,rfl,aR1⟩
  exact⟨⟨_,rfl,.c (LeC.fz rfl rfl (List.length_set ..) (st_set hkl (j8 ⟨rfl,rfl,rfl,rfl,rfl,rfl,rfl,rfl⟩)))⟩,trivial⟩
 ·show ACalls _ _ _ (.c (lsSt (l.set k (updS 9 q2 (l.getD k stZ)))))
  refine acalls_at Try.func16 rfl rfl Try.ntmps16 rfl ?_
  repeat (first
   |refine vB [0,1,6,8,10,12,14,16,18,20,22,24,26] ?_
   | (refine rG 3 ?_
      (iterate 2 refine vA ?_)
      first|refine AList.appL0 tyOk rfl rfl rfl rfl rfl rfl rfl rfl rfl rfl oM oM ?_|refine AList.appL tyOk rfl rfl rfl rfl rfl rfl rfl rfl rfl rfl oM oM ?_|refine AList.appN tyOk rfl rfl rfl rfl rfl rfl rfl rfl rfl oM oM ?_|refine AList.appO tyOk rfl rfl rfl rfl rfl rfl rfl rfl rfl rfl rfl oM oM ?_|refine AList.appE tyOk rfl rfl rfl rfl rfl rfl rfl rfl rfl rfl oM oM ?_
      refine vA ?_
      refine aB ?_)
   | (refine rG 4 ?_
      first|refine qr8o (aU tyOk) ?_|refine qr8o (AList.idxArrP tyOk) ?_|refine qr8o (AList.idxArrL tyOk) ?_
      (iterate 3 refine vA ?_)
      first|refine aH rfl rfl rfl rfl Try.func42 rfl (by kernel_rfl) (hm0) ?_|refine aH rfl rfl rfl rfl Try.func42 rfl (by kernel_rfl) (hm1) ?_
      refine vA ?_
      refine aB ?_)
   | (refine rG 5 ?_
      first|refine qr8o (aU tyOk) ?_|refine qr8o (AList.idxArrP tyOk) ?_|refine qr8o (AList.idxArrL tyOk) ?_
      refine vA ?_
      first|refine aH rfl rfl rfl rfl Try.func42 rfl (by kernel_rfl) (hm0) ?_|refine aH rfl rfl rfl rfl Try.func42 rfl (by kernel_rfl) (hm1) ?_
      refine aB ?_)
   | (refine rG 25 ?_
      (iterate 2 refine vA ?_)
      first|refine qr8o (aU tyOk) ?_|refine qr8o (AList.idxArrP tyOk) ?_|refine qr8o (AList.idxArrL tyOk) ?_
      refine vA ?_
      first|refine qr8eo2 (aP (k:=k) tyOk) ?_|refine qr10eo (AList.idxOw (k:=k) tyOk) ?_
      (iterate 3 refine vA ?_)
      refine aB ?_))
  refine⟨mkSt 120 [(4,.c (lsSt (l.set k (updS 9 q2 (l.getD k stZ)))))] [] [],[],Wk.mk [] rfl rfl rfl ?_ trivial,rfl,rfl,aR1⟩
  exact⟨⟨_,rfl,.c (LeC.fz rfl rfl (List.length_set ..) (st_set hkl (j8 ⟨rfl,rfl,rfl,rfl,rfl,rfl,rfl,rfl⟩)))⟩,trivial⟩
end Go.Proofs.Ytpefnljgalpllaa
end
