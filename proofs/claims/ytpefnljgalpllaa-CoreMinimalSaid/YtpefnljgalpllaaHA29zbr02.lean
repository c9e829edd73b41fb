/- CoreMinimal: the statement. No condition. -/
import Derived.Test.YtpefnljgalpllaaG50
import Derived.Test.YtpefnljgalpllaaRows
import Derived.Test.YtpefnljgalpllaaHA29zbr01
set_option linter.unusedSimpArgs false
set_option linter.unusedVariables false
set_option maxHeartbeats 0
section
namespace Go.Proofs.Ytpefnljgalpllaa
open Go.RowKit Go.Flow Go.AV Go.Plain
theorem rd_md21(bl sh:Int):rdE (md21 bl sh)=0∧-1000000≤(md21 bl sh).bl∧(md21 bl sh).bl≤1000000:=by
 unfold md21
 have h0:=Int.emod_nonneg bl (show(3:Int)≠0 by omega)
 have h3:=Int.emod_lt_of_pos bl (show(0:Int)<3 by omega)
 generalize bl%3=c at *
 have hc:c=0∨c=1∨c=2:=by omega
 refine⟨?_,by dsimp only;omega,by dsimp only;omega⟩
 rcases hc with rfl|rfl|rfl
 ·have h1:=Int.emod_nonneg sh (show((2*0+1)*(2*0+1):Int)≠0 by decide)
  have h2:=Int.emod_lt_of_pos sh (show(0:Int)<(2*0+1)*(2*0+1) by decide)
  generalize sh%((2*0+1)*(2*0+1))=v at *
  unfold rdE
  simp
  omega
 ·have h1:=Int.emod_nonneg sh (show((2*1+1)*(2*1+1):Int)≠0 by decide)
  have h2:=Int.emod_lt_of_pos sh (show(0:Int)<(2*1+1)*(2*1+1) by decide)
  generalize sh%((2*1+1)*(2*1+1))=v at *
  unfold rdE
  simp
  omega
 ·have h1:=Int.emod_nonneg sh (show((2*2+1)*(2*2+1):Int)≠0 by decide)
  have h2:=Int.emod_lt_of_pos sh (show(0:Int)<(2*2+1)*(2*2+1) by decide)
  generalize sh%((2*2+1)*(2*2+1))=v at *
  unfold rdE
  simp
  omega
theorem rdIter_md(ll:List (List Int)):∀k,∀r∈(rdIter ll k).2,∃bl sh,r=md21 bl sh
 |0,r,h=>by cases h
 | k+1,r,h=>by
   rcases List.mem_append.1 (show r∈(rdIter ll k).2++ [md21 _ _]from h)with h|h
   ·exact rdIter_md ll k r h
   ·exact⟨_,_,List.mem_singleton.1 h⟩
theorem lists_bd(ll:List (List Int)):rdN ll≤2∧lsN28 ll≤3∧fxN28 ll≤2:=by
 have h1:=dvA_bd ll 0 3 (by decide)
 have h2:=dvA_bd ll (rdIter ll (rdN ll)).1 4 (by decide)
 have h3:=dvA_bd ll (nxA ll (rdIter ll (rdN ll)).1) 3 (by decide)
 unfold lsN28 fxN28
 refine⟨by unfold rdN;omega,by omega,by omega⟩
theorem made_sm(ll:List (List Int)):Sm (made28 ll)∧∀l∈(made28 ll).C,l.length≤3:=by
 obtain⟨b1,b2,b3⟩:=lists_bd ll
 have h:=moIter_ok ll (lsN28 ll+fxN28 ll)
 have hR:=rdIter_len ll (rdN ll)
 have hC:=h.C
 have hF:=h.F
 refine⟨⟨?_,fun r hr=> ?_,?_,fun l hl=> ?_,?_,h.Ff,h.O,h.T⟩,fun l hl=>(h.Cc l hl).1⟩
 ·show(rdIter ll (rdN ll)).2.length≤4
  omega
 ·obtain⟨bl,sh,rfl⟩:=rdIter_md ll _ r hr
  exact rd_md21 bl sh
 ·show(moIter ll (lsN28 ll+fxN28 ll)).C.length≤5
  omega
 ·have:=h.Cc l hl
  exact⟨by omega,this.2⟩
 ·show(moIter ll (lsN28 ll+fxN28 ll)).F.length≤6
  omega
def cutL(ll:List (List Int)):List (List Int):=(ll.take 16).map fun l=>l.take 40
theorem cutL_len(ll:List (List Int)):(cutL ll).length=min ll.length 16:=by
 unfold cutL
 rw[List.length_map,List.length_take]
 omega
theorem cutL_at(ll:List (List Int)){k:Nat}(hk:k<min ll.length 16):(cutL ll).getD k []=(ll.getD k []).take 40:=by
 unfold cutL
 rw[List.getD_eq_getElem?_getD,List.getElem?_map,List.getElem?_take,if_pos (by omega),List.getD_eq_getElem?_getD,List.getElem?_eq_getElem (by omega)]
 rfl
theorem cutL_ok(ll:List (List Int)):LlOk (cutL ll):=by
 refine⟨by rw[cutL_len];omega,fun k hk=> ?_⟩
 rw[cutL_len]at hk
 rw[cutL_at ll hk,List.length_take]
 omega
theorem take_fI(l:List Int)(m:Nat){k:Nat}(hk:k<min l.length m):fI (l.take m) k=fI l k:=by
 show(l.take m).getD k 0=l.getD k 0
 rw[List.getD_eq_getElem?_getD,List.getD_eq_getElem?_getD,List.getElem?_take,if_pos (by omega)]
theorem cut_cv(ll:List (List Int)):Cv (.ls (min ll.length 16) 1 (cuF ll)) (lsL (cutL ll)):=by
 have e:=cutL_len ll
 show Cv _ (.ls (cutL ll).length 1 _)
 rw[e]
 refine Cv.lsN fun k hk j hj O w u h=> ?_
 show RepI O w (.ls ((cutL ll).getD k []).length 1 (iF (fI ((cutL ll).getD k [])))) u
 rw[cutL_at ll hk,show((ll.getD k []).take 40).length=min (ll.getD k []).length 40 by rw[List.length_take];omega]
 refine repI_ls (fun i hi j hj=> ?_) h
 show iC (fI (ll.getD k []) (0+i))=iC (fI ((ll.getD k []).take 40) i)
 rw[Nat.zero_add,take_fI _ _ hi]
set_option maxRecDepth 100000 in
theorem CoreMinimal_A(ll:List (List Int))(hll:LlOk ll):ACalls Try.prog 4 [.c (lsL ll)] (.c (bC true)):=by
 have hSan:=sanity29_A
 have hCut:=cut29_A ll hll
 have hM:=(Made28_A (cutL ll) (cutL_ok ll)).cv (args':= [.c (.ls (min ll.length 16) 1 (cuF ll))]) ⟨.c (cut_cv ll),trivial⟩
 obtain⟨sm,-⟩:=made_sm (cutL ll)
 generalize made28 (cutL ll)=p at *
 have hok:=sm.ok
 have hL:=Least_A p hok
 have hS:=Solve28_A p hok
 have h1:=least_ne sm
 have h2:=least_eq sm
 have hC5:=sm.C
 generalize leastV p=o at *
 obtain⟨s,e⟩:=o
 dsimp only at hL h1 h2
 have hSol:=sol_of sm
 generalize hg:solveV p=o at *
 obtain⟨g,f⟩:=o
 dsimp only at hS h1 h2 hSol
 by_cases he0:e=0
 rotate_left
 ·have h3:=h1 he0
  rcases hSol with ⟨rfl,-⟩|⟨rfl,-⟩
  ·obtain rfl:e=7:=h3.1 rfl
   refine acalls_at Try.func4 rfl rfl Try.ntmps4 rfl ?_
   repeat (first
    |refine vB [0,5,6] ?_
    | (refine rG 1 ?_
       refine aH rfl rfl rfl rfl Try.func7 rfl (by kernel_rfl) (hSan) ?_
       refine vA ?_
       refine aB ?_)
    | (refine rG 2 ?_
       refine vA ?_
       refine aH rfl rfl rfl rfl Try.func9 rfl (by kernel_rfl) (hCut) ?_
       refine aH rfl rfl rfl rfl Try.func8 rfl (by kernel_rfl) (hM) ?_
       (iterate 2 refine vA ?_)
       refine aB ?_)
    | (refine rG 3 ?_
       refine vA ?_
       refine aH rfl rfl rfl rfl Try.func13 rfl (by kernel_rfl) (hL) ?_
       (iterate 5 refine vA ?_)
       refine aB ?_)
    | (refine rG 4 ?_
       refine vA ?_
       refine aH rfl rfl rfl rfl Try.func14 rfl (by kernel_rfl) (hS) ?_
       (iterate 5 refine vA ?_)
       refine aB ?_))
   refine⟨mkSt 103 [(2,.c (bC true))] [] [],[],Wk.mk [] rfl rfl rfl ?_ trivial,rfl,rfl,aR1⟩
   exact allT
  ·have h4:¬e=7:=fun h=>by have:=h3.2 h;omega
   refine acalls_at Try.func4 rfl rfl Try.ntmps4 rfl ?_
   repeat (first
    |refine vB [0,5,6] ?_
    | (refine rG 1 ?_
       refine aH rfl rfl rfl rfl Try.func7 rfl (by kernel_rfl) (hSan) ?_
       refine vA ?_
       refine aB ?_)
    | (refine rG 2 ?_
       refine vA ?_
       refine aH rfl rfl rfl rfl Try.func9 rfl (by kernel_rfl) (hCut) ?_
       refine aH rfl rfl rfl rfl Try.func8 rfl (by kernel_rfl) (hM) ?_
       (iterate 2 refine vA ?_)
       refine aB ?_)
    | (refine rG 3 ?_
       refine vA ?_
       refine aH rfl rfl rfl rfl Try.func13 rfl (by kernel_rfl) (hL) ?_
       (iterate 5 refine vA ?_)
       refine aB ?_)
    | (refine rG 4 ?_
       refine vA ?_
       refine aH rfl rfl rfl rfl Try.func14 rfl (by kernel_rfl) (hS) ?_
       (iterate 5 refine vA ?_)
       refine aB ?_))
   refine⟨mkSt 103 [(2,.c (bC true))] [] [],[],Wk.mk [] rfl rfl rfl ?_ trivial,rfl,rfl,aR1⟩
   exact allT
 subst he0
 obtain⟨rfl,hn,h4,h5,h6⟩:=h2 rfl
 have hsl:s.length≤5:=Nat.le_trans (nm_len hn) hC5
 have hP:=Part_A p hok s (by omega)
 rw[part_sub sm.chk hn]at hP
 have hS2:=Solve28_A (subP p s) (sub_sm sm hn).ok
 generalize solveV (subP p s)=o at *
 obtain⟨g2,f2⟩:=o
 dsimp only at hP hS2 h4
 subst h4
 have h5':¬(s.length:Int)=0:=by omega
 refine acalls_at Try.func4 rfl rfl Try.ntmps4 rfl ?_
 repeat (first
  |refine vB [0,5] ?_
  | (refine rG 1 ?_
     refine aH rfl rfl rfl rfl Try.func7 rfl (by kernel_rfl) (hSan) ?_
     refine vA ?_
     refine aB ?_)
  | (refine rG 2 ?_
     refine vA ?_
     refine aH rfl rfl rfl rfl Try.func9 rfl (by kernel_rfl) (hCut) ?_
     refine aH rfl rfl rfl rfl Try.func8 rfl (by kernel_rfl) (hM) ?_
     (iterate 2 refine vA ?_)
     refine aB ?_)
  | (refine rG 3 ?_
     refine vA ?_
     refine aH rfl rfl rfl rfl Try.func13 rfl (by kernel_rfl) (hL) ?_
     (iterate 5 refine vA ?_)
     refine aB ?_)
  | (refine rG 4 ?_
     refine vA ?_
     refine aH rfl rfl rfl rfl Try.func14 rfl (by kernel_rfl) (hS) ?_
     (iterate 5 refine vA ?_)
     refine aB ?_))
 repeat (first
  |refine vB [9,11] ?_
  | (refine rG 7 ?_
     (iterate 2 refine vA ?_)
     refine aH rfl rfl rfl rfl Try.func10 rfl (by kernel_rfl) (hP) ?_
     (iterate 6 refine vA ?_)
     refine aB ?_)
  | (refine rG 8 ?_
     refine vA ?_
     refine aH rfl rfl rfl rfl Try.func14 rfl (by kernel_rfl) (hS2) ?_
     (iterate 5 refine vA ?_)
     refine aB ?_))
 refine AWp.round (fun k:Nat=>mkSt 103 [(3,.c (bC true)),(4,.c (.pt 4 5 0 0)),(5,.c (lsI s)),(70,.c (iC s.length)),(71,.c (iC (k:Nat)))] [(4,⟨false,1,5,30,lF (pbC p)⟩)] [4]) (fun k=>k≤s.length) (fun k=>s.length-k) 0 (Nat.zero_le _) ?_ (fun k hk=> ?_)
 ·refine Wk.mk [(4,some 4)] rfl rfl rfl ?_ ?_
  ·exact allT
  ·exact⟨hSm,trivial⟩
 by_cases hkl:k<s.length
 rotate_left
 ·have hkl':¬(k:Int)<s.length:=by omega
  refine vB [12,20] ?_
  refine⟨mkSt 103 [(2,.c (bC true))] [] [],[],Wk.mk [] rfl rfl rfl ?_ trivial,rfl,rfl,aR1⟩
  exact allT
 have hkl':(k:Int)<s.length:=by omega
 obtain⟨n1,n2⟩:=h6 k hkl
 have hle:(s.eraseIdx k).length=k+(s.length-(k+1)):=by rw[List.length_eraseIdx,if_pos hkl];omega
 have hQ:=Part_A p hok (s.eraseIdx k) (by omega)
 rw[part_sub sm.chk n1]at hQ
 have hT:=Solve28_A (subP p (s.eraseIdx k)) (sub_sm sm n1).ok
 generalize solveV (subP p (s.eraseIdx k))=o at *
 obtain⟨g3,f3⟩:=o
 dsimp only at hQ hT n2
 subst n2
 repeat (first
  |refine vB [12,13] ?_
  |(refine AWp.draw (id:=14) mixed ?_;(iterate 3 refine vA ?_);refine AList.cut (l:=0) (h:=k) tyOk rfl rfl rfl rfl rfl rfl rfl rfl ⟨_,_,rfl,by first|rfl|omega⟩ (by omega) (by omega) ?_;(first|refine AList.appL0 tyOk rfl rfl rfl rfl rfl rfl rfl rfl rfl rfl oM oM ?_|refine AList.appL tyOk rfl rfl rfl rfl rfl rfl rfl rfl rfl rfl oM oM ?_|refine AList.appN tyOk rfl rfl rfl rfl rfl rfl rfl rfl rfl oM oM ?_|refine AList.appO tyOk rfl rfl rfl rfl rfl rfl rfl rfl rfl rfl rfl oM oM ?_|refine AList.appE tyOk rfl rfl rfl rfl rfl rfl rfl rfl rfl rfl oM oM ?_);(iterate 3 refine vA ?_);refine AList.cut (l:=k+1) (h:=s.length) tyOk rfl rfl rfl rfl rfl rfl rfl ⟨_,_,rfl,by first|rfl|omega⟩ rfl (by omega) (by omega) ?_;(first|refine AList.appL0 tyOk rfl rfl rfl rfl rfl rfl rfl rfl rfl rfl oM oM ?_|refine AList.appL tyOk rfl rfl rfl rfl rfl rfl rfl rfl rfl rfl oM oM ?_|refine AList.appN tyOk rfl rfl rfl rfl rfl rfl rfl rfl rfl oM oM ?_|refine AList.appO tyOk rfl rfl rfl rfl rfl rfl rfl rfl rfl rfl rfl oM oM ?_|refine AList.appE tyOk rfl rfl rfl rfl rfl rfl rfl rfl rfl rfl oM oM ?_);refine vA ?_;refine aB ⟨by kernel_rfl,?_⟩))
 refine AWp.weak (S':=mkSt 103 [(3,.c (bC true)),(4,.c (.pt 4 5 0 0)),(5,.c (lsI s)),(14,.c (lsI (s.eraseIdx k))),(70,.c (iC s.length)),(71,.c (iC (k:Nat)))] [(4,⟨false,1,5,30,lF (pbC p)⟩)] [4]) (Wk.mk [(4,some 4)] rfl rfl rfl ?_ ?_) ?_
 ·refine⟨⟨_,rfl,.c (LeC.refl _ rfl)⟩,⟨_,rfl,.c (LeC.pt _ _ _ _ _ rfl)⟩,⟨_,rfl,.c (LeC.refl _ rfl)⟩,⟨_,rfl,.c (LeC.fz rfl rfl hle (fun i hi j hj=> ?_))⟩,⟨_,rfl,.c (LeC.refl _ rfl)⟩,⟨_,rfl,.c (LeC.refl _ rfl)⟩,trivial⟩
  obtain rfl:j=0:=Nat.lt_one_iff.mp hj
  have:=erase29 hkl (i:=i)
  exact⟨this,by rw[show appF _ _ _ i 0=_ from this];rfl⟩
 ·exact⟨hSm,trivial⟩
 repeat (first
  |refine vB [17,19] ?_
  | (refine rG 15 ?_
     (iterate 2 refine vA ?_)
     refine aH rfl rfl rfl rfl Try.func10 rfl (by kernel_rfl) (hQ) ?_
     (iterate 6 refine vA ?_)
     refine aB ?_)
  | (refine rG 16 ?_
     refine vA ?_
     refine aH rfl rfl rfl rfl Try.func14 rfl (by kernel_rfl) (hT) ?_
     (iterate 5 refine vA ?_)
     refine aB ?_))
 refine⟨k+1,by omega,Wk.mk [(4,some 4)] rfl rfl rfl ?_ ?_,by omega⟩
 ·exact allT
 ·exact⟨hSm,trivial⟩
end Go.Proofs.Ytpefnljgalpllaa
end
section
namespace Go.Proofs.Ytpefnljgalpllaa.coreMinimal
open Go.ChangeShapes Go.WideShapes Go.ChangeAt Go.RowKit Go.Flow Go.AV
set_option maxRecDepth 100000 in
theorem contract(H:Type)(enc:TypeId×Value→H)(W:World)(base:Nat)(args:Array Value)(ds gs:List (DataW H))(before:List MemPlace)
 (hval:∀(j:Nat) t v,Try.f4.params[j]?=some t→args[j]?=some v→Value.okWide Try.prog W .any base t v)
 (hW:DataW.Whole enc Try.prog Try.f4.params.toList Rows.coreMinimalSpec.vars false W args.toList ds gs before)
 (hsz:(DataW.weightsEach Try.prog (Try.f4.params.toList++(OpenSpec.ofChange Rows.coreMinimalSpec).bare.plain.varTypes Try.prog) (ds++gs)).all (·≤reachBytes)=true):
 Calls Try.prog 4 args W fun e W'=>∃v,e=.returned v∧Rows.coreMinimalSpec.post enc Try.prog Try.f4 false true false false W args v W':=by
 have hW':=hW
 obtain⟨p,q,hA0,hV,rfl,hfz,hnd⟩:=hW
 have hA:DataW.TrodAll enc Try.prog W 0 (fun _=>true) true Try.f4.params.toList args.toList ds p:=hA0
 have hAk:=hA0
 rw[Try.params4]at hA hval hsz
 obtain⟨rfl,rfl⟩:=trodVars_none hV
 obtain⟨v0,vs0,d0,ds0,p0,q0,hargs,rfl,rfl,h0,t0⟩:=trodAll_cons hA
 obtain⟨rfl,rfl,rfl⟩:=trodAll_nil t0
 obtain rfl:args= #[v0]:=by rw[←Array.toList_inj];exact hargs
 have hlt:=fun x hx=>hW'.lt x hx
 simp only[List.append_nil]at hW'
 rw[List.append_nil]at hsz
 obtain⟨a0,ok0,r0⟩:=opn_ll.argC (cells_slice Try.underlying22 (hval 0 22 v0 rfl rfl)) h0 (weigh hsz 0 (t:=22) (d:=d0) rfl rfl)
 refine((ECalls.of (CoreMinimal_A a0 ok0)) O0 W [_] (fun b h=>h.elim) ⟨r0,trivial⟩).mono fun e W' ⟨v,r,he,hr,hv,hE⟩=> ?_
 subst hr
 obtain rfl:v=.bool true:=hv.2
 subst he
 exact⟨_,rfl,post_below (pv:= []) hW' (fun _ _ _=>trodAll_cons_mk (shut_bool Try.underlying4 _) trodAll_mk0)
  (fun sp hsp=>trodAll_below laidOut hE (by rw[Try.params4];intro t ht;simp only[List.mem_cons,List.not_mem_nil,or_false]at ht;rcases ht with rfl<;>exact⟨by kernel_rfl,of_decide_eq_true (by kernel_rfl)⟩) hAk (fun x hx=>hlt x (by rw[List.append_nil];exact hx)) sp (fun x hx=>hsp x (by simpa only[List.append_nil]using hx)))
  (fun _ _=>rfl) (by simp) hE (ok_one (by kernel_rfl) rfl (okWide_bool_mk Try.underlying4 _))⟩
theorem own:ownKnob Try.prog.godebug=none:=by kernel_rfl
set_option maxRecDepth 100000 in
theorem lifted(os:Os)(started:os.Started)(H:Type)(enc:TypeId×Value→H):
 ReturnsInHanded {} Try.checked os 4 .any (Rows.coreMinimalSpec.pre6 enc Try.prog Try.f4 Rows.coreMinimalRow.domain false) (Rows.coreMinimalSpec.post enc Try.prog Try.f4 false true false false):=by
 refine returnsInHanded_of_change_sized (C:=Try.checked) own started (by kernel_rfl) Try.func4
  (ChangeSpec.witness6 (enc:=enc) (C:=Try.checked) false ⟨#[], #[.slice none 0 0],[]⟩ 8 (by kernel_rfl) (by kernel_rfl) (by kernel_rfl) (by kernel_rfl)) ?_
 intro W base args ds gs before hval hW _ hsz _
 exact contract H enc W base args ds gs before hval hW hsz
theorem said:Rows.CoreMinimalSaid:=
 OpenClaim.holds_of_wide 4 Try.f4 rfl rfl rfl rfl rfl rfl rfl ⟨rfl,rfl,rfl,rfl,rfl⟩ rfl rfl rfl rfl rfl (by kernel_rfl) Try.func4 (by kernel_rfl)
  (of_decide_eq_true (by kernel_rfl)) (by unfold Func.isWrapper;first|(rw[if_pos (by decide +kernel)];kernel_rfl)|(rw[if_neg (by decide +kernel)];exact⟨rfl,rfl⟩))
  (fun os started H enc _=>lifted os started H enc)
end Go.Proofs.Ytpefnljgalpllaa.coreMinimal
end
