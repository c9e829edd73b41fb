/- CoreRefutes: the statement. No condition. -/
import Derived.Test.YtpefnljgalpllaaGreatHA29rer06
import Derived.Test.YtpefnljgalpllaaGreatRows
import Derived.Test.YtpefnljgalpllaaGreatHA29rer03
set_option linter.unusedSimpArgs false
set_option linter.unusedVariables false
set_option maxHeartbeats 0
set_option maxRecDepth 100000
section
namespace Go.AV
open Go Go.RowKit Go.Flow
end Go.AV
namespace Go.Proofs.YtpefnljgalpllaaGreat
open Go.RowKit Go.Flow Go.AV Go.Plain
theorem f4{P:Nat→Prop}(h:P 0∧P 1∧P 2∧P 3):∀k,k<4→P k:=fun k hk=>by
 obtain⟨h0,h1,h2,h3⟩:=h
 match k,hk with
 |0,_=>exact h0
 |1,_=>exact h1
 |2,_=>exact h2
 |3,_=>exact h3
end Go.Proofs.YtpefnljgalpllaaGreat
end
section
namespace Go.Proofs.YtpefnljgalpllaaGreat
open Go.RowKit Go.Flow Go.AV Go.Plain
def brT(p:Pb):Pb:=⟨p.R,p.C,p.F,p.O,bgZ::p.T⟩
theorem brT_no{p:Pb}(sp:Sm p)(hok:(brT p).ok)(h:zAt (brT p)=0):Sm (brT p):=by
 have h1:(bgZ::p.T).length=p.F.length:=(zDO hok h).t;have h2:=sp.T;rw[List.length_cons]at h1
 omega
theorem two9_F(p q:Pb):∀i,i<2→∀j,j<5→sF (pbC p++pbC q) 5 i j=zV pbC pbZ [p,q] i j∧zK (sF (pbC p++pbC q) 5 i j)=true:=fun i hi j hj=>by
 obtain rfl|rfl:i=0∨i=1:=by omega
 all_goals
  match j,hj with
  |0,_|1,_|2,_|3,_|4,_=>exact⟨rfl,rfl⟩
theorem rfacts(x:Pb)(hx:x.ok)(hs:zAt x=0→Sm x):∃(l:List Int) (e e':Int) (c:List Stp) (g g' ck:Int),e=e'∧g=g'∧(g=0→ck=0)∧
 ACalls Tryz.prog 8 [.ag (pbC x)] (.tu [.c (lsI l),.c (iC e)])∧ACalls Tryz.prog 9 [.ag (pbC x)] (.tu [.c (lsI l),.c (iC e')])∧
 ACalls Tryz.prog 10 [.ag (pbC x)] (.tu [.c (zAD c),.c (iC g)])∧ACalls Tryz.prog 11 [.ag (pbC x)] (.tu [.c (zAD c),.c (iC g')])∧
 ACalls Tryz.prog 12 [.c (lsI l),.c (lsI l)] (.c (bC true))∧ACalls Tryz.prog 13 [.c (zAD c),.c (zAD c)] (.c (bC true))∧
 ACalls Tryz.prog 14 [.ag (pbC x),.c (zAD c)] (.c (iC ck)):=by
 have hll:(zAL x).1.length≤1000:=by
  unfold zAL;by_cases h0:zAt x=0
  ·rw [if_pos h0]
   have h5:=(hs h0).C;rw[if_neg xD];by_cases hu:zAJ x=0
   ·rw[if_pos hu]
    cases hf:(zBj x.C.length (x.C.length+1)).find? (zAy x)with
    |none=>exact Nat.zero_le _
    | some s=>
      have:=zHj (zMr hf).2.1;show s.length≤1000
      omega
   ·rw[if_neg hu];exact Nat.zero_le _
  ·rw[if_neg h0];exact Nat.zero_le _
 have hlr:(zBV x).1.length≤1000000:=by
  unfold zBV;by_cases h0:zAt x=0
  ·rw[if_pos h0]
   by_cases hu:zAJ x=0
   ·rw[if_pos hu];exact(zJd (hs h0) hu).2
   ·rw[if_neg hu];exact Nat.zero_le _
  ·rw[if_neg h0];exact Nat.zero_le _
 refine⟨_,_,_,_,_,_,_,rfl,rfl,?_,zKR x hx,zSc x hx hs,zKW x hx fun h0 hu=>zJd (hs h0) hu,zSe x hx hs,?_,zSf _ hlr,zH4 x hx _ hlr⟩
 ·intro hg
  by_cases h0:zAt x=0
  ·exact zSn (hs h0) hg
  ·unfold zBV at hg
   rw[if_neg h0]at hg;exact absurd hg h0
 ·have:=zIj (zAL x).1 (zAL x).1 xD
  rw[decide_eq_true rfl]at this;exact this
abbrev pR9(p:Pb):AB:=⟨false,1,5,29,lF (pbC p)⟩
theorem CoreRefutes_A(ll:List (List Int))(hll:LlOk ll):ACalls Tryz.prog 3 [.c (lsL ll)] (.c (bC true)):=by
 have hSan:=zSE;have hCut:=zQP ll hll;have hM:=(zPq (zCJ ll) (zQQ ll)).cv (args':= [.c (.ls (min ll.length 16) 1 (cuF ll))]) ⟨.c (zQR ll),trivial⟩
 obtain⟨sm,-⟩:=zRC (zCJ ll)
 generalize zFP (zCJ ll)=p at *;have hok:=sm.ok;have hTl:p.T.length≤200:=(zSO sm).lT;have hokB:(brT p).ok:=⟨hok.rd,hok.lR,hok.lC,hok.lF,hok.lO,by show(bgZ::p.T).length≤_;simp only[List.length_cons];omega,hok.lc⟩
 refine zH Tryz.func3 rfl rfl Tryz.ntmps3 rfl ?_
 repeat (first
  |refine vB [0,3] ?_
  | (refine rG 1 ?_
     refine xB Tryz.func5 hSan ?_;refine vA ?_;refine aB ?_)
  | (refine rG 2 ?_
     refine vA ?_;refine xB Tryz.func7 hCut ?_;refine xB Tryz.func6 hM ?_;refine xE2 ?_;refine aB ?_))
 repeat (first
  |refine vB [] ?_
  | (refine rG 4 ?_
     refine vA ?_;refine zF1 (zHY zA) ?_;refine xE2 ?_;refine xA ?_;refine xE2 ?_;refine aB ?_))
 refine AWp.weak (S':=zD 87 [(3,.c (bC true)),(4,.c (.pt 4 5 0 0)),(5,.c (.pt 5 5 0 0))] [(4,pR9 p),(5,pR9 (brT p))] [4,5]) (Wk.mk [(4,some 4),(5,some 5)] rfl rfl rfl ?_ ?_) ?_
 ·exact zB
 ·exact⟨hSm,HeapOk.box rfl rfl ⟨LeC.refl _ rfl,LeC.refl _ rfl,LeC.refl _ rfl,LeC.refl _ rfl,zAn rfl rfl (Nat.add_comm _ _) (fun i hi j hj=>zQq p.T i xD j hj),trivial⟩ rfl,trivial⟩
 repeat (first
  |refine vB [] ?_
  | (refine rG 5 ?_
     refine xE2 ?_;refine zF1 (zHY zA) ?_;refine xE2 ?_;refine aB ?_))
 refine AWp.round (fun i:Nat=>zD 87 [(3,.c (bC true)),(29,.c (.ls 2 5 (zV pbC pbZ [p,brT p]))),(30,.c (iC 2)),(31,.c (iC (i:Nat)))] [] []) (fun i=>i≤2) (fun i=>2-i) 0 (Nat.zero_le _) ?_ (fun i hi=> ?_)
 ·refine Wk.mk [] rfl rfl rfl ?_ trivial
  repeat (first|exact trivial|refine⟨⟨_,rfl,by first|exact LeA.c (zAn rfl rfl rfl (two9_F p (brT p)))|exact leT⟩,?_⟩)
 by_cases hi2:i<2;rotate_left
 ·have hi2':¬(i:Int)<2:=by omega
  refine vB [6,15] ?_
  refine⟨zD 87 [(2,.c (bC true))] [] [],[],Wk.mk [] rfl rfl rfl ?_ trivial,rfl,rfl,aR1⟩
  exact zB
 have hi2':(i:Int)<2:=by omega
 obtain⟨x,hx,hxo,hxs⟩:∃x,([p,brT p]:List Pb).getD i pbZ=x∧x.ok∧(zAt x=0→Sm x):=by
  match i,hi2 with
  |0,_=>exact⟨_,rfl,hok,fun _=>sm⟩
  |1,_=>exact⟨_,rfl,hokB,brT_no sm hokB⟩
 have ex:zAR (zV pbC pbZ [p,brT p] i) 0 5=pbC x:=by rw[←hx];rfl
 obtain⟨l,e,e',c,g,g',ck,he,hg,hck,q1,q2,q3,q4,q5,q6,q7⟩:=rfacts x hxo hxs
 refine vB [6] ?_;refine aY ?_
 first|refine zG (aP (k:=i) zA) ?_|refine zT (zO (k:=i) zA) ?_
 refine zGo zA (ex) rfl rfl rfl rfl rfl oM ?_;refine xE2 ?_;refine aB ?_;by_cases g0:g=0
 ·have hck0:=hck g0
  repeat (first
   |refine vB [14] ?_
   | (refine rG 8 ?_
      refine vA ?_;refine xB Tryz.func8 q1 ?_;refine xE5 ?_;refine aB ?_)
   | (refine rG 9 ?_
      refine vA ?_;refine xB Tryz.func9 q2 ?_;refine xE5 ?_;refine aB ?_)
   | (refine rG 10 ?_
      refine vA ?_;refine xB Tryz.func10 q3 ?_;refine xE5 ?_;refine aB ?_)
   | (refine rG 11 ?_
      refine vA ?_;refine xB Tryz.func11 q4 ?_;refine xE5 ?_;refine aB ?_)
   | (refine rG 12 ?_
      refine zB0 ?_
      first|refine qr2 aG ?_|refine xB Tryz.func12 q5 ?_
      refine xE5 ?_
      first|refine qr2 aG ?_|refine xB Tryz.func13 q6 ?_
      refine xE8 ?_
      first|refine qr2 aG ?_|refine xB Tryz.func14 q7 ?_
      refine xE3 ?_;refine aB ?_))
  refine⟨i+1,hi2,Wk.mk [] rfl rfl rfl ?_ trivial,by omega⟩
  exact zB
 · -- ax 8 law29.CoreRefutes
   repeat (first
    |refine vB [14] ?_
    | (refine rG 8 ?_
       refine vA ?_;refine xB Tryz.func8 q1 ?_;refine xE5 ?_;refine aB ?_)
    | (refine rG 9 ?_
       refine vA ?_;refine xB Tryz.func9 q2 ?_;refine xE5 ?_;refine aB ?_)
    | (refine rG 10 ?_
       refine vA ?_;refine xB Tryz.func10 q3 ?_;refine xE5 ?_;refine aB ?_)
    | (refine rG 11 ?_
       refine vA ?_;refine xB Tryz.func11 q4 ?_;refine xE5 ?_;refine aB ?_)
    | (refine rG 12 ?_
       refine zB0 ?_
       first|refine qr2 aG ?_|refine xB Tryz.func12 q5 ?_
       refine xE5 ?_
       first|refine qr2 aG ?_|refine xB Tryz.func13 q6 ?_
       refine xE8 ?_
       first|refine qr2 aG ?_|refine xB Tryz.func14 q7 ?_
       refine xE3 ?_;refine aB ?_))
   refine⟨i+1,hi2,Wk.mk [] rfl rfl rfl ?_ trivial,by omega⟩
   exact zB
end Go.Proofs.YtpefnljgalpllaaGreat
end
section
namespace Go.Proofs.YtpefnljgalpllaaGreat.coreRefutes
open Go.ChangeShapes Go.WideShapes Go.ChangeAt Go.RowKit Go.Flow Go.AV
theorem contract(H:Type)(enc:TypeId×Value→H)(W:World)(base:Nat)(args:Array Value)(ds gs:List (DataW H))(before:List MemPlace)
 (hval:∀(j:Nat) t v,Tryz.f3.params[j]?=some t→args[j]?=some v→Value.okWide Tryz.prog W .any base t v)
 (hW:DataW.Whole enc Tryz.prog Tryz.f3.params.toList Rows.coreRefutesSpec.vars false W args.toList ds gs before)
 (hsz:(DataW.weightsEach Tryz.prog (Tryz.f3.params.toList++(OpenSpec.ofChange Rows.coreRefutesSpec).bare.plain.varTypes Tryz.prog) (ds++gs)).all (·≤reachBytes)=true):
 Calls Tryz.prog 3 args W fun e W'=>∃v,e=.returned v∧Rows.coreRefutesSpec.post enc Tryz.prog Tryz.f3 false true false false W args v W':=by
 have hW':=hW
 obtain⟨p,q,hA0,hV,rfl,hfz,hnd⟩:=hW
 have hA:DataW.TrodAll enc Tryz.prog W 0 (fun _=>true) true Tryz.f3.params.toList args.toList ds p:=hA0;have hAk:=hA0;rw[Tryz.params3]at hA hval hsz
 obtain⟨rfl,rfl⟩:=trodVars_none hV
 obtain⟨v0,vs0,d0,ds0,p0,q0,hargs,rfl,rfl,h0,t0⟩:=trodAll_cons hA
 obtain⟨rfl,rfl,rfl⟩:=trodAll_nil t0
 obtain rfl:args= #[v0]:=by rw[←Array.toList_inj];exact hargs
 have hlt:=fun x hx=>hW'.lt x hx
 simp only[List.append_nil]at hW'
 rw[List.append_nil]at hsz
 obtain⟨a0,ok0,r0⟩:=opn_ll.argC (zQB Tryz.underlying22 (hval 0 22 v0 rfl rfl)) h0 (zTM hsz 0 (t:=22) (d:=d0) rfl rfl)
 refine((ECalls.of (CoreRefutes_A a0 ok0)) O0 W [_] (fun b h=>h.elim) ⟨r0,trivial⟩).mono fun e W' ⟨v,r,he,hr,hv,hE⟩=> ?_
 subst hr;obtain rfl:v=.bool true:=hv.2;subst he
 exact⟨_,rfl,zR4 (pv:= []) hW' (fun _ _ _=>trodAll_cons_mk (shut_bool Tryz.underlying4 _) trodAll_mk0)
  (fun sp hsp=>zOD zRy hE (by rw[Tryz.params3];intro t ht;simp only[List.mem_cons,List.not_mem_nil,or_false]at ht;rcases ht with rfl<;>exact⟨by kernel_rfl,of_decide_eq_true xC⟩) hAk (fun x hx=>hlt x (by rw[List.append_nil];exact hx)) sp (fun x hx=>hsp x (by simpa only[List.append_nil]using hx)))
  (fun _ _=>rfl) (by simp) hE (ok_one xC rfl (okWide_bool_mk Tryz.underlying4 _))⟩
theorem own:ownKnob Tryz.prog.godebug=none:=by kernel_rfl
theorem lifted(os:Os)(started:os.Started)(H:Type)(enc:TypeId×Value→H):
 ReturnsInHanded {} Tryz.checked os 3 .any (Rows.coreRefutesSpec.pre6 enc Tryz.prog Tryz.f3 Rows.coreRefutesRow.domain false) (Rows.coreRefutesSpec.post enc Tryz.prog Tryz.f3 false true false false):=by
 refine returnsInHanded_of_change_sized (C:=Tryz.checked) own started xC Tryz.func3
  (ChangeSpec.witness6 (enc:=enc) (C:=Tryz.checked) false ⟨#[], #[.slice none 0 0],[]⟩ 8 xC xC xC xC) ?_
 intro W base args ds gs before hval hW _ hsz _;exact contract H enc W base args ds gs before hval hW hsz
theorem said:Rows.CoreRefutesSaid:=
 OpenClaim.holds_of_wide 3 Tryz.f3 rfl rfl rfl rfl rfl rfl rfl ⟨rfl,rfl,rfl,rfl,rfl⟩ rfl rfl rfl rfl rfl xC Tryz.func3 xC
  (of_decide_eq_true xC) (by unfold Func.isWrapper;first|(rw[if_pos (by decide +kernel)];kernel_rfl)|(rw[if_neg (by decide +kernel)];exact⟨rfl,rfl⟩))
  (fun os started H enc _=>lifted os started H enc)
end Go.Proofs.YtpefnljgalpllaaGreat.coreRefutes
end
