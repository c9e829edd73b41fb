/- ReprintWhy: the statement. No condition. -/
import Derived.Test.YtbffmfeldkjkcaaHA30yr03
import Derived.Test.YtbffmfeldkjkcaaRows
set_option linter.unusedSimpArgs false
set_option linter.unusedVariables false
set_option maxHeartbeats 0
set_option maxRecDepth 100000
section
namespace Go.Proofs.Ytbffmfeldkjkcaa
open Go.RowKit Go.Flow Go.AV Go.Plain
theorem less_no{p:Pb}{H:List Hg}(hp:Sm p)(hC:p.C.length≤2)(hH:HgSm H){s t:List Int}(hf:zDi p H=some s)(ht:zAP H.length t=true)(hl:t.length<s.length):(zAy (anP p H t)).2=60:=by
 have hs:=zDL (List.mem_of_find?_eq_some hf)
 obtain⟨r,hr⟩:=zTg (n:=H.length) (show s.length≤H.length+1 by omega)
 have hno:(zBz H.length s.length).find? (zFs p H)=none:=by
  cases hc:(zBz H.length s.length).find? (zFs p H)with
  |none=>rfl
  | some u=>
    have hu:=zDL (List.mem_of_find?_eq_some hc);have:zDi p H=some u:=by
     show(zBz H.length (H.length+1)).find? _=_
     rw[hr,List.find?_append,hc]
     rfl
    rw[hf]at this
    cases this
    omega
 have hm:t∈zBz H.length s.length:=to_in.2 ⟨t.length,hl,zSB ht⟩;exact zSI hp hC hH (by have:=List.find?_eq_none.1 hno t hm;simpa using this)
abbrev whyK(p:Pb)(H:List Hg)(s:List Int)(k:Nat):List Stp:=(zB1 (anP p H (s.eraseIdx k))).1
theorem why_all{p:Pb}{H:List Hg}(hp:Sm p)(hC:p.C.length≤2)(hH:HgSm H){s:List Int}(hf:zDi p H=some s):∀(d k:Nat) (out:List (List Stp)),k+d=s.length→zFB p H s d k out=(out++(List.range' k d).map (whyK p H s),0)
 | 0,k,out,_=>by
   show(out,(0:Int))=_
   simp
 | d+1,k,out,hd=>by
   have hs:=zDL (List.mem_of_find?_eq_some hf);have hk:k<s.length:=by omega
   have hn:=zJq hs.1 hk;have h60:=less_no hp hC hH hf hn (by rw[List.length_eraseIdx_of_lt hk];omega)
   have hq:=zDd (s.eraseIdx k) hp hC hH;have hr:(zB1 (anP p H (s.eraseIdx k))).2=0:=by
    unfold zB1;rw[if_pos hq.chk,if_pos ((zJ8 hq).2 h60)]
   unfold zFB;rw[zEZ hp hC hH hn,if_pos rfl,if_pos hr,why_all hp hC hH hf d (k+1) _ xD,List.range'_succ,List.map_cons,List.append_assoc]
   rfl
theorem why_sm{p:Pb}{H:List Hg}(hp:Sm p)(hC:p.C.length≤2)(hH:HgSm H){x:Pl}(hf:zDi p H=some x.rp)(hh:zDm p H x=true):zEY p H x=((List.range x.rp.length).map (whyK p H x.rp),0):=by
 unfold zEY;rw[if_pos hh,why_all hp hC hH hf x.rp.length 0 [] xD,List.range_eq_range']
 rfl
theorem why_dead{p:Pb}{H:List Hg}(hp:Sm p)(hC:p.C.length≤2)(hH:HgSm H)(s:List Int)(h0:(zAe p H s).2=0)(hu:zCE (zAe p H s).1=0):zDh (zAe p H s).1 (zAe p H s).1.C.length []∧(zBh (zAe p H s).1 (zAe p H s).1.C.length []).length≤1000000:=by
 rw[(zGC h0).1]at hu⊢;exact zJg (zDd s hp hC hH) hu
theorem why_check{p:Pb}{H:List Hg}(hp:Sm p)(hC:p.C.length≤2)(hH:HgSm H){s:List Int}(hf:zDi p H=some s){k:Nat}(hk:k<s.length):zFW (anP p H (s.eraseIdx k)) (whyK p H s k)=0:=by
 have hs:=zDL (List.mem_of_find?_eq_some hf);have hn:=zJq hs.1 hk;have h60:=less_no hp hC hH hf hn (by rw[List.length_eraseIdx_of_lt hk];omega)
 have hq:=zDd (s.eraseIdx k) hp hC hH;refine zSe hq ?_;unfold zB1;rw[if_pos hq.chk,if_pos ((zJ8 hq).2 h60)]
theorem ref_len{q:Pb}(hq:Sm q):(zB1 q).1.length≤1000000:=by
 unfold zB1;rw[if_pos hq.chk];by_cases h:zCE q=0
 ·rw[if_pos h];exact(zJg hq h).2
 ·rw[if_neg h];exact Nat.zero_le _
abbrev plX(x:Pl):CV:=.pl 1 3 (lF (plC x)) 0 0
theorem er_app(s:List Int)(k:Nat)(hk:k<s.length):(s.eraseIdx k).length=k+(s.length-(k+1))∧∀i,i<k+(s.length-(k+1))→∀j,j<1→zAg (fun i j=>iF (fI s) (0+i) j) k (fun i j=>iF (fI s) (k+1+i) j) i j=iF (fI (s.eraseIdx k)) i j∧zM (zAg (fun i j=>iF (fI s) (0+i) j) k (fun i j=>iF (fI s) (k+1+i) j) i j)=true:=by
 refine⟨by rw[List.length_eraseIdx_of_lt hk];omega,fun i hi j hj=> ?_⟩
 unfold zAg;have e:fI (s.eraseIdx k) i=if i<k then fI s i else fI s (i+1):=by
  show(s.eraseIdx k).getD i 0=if i<k then s.getD i 0 else s.getD (i+1) 0
  rw[List.getD_eq_getElem?_getD,List.getElem?_eraseIdx];by_cases h:i<k
  ·rw[if_pos h,if_pos h,List.getD_eq_getElem?_getD]
  ·rw[if_neg h,if_neg h,List.getD_eq_getElem?_getD]
 by_cases h:i<k
 ·rw[Nat.blt_eq.mpr h]
  refine⟨?_,rfl⟩
  show iC (fI s (0+i))=iC (fI (s.eraseIdx k) i);rw[e,if_pos h,Nat.zero_add]
 ·rw[show Nat.blt i k=false from Bool.eq_false_iff.2 fun q=>h (Nat.blt_eq.mp q)]
  refine⟨?_,rfl⟩
  show iC (fI s (k+1+(i-k)))=iC (fI (s.eraseIdx k) i);rw[e,if_neg h,show k+1+(i-k)=i+1 by omega]
theorem ReprintWhy_A(c:Cs)(hc:c.ok):ACalls Try.prog 6 [.ag (csC c)] (.c (bC true)):=by
 obtain⟨⟨hP,hHs⟩,-,-,-⟩:=hc
 have hSan:=zSv;have hMd:=zRm c hP hHs
 obtain⟨sm1,-⟩:=zHt c.P
 obtain⟨sm2,-⟩:=zHt c.Hs
 obtain⟨sp,spC⟩:=zQv sm1
 have hHm:=zQ5 sm2;generalize zED (zCN c.P)=p at *;generalize zD1 (zCN c.Hs)=H at *;clear sm1 sm2 hP hHs;have hn2:=hHm.1;have hHok:=hHm.bd.ok xD;have hM:=zK9 p sp.ok H hHok
 rcases zRo sp spC hHm with ⟨s,h1,h2,h3,h4⟩|⟨h1,h2⟩
 rotate_left
 ·rw [h2]at hM
  clear h1 h2;refine zK Try.func6 rfl rfl Try.ntmps6 rfl ?_
  repeat (first
   |refine vB [0,4,5] ?_
   | (refine rG 1 ?_
      refine xB Try.func7 hSan ?_;refine vA ?_;refine aB ?_)
   | (refine rG 2 ?_
      refine vA ?_;refine xB Try.func8 hMd ?_;refine xE6 ?_;refine aB ?_)
   | (refine rG 3 ?_
      refine xE2 ?_;refine xB Try.func14 hM ?_;refine xE6 ?_;refine aB ?_))
  refine⟨zD 86 [(2,.c (bC true))] [] [],[],Wk.mk [] rfl rfl rfl ?_ trivial,rfl,rfl,aR1⟩
  exact zC
 rw[h4]at hM;have hl:=(zDL (List.mem_of_find?_eq_some h1)).2;have hcl:=(zOh (zDd s sp spC hHm) h3).1;have hC:=(zDd s sp spC hHm).C;have hhold:=zRX sp spC hHm h2 h3
 obtain⟨x,hx⟩:∃x,zCA p (zAy (anP p H s)).1 s=x:=⟨_,rfl⟩
 have hxr:x.rp=s:=by rw[←hx];rfl
 have hxo:zH9 x:=by
  rw[←hx]
  exact⟨by show s.length≤_;omega,by show(s.map _).length≤_;rw[List.length_map];omega,by show(List.take _ _).length≤_;rw[List.length_take];omega⟩
 rw[hx]at hM hhold;have hW:=zLh p sp.ok H hHok x hxo (fun k _ h0 hu=>why_dead sp spC hHm _ h0 hu);rw[why_sm sp spC hHm (by rw[hxr];exact h1) hhold,hxr]at hW
 have hcell:lF (plC x) 0 0=lsI s:=by rw[←hxr];rfl
 have hwith:∀k,k<s.length→ACalls Try.prog 11 [.ag (pbC p),.c (lsH H),.c (lsI (s.eraseIdx k))] (.tu [.ag (pbC (anP p H (s.eraseIdx k))),.c (iC 0)])∧ACalls Try.prog 21 [.ag (pbC (anP p H (s.eraseIdx k))),.c (zAX (whyK p H s k))] (.c (iC 0)):=fun k hk=>by
  have hW:=zE7 p sp.ok H hHok (s.eraseIdx k) (by rw[List.length_eraseIdx_of_lt hk];omega)
  rw[zEZ sp spC hHm (zJq h2 hk)]at hW;have hq:=zDd (s.eraseIdx k) sp spC hHm;have hK:=zO2 (anP p H (s.eraseIdx k)) hq.ok (whyK p H s k) (ref_len hq);rw[why_check sp spC hHm h1 hk]at hK
  exact⟨hW,hK⟩
 obtain⟨L,hL⟩:∃L,(List.range s.length).map (whyK p H s)=L:=⟨_,rfl⟩
 have hLl:L.length=s.length:=by rw[←hL,List.length_map,List.length_range]
 have hLk:∀k,k<s.length→L.getD k []=whyK p H s k:=fun k hk=>by
  rw[←hL,List.getD_eq_getElem?_getD,List.getElem?_map,List.getElem?_range hk]
  rfl
 rw[hL]at hW;dsimp only at hW hM;clear hhold h1 h4 hL hx hcl hC;have hLl':(L.length:Int)=s.length:=by omega
 refine zK Try.func6 rfl rfl Try.ntmps6 rfl ?_
 repeat (first
  |refine vB [0,4] ?_
  | (refine rG 1 ?_
     refine xB Try.func7 hSan ?_;refine vA ?_;refine aB ?_)
  | (refine rG 2 ?_
     refine vA ?_;refine xB Try.func8 hMd ?_;refine xE6 ?_;refine aB ?_)
  | (refine rG 3 ?_
     refine xE2 ?_;refine xB Try.func14 hM ?_;refine xE6 ?_;refine aB ?_))
 repeat (first
  |refine vB [9] ?_
  | (refine rG 6 ?_
     refine xE3 ?_;refine xB Try.func20 hW ?_;refine xE5 ?_;refine aB ?_)
  | (refine rG 7 ?_
     refine xE6 ?_
     first|refine qr2 aG ?_|refine zAk zA (hcell) rfl rfl rfl rfl rfl oM ?_|refine zAH zA rfl rfl rfl rfl rfl rfl rfl oM oM (hcell) ?_
     refine xE3 ?_;refine aB ?_))
 refine AWp.round (fun k:Nat=>
  zD 86 [(3,.c (bC true)),(4,.c (zDJ p)),(5,.c (lsH H)),(6,.c (plX x)),(8,.c (lsW L)),(10,.c (iC (k:Nat)))] [] []
  ) (fun k=>k≤s.length) (fun k=>s.length-k) 0 (Nat.zero_le _) ?_ (fun k hk=> ?_)
 ·refine Wk.mk [] rfl rfl rfl ?_ trivial
  repeat (first|exact trivial|refine⟨⟨_,rfl,by first|exact LeA.c (zBq rfl rfl rfl rfl)|exact leT⟩,?_⟩)
 by_cases hks:k<s.length;rotate_left
 ·have hks':¬(k:Int)<L.length:=by omega
  refine vB [10,15] ?_
  refine⟨zD 86 [(2,.c (bC true))] [] [],[],Wk.mk [] rfl rfl rfl ?_ trivial,rfl,rfl,aR1⟩
  exact zC
 have hks':(k:Int)<L.length:=by omega
 obtain⟨hW1,hK1⟩:=hwith k hks
 have hLc:(fun i (_:Nat)=>zAX (L.getD i [])) k 0=zAX (whyK p H s k):=by show zAX (L.getD k [])=_;rw[hLk k hks]
 obtain⟨ea,eb⟩:=er_app s k hks
 generalize whyK p H s k=sk at *;generalize anP p H (s.eraseIdx k)=q at *;refine vB [10] ?_;refine AWp.draw zL ?_;refine xE4 ?_
 first|refine zAk zA (hcell) rfl rfl rfl rfl rfl oM ?_|refine zAH zA rfl rfl rfl rfl rfl rfl rfl oM oM (hcell) ?_
 refine vA ?_;refine AList.cut (l:=0) (h:=k) zA rfl rfl rfl rfl rfl rfl rfl rfl ⟨_,_,rfl,by first|rfl|omega⟩ xD xD ?_;refine xA ?_;refine vA ?_
 first|refine zAk zA (hcell) rfl rfl rfl rfl rfl oM ?_|refine zAH zA rfl rfl rfl rfl rfl rfl rfl oM oM (hcell) ?_
 refine xE2 ?_;refine AList.cut (l:=k+1) (h:=s.length) zA rfl rfl rfl rfl rfl rfl rfl ⟨_,_,rfl,by first|rfl|omega⟩ rfl xD xD ?_;refine zKh zA rfl rfl rfl rfl rfl rfl rfl rfl rfl rfl (ea) (eb) oM oM ?_;refine xB Try.func11 hW1 ?_;refine xE6 ?_;refine aB ⟨by kernel_rfl,?_⟩
 repeat (first
  |refine vB [11] ?_
  |(refine AWp.draw (id:=13) zL ?_;refine xE6 ?_;(first|refine qr2 aG ?_|refine zG (aP (k:=k) zA) ?_|refine zJ (zH (k:=k) zA) ?_);(first|refine qr2 aG ?_|refine zAk zA (hLc) rfl rfl rfl rfl rfl oM ?_|refine zAH zA rfl rfl rfl rfl rfl rfl rfl oM oM (hLc) ?_);(first|refine qr2 aG ?_|refine xB Try.func21 hK1 ?_);refine xE2 ?_;refine aB ⟨by kernel_rfl,?_⟩))
 refine⟨k+1,hks,Wk.mk [] rfl rfl rfl ?_ trivial,by omega⟩
 exact zC
end Go.Proofs.Ytbffmfeldkjkcaa
end
section
namespace Go.Proofs.Ytbffmfeldkjkcaa.reprintWhy
open Go.ChangeShapes Go.WideShapes Go.ChangeAt Go.RowKit Go.Flow Go.AV
theorem contract(H:Type)(enc:TypeId×Value→H)(W:World)(base:Nat)(args:Array Value)(ds gs:List (DataW H))(before:List MemPlace)
 (hval:∀(j:Nat) t v,Try.f6.params[j]?=some t→args[j]?=some v→Value.okWide Try.prog W .any base t v)
 (hW:DataW.Whole enc Try.prog Try.f6.params.toList Rows.reprintWhySpec.vars false W args.toList ds gs before)
 (hsz:(DataW.weightsEach Try.prog (Try.f6.params.toList++(OpenSpec.ofChange Rows.reprintWhySpec).bare.plain.varTypes Try.prog) (ds++gs)).all (·≤reachBytes)=true):
 Calls Try.prog 6 args W fun e W'=>∃v,e=.returned v∧Rows.reprintWhySpec.post enc Try.prog Try.f6 false true false false W args v W':=by
 have hW':=hW
 obtain⟨p,q,hA0,hV,rfl,hfz,hnd⟩:=hW
 have hA:DataW.TrodAll enc Try.prog W 0 (fun _=>true) true Try.f6.params.toList args.toList ds p:=hA0;have hAk:=hA0;rw[Try.params6]at hA hval hsz
 obtain⟨rfl,rfl⟩:=trodVars_none hV
 obtain⟨v0,vs0,d0,ds0,p0,q0,hargs,rfl,rfl,h0,t0⟩:=trodAll_cons hA
 obtain⟨rfl,rfl,rfl⟩:=trodAll_nil t0
 obtain rfl:args= #[v0]:=by rw[←Array.toList_inj];exact hargs
 have hlt:=fun x hx=>hW'.lt x hx
 simp only[List.append_nil]at hW'
 rw[List.append_nil]at hsz
 obtain⟨a0,ok0,r0⟩:=opn_ca30.argS Try.underlying27 (hval 0 27 v0 rfl rfl) h0 (zTB hsz 0 (t:=27) (d:=d0) rfl rfl)
 refine((ECalls.of (ReprintWhy_A a0 ok0)) O0 W [_] (fun b h=>h.elim) ⟨r0,trivial⟩).mono fun e W' ⟨v,r,he,hr,hv,hE⟩=> ?_
 subst hr;obtain rfl:v=.bool true:=hv.2;subst he
 exact⟨_,rfl,zRY (pv:= []) hW' (fun _ _ _=>trodAll_cons_mk (shut_bool Try.underlying4 _) trodAll_mk0)
  (fun sp hsp=>zOx zRi hE (by rw[Try.params6];intro t ht;simp only[List.mem_cons,List.not_mem_nil,or_false]at ht;rcases ht with rfl<;>exact⟨by kernel_rfl,of_decide_eq_true xC⟩) hAk (fun x hx=>hlt x (by rw[List.append_nil];exact hx)) sp (fun x hx=>hsp x (by simpa only[List.append_nil]using hx)))
  (fun _ _=>rfl) (by simp) hE (ok_one xC rfl (okWide_bool_mk Try.underlying4 _))⟩
theorem own:ownKnob Try.prog.godebug=none:=by kernel_rfl
theorem lifted(os:Os)(started:os.Started)(H:Type)(enc:TypeId×Value→H):
 ReturnsInHanded {} Try.checked os 6 .any (Rows.reprintWhySpec.pre6 enc Try.prog Try.f6 Rows.reprintWhyRow.domain false) (Rows.reprintWhySpec.post enc Try.prog Try.f6 false true false false):=by
 refine returnsInHanded_of_change_sized (C:=Try.checked) own started xC Try.func6
  (ChangeSpec.witness6 (enc:=enc) (C:=Try.checked) false ⟨#[], #[.agg #[.slice none 0 0,.slice none 0 0,.slice none 0 0,.int .i64 0,.int .i64 0,.int .i64 0,.int .i64 0,.int .i64 0]],[]⟩ 8 xC xC xC xC) ?_
 intro W base args ds gs before hval hW _ hsz _;exact contract H enc W base args ds gs before hval hW hsz
theorem said:Rows.ReprintWhySaid:=
 OpenClaim.holds_of_wide 6 Try.f6 rfl rfl rfl rfl rfl rfl rfl ⟨rfl,rfl,rfl,rfl,rfl⟩ rfl rfl rfl rfl rfl xC Try.func6 xC
  (of_decide_eq_true xC) (by unfold Func.isWrapper;first|(rw[if_pos (by decide +kernel)];kernel_rfl)|(rw[if_neg (by decide +kernel)];exact⟨rfl,rfl⟩))
  (fun os started H enc _=>lifted os started H enc)
end Go.Proofs.Ytbffmfeldkjkcaa.reprintWhy
end
