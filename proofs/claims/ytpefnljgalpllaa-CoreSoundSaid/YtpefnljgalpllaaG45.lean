/- Parts of the proof: A29f, A29g, A29h, A29i, A29j. -/
import Derived.Test.YtpefnljgalpllaaG44
set_option linter.unusedSimpArgs false
set_option linter.unusedVariables false
set_option maxHeartbeats 0
section
namespace Go.Proofs.Ytpefnljgalpllaa
open Go.RowKit Go.Flow Go.AV Go.Plain
theorem fI_ap1{l:List Int}{x:Int}{k:Nat}(h:k<l.length):fI (l++ [x]) k=fI l k:=by
 show(l++ [x]).getD k 0=l.getD k 0
 rw[List.getD_eq_getElem?_getD,List.getD_eq_getElem?_getD,List.getElem?_append_left h]
theorem fI_at1{l:List Int}{x:Int}:fI (l++ [x]) l.length=x:=by
 show(l++ [x]).getD l.length 0=x
 rw[List.getD_eq_getElem?_getD,List.getElem?_append_right (Nat.le_refl _)]
 simp
theorem nmOk_snoc{n:Nat}{l:List Int}{x:Nat}(h:nmOk n l=true)(hx:∀k,k<l.length→fI l k<x)(hn:x<n):nmOk n (l++ [(x:Int)])=true:=nmOk_iff.2 fun k hk=>by
 rw[List.length_append,List.length_singleton]at hk
 by_cases hkl:k<l.length
 ·obtain⟨h1,h2,h3⟩:=nmOk_iff.1 h k hkl
  rw[fI_ap1 hkl]
  refine⟨h1,h2,fun h0=> ?_⟩
  rw[fI_ap1 (by omega)]
  exact h3 h0
 ·obtain rfl:k=l.length:=by omega
  rw[fI_at1]
  refine⟨by omega,by omega,fun h0=> ?_⟩
  rw[fI_ap1 (by omega)]
  exact hx _ (by omega)
theorem comb_ok{n:Nat}:∀(r:Nat) (l:List Int) (x:Nat),nmOk n l=true→(∀k,k<l.length→fI l k<x)→∀s∈combG n r l x,nmOk n s=true
 | 0,l,x,h,_,s,hs=>by
   obtain rfl:s=l:=by simpa[combG]using hs
   exact h
 | r + 1,l,x,h,hx,s,hs=>by
   have key:∀m y,x≤y→(m=0∨y+m≤n)→∀s∈combX (combG n r) l m y,nmOk n s=true:=fun m=>by
    induction m with
    |zero=>intro y _ _ s h;cases h
    | succ m ih=>
      intro y hy hm s hs
      have hyn:y<n:=by omega
      rcases List.mem_append.1 hs with hs|hs
      ·refine comb_ok r _ _ (nmOk_snoc h (fun k hk=>by have:=hx k hk;omega) hyn) (fun k hk=> ?_) s hs
       rw[List.length_append,List.length_singleton]at hk
       by_cases hkl:k<l.length
       ·rw[fI_ap1 hkl];have:=hx k hkl;omega
       ·obtain rfl:k=l.length:=by omega
        rw[fI_at1];omega
      ·exact ih (y+1) (by omega) (by omega) s hs
   exact key (n-x) x (Nat.le_refl _) (by omega) s hs
theorem sets_ok{n K:Nat}{s:List Int}(h:s∈setsL n K):nmOk n s=true∧s.length=K:=
 ⟨comb_ok K [] 0 (nmOk_iff.2 fun k hk=>absurd hk (Nat.not_lt_zero _)) (fun k hk=>absurd hk (Nat.not_lt_zero _)) s h,by have:=comb_len K [] 0 s h;simpa using this⟩
theorem part_sub{p:Pb}{ns:List Int}(h:chkP p=0)(hn:nmOk p.C.length ns=true):partV p ns=(subP p ns,0):=by
 unfold partV
 rw[if_pos h,if_pos hn]
theorem sub_ok{p:Pb}(hp:p.ok){ns:List Int}(hn:ns.length≤1000000):(subP p ns).ok:=
 ⟨hp.rd,hp.lR,by show(List.map _ ns).length≤_;rw[List.length_map];exact hn,hp.lF,by show(List.map _ ns).length≤_;rw[List.length_map];exact hn,hp.lT,fun l hl=>by
   obtain⟨x,_,rfl⟩:=List.mem_map.1 hl
   rcases Nat.lt_or_ge x.toNat p.C.length with h|h
   ·exact hp.lc _ (getD_mem28 h)
   ·rw[List.getD_eq_getElem?_getD,List.getElem?_eq_none h];exact Nat.zero_le _⟩
def badP(p:Pb)(s:List Int):Bool:=decide (unsV (subP p s)=0)
def setsTo(n:Nat):Nat→List (List Int)
 |0=> []
 |k+1=>setsTo n k++setsL n k
def optV:Option (List Int)→List Int×Int
 |some s=>(s,0)
 |none=>([],61)
def leastV(p:Pb):List Int×Int:=
 if chkP p=0 then
  if 8<p.C.length then ([],2)else
  if unsV p=0 then optV ((setsTo p.C.length (p.C.length+1)).find? (badP p))else ([],unsV p)
 else ([],chkP p)
theorem first_or(bad:List Int→Bool):∀all:List (List Int),(∃i,i<all.length∧bad (all.getD i [])=true∧∀j,j<i→bad (all.getD j [])=false)∨∀j,j<all.length→bad (all.getD j [])=false
 | []=>.inr fun _ h=>absurd h (Nat.not_lt_zero _)
 | s ::l=>by
   cases h:bad s with
   |true=>exact .inl ⟨0,Nat.succ_pos _,h,fun _ h=>absurd h (Nat.not_lt_zero _)⟩
   | false=>
     rcases first_or bad l with ⟨i,h1,h2,h3⟩|h1
     ·exact .inl ⟨i+1,Nat.succ_lt_succ h1,h2,fun j hj=>by
       cases j with
       |zero=>exact h
       |succ j=>exact h3 j (by omega)⟩
     ·exact .inr fun j hj=>by
       cases j with
       |zero=>exact h
       |succ j=>exact h1 j (by simpa using hj)
theorem findS_hit{bad:List Int→Bool}:∀{all:List (List Int)} {i:Nat},i<all.length→bad (all.getD i [])=true→(∀j,j<i→bad (all.getD j [])=false)→all.find? bad=some (all.getD i [])
 | s::l,0,_,h,_=>by
   rw[List.find?_cons]
   show(match bad s with|true=>some s|false=>_)=_
   rw[show bad s=true from h];rfl
 | s::l,i+1,hi,h,hl=>by
   rw[List.find?_cons,show bad s=false from hl 0 (Nat.succ_pos _)]
   exact findS_hit (all:=l) (i:=i) (by simpa using hi) h fun j hj=>hl (j+1) (by omega)
theorem findS_no{bad:List Int→Bool}{all:List (List Int)}(h:∀j,j<all.length→bad (all.getD j [])=false):all.find? bad=none:=by
 rw[List.find?_eq_none]
 intro s hs
 obtain⟨j,hj,rfl⟩:=List.mem_iff_getElem.1 hs
 have:=h j hj
 rw[List.getD_eq_getElem?_getD,List.getElem?_eq_getElem hj]at this
 simpa using this
theorem to_le{n k m:Nat}(h:k≤m):∃r,setsTo n m=setsTo n k++r:=by
 induction m with
 |zero=>obtain rfl:k=0:=Nat.le_zero.1 h;exact⟨[],rfl⟩
 | succ m ih=>
   by_cases e:k=m+1
   ·subst e;exact⟨[],(List.append_nil _).symm⟩
   ·obtain⟨r,hr⟩:=ih (by omega)
    exact⟨r++setsL n m,by show setsTo n m++_=_;rw[hr,List.append_assoc]⟩
theorem to_hit{n k i:Nat}{bad:List Int→Bool}(hk:k≤n)(h0:(setsTo n k).find? bad=none)(hi:i<(setsL n k).length)(hb:bad ((setsL n k).getD i [])=true)(hl:∀j,j<i→bad ((setsL n k).getD j [])=false):(setsTo n (n+1)).find? bad=some ((setsL n k).getD i []):=by
 obtain⟨r,hr⟩:=to_le (n:=n) (show k+1≤n+1 by omega)
 rw[hr]
 show((setsTo n k++setsL n k)++r).find? bad=_
 rw[List.append_assoc,List.find?_append,h0,List.find?_append,findS_hit hi hb hl]
 rfl
theorem to_no{n k:Nat}{bad:List Int→Bool}(h0:(setsTo n k).find? bad=none)(h1:∀j,j<(setsL n k).length→bad ((setsL n k).getD j [])=false):(setsTo n (k+1)).find? bad=none:=by
 show(setsTo n k++setsL n k).find? bad=none
 rw[List.find?_append,h0]
 exact findS_no h1
abbrev plP(p:Pb):CV:=.pl 1 5 (lF (pbC p)) 0 0
set_option maxRecDepth 100000 in
theorem Least_A(p:Pb)(hp:p.ok):ACalls Try.prog 13 [.ag (pbC p)] (.tu [.c (lsI (leastV p).1),.c (iC (leastV p).2)]):=by
 have hC:=Check28_A p hp
 obtain⟨e,he⟩:∃e,chkP p=e:=⟨_,rfl⟩
 rw[he]at hC
 by_cases h0:e=0
 rotate_left
 ·rw [show leastV p=([],e) by rw[←he]at h0⊢;exact if_neg h0]
  refine acalls_at Try.func13 rfl rfl Try.ntmps13 rfl ?_
  repeat (first
   |refine vB [0,2,3] ?_
   | (refine rG 1 ?_
      refine vA ?_
      refine aH rfl rfl rfl rfl Try.func30 rfl (by kernel_rfl) (hC) ?_
      refine vA ?_
      refine aB ?_))
  refine⟨mkSt 48 [(2,.c (.pt 2 1 0 0)),(3,.c (.pt 3 1 0 0))] [(2,⟨false,1,1,23,lF [lsI ([])]⟩),(3,⟨false,1,1,36,lF [iC (e)]⟩)] [2,3],[(2,⟨false,1,1,23,lF [lsI ([])]⟩),(3,⟨false,1,1,36,lF [iC (e)]⟩)],Wk.mk [(2,some 2),(3,some 3)] rfl rfl rfl ?_ ?_,rfl,rfl,ARets.two (x:=.c _) (y:=.c _) (ARes.box1 tyOk rfl rfl rfl rfl rfl rfl) (ARes.box1 tyOk rfl rfl rfl rfl rfl rfl)⟩
  ·exact allT
  ·exact⟨HeapOk.box rfl rfl ⟨LeC.nils _ _,trivial⟩ rfl,HeapOk.box rfl rfl ⟨LeC.refl _ rfl,trivial⟩ rfl,trivial⟩
 subst h0
 by_cases h8:8<p.C.length
 ·rw [show leastV p=([],2) by unfold leastV;rw[if_pos he,if_pos h8]]
  have h8':(p.C.length:Int)>8:=by omega
  refine acalls_at Try.func13 rfl rfl Try.ntmps13 rfl ?_
  repeat (first
   |refine vB [0,2,4,5] ?_
   | (refine rG 1 ?_
      refine vA ?_
      refine aH rfl rfl rfl rfl Try.func30 rfl (by kernel_rfl) (hC) ?_
      refine vA ?_
      refine aB ?_))
  refine⟨mkSt 48 [(2,.c (.pt 2 1 0 0)),(3,.c (.pt 3 1 0 0))] [(2,⟨false,1,1,23,lF [lsI ([])]⟩),(3,⟨false,1,1,36,lF [iC (2)]⟩)] [2,3],[(2,⟨false,1,1,23,lF [lsI ([])]⟩),(3,⟨false,1,1,36,lF [iC (2)]⟩)],Wk.mk [(2,some 2),(3,some 3)] rfl rfl rfl ?_ ?_,rfl,rfl,ARets.two (x:=.c _) (y:=.c _) (ARes.box1 tyOk rfl rfl rfl rfl rfl rfl) (ARes.box1 tyOk rfl rfl rfl rfl rfl rfl)⟩
  ·exact allT
  ·exact⟨HeapOk.box rfl rfl ⟨LeC.nils _ _,trivial⟩ rfl,HeapOk.box rfl rfl ⟨LeC.refl _ rfl,trivial⟩ rfl,trivial⟩
 have hU:=uns_A p hp
 have h8':¬(p.C.length:Int)>8:=by omega
 have hpv:leastV p=if unsV p=0 then optV ((setsTo p.C.length (p.C.length+1)).find? (badP p))else ([],unsV p):=by unfold leastV;rw[if_pos he,if_neg h8]
 obtain⟨u,hu⟩:∃u,unsV p=u:=⟨_,rfl⟩
 rw[hu]at hpv hU
 by_cases hu0:u=0
 rotate_left
 ·rw [hpv,if_neg hu0]
  refine acalls_at Try.func13 rfl rfl Try.ntmps13 rfl ?_
  repeat (first
   |refine vB [0,2,4,7,8] ?_
   | (refine rG 1 ?_
      refine vA ?_
      refine aH rfl rfl rfl rfl Try.func30 rfl (by kernel_rfl) (hC) ?_
      refine vA ?_
      refine aB ?_)
   | (refine rG 6 ?_
      refine vA ?_
      refine aH rfl rfl rfl rfl Try.func37 rfl (by kernel_rfl) (hU) ?_
      refine vA ?_
      refine aB ?_))
  refine⟨mkSt 48 [(2,.c (.pt 2 1 0 0)),(3,.c (.pt 3 1 0 0))] [(2,⟨false,1,1,23,lF [lsI ([])]⟩),(3,⟨false,1,1,36,lF [iC (u)]⟩)] [2,3],[(2,⟨false,1,1,23,lF [lsI ([])]⟩),(3,⟨false,1,1,36,lF [iC (u)]⟩)],Wk.mk [(2,some 2),(3,some 3)] rfl rfl rfl ?_ ?_,rfl,rfl,ARets.two (x:=.c _) (y:=.c _) (ARes.box1 tyOk rfl rfl rfl rfl rfl rfl) (ARes.box1 tyOk rfl rfl rfl rfl rfl rfl)⟩
  ·exact allT
  ·exact⟨HeapOk.box rfl rfl ⟨LeC.nils _ _,trivial⟩ rfl,HeapOk.box rfl rfl ⟨LeC.refl _ rfl,trivial⟩ rfl,trivial⟩
 subst hu0
 rw[if_pos rfl]at hpv
 obtain⟨V,hV⟩:∃V,leastV p=V:=⟨_,rfl⟩
 rw[hV]
 rw[hV]at hpv
 have hn8:p.C.length≤8:=by omega
 refine acalls_at Try.func13 rfl rfl Try.ntmps13 rfl ?_
 repeat (first
  |refine vB [0,2,4,7,9] ?_
  | (refine rG 1 ?_
     refine vA ?_
     refine aH rfl rfl rfl rfl Try.func30 rfl (by kernel_rfl) (hC) ?_
     refine vA ?_
     refine aB ?_)
  | (refine rG 6 ?_
     refine vA ?_
     refine aH rfl rfl rfl rfl Try.func37 rfl (by kernel_rfl) (hU) ?_
     refine vA ?_
     refine aB ?_))
 refine AWp.round (fun k:Nat=>mkSt 48 [(1,.c (plP p)),(2,.c (.pt 2 1 0 0)),(3,.c (.pt 3 1 0 0)),(27,.c (iC ((p.C.length:Int)+1))),(28,.c (iC (k:Nat)))] [(2,bxI nilI),(3,bxE)] [2,3]) (fun k=>k≤p.C.length+1∧(setsTo p.C.length k).find? (badP p)=none) (fun k=>p.C.length+1-k) 0 ⟨Nat.zero_le _,rfl⟩ ?_ (fun k hk=> ?_)
 ·refine Wk.mk [(2,some 2),(3,some 3)] rfl rfl rfl ?_ ?_
  ·repeat (first|exact trivial|refine⟨⟨_,rfl,by first|exact LeA.c (LeC.fzP rfl rfl rfl rfl)|exact leT⟩,?_⟩)
  ·exact⟨hSm,hSm,trivial⟩
 obtain⟨hk,hfn⟩:=hk
 by_cases hkl:k<p.C.length+1
 rotate_left
 ·have hkl':¬(k:Int)<(p.C.length:Int)+1:=by omega
  obtain rfl:k=p.C.length+1:=by omega
  rw[hfn]at hpv
  subst hpv
  refine vB [10,18] ?_
  refine⟨mkSt 48 [(2,.c (.pt 2 1 0 0)),(3,.c (.pt 3 1 0 0))] [(2,⟨false,1,1,23,lF [lsI ([])]⟩),(3,⟨false,1,1,36,lF [iC (61)]⟩)] [2,3],[(2,⟨false,1,1,23,lF [lsI ([])]⟩),(3,⟨false,1,1,36,lF [iC (61)]⟩)],Wk.mk [(2,some 2),(3,some 3)] rfl rfl rfl ?_ ?_,rfl,rfl,ARets.two (x:=.c _) (y:=.c _) (ARes.box1 tyOk rfl rfl rfl rfl rfl rfl) (ARes.box1 tyOk rfl rfl rfl rfl rfl rfl)⟩
  ·exact allT
  ·exact⟨HeapOk.box rfl rfl ⟨LeC.nils _ _,trivial⟩ rfl,HeapOk.box rfl rfl ⟨LeC.refl _ rfl,trivial⟩ rfl,trivial⟩
 have hkl':(k:Int)<(p.C.length:Int)+1:=by omega
 have hS:=sets_A (p.C.length:Nat) (k:Nat)
 obtain⟨all,hal⟩:∃all,setsL p.C.length k=all:=⟨_,rfl⟩
 have hmem:∀i,i<all.length→nmOk p.C.length (all.getD i [])=true∧(all.getD i []).length=k:=fun i hi=>by
  rw[←hal]at hi⊢
  rw[List.getD_eq_getElem?_getD,List.getElem?_eq_getElem hi]
  exact sets_ok (List.getElem_mem hi)
 have hsl:∀i,i<all.length→ACalls Try.prog 10 [.ag (pbC p),.c (lsI (all.getD i []))] (.tu [.ag (pbC (subP p (all.getD i []))),.c (iC 0)])∧ACalls Try.prog 37 [.ag (pbC (subP p (all.getD i [])))] (.c (iC (unsV (subP p (all.getD i []))))):=fun i hi=>by
  obtain⟨h1,h2⟩:=hmem i hi
  have hP:=Part_A p hp (all.getD i []) (by omega)
  rw[part_sub he h1]at hP
  exact⟨hP,uns_A _ (sub_ok hp (by omega))⟩
 rcases first_or (badP p) all with ⟨i0,hi0,hb0,hl0⟩|hno
 ·have hb:∀i,i<i0+1→(true && Nat.beq (i+1) (i0+1))=badP p (all.getD i []):=fun i hi=>by
   by_cases e:i=i0
   ·subst e;rw[Nat.beq_refl,hb0];rfl
   ·rw[hl0 i (by omega),show Nat.beq (i+1) (i0+1)=false from Bool.eq_false_iff.2 fun h=>by have:=Nat.eq_of_beq_eq_true h;omega];rfl
  have hbl:∀i,badP p (all.getD i [])=true→i<i0+1→i=i0:=fun i hi hl=>Decidable.byContradiction fun hn=>by rw[hl0 i (by omega)]at hi;cases hi
  rw[←hal]at hi0 hb0 hl0
  have hf:=to_hit (n:=p.C.length) (by omega) hfn hi0 hb0 hl0
  rw[hal]at hi0 hf
  rw[hf]at hpv
  subst hpv
  repeat (first
   |refine vB [10,11] ?_
   | (refine rG 12 ?_
      (iterate 4 refine vA ?_)
      refine aH rfl rfl rfl rfl Try.func38 rfl (by kernel_rfl) (hS) ?_
      refine aB ?_))
  refine AWp.rangeM (N:=i0+1) (stop:=true) (eS:=.ret) (A:=setRM all (i0+1) true) (M:=all.length) (cs:= [.c (pl1 (iC (k:Nat))),.c (pl1 (iC (p.C.length:Nat)))]) (ts:= [(1,.c (plP p)),(2,.c (.pt 1000 1 0 0)),(3,.c (.pt 1001 1 0 0))]) [2,3] [] [] (setB all (i0+1) true) [] rfl (enters_of Try.func58 (by kernel_rfl) rfl) (fun i hi f k D e=>by
   obtain rfl|rfl:i=0∨i=1:=(by omega)
   all_goals cases e) (by exact⟨.c (.b (.imm _ rfl)),.c (.b (.imm _ rfl)),trivial⟩) (setsIt_M all p.C.length k (i0+1) true (by omega) (by omega) hal.symm (fun _=>Nat.succ_pos _) (fun h=>by cases h)) (fun _ h=>h) (fun _=>⟨Nat.succ_pos _,hi0⟩) (fun h=>by cases h) (bx2_lendM rfl rfl rfl trivial) trivial rfl (fun i _=>⟨rfl,rfl,by show 0≤100;omega⟩) rfl rfl ?_ rfl (fun _ _=>rfl) (.inl rfl) (fun i hi=> ?_) ?_ trivial ?_
  ·exact⟨⟨_,rfl,.c (.b (.imm _ rfl))⟩,⟨_,rfl,.c (.b (.pt 2 0 1 0 0 rfl))⟩,⟨_,rfl,.c (.b (.pt 3 1 1 0 0 rfl))⟩,trivial⟩
  ·obtain⟨hP,hU2⟩:=hsl i (by omega)
   have hbi:=hb i hi
   have g:goesB (i0+1) true i = !(badP p (all.getD i [])):=by unfold goesB;rw[hbi]
   have hE:(setRM all (i0+1) true).hE (i+1)=setB all (i0+1) (badP p (all.getD i [])):=by
    show setB all (i0+1) (true && Nat.beq (i+1) (i0+1))=_
    rw[hbi]
   rw[g,hE]
   refine AWp.weak (S':=mkG (fun _=>True) 0 false 48 2 [(1,.c (plP p)),(2,.c (.pt 1000 1 0 0)),(3,.c (.pt 1001 1 0 0)),(36,.c (lsI (all.getD i [])))] [(1000,bxI nilI),(1001,bxE)] []) (Wk.mkG [] rfl rfl rfl rfl rfl ?_ ?_ rfl rfl (fun _ _=>trivial)) ?_
   ·repeat (first|exact trivial|refine⟨⟨_,rfl,by first|exact LeA.c (LeC.ptB _ _ _ _ rfl)|exact leT⟩,?_⟩)
   ·exact bx2_heap rfl rfl rfl trivial
   cases hbv:badP p (all.getD i [])with
   | false=>
     have hu0:¬unsV (subP p (all.getD i []))=0:=of_decide_eq_false hbv
     generalize unsV (subP p (all.getD i []))=u at *
     refine vB [13] ?_
     refine⟨rfl,?_⟩
     repeat (first
      |refine vB [] ?_
      | (refine rG 14 ?_
         (iterate 2 refine vA ?_)
         refine aH rfl rfl rfl rfl Try.func10 rfl (by kernel_rfl) (hP) ?_
         (iterate 6 refine vA ?_)
         refine aB ?_)
      | (refine rG 15 ?_
         refine vA ?_
         refine aH rfl rfl rfl rfl Try.func37 rfl (by kernel_rfl) (hU2) ?_
         refine vA ?_
         refine aB ?_))
     refine⟨rfl,mkG (fun _=>True) 0 true 48 2 [] (endL [] (setB all (i0+1) false)) [],[],Wk.mkG [] rfl rfl rfl rfl rfl trivial ?_ rfl rfl (fun _ _=>trivial),rfl,rfl⟩
     exact bx2_heap setC_imm rfl rfl trivial
   | true=>
     rw[show unsV (subP p (all.getD i []))=0 from of_decide_eq_true hbv]at hU2
     have hlast:all.getD (i0+1-1) []=all.getD i []:=(by rw[hbl i hbv hi];rfl)
     refine vB [13] ?_
     refine⟨rfl,?_⟩
     repeat (first
      |refine vB [16] ?_
      | (refine rG 14 ?_
         (iterate 2 refine vA ?_)
         refine aH rfl rfl rfl rfl Try.func10 rfl (by kernel_rfl) (hP) ?_
         (iterate 6 refine vA ?_)
         refine aB ?_)
      | (refine rG 15 ?_
         refine vA ?_
         refine aH rfl rfl rfl rfl Try.func37 rfl (by kernel_rfl) (hU2) ?_
         refine vA ?_
         refine aB ?_))
     refine⟨rfl,mkG (fun _=>True) 0 true 48 2 [] (endL [] (setB all (i0+1) true)) [],[],Wk.mkG [] rfl rfl rfl rfl rfl trivial ?_ rfl rfl (fun _ _=>trivial),rfl,rfl⟩
     exact⟨HeapOk.lentC rfl rfl ⟨by rw[if_pos rfl,hlast];exact LeC.refl _ rfl,trivial⟩ rfl,HeapOk.lentC rfl rfl ⟨LeC.refl _ rfl,trivial⟩ rfl,trivial⟩
  ·show BackBM _ _ (setB all (i0+1) (true && Nat.beq (i0+1) (i0+1))) _
   rw[Nat.beq_refl,Bool.and_true]
   exact setB_back (l:= []) (m:= []) trivial
  refine vB [] ?_
  refine⟨mkSt 48 [(2,.c (.pt 2 1 0 0)),(3,.c (.pt 3 1 0 0))] [(2,⟨false,1,1,23,lF [lsI (all.getD i0 [])]⟩),(3,⟨false,1,1,36,lF [iC (0)]⟩)] [2,3],[(2,⟨false,1,1,23,lF [lsI (all.getD i0 [])]⟩),(3,⟨false,1,1,36,lF [iC (0)]⟩)],Wk.mk [(2,some 2),(3,some 3)] rfl rfl rfl ?_ ?_,rfl,rfl,ARets.two (x:=.c _) (y:=.c _) (ARes.box1 tyOk rfl rfl rfl rfl rfl rfl) (ARes.box1 tyOk rfl rfl rfl rfl rfl rfl)⟩
  ·exact allT
  ·exact⟨HeapOk.box rfl rfl ⟨LeC.refl _ rfl,trivial⟩ rfl,HeapOk.box rfl rfl ⟨LeC.refl _ rfl,trivial⟩ rfl,trivial⟩
 ·have hb:∀i,i<all.length→(false && Nat.beq (i+1) all.length)=badP p (all.getD i []):=fun i hi=>(hno i hi).symm
  have hbl:∀i,badP p (all.getD i [])=true→i<all.length→False:=fun i hi hl=>by rw[hno i hl]at hi;cases hi
  repeat (first
   |refine vB [10,11] ?_
   | (refine rG 12 ?_
      (iterate 4 refine vA ?_)
      refine aH rfl rfl rfl rfl Try.func38 rfl (by kernel_rfl) (hS) ?_
      refine aB ?_))
  refine AWp.rangeM (N:=all.length) (stop:=false) (eS:=.ret) (A:=setRM all (all.length) false) (M:=all.length) (cs:= [.c (pl1 (iC (k:Nat))),.c (pl1 (iC (p.C.length:Nat)))]) (ts:= [(1,.c (plP p)),(2,.c (.pt 1000 1 0 0)),(3,.c (.pt 1001 1 0 0))]) [2,3] [] [] (setB all (all.length) false) [] rfl (enters_of Try.func58 (by kernel_rfl) rfl) (fun i hi f k D e=>by
   obtain rfl|rfl:i=0∨i=1:=(by omega)
   all_goals cases e) (by exact⟨.c (.b (.imm _ rfl)),.c (.b (.imm _ rfl)),trivial⟩) (setsIt_M all p.C.length k (all.length) false (by omega) (by omega) hal.symm (fun h=>by cases h) (fun _=>rfl)) (fun _ h=>h) (fun h=>by cases h) (fun _=>rfl) (bx2_lendM rfl rfl rfl trivial) trivial rfl (fun i _=>⟨rfl,rfl,by show 0≤100;omega⟩) rfl rfl ?_ rfl (fun _ _=>rfl) (.inl rfl) (fun i hi=> ?_) ?_ trivial ?_
  ·exact⟨⟨_,rfl,.c (.b (.imm _ rfl))⟩,⟨_,rfl,.c (.b (.pt 2 0 1 0 0 rfl))⟩,⟨_,rfl,.c (.b (.pt 3 1 1 0 0 rfl))⟩,trivial⟩
  ·obtain⟨hP,hU2⟩:=hsl i (by omega)
   have hbi:=hb i hi
   have g:goesB (all.length) false i = !(badP p (all.getD i [])):=by unfold goesB;rw[hbi]
   have hE:(setRM all (all.length) false).hE (i+1)=setB all (all.length) (badP p (all.getD i [])):=by
    show setB all (all.length) (false && Nat.beq (i+1) (all.length))=_
    rw[hbi]
   rw[g,hE]
   refine AWp.weak (S':=mkG (fun _=>True) 0 false 48 2 [(1,.c (plP p)),(2,.c (.pt 1000 1 0 0)),(3,.c (.pt 1001 1 0 0)),(36,.c (lsI (all.getD i [])))] [(1000,bxI nilI),(1001,bxE)] []) (Wk.mkG [] rfl rfl rfl rfl rfl ?_ ?_ rfl rfl (fun _ _=>trivial)) ?_
   ·repeat (first|exact trivial|refine⟨⟨_,rfl,by first|exact LeA.c (LeC.ptB _ _ _ _ rfl)|exact leT⟩,?_⟩)
   ·exact bx2_heap rfl rfl rfl trivial
   cases hbv:badP p (all.getD i [])with
   | false=>
     have hu0:¬unsV (subP p (all.getD i []))=0:=of_decide_eq_false hbv
     generalize unsV (subP p (all.getD i []))=u at *
     refine vB [13] ?_
     refine⟨rfl,?_⟩
     repeat (first
      |refine vB [] ?_
      | (refine rG 14 ?_
         (iterate 2 refine vA ?_)
         refine aH rfl rfl rfl rfl Try.func10 rfl (by kernel_rfl) (hP) ?_
         (iterate 6 refine vA ?_)
         refine aB ?_)
      | (refine rG 15 ?_
         refine vA ?_
         refine aH rfl rfl rfl rfl Try.func37 rfl (by kernel_rfl) (hU2) ?_
         refine vA ?_
         refine aB ?_))
     refine⟨rfl,mkG (fun _=>True) 0 true 48 2 [] (endL [] (setB all (all.length) false)) [],[],Wk.mkG [] rfl rfl rfl rfl rfl trivial ?_ rfl rfl (fun _ _=>trivial),rfl,rfl⟩
     exact bx2_heap setC_imm rfl rfl trivial
   | true=>
     rw[show unsV (subP p (all.getD i []))=0 from of_decide_eq_true hbv]at hU2
     have hlast:all.getD (all.length-1) []=all.getD i []:=(hbl i hbv hi).elim
     refine vB [13] ?_
     refine⟨rfl,?_⟩
     repeat (first
      |refine vB [16] ?_
      | (refine rG 14 ?_
         (iterate 2 refine vA ?_)
         refine aH rfl rfl rfl rfl Try.func10 rfl (by kernel_rfl) (hP) ?_
         (iterate 6 refine vA ?_)
         refine aB ?_)
      | (refine rG 15 ?_
         refine vA ?_
         refine aH rfl rfl rfl rfl Try.func37 rfl (by kernel_rfl) (hU2) ?_
         refine vA ?_
         refine aB ?_))
     refine⟨rfl,mkG (fun _=>True) 0 true 48 2 [] (endL [] (setB all (all.length) true)) [],[],Wk.mkG [] rfl rfl rfl rfl rfl trivial ?_ rfl rfl (fun _ _=>trivial),rfl,rfl⟩
     exact⟨HeapOk.lentC rfl rfl ⟨by rw[if_pos rfl,hlast];exact LeC.refl _ rfl,trivial⟩ rfl,HeapOk.lentC rfl rfl ⟨LeC.refl _ rfl,trivial⟩ rfl,trivial⟩
  ·show BackBM _ _ (setB all (all.length) (false && Nat.beq (all.length) (all.length))) _
   rw[Nat.beq_refl,Bool.and_true]
   exact setB_back (l:= []) (m:= []) trivial
  refine vB [17] ?_
  rw[←hal]at hno
  refine⟨k+1,⟨hkl,to_no hfn hno⟩,Wk.mk [(2,some 2),(3,some 3)] rfl rfl rfl ?_ ?_,by omega⟩
  ·exact allT
  ·exact⟨hSm,hSm,trivial⟩
abbrev tbB(p:Pb)(q:Nat):AB:=⟨false,1,6,96,lF (pbC p++ [.ow q])⟩
abbrev chI(ch:List Int):AB:=rowI ch.length (fI ch)
def obB(p:Pb)(ch:List Int)(n:Int):Bp:=if n<0 then p.F.getD (-1-n).toNat bpZ else (p.C.getD n.toNat []).getD (fI ch n.toNat).toNat bpZ
def obG(p:Pb)(n:Int):Bg:=if n<0 then p.T.getD (-1-n).toNat bgZ else p.O.getD n.toNat bgZ
theorem obB_f{p:Pb}{ch:List Int}{k:Nat}:obB p ch (-1-(k:Int))=p.F.getD k bpZ∧obG p (-1-(k:Int))=p.T.getD k bgZ:=by
 unfold obB obG
 rw[if_pos (by omega),if_pos (by omega),show(-1-(-1-(k:Int))).toNat=k by omega]
 exact⟨rfl,rfl⟩
theorem obB_c{p:Pb}{ch:List Int}{k c:Nat}(h:fI ch k=(c:Int)):obB p ch (k:Int)=(p.C.getD k []).getD c bpZ∧obG p (k:Int)=p.O.getD k bgZ:=by
 unfold obB obG
 rw[if_neg (by omega),if_neg (by omega)]
 show(p.C.getD k []).getD (fI ch k).toNat bpZ=_∧_
 rw[h]
 exact⟨rfl,rfl⟩
theorem ChOk.at{p:Pb}{ch:List Int}(h:ChOk p ch){k:Nat}(hk:k<ch.length):∃c:Nat,fI ch k=(c:Int)∧k<p.C.length∧k<p.O.length∧c<(p.C.getD k []).length:=by
 rcases h k hk with ⟨h1,_⟩|⟨i,c,h1,h2,h3,h4,h5⟩
 ·omega
 ·obtain rfl:k=i:=by omega
  exact⟨c,h2,h3,h4,h5⟩
set_option maxRecDepth 100000 in
theorem obst_M(p:Pb)(hp:p.fit)(ch:List Int)(n:Int)(h:(∃k:Nat,n = -1-(k:Int)∧k<p.F.length∧k<p.T.length)∨(∃k:Nat,n=k∧k<ch.length))(hc:ChOk p ch):
 GMCalls Try.prog 61 [.c (.pt 1000 6 0 0),.c (iC n)] [tbB p 800] [chI ch] (.tu [.ag (bpC (obB p ch n)),.ag (bgC (obG p n))]) [tbB p 900] [chI ch]:=by
 have lF0:=hp.f
 have lC:=hp.c
 have lO:=hp.o
 rcases h with ⟨k,rfl,h1,h2⟩|⟨k,rfl,h1⟩
 ·rw[obB_f.1,(obB_f (p:=p) (ch:=ch)).2]
  have hn:-1-(k:Int)<0:=by omega
  have he:-1-(-1-(k:Int))=k:=by omega
  refine gm_at Try.func61 rfl rfl Try.ntmps61 rfl ?_
  repeat (first
   |refine vB [0,1] ?_
   |(refine AWp.draw (id:=2) mixed ?_;(iterate 7 refine vA ?_);refine qr8eo2 (aP (k:=k) tyOk) ?_;(iterate 8 refine vA ?_);refine qr8eo2 (aP (k:=k) tyOk) ?_;(iterate 3 refine vA ?_);refine aB ⟨by kernel_rfl,?_⟩))
  refine⟨mkG (fun _=>True) 0 false 51 1 [(4,.c (.pt 4 3 0 0)),(5,.c (.pt 5 4 0 0))] [(4,⟨false,1,3,47,lF (bpC (p.F.getD k bpZ))⟩),(5,⟨false,1,4,34,lF (bgC (p.T.getD k bgZ))⟩),(900,chI ch),(1000,tbB p 900)] [4,5,900],[(4,⟨false,1,3,47,lF (bpC (p.F.getD k bpZ))⟩),(5,⟨false,1,4,34,lF (bgC (p.T.getD k bgZ))⟩)],_,[tbB p 900],[chI ch],⟨rfl,rfl,rfl⟩,rfl,Wk.mkG [(4,some 4),(5,some 5),(900,some 800)] rfl rfl rfl rfl rfl ?_ ?_ rfl rfl (fun _ _=>trivial),rfl,rfl,GRets.two (x:=.ag _) (y:=.ag _) (GRes.box tyOk rfl rfl rfl rfl rfl rfl) (GRes.box tyOk rfl rfl rfl rfl rfl rfl)⟩
  ·exact allT
  ·exact⟨hSm,hSm,HeapOk.row rfl rfl rfl (fun _ _=>cell1 ⟨rfl,rfl⟩),HeapOk.lentC rfl rfl ⟨LeC.refl _ rfl,LeC.refl _ rfl,LeC.refl _ rfl,LeC.refl _ rfl,LeC.refl _ rfl,LeC.ow _ _ rfl,trivial⟩ rfl,trivial⟩
 ·obtain⟨c,h2,h3,h4,h5⟩:=hc.at h1
  rw[(obB_c h2).1,(obB_c (p:=p) (ch:=ch) h2).2]
  have hL32:=hp.l _ (getD_mem28 (L:=p.C) (k:=k) (z:= []) h3)
  have hn:¬(k:Int)<0:=by omega
  have hcF:chF p.C k 0=lsB (p.C.getD k []):=rfl
  have hcc:iF (fI ch) k 0=iC (c:Nat):=congrArg iC h2
  refine gm_at Try.func61 rfl rfl Try.ntmps61 rfl ?_
  repeat (first
   |refine vB [0,1] ?_
   |(refine AWp.draw (id:=3) mixed ?_;(iterate 6 refine vA ?_);refine qr8eo2 (aP (k:=k) tyOk) ?_;refine AList.load1lE tyOk (hcF) rfl rfl rfl rfl rfl oM ?_;(iterate 5 refine vA ?_);refine qr10eo (AList.idxOw (k:=k) tyOk) ?_;refine AList.load1F tyOk rfl rfl rfl rfl rfl rfl rfl oM oM (hcc) ?_;refine qr8eo2 (aP (k:=c) tyOk) ?_;(iterate 7 refine vA ?_);refine qr8eo2 (aP (k:=k) tyOk) ?_;(iterate 3 refine vA ?_);refine aB ⟨by kernel_rfl,?_⟩))
  refine⟨mkG (fun _=>True) 0 false 51 1 [(4,.c (.pt 4 3 0 0)),(5,.c (.pt 5 4 0 0))] [(4,⟨false,1,3,47,lF (bpC ((p.C.getD k []).getD c bpZ))⟩),(5,⟨false,1,4,34,lF (bgC (p.O.getD k bgZ))⟩),(900,chI ch),(1000,tbB p 900)] [4,5,900],[(4,⟨false,1,3,47,lF (bpC ((p.C.getD k []).getD c bpZ))⟩),(5,⟨false,1,4,34,lF (bgC (p.O.getD k bgZ))⟩)],_,[tbB p 900],[chI ch],⟨rfl,rfl,rfl⟩,rfl,Wk.mkG [(4,some 4),(5,some 5),(900,some 800)] rfl rfl rfl rfl rfl ?_ ?_ rfl rfl (fun _ _=>trivial),rfl,rfl,GRets.two (x:=.ag _) (y:=.ag _) (GRes.box tyOk rfl rfl rfl rfl rfl rfl) (GRes.box tyOk rfl rfl rfl rfl rfl rfl)⟩
  ·exact allT
  ·exact⟨hSm,hSm,HeapOk.row rfl rfl rfl (fun _ _=>cell1 ⟨rfl,rfl⟩),HeapOk.lentC rfl rfl ⟨LeC.refl _ rfl,LeC.refl _ rfl,LeC.refl _ rfl,LeC.refl _ rfl,LeC.refl _ rfl,LeC.ow _ _ rfl,trivial⟩ rfl,trivial⟩
structure Stp where
 nm:Int
 ch:Int
 wi:Int
 rd:Int
 dp:Bool
 cl:Cl
 deriving DecidableEq
abbrev stC(s:Stp):List CV:= [iC s.nm,iC s.ch,iC s.wi,iC s.rd,bC s.dp]++clC s.cl
abbrev stZ:Stp:=⟨0,0,0,0,false,clZ⟩
abbrev deepS(i c:Int):Stp:=⟨i,c,0,0,true,clZ⟩
set_option maxRecDepth 100000 in
theorem deeper_A(i c:Int):ACalls Try.prog 63 [.c (iC i),.c (iC c)] (.ag (stC (deepS i c))):=by
 refine acalls_at Try.func63 rfl rfl Try.ntmps63 rfl ?_
 refine vB [0,1] ?_
 refine⟨mkSt 8 [(4,.c (.pt 4 8 0 0))] [(4,⟨false,1,8,66,lF (stC (deepS i c))⟩)] [4],[(4,⟨false,1,8,66,lF (stC (deepS i c))⟩)],Wk.mk [(4,some 4)] rfl rfl rfl ?_ ?_,rfl,rfl,ARets.one (x:=.ag _) (ARes.box tyOk rfl rfl rfl rfl rfl rfl rfl)⟩
 ·exact allT
 ·exact⟨hSm,trivial⟩
def obN(p:Pb)(k:Nat):Int:=if k<p.F.length then -1-(k:Int)else (k:Int)-p.F.length
def stepK(p:Pb)(ch:List Int)(c:Nat)(k:Nat):Nat×Cl×Bool:=clashV p.R ((p.C.getD ch.length []).getD c bpZ) (obB p ch (obN p k)) (p.O.getD ch.length bgZ) (obG p (obN p k))
def optK(p:Pb)(ch:List Int)(c:Nat):Option Nat→Stp
 |some k=>⟨ch.length,c,obN p k,(stepK p ch c k).1,false,(stepK p ch c k).2.1⟩
 |none=>deepS ch.length c
def stepV(p:Pb)(ch:List Int)(c:Nat):Stp:=optK p ch c ((List.range (p.F.length+ch.length)).find? fun k=>(stepK p ch c k).2.2)
theorem range_hit{f:Nat→Bool}:∀{n k:Nat},k<n→f k=true→(∀j,j<k→f j=false)→(List.range n).find? f=some k
 |0,k,h,_,_=>absurd h (Nat.not_lt_zero _)
 | n+1,k,h,hf,hl=>by
   rw[List.range_succ,List.find?_append]
   by_cases e:k<n
   ·rw[range_hit e hf hl];rfl
   ·obtain rfl:k=n:=by omega
    rw[show(List.range k).find? f=none by rw[List.find?_eq_none];intro x hx;rw[hl x (List.mem_range.1 hx)];decide]
    show(List.find? f [k])=_
    rw[List.find?_cons,hf]
theorem range_no{f:Nat→Bool}{n:Nat}(hl:∀j,j<n→f j=false):(List.range n).find? f=none:=by
 rw[List.find?_eq_none];intro x hx;rw[hl x (List.mem_range.1 hx)];decide
theorem tb_lend{S:St}{ids mids l:List Nat}{p:Pb}{o q:Nat}{bs:List AB}(i:Nat)(hp:S.h o=some (tbB p q))(hq:posOf mids q=some i)(h:LendOkM S ids mids l bs):LendOkM S ids mids (o::l) (tbB p (800+i)::bs):=
 ⟨⟨_,hp,(fun h=>by cases h),fun k hk j hj=>by
   obtain rfl:k=0:=Nat.lt_one_iff.mp hk
   match j,hj with
   |0,_|1,_|2,_|3,_|4,_=>exact .b (.imm _ rfl)
   |5,_=>exact .b (.mv _ _ hq)⟩,h⟩
theorem tb_back{ids ni:List Nat}{p:Pb}{q:Nat}{l m:List AB}(i:Nat)(hq:posOf ni q=some i)(h:BackBM ids ni l m):BackBM ids ni (tbB p (900+i)::l) (tbB p q::m):=
 ⟨⟨_,rfl,fun k hk j hj=>by
   obtain rfl:k=0:=Nat.lt_one_iff.mp hk
   match j,hj with
   |0,_|1,_|2,_|3,_|4,_=>exact .b (.imm _ rfl)
   |5,_=>exact .b (.owN _ _ hq)⟩,h⟩
theorem obN_ok{p:Pb}(hp:p.fit){ch:List Int}(hc:ChOk p ch){k:Nat}(hk:k<p.F.length+ch.length):(∃j:Nat,obN p k = -1-(j:Int)∧j<p.F.length∧j<p.T.length)∨(∃j:Nat,obN p k=j∧j<ch.length):=by
 unfold obN
 have:=hp.t
 by_cases h:k<p.F.length
 ·rw[if_pos h];exact .inl ⟨k,rfl,h,by omega⟩
 ·rw[if_neg h];exact .inr ⟨k-p.F.length,by omega,by omega⟩
set_option maxRecDepth 100000 in
theorem step_M(p:Pb)(hp:p.fit)(ch:List Int)(hc:ChOk p ch)(c:Nat)(hi:ch.length<p.C.length)(hcl:c<(p.C.getD ch.length []).length):
 GMCalls Try.prog 41 [.c (.pt 1000 6 0 0),.c (iC (c:Nat))] [tbB p 800] [chI ch] (.ag (stC (stepV p ch c))) [tbB p 900] [chI ch]:=by
 have lF0:=hp.f
 have lC:=hp.c
 have lO:=hp.o
 have hL32:=hp.l _ (getD_mem28 (L:=p.C) (k:=ch.length) (z:= []) hi)
 have hcF:chF p.C ch.length 0=lsB (p.C.getD ch.length []):=rfl
 obtain⟨V,hV⟩:∃V,stepV p ch c=V:=⟨_,rfl⟩
 rw[hV]
 unfold stepV at hV
 have h80:((800+0,chI ch):Nat×AB).snd.n=ch.length:=rfl
 refine gm_at Try.func41 rfl rfl Try.ntmps41 rfl ?_
 refine vB [0,1,2] ?_
 refine AWp.round (fun k:Nat=>mkG (fun _=>True) 0 false 94 1 [(0,.c (.pt 1000 6 0 0)),(1,.c (iC (c:Nat))),(4,.c (.pt 4 8 0 0)),(5,.c (iC (ch.length:Nat))),(25,.c (iC ((p.F.length:Int)+ch.length))),(26,.c (iC (k:Nat)))] [(4,⟨false,1,8,66,lF (stC stZ)⟩),(30,chI ch),(1000,tbB p 30)] [4,30]) (fun k=>k≤p.F.length+ch.length∧∀j,j<k→(stepK p ch c j).2.2=false) (fun k=>p.F.length+ch.length-k) 0 ⟨Nat.zero_le _,fun _ h=>absurd h (Nat.not_lt_zero _)⟩ ?_ (fun k hk=> ?_)
 ·refine Wk.mkG [(4,some 4),(30,some 800)] rfl rfl rfl rfl rfl ?_ ?_ rfl rfl (fun _ _=>trivial)
  ·repeat (first|exact trivial|refine⟨⟨_,rfl,by first|exact LeA.c (LeC.ptB _ _ _ _ rfl)|exact leT⟩,?_⟩)
  ·exact⟨hSm,HeapOk.row rfl rfl rfl (fun _ _=>cell1 ⟨rfl,rfl⟩),HeapOk.lentC rfl rfl ⟨LeC.refl _ rfl,LeC.refl _ rfl,LeC.refl _ rfl,LeC.refl _ rfl,LeC.refl _ rfl,LeC.ow _ _ rfl,trivial⟩ rfl,trivial⟩
 obtain⟨hk,hno⟩:=hk
 by_cases hkl:k<p.F.length+ch.length
 rotate_left
 ·have hkl':¬(k:Int)<(p.F.length:Int)+ch.length:=by omega
  obtain rfl:k=p.F.length+ch.length:=by omega
  rw[range_no hno]at hV
  subst hV
  have hD:=deeper_A (ch.length:Nat) (c:Nat)
  repeat (first
   |refine vB [3] ?_
   | (refine rG 13 ?_
      (iterate 2 refine vA ?_)
      refine aH rfl rfl rfl rfl Try.func63 rfl (by kernel_rfl) (hD) ?_
      refine vA ?_
      refine aB ?_))
  refine⟨mkG (fun _=>True) 0 false 94 1 [(4,.c (.pt 4 8 0 0))] [(4,⟨false,1,8,66,lF (stC (deepS (ch.length:Nat) (c:Nat)))⟩),(900,chI ch),(1000,tbB p 900)] [4,900],[(4,⟨false,1,8,66,lF (stC (deepS (ch.length:Nat) (c:Nat)))⟩)],_,[tbB p 900],[chI ch],⟨rfl,rfl,rfl⟩,rfl,Wk.mkG [(4,some 4),(900,some 30)] rfl rfl rfl rfl rfl ?_ ?_ rfl rfl (fun _ _=>trivial),rfl,rfl,GRets.one (x:=.ag _) (GRes.box tyOk rfl rfl rfl rfl rfl rfl)⟩
  ·exact allT
  ·exact⟨hSm,HeapOk.row rfl rfl rfl (fun _ _=>cell1 ⟨rfl,rfl⟩),HeapOk.lentC rfl rfl ⟨LeC.refl _ rfl,LeC.refl _ rfl,LeC.refl _ rfl,LeC.refl _ rfl,LeC.refl _ rfl,LeC.ow _ _ rfl,trivial⟩ rfl,trivial⟩
 have hkl':(k:Int)<(p.F.length:Int)+ch.length:=by omega
 have hO:=obst_M p hp ch (obN p k) (obN_ok hp hc hkl) hc
 have hCl:=Clash_A p ((p.C.getD ch.length []).getD c bpZ) (obB p ch (obN p k)) (p.O.getD ch.length bgZ) (obG p (obN p k)) hp.ok.lR hp.ok.rd
 have hkv:stepK p ch c k=clashV p.R ((p.C.getD ch.length []).getD c bpZ) (obB p ch (obN p k)) (p.O.getD ch.length bgZ) (obG p (obN p k)):=rfl
 rw[←hkv]at hCl
 clear hkv
 obtain⟨v,hv⟩:∃v,stepK p ch c k=v:=⟨_,rfl⟩
 rw[hv]at hCl
 have hhit:v.2.2=true→V=⟨ch.length,c,obN p k,v.1,false,v.2.1⟩:=fun h=>by
  rw[←hV,range_hit (f:=fun k=>(stepK p ch c k).2.2) hkl (by rw[hv];exact h) hno]
  show(⟨ch.length,c,obN p k,(stepK p ch c k).1,false,(stepK p ch c k).2.1⟩:Stp)=_
  rw[hv]
 have hnext:v.2.2=false→k+1≤p.F.length+ch.length∧∀j,j<k+1→(stepK p ch c j).2.2=false:=fun h=>⟨hkl,fun j hj=>by
  by_cases e:j=k
  ·rw[e,hv];exact h
  ·exact hno j (by omega)⟩
 clear hv hV
 obtain⟨r,s,o⟩:=v
 dsimp only at hCl hhit hnext
 obtain⟨n,hn⟩:∃n,obN p k=n:=⟨_,rfl⟩
 rw[hn]at hO hCl hhit
 generalize obB p ch n=B at *
 generalize obG p n=G at *
 by_cases hkF:k<p.F.length
 ·obtain rfl:-1-(k:Int)=n:=by rw[←hn];exact(if_pos hkF).symm
  have hkF':¬(k:Int)≥p.F.length:=by omega
  cases o with
  | true=>
    rw[hhit rfl]
    repeat (first
     |refine vB [3,4,5,6,10,11] ?_
     | (refine rG 8 ?_
        (iterate 2 refine vA ?_)
        refine AList.callM [1000] [30] [31] [tbB p 800] [chI ch] [tbB p 900] [chI ch] [tbB p 31] [chI ch] rfl rfl FnV.func rfl Try.func61 rfl (by kernel_rfl) (tb_lend 0 rfl rfl trivial) (⟨⟨_,rfl,rfl,fun _ _ _ _=>⟨rfl,rfl⟩⟩,trivial⟩) rfl (by exact⟨.c (.b (.pt 1000 0 6 0 0 rfl)),.c (.b (.imm _ rfl)),trivial⟩) (backTu2 (bpC B) (bgC G) rfl rfl) (tb_back 0 rfl trivial) (⟨⟨_,rfl,fun _ _ _ _=>.imm _ rfl⟩,trivial⟩) (hO) ?_
        (iterate 7 refine vA ?_)
        refine aB ?_)
     |(refine AWp.draw (id:=9) mixed ?_;(iterate 10 refine vA ?_);refine qr8eo2 (aP (k:=ch.length) tyOk) ?_;refine AList.load1lE tyOk (hcF) rfl rfl rfl rfl rfl oM ?_;refine vA ?_;refine qr8eo2 (aP (k:=c) tyOk) ?_;(iterate 8 refine vA ?_);refine qr8eo2 (aP (k:=ch.length) tyOk) ?_;(iterate 2 refine vA ?_);refine aH rfl rfl rfl rfl Try.func62 rfl (by kernel_rfl) (hCl) ?_;(iterate 8 refine vA ?_);refine aB ⟨by kernel_rfl,?_⟩))
    refine⟨mkG (fun _=>True) 0 false 94 1 [(4,.c (.pt 4 8 0 0))] [(4,⟨false,1,8,66,lF (stC (⟨ch.length,c,_,r,false,s⟩))⟩),(900,chI ch),(1000,tbB p 900)] [4,900],[(4,⟨false,1,8,66,lF (stC (⟨ch.length,c,_,r,false,s⟩))⟩)],_,[tbB p 900],[chI ch],⟨rfl,rfl,rfl⟩,rfl,Wk.mkG [(4,some 4),(900,some 31)] rfl rfl rfl rfl rfl ?_ ?_ rfl rfl (fun _ _=>trivial),rfl,rfl,GRets.one (x:=.ag _) (GRes.box tyOk rfl rfl rfl rfl rfl rfl)⟩
    ·exact allT
    ·exact⟨hSm,HeapOk.row rfl rfl rfl (fun _ _=>cell1 ⟨rfl,rfl⟩),HeapOk.lentC rfl rfl ⟨LeC.refl _ rfl,LeC.refl _ rfl,LeC.refl _ rfl,LeC.refl _ rfl,LeC.refl _ rfl,LeC.ow _ _ rfl,trivial⟩ rfl,trivial⟩
  | false=>
    repeat (first
     |refine vB [3,4,5,6,10,12] ?_
     | (refine rG 8 ?_
        (iterate 2 refine vA ?_)
        refine AList.callM [1000] [30] [31] [tbB p 800] [chI ch] [tbB p 900] [chI ch] [tbB p 31] [chI ch] rfl rfl FnV.func rfl Try.func61 rfl (by kernel_rfl) (tb_lend 0 rfl rfl trivial) (⟨⟨_,rfl,rfl,fun _ _ _ _=>⟨rfl,rfl⟩⟩,trivial⟩) rfl (by exact⟨.c (.b (.pt 1000 0 6 0 0 rfl)),.c (.b (.imm _ rfl)),trivial⟩) (backTu2 (bpC B) (bgC G) rfl rfl) (tb_back 0 rfl trivial) (⟨⟨_,rfl,fun _ _ _ _=>.imm _ rfl⟩,trivial⟩) (hO) ?_
        (iterate 7 refine vA ?_)
        refine aB ?_)
     |(refine AWp.draw (id:=9) mixed ?_;(iterate 10 refine vA ?_);refine qr8eo2 (aP (k:=ch.length) tyOk) ?_;refine AList.load1lE tyOk (hcF) rfl rfl rfl rfl rfl oM ?_;refine vA ?_;refine qr8eo2 (aP (k:=c) tyOk) ?_;(iterate 8 refine vA ?_);refine qr8eo2 (aP (k:=ch.length) tyOk) ?_;(iterate 2 refine vA ?_);refine aH rfl rfl rfl rfl Try.func62 rfl (by kernel_rfl) (hCl) ?_;(iterate 8 refine vA ?_);refine aB ⟨by kernel_rfl,?_⟩))
    refine⟨k+1,hnext rfl,Wk.mkG [(4,some 4),(30,some 31)] rfl rfl rfl rfl rfl ?_ ?_ rfl rfl (fun _ _=>trivial),by omega⟩
    ·repeat (first|exact trivial|refine⟨⟨_,rfl,by first|exact LeA.c (LeC.ptB _ _ _ _ rfl)|exact leT⟩,?_⟩)
    ·exact⟨hSm,HeapOk.row rfl rfl rfl (fun _ _=>cell1 ⟨rfl,rfl⟩),HeapOk.lentC rfl rfl ⟨LeC.refl _ rfl,LeC.refl _ rfl,LeC.refl _ rfl,LeC.refl _ rfl,LeC.refl _ rfl,LeC.ow _ _ rfl,trivial⟩ rfl,trivial⟩
 ·obtain rfl:(k:Int)-p.F.length=n:=by rw[←hn];exact(if_neg hkF).symm
  have hkF':(k:Int)≥p.F.length:=by omega
  cases o with
  | true=>
    rw[hhit rfl]
    repeat (first
     |refine vB [3,4,5,6,7,10,11] ?_
     | (refine rG 8 ?_
        (iterate 2 refine vA ?_)
        refine AList.callM [1000] [30] [31] [tbB p 800] [chI ch] [tbB p 900] [chI ch] [tbB p 31] [chI ch] rfl rfl FnV.func rfl Try.func61 rfl (by kernel_rfl) (tb_lend 0 rfl rfl trivial) (⟨⟨_,rfl,rfl,fun _ _ _ _=>⟨rfl,rfl⟩⟩,trivial⟩) rfl (by exact⟨.c (.b (.pt 1000 0 6 0 0 rfl)),.c (.b (.imm _ rfl)),trivial⟩) (backTu2 (bpC B) (bgC G) rfl rfl) (tb_back 0 rfl trivial) (⟨⟨_,rfl,fun _ _ _ _=>.imm _ rfl⟩,trivial⟩) (hO) ?_
        (iterate 7 refine vA ?_)
        refine aB ?_)
     |(refine AWp.draw (id:=9) mixed ?_;(iterate 10 refine vA ?_);refine qr8eo2 (aP (k:=ch.length) tyOk) ?_;refine AList.load1lE tyOk (hcF) rfl rfl rfl rfl rfl oM ?_;refine vA ?_;refine qr8eo2 (aP (k:=c) tyOk) ?_;(iterate 8 refine vA ?_);refine qr8eo2 (aP (k:=ch.length) tyOk) ?_;(iterate 2 refine vA ?_);refine aH rfl rfl rfl rfl Try.func62 rfl (by kernel_rfl) (hCl) ?_;(iterate 8 refine vA ?_);refine aB ⟨by kernel_rfl,?_⟩))
    refine⟨mkG (fun _=>True) 0 false 94 1 [(4,.c (.pt 4 8 0 0))] [(4,⟨false,1,8,66,lF (stC (⟨ch.length,c,_,r,false,s⟩))⟩),(900,chI ch),(1000,tbB p 900)] [4,900],[(4,⟨false,1,8,66,lF (stC (⟨ch.length,c,_,r,false,s⟩))⟩)],_,[tbB p 900],[chI ch],⟨rfl,rfl,rfl⟩,rfl,Wk.mkG [(4,some 4),(900,some 31)] rfl rfl rfl rfl rfl ?_ ?_ rfl rfl (fun _ _=>trivial),rfl,rfl,GRets.one (x:=.ag _) (GRes.box tyOk rfl rfl rfl rfl rfl rfl)⟩
    ·exact allT
    ·exact⟨hSm,HeapOk.row rfl rfl rfl (fun _ _=>cell1 ⟨rfl,rfl⟩),HeapOk.lentC rfl rfl ⟨LeC.refl _ rfl,LeC.refl _ rfl,LeC.refl _ rfl,LeC.refl _ rfl,LeC.refl _ rfl,LeC.ow _ _ rfl,trivial⟩ rfl,trivial⟩
  | false=>
    repeat (first
     |refine vB [3,4,5,6,7,10,12] ?_
     | (refine rG 8 ?_
        (iterate 2 refine vA ?_)
        refine AList.callM [1000] [30] [31] [tbB p 800] [chI ch] [tbB p 900] [chI ch] [tbB p 31] [chI ch] rfl rfl FnV.func rfl Try.func61 rfl (by kernel_rfl) (tb_lend 0 rfl rfl trivial) (⟨⟨_,rfl,rfl,fun _ _ _ _=>⟨rfl,rfl⟩⟩,trivial⟩) rfl (by exact⟨.c (.b (.pt 1000 0 6 0 0 rfl)),.c (.b (.imm _ rfl)),trivial⟩) (backTu2 (bpC B) (bgC G) rfl rfl) (tb_back 0 rfl trivial) (⟨⟨_,rfl,fun _ _ _ _=>.imm _ rfl⟩,trivial⟩) (hO) ?_
        (iterate 7 refine vA ?_)
        refine aB ?_)
     |(refine AWp.draw (id:=9) mixed ?_;(iterate 10 refine vA ?_);refine qr8eo2 (aP (k:=ch.length) tyOk) ?_;refine AList.load1lE tyOk (hcF) rfl rfl rfl rfl rfl oM ?_;refine vA ?_;refine qr8eo2 (aP (k:=c) tyOk) ?_;(iterate 8 refine vA ?_);refine qr8eo2 (aP (k:=ch.length) tyOk) ?_;(iterate 2 refine vA ?_);refine aH rfl rfl rfl rfl Try.func62 rfl (by kernel_rfl) (hCl) ?_;(iterate 8 refine vA ?_);refine aB ⟨by kernel_rfl,?_⟩))
    refine⟨k+1,hnext rfl,Wk.mkG [(4,some 4),(30,some 31)] rfl rfl rfl rfl rfl ?_ ?_ rfl rfl (fun _ _=>trivial),by omega⟩
    ·repeat (first|exact trivial|refine⟨⟨_,rfl,by first|exact LeA.c (LeC.ptB _ _ _ _ rfl)|exact leT⟩,?_⟩)
    ·exact⟨hSm,HeapOk.row rfl rfl rfl (fun _ _=>cell1 ⟨rfl,rfl⟩),HeapOk.lentC rfl rfl ⟨LeC.refl _ rfl,LeC.refl _ rfl,LeC.refl _ rfl,LeC.refl _ rfl,LeC.refl _ rfl,LeC.ow _ _ rfl,trivial⟩ rfl,trivial⟩
abbrev stR(l:List Stp):AB:=⟨true,l.length,8,66,rowF stC stZ l⟩
theorem stC_imm(s:Stp):(stC s).all immC=true:=rfl
def walkV(p:Pb):Nat→List Int→List Stp
 |0,_=> []
 |m+1,ch=>(List.range (p.C.getD ch.length []).length).flatMap fun c=>stepV p ch c::(if (stepV p ch c).dp=true then walkV p m (ch++ [(c:Int)])else [])
def deadP(p:Pb):Nat→List Int→Prop
 |0,_=>False
 |m+1,ch=>∀c:Nat,c<(p.C.getD ch.length []).length→(stepV p ch c).dp=true→deadP p m (ch++ [(c:Int)])
def walkC(p:Pb)(m:Nat)(ch:List Int)(c:Nat):List Stp:=stepV p ch c::(if (stepV p ch c).dp=true then walkV p m (ch++ [(c:Int)])else [])
def walkN(p:Pb)(m:Nat)(ch:List Int)(c:Nat):List Stp:=(List.range c).flatMap (walkC p m ch)
theorem walkN_succ{p:Pb}{m:Nat}{ch:List Int}{c:Nat}:walkN p m ch (c+1)=walkN p m ch c++walkC p m ch c:=by
 unfold walkN
 rw[List.range_succ,List.flatMap_append]
 simp
theorem walkN_len{p:Pb}{m:Nat}{ch:List Int}{c n:Nat}(h:c≤n):(walkN p m ch c).length≤(walkN p m ch n).length:=by
 induction n with
 |zero=>obtain rfl:c=0:=Nat.le_zero.1 h;exact Nat.le_refl _
 | succ n ih=>
   by_cases e:c=n+1
   ·rw[e];exact Nat.le_refl _
   ·rw[walkN_succ,List.length_append]
    have:=ih (by omega)
    omega
abbrev bxT(q:Nat):AB:=⟨false,1,1,94,lF [.pt q 6 0 0]⟩
abbrev bxO(r:Nat):AB:=⟨false,1,1,51,lF [.ow r]⟩
abbrev wkC(p:Pb)(a b c:Nat)(i:Nat):CV:= [.pt a 1 0 0,plP p,.pt b 1 0 0,.pt c 1 0 0].getD i .any
abbrev bxW(p:Pb)(a b c:Nat):AB:=⟨false,1,1,1,lF [.fn 40 4 (wkC p a b c)]⟩
theorem wk_le{h:Nat→Option AB}{ren:List (Nat×Option Nat)}{p:Pb}{a b c:Nat}(ha:Nat.ble 1000 a=true)(hb:Nat.ble 1000 b=true)(hc:Nat.ble 1000 c=true):LeC h ren (.fn 40 4 (wkC p a b c)) (.fn 40 4 (wkC p a b c)):=
 LeC.fn _ 4 _ _ (fun i hi=>by
  obtain rfl|rfl|rfl|rfl:i=0∨i=1∨i=2∨i=3:=by omega
  all_goals exact⟨trivial,trivial⟩) fun i hi=>by
  obtain rfl|rfl|rfl|rfl:i=0∨i=1∨i=2∨i=3:=by omega
  ·exact .ptB _ _ _ _ ha
  ·exact .refl _ rfl
  ·exact .ptB _ _ _ _ hb
  ·exact .ptB _ _ _ _ hc
theorem bxT_lend{S:St}{ids mids l:List Nat}{o q:Nat}{bs:List AB}(i:Nat)(hp:S.h o=some (bxT q))(hq:posOf ids q=some i)(h:LendOkM S ids mids l bs):LendOkM S ids mids (o::l) (bxT (1000+i)::bs):=
 ⟨⟨_,hp,(fun h=>by cases h),fun k hk j hj=>by
   obtain rfl:k=0:=Nat.lt_one_iff.mp hk
   obtain rfl:j=0:=Nat.lt_one_iff.mp hj
   exact .b (.pt _ _ _ _ _ hq)⟩,h⟩
theorem bxT_back{ids ni:List Nat}{q:Nat}{l m:List AB}(i:Nat)(hq:posOf ids q=some i)(h:BackBM ids ni l m):BackBM ids ni (bxT (1000+i)::l) (bxT q::m):=
 ⟨⟨_,rfl,fun k hk j hj=>by
   obtain rfl:k=0:=Nat.lt_one_iff.mp hk
   obtain rfl:j=0:=Nat.lt_one_iff.mp hj
   exact .b (.pt _ _ _ _ _ hq)⟩,h⟩
theorem bxO_lend{S:St}{ids mids l:List Nat}{o q:Nat}{bs:List AB}(i:Nat)(hp:S.h o=some (bxO q))(hq:posOf mids q=some i)(h:LendOkM S ids mids l bs):LendOkM S ids mids (o::l) (bxO (800+i)::bs):=
 ⟨⟨_,hp,(fun h=>by cases h),fun k hk j hj=>by
   obtain rfl:k=0:=Nat.lt_one_iff.mp hk
   obtain rfl:j=0:=Nat.lt_one_iff.mp hj
   exact .b (.mv _ _ hq)⟩,h⟩
theorem bxO_back{ids ni:List Nat}{q:Nat}{l m:List AB}(i:Nat)(hq:posOf ni q=some i)(h:BackBM ids ni l m):BackBM ids ni (bxO (900+i)::l) (bxO q::m):=
 ⟨⟨_,rfl,fun k hk j hj=>by
   obtain rfl:k=0:=Nat.lt_one_iff.mp hk
   obtain rfl:j=0:=Nat.lt_one_iff.mp hj
   exact .b (.owN _ _ hq)⟩,h⟩
theorem bxW_lend{S:St}{ids mids l:List Nat}{p:Pb}{o a b c:Nat}{bs:List AB}(i j k:Nat)(hp:S.h o=some (bxW p a b c))(ha:posOf ids a=some i)(hb:posOf ids b=some j)(hc:posOf ids c=some k)(h:LendOkM S ids mids l bs):LendOkM S ids mids (o::l) (bxW p (1000+i) (1000+j) (1000+k)::bs):=
 ⟨⟨_,hp,(fun h=>by cases h),fun n hn m hm=>by
   obtain rfl:n=0:=Nat.lt_one_iff.mp hn
   obtain rfl:m=0:=Nat.lt_one_iff.mp hm
   refine .fn _ 4 _ _ fun x hx=> ?_
   obtain rfl|rfl|rfl|rfl:x=0∨x=1∨x=2∨x=3:=by omega
   ·exact .pt _ _ _ _ _ ha
   ·exact .imm _ rfl
   ·exact .pt _ _ _ _ _ hb
   ·exact .pt _ _ _ _ _ hc⟩,h⟩
theorem bxW_back{ids ni:List Nat}{p:Pb}{a b c:Nat}{l m:List AB}(i j k:Nat)(ha:posOf ids a=some i)(hb:posOf ids b=some j)(hc:posOf ids c=some k)(h:BackBM ids ni l m):BackBM ids ni (bxW p (1000+i) (1000+j) (1000+k)::l) (bxW p a b c::m):=
 ⟨⟨_,rfl,fun n hn m hm=>by
   obtain rfl:n=0:=Nat.lt_one_iff.mp hn
   obtain rfl:m=0:=Nat.lt_one_iff.mp hm
   refine .fn _ 4 _ _ fun x hx=>⟨?_,?_,?_⟩
   all_goals obtain rfl|rfl|rfl|rfl:x=0∨x=1∨x=2∨x=3:=by omega
   ·exact .pt _ _ _ _ _ ha
   ·exact .imm _ rfl
   ·exact .pt _ _ _ _ _ hb
   ·exact .pt _ _ _ _ _ hc
   all_goals
    intro _ _ _ e
    cases e⟩,h⟩
end Go.Proofs.Ytpefnljgalpllaa
end
