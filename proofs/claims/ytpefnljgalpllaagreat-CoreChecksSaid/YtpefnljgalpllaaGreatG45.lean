/- Parts of the proof: A29w, A29x, A29y, A29za. -/
import Derived.Test.YtpefnljgalpllaaGreatG44
set_option linter.unusedSimpArgs false
set_option linter.unusedVariables false
set_option maxHeartbeats 0
set_option maxRecDepth 100000
section
namespace Go.Proofs.YtpefnljgalpllaaGreat
open Go.RowKit Go.Flow Go.AV Go.Plain
theorem zHo(C:List (List Bp))(F:List Bp)(h:(Nat.ble C.length 1000 && (Nat.ble F.length 1000 && C.all fun l=>Nat.ble l.length 1000))=true):(zDW C F).ok:=by
 simp only[Bool.and_eq_true,Nat.ble_eq,List.all_eq_true]at h
 refine⟨zSg,Nat.zero_le _,by show C.length≤_;omega,by show F.length≤_;omega,by show(C.map _).length≤_;rw[List.length_map];omega,by show(F.map _).length≤_;rw[List.length_map];omega,fun l hl=>by have:=h.2.2 l hl;omega⟩
theorem zTC:(zBa x29a 3 []).length≤1000000:=by decide +kernel
theorem zTD:(zBa x29b 2 []).length≤1000000:=by decide +kernel
theorem zTE:(zBa x29d 2 []).length≤1000000:=by decide +kernel
theorem zTn:zAX x29c≠0:=by decide +kernel
theorem zHl:x29a.ok:=zHo _ _ (by decide)
theorem zNm:x29b.ok:=zHo _ _ (by decide)
theorem zNn:x29c.ok:=zHo _ _ (by decide)
theorem zNo:x29d.ok:=zHo _ _ (by decide)
theorem zHb{p:Pb}(hp:p.ok){l:List Int}{e:Int}(h:zBi p=(l,e)):ACalls Tryz.prog 8 [.ag (pbC p)] (.tu [.c (lsI l),.c (iC e)]):=by
 have:=zPe p hp
 rwa [h]at this
theorem zHv{p:Pb}(hp:p.ok){l:List Stp}{e:Int}(h:zCt p=(l,e))(hd:zAX p=0→zEX p p.C.length []=true∧(zBa p p.C.length []).length≤1000000):ACalls Tryz.prog 10 [.ag (pbC p)] (.tu [.c (zAm l),.c (iC e)]):=by
 have:=zPr p hp fun _ hu=>⟨zL2 _ _ _ (hd hu).1,(hd hu).2⟩
 rwa [h]at this
abbrev d29:CV:=.ls 1 3 (sF (bpC (zAQ 0)) 3)
abbrev e29:CV:=.ls 1 3 (sF (bpC (zAQ 29)) 3)
abbrev zL1:CV:=.ls 2 3 (sF (bpC (zAQ 0)++bpC (zAQ 29)) 3)
theorem zEl{O:Nat→Prop}{w:World}{u:Value}(k:Nat)(h:RepI O w (.ls 1 3 (sF (bpC (zAQ k)) 3)) u):RepI O w (lsB [zAQ k]) u:=zFZ (zLm _) h
theorem zPY:Cv (.ls 3 1 (sF [d29,zL1,e29] 1)) (lsC x29a.C):=zDJ fun k hk j hj O w u h=>by
 obtain rfl:j=0:=by omega
 obtain rfl|rfl|rfl:k=0∨k=1∨k=2:=by omega
 ·exact zEl 0 h
 ·exact zFZ (zQc _ _) h
 ·exact zEl 29 h
theorem zPZ:Cv (.ls 2 1 (sF [e29,d29] 1)) (lsC x29b.C):=zDJ fun k hk j hj O w u h=>by
 obtain rfl:j=0:=by omega
 obtain rfl|rfl:k=0∨k=1:=by omega
 ·exact zEl 29 h
 ·exact zEl 0 h
theorem zP0:Cv (.ls 2 1 (sF [d29,e29] 1)) (lsC x29c.C):=zDJ fun k hk j hj O w u h=>by
 obtain rfl:j=0:=by omega
 obtain rfl|rfl:k=0∨k=1:=by omega
 ·exact zEl 0 h
 ·exact zEl 29 h
theorem zP1:Cv (.ls 2 1 (sF [d29,.ls 0 3 (sF [] 3)] 1)) (lsC x29d.C):=zDJ fun k hk j hj O w u h=>by
 obtain rfl:j=0:=by omega
 obtain rfl|rfl:k=0∨k=1:=by omega
 ·exact zEl 0 h
 ·exact zFZ (fun k hk=>absurd hk (Nat.not_lt_zero _)) h
theorem zP2:Cv d29 (lsB x29b.F):=zDJ fun k hk j hj O w u h=>by rw[zLm _ k hk j hj]at h;exact h
theorem zP3:Cv (.ls 3 8 (fun k j=>zS stC stZ st29a (0+k) j)) (zAm (st29a.take 3)):=zDJ fun k hk j hj O w u h=>by
 have e:zS stC stZ st29a (0+k) j=zS stC stZ (st29a.take 3) k j:=by
  obtain rfl|rfl|rfl:k=0∨k=1∨k=2:=by omega
  all_goals
   match j,hj with
   |0,_|1,_|2,_|3,_|4,_|5,_|6,_|7,_=>rfl
 rw[←e];exact h
theorem zSy:ACalls Tryz.prog 5 [] (.c (bC true)):=by
 have hd0:=zL7 0 xD;have hd1:=zL7 29 xD;have hPa:=(zHq x29a.C x29a.F (by decide) (by decide)).cv (args':= [.c (.ls 3 1 (sF [d29,zL1,e29] 1)),.c (.p (.slice none 0 0))]) ⟨.c zPY,.c Cv.nil,trivial⟩;have hPb:=(zHq x29b.C x29b.F (by decide) (by decide)).cv (args':= [.c (.ls 2 1 (sF [e29,d29] 1)),.c d29]) ⟨.c zPZ,.c zP2,trivial⟩;have hPc:=(zHq x29c.C x29c.F (by decide) (by decide)).cv (args':= [.c (.ls 2 1 (sF [d29,e29] 1)),.c (.p (.slice none 0 0))]) ⟨.c zP0,.c Cv.nil,trivial⟩;have hPd:=(zHq x29d.C x29d.F (by decide) (by decide)).cv (args':= [.c (.ls 2 1 (sF [d29,.ls 0 3 (sF [] 3)] 1)),.c (.p (.slice none 0 0))]) ⟨.c zP1,.c Cv.nil,trivial⟩;have hLa:=zHb zHl zTt;have hLb:=zHb zNm zTu;have hLc:=zHb zNn zTv;have hLd:=zHb zNo zTw;have hRa:=zHv zHl zTx fun _=>⟨zTq,zTC⟩
 have hRb:=zHv zNm zTy fun _=>⟨zTr,zTD⟩
 have hRc:=zHv zNn zTz fun h=>(zTn h).elim
 have hRd:=zHv zNo zTA fun _=>⟨zTs,zTE⟩
 have hK1:=zH3 x29a zHl st29a (by decide);rw[zTo]at hK1;have hK2:=zH3 x29a zHl (st29a.take 3) (by decide);rw[zTp]at hK2
 replace hK2:=hK2.cv (args':= [.ag (pbC x29a),.c (.ls 3 8 (fun k j=>zS stC stZ st29a (0+k) j))]) ⟨.ag (zGU _),.c zP3,trivial⟩
 have hI1:=(zKV [0,1,2] [0,1,2] (by decide)).cv (args':= [.c (lsI [0,1,2]),.c (.ls 3 1 (sF [iC 0,iC 1,iC 2] 1))]) ⟨.c (Cv.refl _),.c (zH5 fun k hk=>by obtain rfl|rfl|rfl:k=0∨k=1∨k=2:=xD;all_goals rfl),trivial⟩
 have hI2:=(zKV [1] [1] (by decide)).cv (args':= [.c (lsI [1]),.c (.ls 1 1 (sF [iC 1] 1))]) ⟨.c (Cv.refl _),.c (zH5 fun k hk=>by obtain rfl:k=0:=xD;rfl),trivial⟩
 rw[decide_eq_true rfl]at hI1 hI2;have n4:st29a.length=4:=rfl;have n2:st29b.length=2:=rfl;have n1:st29d.length=1:=rfl;have hs0:=zOb 0 0;have hs1:=zJP 1 0 0 zEW (by decide);have hs2:=zOb 1 1;have hs3:=zJP 2 0 1 zEW (by decide);have hs4:=zJP 1 0 (-1) zEW (by decide);refine zH Tryz.func5 rfl rfl Tryz.ntmps5 rfl ?_
 repeat (first
  |refine vB [0] ?_
  | (refine rG 1 ?_
     refine xB Tryz.func17 hd0 ?_;refine xB Tryz.func17 hd1 ?_;refine xE4 ?_;refine aB ?_)
  | (refine rG 2 ?_
     refine xE8 ?_;refine xB Tryz.func18 hPa ?_;refine xE2 ?_;refine aB ?_)
  | (refine rG 3 ?_
     refine vA ?_;refine xB Tryz.func8 hLa ?_;refine xE5 ?_;refine aB ?_)
  | (refine rG 4 ?_
     refine vA ?_;refine xB Tryz.func10 hRa ?_;refine xE5 ?_;refine aB ?_))
 refine AWp.weak (S':=zC 215 [(1,.c (.pt 1 3 0 0)),(2,.c (.pt 2 3 0 0)),(3,.c (.pt 3 5 0 0)),(4,.c (lsI [0,1,2])),(5,.c (iC 0)),(6,.c (zAm st29a)),(7,.c (iC 0))] [(1,⟨false,1,3,53,lF (bpC (zAQ 0))⟩),(2,⟨false,1,3,53,lF (bpC (zAQ 29))⟩),(3,⟨false,1,5,29,lF (pbC x29a)⟩)] [1,2,3]) (Wk.mk [(1,some 1),(2,some 2),(3,some 3)] rfl rfl rfl ?_ ?_) ?_
 ·exact zB
 ·exact⟨hSm,hSm,hSm,trivial⟩
 repeat (first
  |refine vB [] ?_
  |(refine AWp.draw (id:=5) zI ?_;refine xE9 ?_;refine xB Tryz.func12 hI1 ?_;refine zBu ?_;refine xB Tryz.func14 hK1 ?_;refine xE5 ?_;refine AList.cut (l:=0) (h:=3) zA rfl rfl rfl rfl rfl rfl rfl rfl ⟨_,_,rfl,by first|rfl|omega⟩ xD xD ?_;refine xB Tryz.func14 hK2 ?_;refine xE2 ?_;refine aB ⟨by kernel_rfl,?_⟩)
  | (refine rG 7 ?_
     refine vA ?_;refine zG (aP (k:=0) zA) ?_;refine vA ?_;refine xB Tryz.func19 hs0 ?_;refine xE3 ?_;refine zG (aP (k:=1) zA) ?_;refine vA ?_;refine xB Tryz.func19 hs1 ?_;refine xE4 ?_;refine zG (aP (k:=2) zA) ?_;refine vA ?_;refine xB Tryz.func19 hs2 ?_;refine xE4 ?_;refine zG (aP (k:=3) zA) ?_;refine vA ?_;refine xB Tryz.func19 hs3 ?_;refine xE2 ?_;refine aB ?_))
 refine AWp.weak (S':=zC 215 [(1,.c (.pt 1 3 0 0)),(2,.c (.pt 2 3 0 0))] [(1,⟨false,1,3,53,lF (bpC (zAQ 0))⟩),(2,⟨false,1,3,53,lF (bpC (zAQ 29))⟩)] [1,2]) (Wk.mk [(1,some 1),(2,some 2)] rfl rfl rfl ?_ ?_) ?_
 ·exact zB
 ·exact⟨hSm,hSm,trivial⟩
 repeat (first
  |refine vB [] ?_
  | (refine rG 9 ?_
     refine xE7 ?_;refine xB Tryz.func18 hPb ?_;refine xE2 ?_;refine aB ?_)
  | (refine rG 10 ?_
     refine vA ?_;refine xB Tryz.func8 hLb ?_;refine xE5 ?_;refine aB ?_)
  | (refine rG 11 ?_
     refine vA ?_;refine xB Tryz.func10 hRb ?_;refine xE5 ?_;refine aB ?_))
 repeat (first
  |refine vB [] ?_
  | (refine rG 12 ?_
     refine xE9 ?_;refine xB Tryz.func12 hI2 ?_;refine xE9 ?_;refine zG (aP (k:=0) zA) ?_;refine vA ?_;refine xB Tryz.func19 hs0 ?_;refine xE4 ?_;refine zG (aP (k:=1) zA) ?_;refine vA ?_;refine xB Tryz.func19 hs4 ?_;refine xE2 ?_;refine aB ?_))
 refine AWp.weak (S':=zC 215 [(1,.c (.pt 1 3 0 0)),(2,.c (.pt 2 3 0 0))] [(1,⟨false,1,3,53,lF (bpC (zAQ 0))⟩),(2,⟨false,1,3,53,lF (bpC (zAQ 29))⟩)] [1,2]) (Wk.mk [(1,some 1),(2,some 2)] rfl rfl rfl ?_ ?_) ?_
 ·exact zB
 ·exact⟨hSm,hSm,trivial⟩
 repeat (first
  |refine vB [] ?_
  | (refine rG 14 ?_
     refine xE5 ?_;refine xB Tryz.func18 hPc ?_;refine xB Tryz.func8 hLc ?_;refine xE5 ?_;refine aB ?_)
  | (refine rG 15 ?_
     refine xE5 ?_;refine xB Tryz.func18 hPc ?_;refine xB Tryz.func10 hRc ?_;refine xE5 ?_;refine aB ?_))
 refine AWp.weak (S':=zC 215 [(1,.c (.pt 1 3 0 0)),(2,.c (.pt 2 3 0 0)),(14,.c (iC 7)),(16,.c (iC 7))] [(1,⟨false,1,3,53,lF (bpC (zAQ 0))⟩),(2,⟨false,1,3,53,lF (bpC (zAQ 29))⟩)] [1,2]) (Wk.mk [(1,some 1),(2,some 2)] rfl rfl rfl ?_ ?_) ?_
 ·repeat (first|exact trivial|refine⟨⟨_,rfl,by first|exact LeA.c (zAl rfl rfl rfl (fun i hi=>absurd hi (Nat.not_lt_zero i)))|exact leT⟩,?_⟩)
 ·exact⟨hSm,hSm,trivial⟩
 refine AWp.text ?_;refine AText.split 3 ?_;refine xE3 ?_;refine aB ?_;refine AText.weak (S':=zC 215 [(1,.c (.pt 1 3 0 0)),(2,.c (.pt 2 3 0 0)),(14,.c (iC 7)),(16,.c (iC 7)),(169,.c d29),(170,.c (.ls 0 3 (sF [] 3)))] [(1,⟨false,1,3,53,lF (bpC (zAQ 0))⟩),(2,⟨false,1,3,53,lF (bpC (zAQ 29))⟩)] [1,2]) (Wk.mk [(1,some 1),(2,some 2)] rfl rfl rfl ?_ ?_) ?_
 ·repeat (first|exact trivial|refine⟨⟨_,rfl,by first|exact LeA.c (zAl rfl rfl rfl (fun i hi=>absurd hi (Nat.not_lt_zero i)))|exact leT⟩,?_⟩)
 ·exact⟨hSm,hSm,trivial⟩
 refine AText.all ?_;refine vA ?_;refine xB Tryz.func18 hPd ?_;refine xB Tryz.func8 hLd ?_;refine xE5 ?_;refine aB ?_;refine vB [] ?_;refine AWp.weak (S':=zC 215 [(1,.c (.pt 1 3 0 0)),(2,.c (.pt 2 3 0 0)),(14,.c (iC 7)),(16,.c (iC 7)),(17,.c (lsI [1])),(18,.c (iC 0))] [(1,⟨false,1,3,53,lF (bpC (zAQ 0))⟩),(2,⟨false,1,3,53,lF (bpC (zAQ 29))⟩)] [1,2]) (Wk.mk [(1,some 1),(2,some 2)] rfl rfl rfl ?_ ?_) ?_
 ·repeat (first|exact trivial|refine⟨⟨_,rfl,by first|exact LeA.c (zAl rfl rfl rfl (fun i hi=>absurd hi (Nat.not_lt_zero i)))|exact leT⟩,?_⟩)
 ·exact⟨hSm,hSm,trivial⟩
 refine AWp.text ?_;refine AText.split 3 ?_;refine xE3 ?_;refine aB ?_;refine AText.weak (S':=zC 215 [(1,.c (.pt 1 3 0 0)),(2,.c (.pt 2 3 0 0)),(14,.c (iC 7)),(16,.c (iC 7)),(17,.c (lsI [1])),(18,.c (iC 0)),(178,.c d29),(179,.c (.ls 0 3 (sF [] 3)))] [(1,⟨false,1,3,53,lF (bpC (zAQ 0))⟩),(2,⟨false,1,3,53,lF (bpC (zAQ 29))⟩)] [1,2]) (Wk.mk [(1,some 1),(2,some 2)] rfl rfl rfl ?_ ?_) ?_
 ·repeat (first|exact trivial|refine⟨⟨_,rfl,by first|exact LeA.c (zAl rfl rfl rfl (fun i hi=>absurd hi (Nat.not_lt_zero i)))|exact leT⟩,?_⟩)
 ·exact⟨hSm,hSm,trivial⟩
 refine AText.all ?_;refine vA ?_;refine xB Tryz.func18 hPd ?_;refine xB Tryz.func10 hRd ?_;refine xE5 ?_;refine aB ?_
 repeat (first
  |refine vB [] ?_
  | (refine rG 18 ?_
     refine zTN ?_;refine xB Tryz.func12 hI2 ?_;refine zDn ?_;refine zG (aP (k:=0) zA) ?_;refine vA ?_;refine xB Tryz.func19 hs0 ?_;refine xE2 ?_;refine aB ?_))
 refine⟨zC 215 [(0,.c (bC true))] [] [],[],Wk.mk [] rfl rfl rfl ?_ trivial,rfl,rfl,aR1⟩
 exact zB
abbrev cuF(ll:List (List Int))(k _:Nat):CV:=.ls (min (ll.getD k []).length 40) 1 (fun i j=>iF (fI (ll.getD k [])) (0+i) j)
theorem zQF(ll:List (List Int))(k h:Nat)(hh:h=min (ll.getD k []).length 40):∀i,i<k+1→∀j,j<1→zAh (cuF ll) k (sF [.ls (h-0) 1 (fun i j=>iF (fI (ll.getD k [])) (0+i) j)] 1) i j=cuF ll i j∧zK (zAh (cuF ll) k (sF [.ls (h-0) 1 (fun i j=>iF (fI (ll.getD k [])) (0+i) j)] 1) i j)=true:=by
 subst hh;exact zET (G:=cuF ll) (fun i _ j _=>rfl) (zZ rfl) (fun _ _ _ _=>rfl)
theorem zQG(ll:List (List Int))(hll:LlOk ll):ACalls Tryz.prog 7 [.c (lsL ll)] (.c (.ls (min ll.length 16) 1 (cuF ll))):=by
 obtain⟨hn,hl⟩:=hll
 obtain⟨n,hn0⟩:∃n,ll.length=n:=⟨_,rfl⟩
 refine zH Tryz.func7 rfl rfl Tryz.ntmps7 rfl ?_;refine vB [0,1,2] ?_;refine AWp.round (fun k:Nat=>zC 30 [(0,.c (lsL ll)),(3,.c (.ow 20)),(4,.c (iC (k:Nat)))] [(20,⟨true,k,1,35,cuF ll⟩)] [20]) (fun k=>k≤ll.length∧k≤16) (fun k=>16-k) 0 ⟨Nat.zero_le _,Nat.zero_le _⟩ ?_ (fun k hk=> ?_)
 ·refine Wk.mk [(20,none)] rfl rfl rfl ?_ ?_
  ·exact zB
  ·exact⟨HeapOk.nil rfl rfl,trivial⟩
 obtain⟨hk,hk16⟩:=hk
 by_cases c1:k<ll.length;rotate_left
 ·have c1':¬(k:Int)<ll.length:=by omega
  have e:min ll.length 16=k:=by omega
  rw[e];refine vB [3,6] ?_
  refine⟨zC 30 [(2,.c (.ls k 1 (cuF ll)))] [] [],[],Wk.mk [] rfl rfl rfl ?_ trivial,rfl,rfl,aR1⟩
  exact⟨⟨_,rfl,.c (zAl rfl rfl rfl (fun i _ j _=>⟨rfl,rfl⟩))⟩,trivial⟩
 have c1':(k:Int)<ll.length:=by omega
 by_cases c2:k<16;rotate_left
 ·have c2':¬(k:Int)<16:=by omega
  have e:min ll.length 16=k:=by omega
  rw[e];refine vB [3,6] ?_
  refine⟨zC 30 [(2,.c (.ls k 1 (cuF ll)))] [] [],[],Wk.mk [] rfl rfl rfl ?_ trivial,rfl,rfl,aR1⟩
  exact⟨⟨_,rfl,.c (zAl rfl rfl rfl (fun i _ j _=>⟨rfl,rfl⟩))⟩,trivial⟩
 have c2':(k:Int)<16:=by omega
 have hcell:(fun (k _:Nat)=>lsI (ll.getD k [])) k 0=lsI (ll.getD k []):=rfl;have hx:=hl k c1
 obtain⟨h,hh⟩:∃h,h=min (ll.getD k []).length 40:=⟨_,rfl⟩
 have hh':min ((ll.getD k []).length:Int) 40=(h:Int):=by omega
 have hhl:h≤(ll.getD k []).length:=by omega
 repeat (first
  |refine vB [3,4] ?_
  |(refine AWp.draw (id:=5) zI ?_;refine xE3 ?_;refine zG (aP (k:=k) zA) ?_;refine zAq zA (hcell) rfl rfl rfl rfl rfl oM ?_;refine xE2 ?_;refine zG (aP (k:=k) zA) ?_;refine zAq zA (hcell) rfl rfl rfl rfl rfl oM ?_;refine xE2 ?_;refine AList.cut (l:=0) (h:=h) zA rfl rfl rfl rfl rfl rfl rfl rfl ⟨_,_,rfl,by first|rfl|omega⟩ xD xD ?_;refine vA ?_;refine zBg zA rfl rfl rfl rfl rfl rfl rfl rfl rfl rfl oM oM ?_;refine vA ?_;refine aB ⟨by kernel_rfl,?_⟩))
 refine⟨k+1,⟨c1,c2⟩,Wk.mk [(20,some 28)] rfl rfl rfl ?_ ?_,by omega⟩
 ·exact zB
 ·exact⟨HeapOk.row rfl rfl rfl (zQF ll k h hh),trivial⟩
def nmL(f:Nat→Int)(k:Nat):List Int:=(List.range k).map f
theorem zNg(f:Nat→Int)(k:Nat):(nmL f k).length=k:=by unfold nmL;rw[List.length_map,List.length_range]
theorem zRE(f:Nat→Int){k i:Nat}(h:i<k):fI (nmL f k) i=f i:=by
 show(nmL f k).getD i 0=_
 unfold nmL;rw[List.getD_eq_getElem?_getD,List.getElem?_map,List.getElem?_range h]
 rfl
theorem zTQ{l:List Int}{k i:Nat}(hk:k<l.length):zAh (fun i j=>iF (fun j=>l.getD j 0) (0+i) j) (k-0) (fun i j=>iF (fun j=>l.getD j 0) (k+1+i) j) i 0=iC ((l.eraseIdx k).getD i 0):=by
 unfold zAh;rw[Nat.sub_zero];by_cases h:i<k
 ·rw[Nat.blt_eq.mpr h,List.getD_eq_getElem?_getD,List.getElem?_eraseIdx,if_pos h]
  show iC (l.getD (0+i) 0)=_;rw[Nat.zero_add,List.getD_eq_getElem?_getD]
 ·rw[show Nat.blt i k=false from Bool.eq_false_iff.2 fun h'=>h (Nat.blt_eq.mp h'),List.getD_eq_getElem?_getD,List.getElem?_eraseIdx,if_neg h]
  show iC (l.getD (k+1+(i-k)) 0)=_;rw[show k+1+(i-k)=i+1 by omega,List.getD_eq_getElem?_getD]
def Sol(p:Pb):Prop:=∃f:Nat→Int,∀k,k<p.C.length→zEH p f k=true
theorem zSW{p:Pb}{f g:Nat→Int}{k:Nat}(h:∀j,j≤k→f j=g j)(hs:zEH p f k=true):zEH p g k=true:=by
 rw[stepOk_iff]at hs⊢;rw[←h k (Nat.le_refl k),←zG2 fun j hj=>h j xD];exact hs
theorem zHG{p:Pb}(sp:Sm p):((zBt p).2=0∧Sol p)∨((zBt p).2=60∧¬Sol p):=by
 have hT:stT p.C.length≤20000:=by
  have:=sp.C;have:p.C.length=0∨p.C.length=1∨p.C.length=2∨p.C.length=3∨p.C.length=4∨p.C.length=5:=by omega
  rcases this with h|h|h|h|h|h<;>rw[h]<;>decide
 obtain⟨hS,-,-⟩:=zMz (fun l h=>(sp.Cc l h).1) p.C.length [] 0 (by simp) (fun k hk=>absurd hk (Nat.not_lt_zero _)) (Int.le_refl _) xD
 unfold zBt;rw[if_pos sp.chk];generalize zAw p p.C.length [] 0=o at *
 rcases hS with ⟨k1,e0,-,k3,k4,-⟩|⟨k1,-,k3⟩
 ·exact .inl ⟨k1,fI e0,fun k hk=>k4 k (by rw[List.nil_append,k3];exact hk)⟩
 ·refine .inr ⟨k1,fun ⟨f,hf⟩=>k3 (nmL f p.C.length) (zNg _ _) fun k hk=> ?_⟩
  rw[List.nil_append,zNg]at hk;exact zSW (fun j hj=>(zRE f xD).symm) (hf k hk)
theorem zSK{p:Pb}(sp:Sm p):(zBt p).2=0↔Sol p:=by
 rcases zHG sp with ⟨h1,h2⟩|⟨h1,h2⟩
 ·exact⟨fun _=>h2,fun _=>h1⟩
 ·exact⟨fun h=>(by rw[h1]at h;cases h),fun h=>absurd h h2⟩
theorem zHQ{p:Pb}(sp:Sm p):zAX p=0↔(zBt p).2=60:=by
 unfold zAX
 rcases zHG sp with ⟨h1,-⟩|⟨h1,-⟩<;>rw[h1]<;>decide
theorem zFR{n:Nat}{ns:List Int}(h:zA9 n ns=true){i:Nat}:∀{j:Nat},i<j→j<ns.length→fI ns i<fI ns j
 |0,h0,_=>absurd h0 (Nat.not_lt_zero _)
 | j+1,h1,h2=>by
   have h3:=(nmOk_iff.1 h (j+1) h2).2.2 (Nat.succ_pos _);rw[Nat.add_sub_cancel]at h3;by_cases e:i=j
   ·subst e;exact h3
   ·exact Int.lt_trans (zFR h (show i<j by omega) xD) h3
theorem zNh{n:Nat}{ns:List Int}(h:zA9 n ns=true):∀{k:Nat},k<ns.length→(k:Int)≤fI ns k
 |0,h1=>(nmOk_iff.1 h 0 h1).1
 | k+1,h1=>by
   have h2:=zNh h (show k<ns.length by omega);have h3:fI ns k<fI ns (k+1):=zFR h (Nat.lt_succ_self k) h1
   omega
theorem zRI{n:Nat}{ns:List Int}(h:zA9 n ns=true):ns.length≤n:=by
 rcases Nat.eq_zero_or_pos ns.length with e|e
 ·omega
 ·have h1:=zNh h (show ns.length-1<ns.length by omega)
  have h2:=(nmOk_iff.1 h (ns.length-1) xD).2.1
  omega
theorem zNx{α β:Type}(f:Int→β)(z:β){ns:List Int}{k:Nat}(hk:k<ns.length):(ns.map f).getD k z=f (fI ns k):=by
 show _=f (ns.getD k 0);rw[List.getD_eq_getElem?_getD,List.getElem?_map,List.getElem?_eq_getElem hk,List.getD_eq_getElem?_getD,List.getElem?_eq_getElem hk]
 rfl
theorem zHI{p:Pb}(sp:Sm p){ns:List Int}(h:zA9 p.C.length ns=true):Sm (zBf p ns):=by
 have hl:=zRI h
 refine⟨sp.R,sp.Rr,?_,fun l hl=> ?_,sp.F,sp.Ff,?_,sp.T⟩
 ·show(ns.map _).length≤5
  rw[List.length_map];exact Nat.le_trans hl sp.C
 ·obtain⟨x,hx,rfl⟩:=List.mem_map.1 hl
  rcases Nat.lt_or_ge x.toNat p.C.length with g|g
  ·exact sp.Cc _ (zAH g)
  ·rw[List.getD_eq_getElem?_getD,List.getElem?_eq_none g]
   exact⟨Nat.zero_le _,fun b hb=>by cases hb⟩
 ·show(ns.map _).length=(ns.map _).length
  rw[List.length_map,List.length_map]
theorem zTU{p:Pb}{ns:List Int}(h:zA9 p.C.length ns=true)(hs:Sol p):Sol (zBf p ns):=by
 obtain⟨f,hf⟩:=hs
 have hlen:(zBf p ns).C.length=ns.length:=List.length_map _
 refine⟨fun k=>f (fI ns k).toNat,fun k hk=> ?_⟩
 rw[hlen]at hk;have hC:∀j,j<ns.length→(zBf p ns).C.getD j []=p.C.getD (fI ns j).toNat []:=fun j hj=>zNx (α:=Nat) _ _ hj
 have hO:∀j,j<ns.length→(zBf p ns).O.getD j bgZ=p.O.getD (fI ns j).toNat bgZ:=fun j hj=>zNx (α:=Nat) _ _ hj
 obtain⟨b1,b2,-⟩:=nmOk_iff.1 h k hk
 obtain⟨g1,g2,g3⟩:=step_iff.1 (hf (fI ns k).toNat xD)
 rw[step_iff,hC k hk]
 refine⟨g1,fun j hj=> ?_,fun j hj=> ?_⟩
 ·rw[hC k hk,hO k hk]
  exact g2 j hj
 ·rw[hC k hk,hO k hk,hC j xD,hO j xD]
  have h1:=zFR h hj hk;have h2:=(nmOk_iff.1 h j xD).1;exact g3 (fI ns j).toNat xD
theorem zLV{rec:List Int→Nat→List (List Int)}{l s:List Int}{y:Nat}:∀{m x:Nat},x≤y→y<x+m→s∈rec (l++ [(y:Int)]) (y+1)→s∈zBc rec l m x
 |0,x,h1,h2,_=>by omega
 | m+1,x,h1,h2,h=>by
   show s∈_++zBc rec l m (x+1);by_cases e:x=y
   ·subst e;exact List.mem_append.2 (.inl h)
   ·exact List.mem_append.2 (.inr (zLV xD xD h))
theorem zLW{n:Nat}:∀(r:Nat) (l t:List Int) (x:Nat),zA9 n (l++t)=true→t.length=r→(∀k,l.length≤k→k<(l++t).length→(x:Int)≤fI (l++t) k)→l++t∈zAy n r l x
 | 0,l,t,x,_,ht,_=>by
   obtain rfl:=List.eq_nil_of_length_eq_zero ht
   simp[zAy]
 |r+1,l,[],x,_,ht,_=>by cases ht
 | r+1,l,v::t,x,h,ht,hx=>by
   have hlt:l.length<(l++v::t).length:=by simp
   have e:=zMg l t v;have h1:=hx l.length (Nat.le_refl _) hlt;have h2:=(nmOk_iff.1 h l.length hlt).2.1;rw[e]at h1 h2
   obtain⟨y,rfl⟩:=Int.eq_ofNat_of_zero_le (show 0≤v by omega)
   show _∈zBc (zAy n r) l (n-x) x;refine zLV (y:=y) xD xD ?_;have ih:=zLW r (l++ [(y:Int)]) t (y+1) (by rw[List.append_assoc];exact h) (by simpa using ht) fun k hk1 hk2=>by
    rw[List.length_append,List.length_singleton]at hk1;rw[List.append_assoc]at hk2⊢;have h4:=zFR h (show l.length<k by omega) hk2;rw[e]at h4
    show((y+1:Nat):Int)≤fI (l++(y:Int)::t) k
    omega
   rw[List.append_assoc]at ih;exact ih
theorem zSD{n:Nat}{s:List Int}(h:zA9 n s=true):s∈zBZ n s.length:=
 zLW s.length [] s 0 h rfl fun k _ hk=>(nmOk_iff.1 h k hk).1
theorem to_in{n:Nat}{s:List Int}:∀{k:Nat},s∈zBI n k↔∃i,i<k∧s∈zBZ n i
 |0=>⟨fun h=>by(cases h),fun ⟨i,h,_⟩=>absurd h (Nat.not_lt_zero _)⟩
 | k+1=>by
   show s∈zBI n k++zBZ n k↔_;rw[List.mem_append,to_in]
   constructor
   ·rintro(⟨i,h1,h2⟩|h)
    ·exact⟨i,by omega,h2⟩
    ·exact⟨k,by omega,h⟩
   ·rintro⟨i,h1,h2⟩
    by_cases e:i=k
    ·subst e;exact .inr h2
    ·exact .inl ⟨i,by omega,h2⟩
theorem zQU{n:Nat}{bad:List Int→Bool}{s:List Int}(h:(zBI n (n+1)).find? bad=some s):bad s=true∧zA9 n s=true∧∀t,zA9 n t=true→t.length<s.length→bad t=false:=by
 obtain⟨i,h1,h2⟩:=to_in.1 (List.mem_of_find?_eq_some h)
 obtain⟨h3,h4⟩:=zJH h2
 refine⟨List.find?_some h,h3,fun t ht hl=> ?_⟩
 obtain⟨r,hr⟩:=zOm (n:=n) (show s.length≤n+1 by omega)
 rw[hr,List.find?_append]at h
 cases hA:(zBI n s.length).find? bad with
 | none=>
   have:=List.find?_eq_none.1 hA t (to_in.2 ⟨_,hl,zSD ht⟩)
   simpa using this
 | some u=>
   rw[hA]at h;obtain rfl:u=s:=by simpa using h
   obtain⟨j,g1,g2⟩:=to_in.1 (List.mem_of_find?_eq_some hA)
   have:=(zJH g2).2
   omega
theorem zMi{l:List Int}{k i:Nat}:fI (l.eraseIdx k) i=if i<k then fI l i else fI l (i+1):=by
 show(l.eraseIdx k).getD i 0=if i<k then l.getD i 0 else l.getD (i+1) 0
 rw[List.getD_eq_getElem?_getD,List.getElem?_eraseIdx]
 split<;>rw[List.getD_eq_getElem?_getD]
theorem zHj{n k:Nat}{s:List Int}(h:zA9 n s=true)(hk:k<s.length):zA9 n (s.eraseIdx k)=true:=nmOk_iff.2 fun i hi=>by
 rw[List.length_eraseIdx,if_pos hk]at hi;have hb:∀j,j<s.length→0≤fI s j∧fI s j<n:=fun j hj=>⟨(nmOk_iff.1 h j hj).1,(nmOk_iff.1 h j hj).2.1⟩
 have hm:∀a b,a<b→b<s.length→fI s a<fI s b:=fun a b h1 h2=>zFR h h1 h2
 rw[zMi,zMi];have e1:=hb i xD;have e2:=hb (i+1) xD
 refine⟨by split<;>omega,by split<;>omega,fun h0=> ?_⟩
 by_cases c:i<k
 ·rw[if_pos c,if_pos xD]
  exact hm _ _ xD xD
 ·rw[if_neg c]
  by_cases d:i-1<k
  ·rw[if_pos d]
   exact hm _ _ xD xD
  ·rw[if_neg d]
   exact hm _ _ xD xD
theorem zTS{p:Pb}(sp:Sm p)(h:(zBi p).2≠0):(zBt p).2=0↔(zBi p).2=7:=by
 have h8:¬8<p.C.length:=by have:=sp.C;omega
 unfold zBi at h⊢;rw[if_pos sp.chk,if_neg h8]at h⊢
 rcases zHG sp with ⟨h1,-⟩|⟨h1,-⟩
 ·have hu:zAX p=7:=by unfold zAX;rw[h1];rfl
  rw[hu,h1]
  simp
 ·have hu:=(zHQ sp).2 h1
  rw[if_pos hu]at h⊢;rw[h1]
  cases hf:(zBI p.C.length (p.C.length+1)).find? (zBS p)with
  |none=>exact⟨fun h=>(by cases h),fun h=>(by cases h)⟩
  |some s=>rw[hf]at h;exact absurd rfl h
theorem zTR{p:Pb}(sp:Sm p)(h:(zBi p).2=0):(zBt p).2=60∧zA9 p.C.length (zBi p).1=true∧(zBt (zBf p (zBi p).1)).2=60∧0<(zBi p).1.length∧
 ∀k,k<(zBi p).1.length→zA9 p.C.length ((zBi p).1.eraseIdx k)=true∧(zBt (zBf p ((zBi p).1.eraseIdx k))).2=0:=by
 have h8:¬8<p.C.length:=by have:=sp.C;omega
 unfold zBi at h⊢;rw[if_pos sp.chk,if_neg h8]at h⊢;by_cases hu:zAX p=0
 ·rw [if_pos hu]at h⊢
  cases hf:(zBI p.C.length (p.C.length+1)).find? (zBS p)with
  |none=>rw[hf]at h;cases h
  | some s=>
    obtain⟨h1,h2,h3⟩:=zQU hf
    have h4:=(zHQ (zHI sp h2)).1 (of_decide_eq_true h1)
    refine⟨(zHQ sp).1 hu,h2,h4,?_,fun k hk=>⟨zHj h2 hk,?_⟩⟩
    ·show 0<s.length
     rcases Nat.eq_zero_or_pos s.length with e|e
     ·obtain rfl:=List.eq_nil_of_length_eq_zero e
      have:=(zSK (zHI sp h2)).2 ⟨fun _=>0,fun k hk=>absurd hk (Nat.not_lt_zero _)⟩;rw[h4]at this
      cases this
     ·exact e
    ·have h5:=h3 _ (zHj h2 hk) (by change k<s.length at hk;rw[List.length_eraseIdx,if_pos hk];omega)
     have h6:¬(zBt (zBf p (s.eraseIdx k))).2=60:=fun e=>by
      rw[zBS,decide_eq_false_iff_not,zHQ (zHI sp (zHj h2 hk))]at h5;exact h5 e
     rcases zHG (zHI sp (zHj h2 hk))with g|g
     ·exact g.1
     ·exact absurd g.1 h6
 ·rw[if_neg hu]at h
  exact absurd h hu
end Go.Proofs.YtpefnljgalpllaaGreat
end
