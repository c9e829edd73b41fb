/- Parts of the proof: A29b, A29x, A29y, A29ze. -/
import Derived.Test.YtpefnljgalpllaaGreatHA29rer04
import Derived.Test.YtpefnljgalpllaaGreatG45
set_option linter.unusedSimpArgs false
set_option linter.unusedVariables false
set_option maxHeartbeats 0
set_option maxRecDepth 100000
section
namespace Go.Proofs.YtpefnljgalpllaaGreat
open Go.RowKit Go.Flow Go.AV Go.Plain
theorem zSd(p:Pb)(hp:p.ok)(ns:List Int)(hn:ns.length≤1000000):ACalls Tryz.prog 58 [.ag (pbC p),.c (lsI ns)] (.tu [.ag (pbC (zCQ p ns).1),.c (iC (zCQ p ns).2)]):=by
 have hC:=zHx p hp
 obtain⟨e,he⟩:∃e,zAt p=e:=⟨_,rfl⟩
 rw[he]at hC;by_cases h0:e=0;rotate_left
 ·rw [show zCQ p ns=(pbZ,e) by rw[←he]at h0⊢;exact if_neg h0]
  refine zH Tryz.func58 rfl rfl Tryz.ntmps58 rfl ?_
  repeat (first
   |refine vB [0,2,3] ?_
   | (refine rG 1 ?_
      refine vA ?_;refine xB Tryz.func31 hC ?_;refine vA ?_;refine aB ?_))
  refine⟨zD 87 [(4,.c (.pt 4 5 0 0)),(5,.c (iC (e)))] [(4,⟨false,1,5,29,lF (pbC pbZ)⟩)] [4],[(4,⟨false,1,5,29,lF (pbC pbZ)⟩)],Wk.mk [(4,some 4)] rfl rfl rfl ?_ ?_,rfl,rfl,ARets.two (x:=.ag _) (y:=.c _) (ARes.box zA rfl rfl rfl rfl rfl rfl rfl) (ARes.tmp rfl rfl)⟩
  ·exact zB
  ·exact⟨HeapOk.box rfl rfl ⟨LeC.nils _ _,LeC.nils _ _,LeC.nils _ _,LeC.nils _ _,LeC.nils _ _,trivial⟩ rfl,trivial⟩
 subst h0;have hfit:=zDO hp he;have hpv:zCQ p ns=if zA1 p.C.length ns=true then (zAV p ns,0)else (pbZ,1):=if_pos he
 have hbn:=zLL he;have lC:=hfit.c;have lF0:=hfit.f;have lO:=hfit.o;have lT:=hfit.t
 obtain⟨V,hV⟩:∃V,zCQ p ns=V:=⟨_,rfl⟩
 rw[hV];rw[hV]at hpv;refine zH Tryz.func58 rfl rfl Tryz.ntmps58 rfl ?_
 repeat (first
  |refine vB [0,2,4,5] ?_
  | (refine rG 1 ?_
     refine vA ?_;refine xB Tryz.func31 hC ?_;refine vA ?_;refine aB ?_))
 refine AWp.round (fun k:Nat=>
  zD 87 [(1,.c (lsI ns)),(2,.c (.pt 2 5 0 0)),(4,.c (.pt 4 5 0 0)),(7,.c (.pt 7 5 0 0)),(8,.c (iC (k:Nat)))] [(2,⟨false,1,5,29,lF (pbC p)⟩),(4,⟨false,1,5,29,lF [nl8,nl8,nl8,nl8,nl8]⟩),(7,⟨false,1,5,29,lF [lsR p.R,.ow 120,lsB p.F,.ow 121,lsG p.T]⟩),(120,chB (zCA p.C (ns.take (k)))),(121,bgB (zCB p.O (ns.take (k))))] [2,4,7,120,121]
  ) (fun k=>k≤ns.length∧∀i,i<k→0≤fI ns i∧fI ns i<p.C.length∧(0<i→fI ns (i-1)<fI ns i)) (fun k=>ns.length-k) 0 ⟨Nat.zero_le _,fun _ h=>absurd h (Nat.not_lt_zero _)⟩ ?_ (fun k hk=> ?_)
 ·refine Wk.mk [(2,some 2),(4,some 4),(7,some 7),(120,none),(121,none)] rfl rfl rfl ?_ ?_
  ·exact zB
  ·exact⟨hSm,hSm,HeapOk.box rfl rfl ⟨LeC.refl _ rfl,LeC.nil _ rfl,LeC.refl _ rfl,LeC.nil _ rfl,LeC.refl _ rfl,trivial⟩ rfl,HeapOk.nil rfl rfl,HeapOk.nil rfl rfl,trivial⟩
 obtain⟨hk,hok⟩:=hk
 by_cases hkl:k<ns.length;rotate_left
 ·have hkl':¬(k:Int)<ns.length:=by omega
  obtain rfl:k=ns.length:=by omega
  rw[if_pos (nmOk_iff.2 hok)]at hpv;rw[hpv];refine vB [6] ?_;refine AWp.weak (S':=zD 87 [(4,.c (.pt 4 5 0 0)),(7,.c (.pt 7 5 0 0))] [(4,⟨false,1,5,29,lF [nl8,nl8,nl8,nl8,nl8]⟩),(7,⟨false,1,5,29,lF (pbC (zAV p ns))⟩)] [4,7]) (Wk.mk [(4,some 4),(7,some 7)] rfl rfl rfl ?_ ?_) ?_
  ·exact zB
  ·rw[List.take_length]
   exact⟨hSm,HeapOk.box rfl rfl ⟨LeC.refl _ rfl,zAn rfl rfl rfl (fun _ _ _ _=>⟨rfl,rfl⟩),LeC.refl _ rfl,zAn rfl rfl rfl (fun i _ j _=>⟨rfl,zM zAs _ i j⟩),LeC.refl _ rfl,trivial⟩ rfl,trivial⟩
  refine vB [12] ?_
  refine⟨zD 87 [(4,.c (.pt 4 5 0 0)),(5,.c (iC 0))] [(4,⟨false,1,5,29,lF (pbC (zAV p ns))⟩)] [4],[(4,⟨false,1,5,29,lF (pbC (zAV p ns))⟩)],Wk.mk [(4,some 4)] rfl rfl rfl ?_ ?_,rfl,rfl,ARets.two (x:=.ag _) (y:=.c _) (ARes.box zA rfl rfl rfl rfl rfl rfl rfl) (ARes.tmp rfl rfl)⟩
  ·exact zB
  ·exact⟨hSm,trivial⟩
 have hkl':(k:Int)<ns.length:=by omega
 have bad:¬(0≤fI ns k∧fI ns k<p.C.length∧(0<k→fI ns (k-1)<fI ns k))→V=(pbZ,1):=fun h=>by rw[hpv,zNq hkl h];rfl
 by_cases c1:fI ns k<0
 ·rw[bad fun h=>by omega]
  repeat (first
   |refine vB [6,9] ?_
   |(refine AWp.draw (id:=8) zI ?_;refine xE2 ?_;refine zG (aP (k:=k) zA) ?_;(iterate 28 refine vA ?_);refine aB ⟨by kernel_rfl,?_⟩))
  refine⟨zD 87 [(4,.c (.pt 4 5 0 0)),(5,.c (iC (1)))] [(4,⟨false,1,5,29,lF (pbC pbZ)⟩)] [4],[(4,⟨false,1,5,29,lF (pbC pbZ)⟩)],Wk.mk [(4,some 4)] rfl rfl rfl ?_ ?_,rfl,rfl,ARets.two (x:=.ag _) (y:=.c _) (ARes.box zA rfl rfl rfl rfl rfl rfl rfl) (ARes.tmp rfl rfl)⟩
  ·exact zB
  ·exact⟨HeapOk.box rfl rfl ⟨LeC.nils _ _,LeC.nils _ _,LeC.nils _ _,LeC.nils _ _,LeC.nils _ _,trivial⟩ rfl,trivial⟩
 by_cases c2:fI ns k≥p.C.length
 ·rw[bad fun h=>by omega]
  repeat (first
   |refine vB [6,9] ?_
   |(refine AWp.draw (id:=8) zI ?_;refine xE2 ?_;refine zG (aP (k:=k) zA) ?_;refine xE5 ?_;refine zG (aP (k:=k) zA) ?_;(iterate 22 refine vA ?_);refine aB ⟨by kernel_rfl,?_⟩))
  refine⟨zD 87 [(4,.c (.pt 4 5 0 0)),(5,.c (iC (1)))] [(4,⟨false,1,5,29,lF (pbC pbZ)⟩)] [4],[(4,⟨false,1,5,29,lF (pbC pbZ)⟩)],Wk.mk [(4,some 4)] rfl rfl rfl ?_ ?_,rfl,rfl,ARets.two (x:=.ag _) (y:=.c _) (ARes.box zA rfl rfl rfl rfl rfl rfl rfl) (ARes.tmp rfl rfl)⟩
  ·exact zB
  ·exact⟨HeapOk.box rfl rfl ⟨LeC.nils _ _,LeC.nils _ _,LeC.nils _ _,LeC.nils _ _,LeC.nils _ _,trivial⟩ rfl,trivial⟩
 obtain⟨j,hj⟩:=Int.eq_ofNat_of_zero_le (show 0≤fI ns k by omega)
 have hjl:j<p.C.length:=by omega
 have hjo:j<p.O.length:=by omega
 have hcF:chF p.C j 0=lsB (p.C.getD j []):=rfl;have hL32:=hfit.l _ (zAO (L:=p.C) (k:=j) (z:= []) hjl)
 skip
 have go:(0<k→fI ns (k-1)<fI ns k)→k+1≤ns.length∧∀i,i<k+1→0≤fI ns i∧fI ns i<p.C.length∧(0<i→fI ns (i-1)<fI ns i):=fun h=>⟨hkl,fun i hi=>by
  by_cases e:i=k
  ·rw[e];exact⟨by omega,by omega,h⟩
  ·exact hok i xD⟩
 have l1:(zCA p.C (ns.take k)).length=k:=by rw[List.length_map,List.length_take];omega
 have l2:(zCB p.O (ns.take k)).length=k:=by rw[List.length_map,List.length_take];omega
 have l3:(zCA p.C (ns.take (k+1))).length=k+1:=by rw[List.length_map,List.length_take];omega
 have l4:(zCB p.O (ns.take (k+1))).length=k+1:=by rw[List.length_map,List.length_take];omega
 have e1:zCA p.C (ns.take (k+1))=zCA p.C (ns.take k)++ [p.C.getD j []]:=(zHq (fun n=>p.C.getD n.toNat []) hkl).trans (by rw[hj];rfl)
 have e2:zCB p.O (ns.take (k+1))=zCB p.O (ns.take k)++ [p.O.getD j bgZ]:=(zHq (fun n=>p.O.getD n.toNat bgZ) hkl).trans (by rw[hj];rfl)
 have ng:fI ns k=(j:Int):=hj
 obtain⟨q1,hq1⟩:∃q,zCA p.C (ns.take k)=q:=⟨_,rfl⟩
 obtain⟨q2,hq2⟩:∃q,zCB p.O (ns.take k)=q:=⟨_,rfl⟩
 rw[hq1]at l1 e1;rw[hq2]at l2 e2;have lq1:q1.length≤1000000:=by omega
 have lq2:q2.length≤1000000:=by omega
 rw[hq1,hq2];by_cases c3:k=0
 ·have g:=go fun h=>by omega
  have c3':¬(k:Int)>0:=by omega
  repeat (first
   |refine vB [6,7] ?_
   |(refine AWp.draw (id:=8) zI ?_;refine xE2 ?_;refine zG (aP (k:=k) zA) ?_;refine xE5 ?_;refine zG (aP (k:=k) zA) ?_;(iterate 22 refine vA ?_);refine aB ⟨by kernel_rfl,?_⟩)
   |(refine AWp.draw (id:=10) zI ?_;refine xE6 ?_;refine zG (aP (k:=k) zA) ?_;refine vA ?_;refine zG (aP (k:=j) zA) ?_;refine zAw zA (hcF) rfl rfl rfl rfl rfl oM ?_;refine vA ?_;refine zA4 zA rfl rfl rfl rfl rfl rfl rfl rfl rfl rfl oM oM ?_;refine xE2 ?_;refine aB ⟨by kernel_rfl,?_⟩)
   |(refine AWp.draw (id:=11) zI ?_;refine xE6 ?_;refine zG (aP (k:=k) zA) ?_;refine vA ?_;refine zG (aP (k:=j) zA) ?_;refine xE2 ?_;refine zA4 zA rfl rfl rfl rfl rfl rfl rfl rfl rfl rfl oM oM ?_;refine xE2 ?_;refine aB ⟨by kernel_rfl,?_⟩))
  refine⟨k+1,g,?_,by omega⟩
  rw[e1,e2];refine Wk.mk [(2,some 2),(4,some 4),(7,some 7),(120,some 71),(121,some 84)] rfl rfl rfl ?_ ?_
  ·exact zB
  ·exact⟨hSm,hSm,HeapOk.box rfl rfl ⟨LeC.refl _ rfl,LeC.ow _ _ rfl,LeC.refl _ rfl,LeC.ow _ _ rfl,LeC.refl _ rfl,trivial⟩ rfl,HeapOk.row rfl rfl List.length_append (zEZ _ _),HeapOk.row rfl rfl List.length_append (zBW _ _ zAs rfl),trivial⟩
 ·have c3':(k:Int)>0:=by omega
  have hk1:((k-1:Nat):Int)=(k:Int)-1:=by omega
  by_cases c4:fI ns k≤fI ns (k-1)
  ·rw[bad fun h=>by have:=h.2.2 xD;omega]
   repeat (first
    |refine vB [6,9] ?_
    |(refine AWp.draw (id:=8) zI ?_;refine xE2 ?_;refine zG (aP (k:=k) zA) ?_;refine xE5 ?_;refine zG (aP (k:=k) zA) ?_;refine zDG ?_;refine zG (aP (k:=k) zA) ?_;refine xE4 ?_;refine zG (aP (k:=k-1) zA) ?_;refine xE4 ?_;refine aB ⟨by kernel_rfl,?_⟩))
   refine⟨zD 87 [(4,.c (.pt 4 5 0 0)),(5,.c (iC (1)))] [(4,⟨false,1,5,29,lF (pbC pbZ)⟩)] [4],[(4,⟨false,1,5,29,lF (pbC pbZ)⟩)],Wk.mk [(4,some 4)] rfl rfl rfl ?_ ?_,rfl,rfl,ARets.two (x:=.ag _) (y:=.c _) (ARes.box zA rfl rfl rfl rfl rfl rfl rfl) (ARes.tmp rfl rfl)⟩
   ·exact zB
   ·exact⟨HeapOk.box rfl rfl ⟨LeC.nils _ _,LeC.nils _ _,LeC.nils _ _,LeC.nils _ _,LeC.nils _ _,trivial⟩ rfl,trivial⟩
  ·have g:=go fun h=>by omega
   repeat (first
    |refine vB [6,7] ?_
    |(refine AWp.draw (id:=8) zI ?_;refine xE2 ?_;refine zG (aP (k:=k) zA) ?_;refine xE5 ?_;refine zG (aP (k:=k) zA) ?_;refine zDG ?_;refine zG (aP (k:=k) zA) ?_;refine xE4 ?_;refine zG (aP (k:=k-1) zA) ?_;refine xE4 ?_;refine aB ⟨by kernel_rfl,?_⟩)
    |(refine AWp.draw (id:=10) zI ?_;refine xE6 ?_;refine zG (aP (k:=k) zA) ?_;refine vA ?_;refine zG (aP (k:=j) zA) ?_;refine zAw zA (hcF) rfl rfl rfl rfl rfl oM ?_;refine vA ?_;refine zA4 zA rfl rfl rfl rfl rfl rfl rfl rfl rfl rfl oM oM ?_;refine xE2 ?_;refine aB ⟨by kernel_rfl,?_⟩)
    |(refine AWp.draw (id:=11) zI ?_;refine xE6 ?_;refine zG (aP (k:=k) zA) ?_;refine vA ?_;refine zG (aP (k:=j) zA) ?_;refine xE2 ?_;refine zA4 zA rfl rfl rfl rfl rfl rfl rfl rfl rfl rfl oM oM ?_;refine xE2 ?_;refine aB ⟨by kernel_rfl,?_⟩))
   refine⟨k+1,g,?_,by omega⟩
   rw[e1,e2];refine Wk.mk [(2,some 2),(4,some 4),(7,some 7),(120,some 71),(121,some 84)] rfl rfl rfl ?_ ?_
   ·exact zB
   ·exact⟨hSm,hSm,HeapOk.box rfl rfl ⟨LeC.refl _ rfl,LeC.ow _ _ rfl,LeC.refl _ rfl,LeC.ow _ _ rfl,LeC.refl _ rfl,trivial⟩ rfl,HeapOk.row rfl rfl List.length_append (zEZ _ _),HeapOk.row rfl rfl List.length_append (zBW _ _ zAs rfl),trivial⟩
def zCJ(ll:List (List Int)):List (List Int):=(ll.take 16).map fun l=>l.take 40
theorem zIL(ll:List (List Int)):(zCJ ll).length=min ll.length 16:=by
 unfold zCJ;rw[List.length_map,List.length_take]
 omega
theorem zL5(ll:List (List Int)){k:Nat}(hk:k<min ll.length 16):(zCJ ll).getD k []=(ll.getD k []).take 40:=by
 unfold zCJ;rw[List.getD_eq_getElem?_getD,List.getElem?_map,List.getElem?_take,if_pos xD,List.getD_eq_getElem?_getD,List.getElem?_eq_getElem xD]
 rfl
theorem zQQ(ll:List (List Int)):LlOk (zCJ ll):=by
 refine⟨by rw[zIL];omega,fun k hk=> ?_⟩
 rw[zIL]at hk;rw[zL5 ll hk,List.length_take]
 omega
theorem zTe(l:List Int)(m:Nat){k:Nat}(hk:k<min l.length m):fI (l.take m) k=fI l k:=by
 show(l.take m).getD k 0=l.getD k 0
 rw[List.getD_eq_getElem?_getD,List.getD_eq_getElem?_getD,List.getElem?_take,if_pos xD]
theorem zQR(ll:List (List Int)):Cv (.ls (min ll.length 16) 1 (cuF ll)) (lsL (zCJ ll)):=by
 have e:=zIL ll;show Cv _ (.ls (zCJ ll).length 1 _);rw[e];refine zEe fun k hk j hj O w u h=> ?_
 show RepI O w (.ls ((zCJ ll).getD k []).length 1 (iF (fI ((zCJ ll).getD k [])))) u;rw[zL5 ll hk,show((ll.getD k []).take 40).length=min (ll.getD k []).length 40 by rw[List.length_take];omega]
 refine zHA (fun i hi j hj=> ?_) h;show iC (fI (ll.getD k []) (0+i))=iC (fI ((ll.getD k []).take 40) i);rw[Nat.zero_add,zTe _ _ hi]
theorem zQq(O:List Bg):∀i,i<O.length+1→∀j,j<4→zAh (sF (bgC bgZ) 4) 1 (zV bgC bgZ O) i j=zV bgC bgZ (bgZ::O) i j∧zK (zAh (sF (bgC bgZ) 4) 1 (zV bgC bgZ O) i j)=true:=fun i _ j hj=>by
 cases i with
 | zero=>
   match j,hj with
   |0,_|1,_|2,_|3,_=>exact⟨rfl,rfl⟩
 | succ i=>
   have e:zAh (sF (bgC bgZ) 4) 1 (zV bgC bgZ O) (i+1) j=zV bgC bgZ O i j:=by
    unfold zAh;have:Nat.blt (i+1) 1=false:=by
     cases h:Nat.blt (i+1) 1 with
     |false=>rfl
     |true=>have:=Nat.blt_eq.mp h;omega
    first|rw[this]|skip
    rfl
   rw[e]
   exact⟨rfl,zM zAs O i j⟩
theorem zSk{r:Rd}{a b:Bp}{x y:Bg}(h:rcB r a b x y=true):zDT r a b x y (rcC r a b x y)=true:=by
 unfold rcB at h;rw[Bool.and_eq_true,Bool.and_eq_true]at h
 obtain⟨h1,h2,h3⟩:=h
 unfold zDT isB rcC;rw[h1,h2,Bool.true_and,Bool.true_and];unfold zCw at h3⊢;by_cases hok:zBp (zAC r a) (zAC r b)
 ·rw[if_pos hok]at h3⊢
  unfold zE2 at h3⊢
  cases hf:(alL (zAC r a).W x y).find? (zEx (zAC r a) (zAC r b) x y)with
  |none=>rw[hf]at h3;cases h3
  | some d=>
    show(decide (d∈alL (zAC r a).W x y) && decide (xsV (zAC r a) (zAC r b) x y d≤0))=true
    rw[decide_eq_true (List.mem_of_find?_eq_some hf),Bool.true_and]
    exact(show zEx (zAC r a) (zAC r b) x y d=true from List.find?_some hf)
 ·rw[if_neg hok]at h3
  cases h3
theorem zLR{a b:Bp}{x y:Bg}:∀{L:List Rd} {k:Nat},(zB6 a b x y L k).2.2=true→∃m,m<L.length∧zB6 a b x y L k=(k+m,rcC (L.getD m rdZ) a b x y,true)∧rcB (L.getD m rdZ) a b x y=true
 | [],k,h=>by cases h
 | r ::L,k,h=>by
   cases hr:rcB r a b x y with
   |true=>exact⟨0,by simp,by unfold zB6;rw[if_pos hr];rfl,hr⟩
   | false=>
     have e:zB6 a b x y (r::L) k=zB6 a b x y L (k+1):=by rw[zB6,if_neg (by rw[hr];simp)]
     rw[e]at h
     obtain⟨m,h1,h2,h3⟩:=zLR h
     exact⟨m+1,by simpa using h1,by rw[e,h2,Nat.add_assoc,Nat.add_comm 1];rfl,h3⟩
theorem zS1(p:Pb)(ch:List Int)(c:Nat):(zBa p ch c).nm=ch.length∧(zBa p ch c).ch=c:=by
 unfold zBa
 cases (List.range (p.F.length+ch.length)).find? fun k=>(zAU p ch c k).2.2<;>exact⟨rfl,rfl⟩
theorem zOo{p:Pb}{ch:List Int}{c:Nat}(h:(zBa p ch c).dp=true):zBa p ch c=zA6 ch.length c∧∀k,k<p.F.length+ch.length→(zAU p ch c k).2.2=false:=by
 unfold zBa at h⊢
 cases hf:(List.range (p.F.length+ch.length)).find? fun k=>(zAU p ch c k).2.2 with
 |some k=>rw[hf]at h;cases h
 | none=>
   refine⟨rfl,fun k hk=> ?_⟩
   rw[List.find?_eq_none]at hf
   simpa using hf k (List.mem_range.2 hk)
theorem zS0{p:Pb}{ch:List Int}{c:Nat}(h:(zBa p ch c).dp=false):zDj p ch c (zBa p ch c)=true:=by
 unfold zBa at h⊢
 cases hf:(List.range (p.F.length+ch.length)).find? fun k=>(zAU p ch c k).2.2 with
 |none=>rw[hf]at h;cases h
 | some k=>
   have hk:=List.mem_range.1 (List.mem_of_find?_eq_some hf);have ht:(zAU p ch c k).2.2=true:=List.find?_some (p:=fun k=>(zAU p ch c k).2.2) hf
   obtain⟨m,h1,h2,h3⟩:=zLR (show(zB6 _ _ _ _ (rdL p.R) 0).2.2=true from ht)
   have h2':zAU p ch c k=(0+m,rcC ((rdL p.R).getD m rdZ) _ _ _ _,true):=h2;show zDj p ch c ⟨ch.length,c,obN p k,(zAU p ch c k).1,false,(zAU p ch c k).2.1⟩=true;rw[h2'];unfold zDj;rw[Bool.and_eq_true,decide_eq_true_eq]
   refine⟨⟨?_,?_,?_,?_⟩,?_⟩
   ·show obN p k<ch.length
    unfold obN
    split<;>omega
   ·show -(p.F.length:Int)≤obN p k
    unfold obN
    split<;>omega
   ·show(0:Int)≤((0+m:Nat):Int)
    omega
   ·show((0+m:Nat):Int)<(rdL p.R).length
    omega
   ·show zDT ((rdL p.R).getD (((0+m:Nat):Int)).toNat rdZ) _ _ _ _ _=true
    rw[show(((0+m:Nat):Int)).toNat=m by omega];exact zSk h3
def zDF(p:Pb)(m:Nat)(ch:List Int)(c k:Nat):List Stp:=(List.range k).flatMap fun i=>zCS p m ch (c+i)
theorem zTK{p:Pb}{m:Nat}{ch:List Int}{c k:Nat}:zDF p m ch c (k+1)=zCS p m ch c++zDF p m ch (c+1) k:=by
 unfold zDF;rw[List.range_succ_eq_map,List.flatMap_cons,List.flatMap_map]
 congr 2
 funext i
 show zCS p m ch (c+(i+1))=_;rw[Nat.add_comm i 1,←Nat.add_assoc]
theorem zTL{p:Pb}{m:Nat}{ch:List Int}:zA3 p (m+1) ch=zDF p m ch 0 (p.C.getD ch.length []).length:=by
 unfold zA3 zDF zCS
 simp only[Nat.zero_add]
theorem zMG(p:Pb):∀(m:Nat) (ch:List Int) (rest:List Stp),zDP p m ch→zBr p m ch (zA3 p m ch++rest)=some rest
 |0,_,_,h=>h.elim
 | m + 1,ch,rest,h=>by
   have key:∀k c,c+k=(p.C.getD ch.length []).length→zCL p (zBr p m) ch k c (zDF p m ch c k++rest)=some rest:=fun k=>by
    induction k with
    |zero=>intro c _;rfl
    | succ k ih=>
      intro c hc;have hs:zFl p (zBr p m) ch c (zDF p m ch c (k+1)++rest)=some (zDF p m ch (c+1) k++rest):=by
       rw[zTK];unfold zCS;rw[List.cons_append,List.cons_append]
       show(if _ then _ else _)=_
       rw[if_pos (zS1 p ch c)]
       cases hd:(zBa p ch c).dp with
       | true=>
         rw[if_pos rfl,if_pos (zOo hd).1,if_pos rfl,List.append_assoc];exact zMG p m _ _ (h c xD hd)
       | false=>
         rw[if_neg (by simp),if_pos (zS0 hd),if_neg (by simp),List.nil_append]
      show(zFl p (zBr p m) ch c (zDF p m ch c (k+1)++rest)).bind (zCL p (zBr p m) ch k (c+1))=_
      rw[hs];exact ih (c+1) xD
   rw[zTL];exact key _ 0 (Nat.zero_add _)
theorem zHT{p:Pb}(hl:∀l∈p.C,l.length≤4):∀(m:Nat) (ch:List Int),((zA3 p m ch).length:Int)≤stT m
 |0,_=>Int.le_refl _
 | m + 1,ch=>by
   have hT:=zJN m;have key:∀k,((zAI p m ch k).length:Int)≤k*(1+stT m):=fun k=>by
    induction k with
    |zero=>simp[zAI]
    | succ k ih=>
      rw[zFr,List.length_append];have h1:((zCS p m ch k).length:Int)≤1+stT m:=by
       unfold zCS;have:=zHT hl m (ch++ [(k:Int)]);rw[List.length_cons]
       split
       ·omega
       ·simp only[List.length_nil];omega
      rw[Int.natCast_add,Int.natCast_add,Int.add_mul]
      simp only[Int.natCast_one,Int.one_mul]
      omega
   have h4:(p.C.getD ch.length []).length≤4:=by
    by_cases h:ch.length<p.C.length
    ·exact hl _ (zAO h)
    ·rw[List.getD_eq_getElem?_getD,List.getElem?_eq_none xD];exact Nat.zero_le _
   have h5:((p.C.getD ch.length []).length:Int)*(1+stT m)≤4*(1+stT m):=Int.mul_le_mul_of_nonneg_right xD xD;exact Int.le_trans (key _) h5
theorem zL7{p:Pb}:∀(m:Nat) (ch:List Int),ch.length+m=p.C.length→GoodC p ch→(∀e,e.length=m→¬GoodC p (ch++e))→zDP p m ch
 |0,ch,_,hg,hn=>hn [] rfl (by rw[List.append_nil];exact hg)
 | m +1,ch,hm,hg,hn=>fun c hc hd=>by
   obtain⟨-,h0⟩:=zOo hd
   refine zL7 m (ch++ [(c:Int)]) (by simp;omega) (fun k hk=> ?_) (fun e he h=>hn ((c:Int)::e) (by simp[he]) (by rw[List.append_assoc]at h;exact h))
   rw[List.length_append,List.length_singleton]at hk;by_cases e:k=ch.length
   ·subst e
    rw[step_iff,zEt]
    refine⟨⟨by omega,by omega⟩,fun j hj=> ?_,fun j hj=> ?_⟩
    ·rw[zEt,show((c:Int)).toNat=c from rfl]
     have:=h0 j xD;unfold zAU obN at this;rw[if_pos hj,(obB_f (ch:=ch)).1,(obB_f (ch:=ch)).2]at this;exact this
    ·rw[zEt,show((c:Int)).toNat=c from rfl,zDR ch c j hj]
     have:=h0 (p.F.length+j) xD;unfold zAU obN at this;rw[if_neg xD,show((p.F.length+j:Nat):Int)-p.F.length=(j:Int) by omega]at this;unfold obB obG at this;rw[if_neg xD,if_neg xD,show((j:Int)).toNat=j from rfl]at this;exact this
   ·exact zOn (fun j hj=>(zDR ch c j xD).symm) (hg k xD)
theorem zRR{p:Pb}(h:¬Sol p):∀e,e.length=p.C.length→¬GoodC p ([]++e):=fun e he hg=>h ⟨fI e,fun k hk=>hg k (by rw[List.nil_append,he];exact hk)⟩
theorem zJd{p:Pb}(sp:Sm p)(h:zAJ p=0):zDP p p.C.length []∧(zA3 p p.C.length []).length≤1000000:=by
 refine⟨zL7 _ [] (Nat.zero_add _) (fun k hk=>absurd hk (Nat.not_lt_zero _)) (zRR fun hs=> ?_),?_⟩
 ·have:=(zJM sp).2 hs
  rw[(zFp sp).1 h]at this
  cases this
 ·have h1:=zHT (fun l hl=>(sp.Cc l hl).1) p.C.length []
  have h2:stT p.C.length≤20000:=by
   have:=sp.C;have:p.C.length=0∨p.C.length=1∨p.C.length=2∨p.C.length=3∨p.C.length=4∨p.C.length=5:=by omega
   rcases this with h|h|h|h|h|h<;>rw[h]<;>decide
  omega
theorem zSn{p:Pb}(sp:Sm p)(h:(zBV p).2=0):zE0 p (zBV p).1=0:=by
 unfold zBV at h⊢;rw[if_pos sp.chk]at h⊢;by_cases hu:zAJ p=0
 ·rw[if_pos hu]
  unfold zE0;rw[if_pos sp.chk];have:=zMG p p.C.length [] [] (zJd sp hu).1;rw[List.append_nil]at this;rw[if_pos this]
 ·rw[if_neg hu]at h
  exact absurd h hu
end Go.Proofs.YtpefnljgalpllaaGreat
end
