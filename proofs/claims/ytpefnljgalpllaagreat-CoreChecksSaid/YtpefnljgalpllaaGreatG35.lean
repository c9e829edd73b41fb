/- Parts of the proof: ALd, A29a, A29b. -/
import Derived.Test.YtpefnljgalpllaaGreatG28
import Derived.Test.YtpefnljgalpllaaGreatG34
set_option linter.unusedSimpArgs false
set_option linter.unusedVariables false
set_option maxHeartbeats 0
set_option maxRecDepth 100000
section
namespace Go.AV
open Go Go.RowKit Go.Flow
section
variable{P:Program}{tab:List (TypeId×TD)}{ops:Array Oper}{rest:List Oper}{acc:List (List Nat×List Nat)}{S:St}{Q:List (List Nat×List Nat)→St→Prop}{dst:Option Tmp}{ty:TypeId}{pos:String}{after:Array Edge}{guard:Option (Nat×Bool)}
theorem zAY(T:zAp P tab=true){t:TypeId}{x:Operand}{id sz k j:Nat}{B:AB}{d:TD}{c:CV}(hw:S.wants ops {dst,op:=.load t x,type:=ty,pos,after,guard}=some true)(hd:dOk S.n dst=true)
 (hx:S.opd x=some (.c (.pt id sz k j))) (hh:S.h id=some B) (hs:B.sz=sz) (ht:zD tab t=some d) (hk:zDB d.k=true) (hkn:k<B.n) (hj:j<B.sz) (hl:B.F k j=c)
 (hn:AList P ops rest (([id],[])::acc) (S.eff dst ⟨.c c,[],[]⟩) Q):AList P ops ({dst,op:=.load t x,type:=ty,pos,after,guard}::rest) acc S Q:=by
 subst hl;exact aE T hw hd hx hh hs ht hk hkn hj hn
end
end Go.AV
end
section
namespace Go.Proofs.YtpefnljgalpllaaGreat
open Go.RowKit Go.Flow Go.AV Go.Plain
abbrev zEA(C:List (List Bp))(ns:List Int):List (List Bp):=ns.map fun n=>C.getD n.toNat []
abbrev zEB(O:List Bg)(ns:List Int):List Bg:=ns.map fun n=>O.getD n.toNat bgZ
def zRH(n:Nat)(ns:List Int)(k:Nat):Bool:=decide (0≤fI ns k∧fI ns k<n∧(0<k→fI ns (k-1)<fI ns k))
def zA9(n:Nat)(ns:List Int):Bool:=(List.range ns.length).all (zRH n ns)
def zBf(p:Pb)(ns:List Int):Pb:=⟨p.R,zEA p.C ns,p.F,zEB p.O ns,p.T⟩
def zEy(p:Pb)(ns:List Int):Pb×Int:=if zAA p=0 then (if zA9 p.C.length ns=true then (zBf p ns,0)else (pbZ,1))else (pbZ,zAA p)
theorem nmOk_iff{n:Nat}{ns:List Int}:zA9 n ns=true↔∀k,k<ns.length→0≤fI ns k∧fI ns k<n∧(0<k→fI ns (k-1)<fI ns k):=by
 unfold zA9;rw[List.all_eq_true]
 exact⟨fun h k hk=>of_decide_eq_true (h k (List.mem_range.2 hk)),fun h k hk=>decide_eq_true (h k (List.mem_range.1 hk))⟩
theorem zRF{n:Nat}{ns:List Int}{k:Nat}(hk:k<ns.length)(h:¬(0≤fI ns k∧fI ns k<n∧(0<k→fI ns (k-1)<fI ns k))):zA9 n ns=false:=Bool.eq_false_iff.2 fun e=>h (nmOk_iff.1 e k hk)
theorem zNy{α:Type}(f:Int→α){ns:List Int}{k:Nat}(hk:k<ns.length):(ns.take (k+1)).map f=(ns.take k).map f++ [f (fI ns k)]:=by
 rw[List.take_add_one,List.getElem?_eq_getElem hk,List.map_append];show _=_++ [f (ns.getD k 0)];rw[List.getD_eq_getElem?_getD,List.getElem?_eq_getElem hk]
 rfl
theorem zJG(F:Nat→Nat→CV)(m j0:Nat)(x:CV)(i j:Nat):zAD F m j0 1 [x] i j=if i=m∧j=j0 then x else F i j:=by
 unfold zAD;by_cases h1:i=m
 ·subst h1
  rw[Nat.beq_refl,Bool.true_and];by_cases h2:j=j0
  ·subst h2
   rw[if_pos ⟨rfl,rfl⟩,Nat.ble_eq.mpr (Nat.le_refl _),Nat.blt_eq.mpr (Nat.lt_succ_self _),Nat.sub_self]
   rfl
  ·rw[if_neg fun h=>h2 h.2]
   have:(Nat.ble j0 j && Nat.blt j (j0+1))=false:=by
    refine Bool.eq_false_iff.2 fun h=>h2 ?_
    rw[Bool.and_eq_true]at h;have a:=Nat.ble_eq.mp h.1;have b:=Nat.blt_eq.mp h.2
    omega
   rw[this]
   rfl
 ·rw[if_neg fun h=>h1 h.1,show Nat.beq i m=false from Bool.eq_false_iff.2 fun e=>h1 (Nat.eq_of_beq_eq_true e)]
  rfl
theorem zLZ(L:List Bp)(hl:L.length≤1000000)(hb:∀k,k<L.length→(L.getD k bpZ).n≤1000000):ACalls Tryz.prog 53 [.c (lsB L)] (.c (lsB L)):=by
 by_cases h0:L.length=0
 ·obtain rfl:L= []:=List.eq_nil_of_length_eq_zero h0
  have hC:=zOZ 0 (zS bpC bpZ []) (fun k hk=>absurd hk (Nat.not_lt_zero _)) xD;refine zH Tryz.func53 rfl rfl Tryz.ntmps53 rfl ?_
  repeat (first
   |refine vB [0,2] ?_
   | (refine rG 1 ?_
      refine vA ?_;refine xB Tryz.func69 hC ?_;refine vA ?_;refine aB ?_))
  refine AWp.round (fun _:Nat=>zC 24 [(3,.c (lsB [])),(8,.c (iC 0)),(9,.c (iC 0))] [] []) (fun _=>True) (fun _=>0) 0 trivial ?_ (fun k _=> ?_)
  ·refine Wk.mk [] rfl rfl rfl ?_ trivial
   exact zB
  refine vB [3,7] ?_
  refine⟨zC 24 [(2,.c (lsB []))] [] [],[],Wk.mk [] rfl rfl rfl ?_ trivial,rfl,rfl,aR1⟩
  exact zB
 ·have h0:0<L.length:=Nat.pos_of_ne_zero h0
  have hC:=zO0 L.length (zS bpC bpZ L) (fun k _ j _=>zQ zAG L k j) h0 hl
  obtain⟨n,hn⟩:∃n,L.length=n:=⟨_,rfl⟩
  refine zH Tryz.func53 rfl rfl Tryz.ntmps53 rfl ?_
  repeat (first
   |refine vB [0,2] ?_
   | (refine rG 1 ?_
      refine vA ?_;refine AList.callG [] [6] [] [] [bpB L] [] [bpB L] rfl rfl FnV.func rfl Tryz.func69 rfl xC (trivial) rfl (.c (.owN 0 6 rfl)) (trivial) (⟨⟨_,rfl,fun i _ j _=>.imm _ (zQ zAG L i j)⟩,trivial⟩) (hC) ?_;refine vA ?_;refine aB ?_))
  refine AWp.round (fun k:Nat=>zC 24 [(3,.c (.ow 6)),(8,.c (iC L.length)),(9,.c (iC k))] [(6,bpB L)] [6]) (fun k=>k≤L.length) (fun k=>L.length-k) 0 (Nat.zero_le _) ?_ (fun k hk=> ?_)
  ·refine Wk.mk [(6,some 6)] rfl rfl rfl ?_ ?_
   ·exact zB
   ·exact⟨hrF zAG,trivial⟩
  by_cases hkl:k<L.length
  ·have hkl':(k:Int)<L.length:=by omega
   have hb1:=hb k hkl;have hD:=zOX (L.getD k bpZ).n (bF (L.getD k bpZ).d) (fun _ _ _ _=>rfl) hb1;have hcell:zS bpC bpZ L k 2=.ls (L.getD k bpZ).n 1 (bF (L.getD k bpZ).d):=rfl
   repeat (first
    |refine vB [3,4,6] ?_
    | (refine rG 5 ?_
       refine xE4 ?_;refine zM (zL (k:=k) zA) ?_;refine vA ?_;refine zAY zA rfl rfl rfl rfl rfl rfl rfl oM oM (hcell) ?_;refine xB Tryz.func70 hD ?_;refine zM (zL (k:=k) zA) ?_;refine xE2 ?_;refine aB ?_))
   refine⟨k+1,hkl,Wk.mk [(6,some 6)] rfl rfl rfl ?_ ?_,by omega⟩
   ·exact zB
   ·refine⟨HeapOk.row rfl rfl rfl (fun i _ j _=> ?_),trivial⟩
    have e:zAD (zS bpC bpZ L) k 2 1 [.ls (L.getD k bpZ).n 1 (bF (L.getD k bpZ).d)] i j=zS bpC bpZ L i j:=by
     rw[zJG];by_cases h:i=k∧j=2
     ·rw[if_pos h,h.1,h.2];rfl
     ·rw[if_neg h]
    exact⟨e,by rw[e];exact zQ zAG _ i j⟩
  ·have hkl':¬(k:Int)<L.length:=by omega
   refine vB [3,7] ?_
   refine⟨zC 24 [(2,.c (lsB L))] [] [],[],Wk.mk [] rfl rfl rfl ?_ trivial,rfl,rfl,aR1⟩
   exact⟨⟨_,rfl,.c (zAl rfl rfl rfl (fun i _ j _=>⟨rfl,zQ zAG _ i j⟩))⟩,trivial⟩
theorem zLk{W H:Int}:∀{L:List Bp},bmE W H L=0→∀b∈L,chk b.W b.H b.n=0∧b.W=W∧b.H=H
 | [],_,b,hb=>by cases hb
 | a ::L,h,b,hb=>by
   unfold bmE at h;by_cases h1:chk a.W a.H a.n=0
   ·rw[if_pos h1]at h
    by_cases h2:a.W=W∧a.H=H
    ·rw[if_pos h2]at h
     rcases List.mem_cons.1 hb with rfl|hb
     ·exact⟨h1,h2⟩
     ·exact zLk h b hb
    ·rw[if_neg h2]at h;cases h
   ·rw[if_neg h1]at h;exact absurd h h1
theorem zLH{p:Pb}(h:zAA p=0):∀b∈zCx p,chk b.W b.H b.n=0∧b.W=((zCx p).getD 0 bpZ).W∧b.H=((zCx p).getD 0 bpZ).H:=by
 unfold zAA at h;by_cases h1:4<p.R.length∨200<p.C.length∨200<p.F.length
 ·rw[if_pos h1]at h;cases h
 rw[if_neg h1]at h;by_cases h2:p.C.any (fun l=>decide (32<l.length))=true
 ·rw[if_pos h2]at h;cases h
 rw[if_neg h2]at h;by_cases h3:zDE p.R=0
 ·rw[if_pos h3]at h
  by_cases h4:p.O.length=p.C.length∧p.T.length=p.F.length
  ·rw[if_pos h4]at h
   exact zLk h
  ·rw[if_neg h4]at h;cases h
 ·rw[if_neg h3]at h;exact absurd h h3
theorem zLL{W H:Int}{n:Nat}(h:chk W H n=0):n≤9216:=by
 obtain⟨h1,h2,h3,h4,h5⟩:=okB h
 have:(n:Int)≤9216:=by
  rw[h5];exact Int.le_trans (Int.mul_le_mul_of_nonneg_right h2 h3) xD
 omega
theorem zQv{p:Pb}(h:zAA p=0):(∀b∈p.F,b.n≤9216)∧∀l∈p.C,∀b∈l,b.n≤9216:=
 ⟨fun b hb=>zLL (zLH h b (List.mem_append_right _ hb)).1,fun l hl b hb=>zLL (zLH h b (List.mem_append_left _ (List.mem_flatten.2 ⟨l,hl,hb⟩))).1⟩
theorem zPl(p:Pb)(hp:p.ok)(ns:List Int)(hn:ns.length≤1000000):ACalls Tryz.prog 30 [.ag (pbC p),.c (lsI ns)] (.tu [.ag (pbC (zEy p ns).1),.c (iC (zEy p ns).2)]):=by
 have hC:=zFq p hp
 obtain⟨e,he⟩:∃e,zAA p=e:=⟨_,rfl⟩
 rw[he]at hC;by_cases h0:e=0;rotate_left
 ·rw [show zEy p ns=(pbZ,e) by rw[←he]at h0⊢;exact if_neg h0]
  refine zH Tryz.func30 rfl rfl Tryz.ntmps30 rfl ?_
  repeat (first
   |refine vB [0,2,3] ?_
   | (refine rG 1 ?_
      refine vA ?_;refine xB Tryz.func27 hC ?_;refine vA ?_;refine aB ?_))
  refine⟨zC 79 [(4,.c (.pt 4 5 0 0)),(5,.c (iC (e)))] [(4,⟨false,1,5,29,lF (pbC pbZ)⟩)] [4],[(4,⟨false,1,5,29,lF (pbC pbZ)⟩)],Wk.mk [(4,some 4)] rfl rfl rfl ?_ ?_,rfl,rfl,ARets.two (x:=.ag _) (y:=.c _) (ARes.box zA rfl rfl rfl rfl rfl rfl rfl) (ARes.tmp rfl rfl)⟩
  ·exact zB
  ·exact⟨HeapOk.box rfl rfl ⟨LeC.nils _ _,LeC.nils _ _,LeC.nils _ _,LeC.nils _ _,LeC.nils _ _,trivial⟩ rfl,trivial⟩
 subst h0;have hfit:=zEV hp he;have hpv:zEy p ns=if zA9 p.C.length ns=true then (zBf p ns,0)else (pbZ,1):=if_pos he
 have hbn:=zQv he;have lC:=hfit.c;have lF0:=hfit.f;have lO:=hfit.o;have lT:=hfit.t
 obtain⟨V,hV⟩:∃V,zEy p ns=V:=⟨_,rfl⟩
 rw[hV];rw[hV]at hpv;refine zH Tryz.func30 rfl rfl Tryz.ntmps30 rfl ?_
 repeat (first
  |refine vB [0,2,5] ?_
  | (refine rG 1 ?_
     refine vA ?_;refine xB Tryz.func27 hC ?_;refine vA ?_;refine aB ?_)
  |(refine AWp.draw (id:=4) zI ?_;refine xE2 ?_;refine aH rfl rfl rfl rfl Tryz.func52 rfl xC (zO2 p.R.length (zS rdC rdZ p.R) (fun i _ j _=>zQ zBj _ i j) hp.lR) ?_;refine xE2 ?_;refine aH rfl rfl rfl rfl Tryz.func53 rfl xC (zLZ p.F hp.lF (fun k hk=>by have:=hbn.1 _ (zAH (L:=p.F) (k:=k) (z:=bpZ) hk);omega)) ?_;refine xE2 ?_;refine aH rfl rfl rfl rfl Tryz.func54 rfl xC (zOY p.T.length (zS bgC bgZ p.T) (fun i _ j _=>zQ zAu _ i j) hp.lT) ?_;refine xE3 ?_;refine aB ⟨by kernel_rfl,?_⟩))
 refine AWp.round (fun k:Nat=>
  zC 79 [(1,.c (lsI ns)),(2,.c (.pt 2 5 0 0)),(4,.c (.pt 4 5 0 0)),(7,.c (.pt 7 5 0 0)),(26,.c (lsI ns)),(27,.c (iC ns.length)),(28,.c (iC (k:Nat)))] [(2,⟨false,1,5,29,lF (pbC p)⟩),(4,⟨false,1,5,29,lF [nl8,nl8,nl8,nl8,nl8]⟩),(7,⟨false,1,5,29,lF [lsR p.R,.ow 120,lsB p.F,.ow 121,lsG p.T]⟩),(120,chB (zEA p.C (ns.take (k)))),(121,bgB (zEB p.O (ns.take (k))))] [2,4,7,120,121]
  ) (fun k=>k≤ns.length∧∀i,i<k→0≤fI ns i∧fI ns i<p.C.length∧(0<i→fI ns (i-1)<fI ns i)) (fun k=>ns.length-k) 0 ⟨Nat.zero_le _,fun _ h=>absurd h (Nat.not_lt_zero _)⟩ ?_ (fun k hk=> ?_)
 ·refine Wk.mk [(2,some 2),(4,some 4),(7,some 7),(120,none),(121,none)] rfl rfl rfl ?_ ?_
  ·exact zB
  ·exact⟨hSm,hSm,HeapOk.box rfl rfl ⟨LeC.refl _ rfl,LeC.nil _ rfl,LeC.refl _ rfl,LeC.nil _ rfl,LeC.refl _ rfl,trivial⟩ rfl,HeapOk.nil rfl rfl,HeapOk.nil rfl rfl,trivial⟩
 obtain⟨hk,hok⟩:=hk
 by_cases hkl:k<ns.length;rotate_left
 ·have hkl':¬(k:Int)<ns.length:=by omega
  obtain rfl:k=ns.length:=by omega
  rw[if_pos (nmOk_iff.2 hok)]at hpv;rw[hpv];refine vB [6] ?_;refine AWp.weak (S':=zC 79 [(4,.c (.pt 4 5 0 0)),(7,.c (.pt 7 5 0 0))] [(4,⟨false,1,5,29,lF [nl8,nl8,nl8,nl8,nl8]⟩),(7,⟨false,1,5,29,lF (pbC (zBf p ns))⟩)] [4,7]) (Wk.mk [(4,some 4),(7,some 7)] rfl rfl rfl ?_ ?_) ?_
  ·exact zB
  ·rw[List.take_length]
   exact⟨hSm,HeapOk.box rfl rfl ⟨LeC.refl _ rfl,zAl rfl rfl rfl (fun _ _ _ _=>⟨rfl,rfl⟩),LeC.refl _ rfl,zAl rfl rfl rfl (fun i _ j _=>⟨rfl,zQ zAu _ i j⟩),LeC.refl _ rfl,trivial⟩ rfl,trivial⟩
  refine vB [13] ?_
  refine⟨zC 79 [(4,.c (.pt 4 5 0 0)),(5,.c (iC 0))] [(4,⟨false,1,5,29,lF (pbC (zBf p ns))⟩)] [4],[(4,⟨false,1,5,29,lF (pbC (zBf p ns))⟩)],Wk.mk [(4,some 4)] rfl rfl rfl ?_ ?_,rfl,rfl,ARets.two (x:=.ag _) (y:=.c _) (ARes.box zA rfl rfl rfl rfl rfl rfl rfl) (ARes.tmp rfl rfl)⟩
  ·exact zB
  ·exact⟨hSm,trivial⟩
 have hkl':(k:Int)<ns.length:=by omega
 have bad:¬(0≤fI ns k∧fI ns k<p.C.length∧(0<k→fI ns (k-1)<fI ns k))→V=(pbZ,1):=fun h=>by rw[hpv,zRF hkl h];rfl
 by_cases c1:fI ns k<0
 ·rw [bad fun h=>by omega]
  repeat (first
   |refine vB [6,8,9] ?_
   | (refine rG 7 ?_
      refine vA ?_;refine zG (aP (k:=k) zA) ?_;refine xE3 ?_;refine aB ?_))
  refine⟨zC 79 [(4,.c (.pt 4 5 0 0)),(5,.c (iC (1)))] [(4,⟨false,1,5,29,lF (pbC pbZ)⟩)] [4],[(4,⟨false,1,5,29,lF (pbC pbZ)⟩)],Wk.mk [(4,some 4)] rfl rfl rfl ?_ ?_,rfl,rfl,ARets.two (x:=.ag _) (y:=.c _) (ARes.box zA rfl rfl rfl rfl rfl rfl rfl) (ARes.tmp rfl rfl)⟩
  ·exact zB
  ·exact⟨HeapOk.box rfl rfl ⟨LeC.nils _ _,LeC.nils _ _,LeC.nils _ _,LeC.nils _ _,LeC.nils _ _,trivial⟩ rfl,trivial⟩
 by_cases c2:fI ns k≥p.C.length
 ·rw [bad fun h=>by omega]
  repeat (first
   |refine vB [6,8,9] ?_
   | (refine rG 7 ?_
      refine vA ?_;refine zG (aP (k:=k) zA) ?_;refine xE3 ?_;refine aB ?_))
  refine⟨zC 79 [(4,.c (.pt 4 5 0 0)),(5,.c (iC (1)))] [(4,⟨false,1,5,29,lF (pbC pbZ)⟩)] [4],[(4,⟨false,1,5,29,lF (pbC pbZ)⟩)],Wk.mk [(4,some 4)] rfl rfl rfl ?_ ?_,rfl,rfl,ARets.two (x:=.ag _) (y:=.c _) (ARes.box zA rfl rfl rfl rfl rfl rfl rfl) (ARes.tmp rfl rfl)⟩
  ·exact zB
  ·exact⟨HeapOk.box rfl rfl ⟨LeC.nils _ _,LeC.nils _ _,LeC.nils _ _,LeC.nils _ _,LeC.nils _ _,trivial⟩ rfl,trivial⟩
 obtain⟨j,hj⟩:=Int.eq_ofNat_of_zero_le (show 0≤fI ns k by omega)
 have hjl:j<p.C.length:=by omega
 have hjo:j<p.O.length:=by omega
 have hcF:chF p.C j 0=lsB (p.C.getD j []):=rfl;have hL32:=hfit.l _ (zAH (L:=p.C) (k:=j) (z:= []) hjl);have hco:=zLZ (p.C.getD j []) xD fun k hk=>by have:=hbn.2 _ (zAH (L:=p.C) (k:=j) (z:= []) hjl) _ (zAH (L:=p.C.getD j []) (k:=k) (z:=bpZ) hk);omega
 have go:(0<k→fI ns (k-1)<fI ns k)→k+1≤ns.length∧∀i,i<k+1→0≤fI ns i∧fI ns i<p.C.length∧(0<i→fI ns (i-1)<fI ns i):=fun h=>⟨hkl,fun i hi=>by
  by_cases e:i=k
  ·rw[e];exact⟨by omega,by omega,h⟩
  ·exact hok i xD⟩
 have l1:(zEA p.C (ns.take k)).length=k:=by rw[List.length_map,List.length_take];omega
 have l2:(zEB p.O (ns.take k)).length=k:=by rw[List.length_map,List.length_take];omega
 have l3:(zEA p.C (ns.take (k+1))).length=k+1:=by rw[List.length_map,List.length_take];omega
 have l4:(zEB p.O (ns.take (k+1))).length=k+1:=by rw[List.length_map,List.length_take];omega
 have e1:zEA p.C (ns.take (k+1))=zEA p.C (ns.take k)++ [p.C.getD j []]:=(zNy (fun n=>p.C.getD n.toNat []) hkl).trans (by rw[hj];rfl)
 have e2:zEB p.O (ns.take (k+1))=zEB p.O (ns.take k)++ [p.O.getD j bgZ]:=(zNy (fun n=>p.O.getD n.toNat bgZ) hkl).trans (by rw[hj];rfl)
 have ng:fI ns k=(j:Int):=hj
 obtain⟨q1,hq1⟩:∃q,zEA p.C (ns.take k)=q:=⟨_,rfl⟩
 obtain⟨q2,hq2⟩:∃q,zEB p.O (ns.take k)=q:=⟨_,rfl⟩
 rw[hq1]at l1 e1;rw[hq2]at l2 e2;have lq1:q1.length≤1000000:=by omega
 have lq2:q2.length≤1000000:=by omega
 rw[hq1,hq2];by_cases c3:k=0
 ·have g:=go fun h=>by omega
  have c3':¬(k:Int)>0:=by omega
  repeat (first
   |refine vB [6,8,12] ?_
   | (refine rG 7 ?_
      refine vA ?_;refine zG (aP (k:=k) zA) ?_;refine xE3 ?_;refine aB ?_)
   |(refine AWp.draw (id:=10) zI ?_;refine xE5 ?_;refine zG (aP (k:=j) zA) ?_;refine zAq zA (hcF) rfl rfl rfl rfl rfl oM ?_;refine xB Tryz.func53 hco ?_;refine vA ?_;refine zBg zA rfl rfl rfl rfl rfl rfl rfl rfl rfl rfl oM oM ?_;refine xE2 ?_;refine aB ⟨by kernel_rfl,?_⟩)
   |(refine AWp.draw (id:=11) zI ?_;refine xE5 ?_;refine zG (aP (k:=j) zA) ?_;refine xE2 ?_;refine zBg zA rfl rfl rfl rfl rfl rfl rfl rfl rfl rfl oM oM ?_;refine xE2 ?_;refine aB ⟨by kernel_rfl,?_⟩))
  refine⟨k+1,g,?_,by omega⟩
  rw[e1,e2];refine Wk.mk [(2,some 2),(4,some 4),(7,some 7),(120,some 65),(121,some 75)] rfl rfl rfl ?_ ?_
  ·exact zB
  ·exact⟨hSm,hSm,HeapOk.box rfl rfl ⟨LeC.refl _ rfl,LeC.ow _ _ rfl,LeC.refl _ rfl,LeC.ow _ _ rfl,LeC.refl _ rfl,trivial⟩ rfl,HeapOk.row rfl rfl List.length_append (zGL _ _),HeapOk.row rfl rfl List.length_append (zB9 _ _ zAu rfl),trivial⟩
 ·have c3':(k:Int)>0:=by omega
  have hk1:((k-1:Nat):Int)=(k:Int)-1:=by omega
  by_cases c4:fI ns k≤fI ns (k-1)
  ·rw [bad fun h=>by have:=h.2.2 xD;omega]
   repeat (first
    |refine vB [6,9] ?_
    | (refine rG 7 ?_
       refine vA ?_;refine zG (aP (k:=k) zA) ?_;refine xE3 ?_;refine aB ?_)
    | (refine rG 8 ?_
       (iterate 17 refine vA ?_);refine zG (aP (k:=k-1) zA) ?_;refine xE4 ?_;refine aB ?_))
   refine⟨zC 79 [(4,.c (.pt 4 5 0 0)),(5,.c (iC (1)))] [(4,⟨false,1,5,29,lF (pbC pbZ)⟩)] [4],[(4,⟨false,1,5,29,lF (pbC pbZ)⟩)],Wk.mk [(4,some 4)] rfl rfl rfl ?_ ?_,rfl,rfl,ARets.two (x:=.ag _) (y:=.c _) (ARes.box zA rfl rfl rfl rfl rfl rfl rfl) (ARes.tmp rfl rfl)⟩
   ·exact zB
   ·exact⟨HeapOk.box rfl rfl ⟨LeC.nils _ _,LeC.nils _ _,LeC.nils _ _,LeC.nils _ _,LeC.nils _ _,trivial⟩ rfl,trivial⟩
  ·have g:=go fun h=>by omega
   repeat (first
    |refine vB [6,12] ?_
    | (refine rG 7 ?_
       refine vA ?_;refine zG (aP (k:=k) zA) ?_;refine xE3 ?_;refine aB ?_)
    | (refine rG 8 ?_
       (iterate 17 refine vA ?_);refine zG (aP (k:=k-1) zA) ?_;refine xE4 ?_;refine aB ?_)
    |(refine AWp.draw (id:=10) zI ?_;refine xE5 ?_;refine zG (aP (k:=j) zA) ?_;refine zAq zA (hcF) rfl rfl rfl rfl rfl oM ?_;refine xB Tryz.func53 hco ?_;refine vA ?_;refine zBg zA rfl rfl rfl rfl rfl rfl rfl rfl rfl rfl oM oM ?_;refine xE2 ?_;refine aB ⟨by kernel_rfl,?_⟩)
    |(refine AWp.draw (id:=11) zI ?_;refine xE5 ?_;refine zG (aP (k:=j) zA) ?_;refine xE2 ?_;refine zBg zA rfl rfl rfl rfl rfl rfl rfl rfl rfl rfl oM oM ?_;refine xE2 ?_;refine aB ⟨by kernel_rfl,?_⟩))
   refine⟨k+1,g,?_,by omega⟩
   rw[e1,e2];refine Wk.mk [(2,some 2),(4,some 4),(7,some 7),(120,some 65),(121,some 75)] rfl rfl rfl ?_ ?_
   ·exact zB
   ·exact⟨hSm,hSm,HeapOk.box rfl rfl ⟨LeC.refl _ rfl,LeC.ow _ _ rfl,LeC.refl _ rfl,LeC.ow _ _ rfl,LeC.refl _ rfl,trivial⟩ rfl,HeapOk.row rfl rfl List.length_append (zGL _ _),HeapOk.row rfl rfl List.length_append (zB9 _ _ zAu rfl),trivial⟩
end Go.Proofs.YtpefnljgalpllaaGreat
end
