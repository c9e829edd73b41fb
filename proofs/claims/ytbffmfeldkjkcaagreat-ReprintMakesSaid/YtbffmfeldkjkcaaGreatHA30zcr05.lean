/- Parts of the proof: A28zm, A28zn, A29f, A30a, A30b, A30e, A30g. -/
import Derived.Test.YtbffmfeldkjkcaaGreatHA30zcr04
import Derived.Test.YtbffmfeldkjkcaaGreatG41
set_option linter.unusedSimpArgs false
set_option linter.unusedVariables false
set_option maxHeartbeats 0
set_option maxRecDepth 100000
section
namespace Go.Proofs.YtbffmfeldkjkcaaGreat
open Go.RowKit Go.Flow Go.AV Go.Plain
theorem zJA{α:Type}{c:α→List CV}{z:α}{sz k:Nat}{e:α}(L:List α)(hc:∀x,(c x).all zM=true)(hk:k<L.length):∀i,i<L.length→∀j,j<sz→zAw (zS c z L) k 0 sz (c e) i j=zS c z (L.set k e) i j∧zM (zAw (zS c z L) k 0 sz (c e) i j)=true:=fun i hi j hj=>by
 have:zAw (zS c z L) k 0 sz (c e) i j=zS c z (L.set k e) i j:=by
  unfold zAw zS;by_cases h:i=k
  ·subst h
   rw[Nat.beq_refl,show Nat.ble 0 j=true from Nat.ble_eq.mpr (Nat.zero_le _),show Nat.blt j (0+sz)=true from Nat.blt_eq.mpr xD];rw[List.getD_eq_getElem?_getD (l:=L.set i e),List.getElem?_set_self hk]
   rfl
  ·rw[show Nat.beq i k=false from Bool.eq_false_iff.2 fun h'=>h (Nat.eq_of_beq_eq_true h')]
   rw[List.getD_eq_getElem?_getD (l:=L.set k e),List.getElem?_set_ne (Ne.symm h),←List.getD_eq_getElem?_getD]
   rfl
 exact⟨this,by rw[this];exact zL hc _ i j⟩
def zCw(b:Bp)(q:Int):Nat→Bp
 |0=>⟨b.W+1,b.H,b.n,b.d⟩
 |1=>⟨b.W,q,b.n,b.d⟩
 |2=>⟨b.W,b.H,b.n+1,fun k=>if k<b.n then b.d k else true⟩
 |3=>⟨b.W,b.H,b.n/2,b.d⟩
 |4=>⟨-b.W,IntKind.i64.wrap (-b.H),b.n,b.d⟩
 |_=>b
theorem zHW(B:Nat)(b:Bp)(q:Int)(hb:BpBd B b)(hB:B≤100000)(hq:-9223372036854775808≤q∧q≤9223372036854775807):∃r:Bp,BpBd (B+1) r∧ACalls Tryz.prog 24 [.ag (bpC b),.c (iC q)] (.ag (bpC r)):=by
 obtain⟨hW,hn⟩:=hb
 have hM:=zDb q 6 xD xD;have h0:=Int.emod_nonneg q (show(6:Int)≠0 by omega);have h6:=Int.emod_lt_of_pos q (show(0:Int)<6 by omega);generalize q%6=c at hM h0 h6
 obtain⟨k,rfl⟩:=Int.eq_ofNat_of_zero_le h0
 refine⟨zCw b q k,?_,?_⟩
 ·match k with
  |0=>exact⟨by show _≤b.W+1∧b.W+1≤_;omega,by show b.n≤_;omega⟩
  |1=>exact⟨by show _≤b.W∧b.W≤_;omega,by show b.n≤_;omega⟩
  |2=>exact⟨by show _≤b.W∧b.W≤_;omega,by show b.n+1≤_;omega⟩
  |3=>exact⟨by show _≤b.W∧b.W≤_;omega,by show b.n/2≤_;omega⟩
  |4=>exact⟨by show _≤-b.W∧-b.W≤_;omega,by show b.n≤_;omega⟩
  |k+5=>exact⟨by show _≤b.W∧b.W≤_;omega,by show b.n≤_;omega⟩
 refine zJ Tryz.func24 rfl rfl Tryz.ntmps24 rfl ?_
 repeat (first
  |refine vB [0] ?_
  |(refine AWp.draw (id:=1) zK ?_;refine xE7 ?_;refine zAT zA rfl rfl rfl rfl rfl rfl rfl rfl rfl rfl oM oM ?_;refine xE3 ?_;refine aB ⟨by kernel_rfl,?_⟩)
  | (refine rG 2 ?_
     refine vA ?_;refine xB Tryz.func12 hM ?_;refine aB ?_))
 refine AWp.weak (S':=
  zC 55 [(1,.c (iC q)),(4,.c (.pt 4 3 0 0)),(5,.c (.pt 5 3 0 0)),(16,.c (iC k))] [(4,⟨false,1,3,58,lF [iC 0,iC 0,.p (.slice none 0 0)]⟩),(5,⟨false,1,3,58,lF [iC b.W,iC b.H,.ow 20]⟩),(20,⟨true,b.n,1,4,bF b.d⟩)] [4,5,20]
  ) (Wk.mk [(4,some 4),(5,some 5),(20,some 13)] rfl rfl rfl ?_ ?_) ?_
 ·exact zB
 ·exact⟨hSm,HeapOk.box rfl rfl ⟨LeC.refl _ rfl,LeC.refl _ rfl,LeC.ow _ _ rfl,trivial⟩ rfl,HeapOk.row rfl rfl rfl (fun i _=>zAa ⟨rfl,rfl⟩),trivial⟩
 by_cases k0:k=0
 ·subst k0
  refine vB [3,4,14] ?_
  refine⟨zC 55 [(4,.c (.pt 4 3 0 0))] [(4,⟨false,1,3,58,lF (bpC (zCw b q 0))⟩)] [4],[(4,⟨false,1,3,58,lF (bpC (zCw b q 0))⟩)],Wk.mk [(4,some 4)] rfl rfl rfl ?_ ?_,rfl,rfl,ARets.one (x:=.ag _) (ARes.box zA rfl rfl rfl rfl rfl rfl rfl)⟩
  ·exact zB
  ·exact⟨HeapOk.box rfl rfl ⟨LeC.int (by first|rfl|(dsimp only;omega)),LeC.int (by first|rfl|(dsimp only;omega)),(zZ rfl rfl (by rfl) (fun _ _ _ _=>⟨rfl,rfl⟩)),trivial⟩ rfl,trivial⟩
 refine vB [3] ?_;by_cases k1:k=1
 ·subst k1
  refine vB [5,6,14] ?_
  refine⟨zC 55 [(4,.c (.pt 4 3 0 0))] [(4,⟨false,1,3,58,lF (bpC (zCw b q 1))⟩)] [4],[(4,⟨false,1,3,58,lF (bpC (zCw b q 1))⟩)],Wk.mk [(4,some 4)] rfl rfl rfl ?_ ?_,rfl,rfl,ARets.one (x:=.ag _) (ARes.box zA rfl rfl rfl rfl rfl rfl rfl)⟩
  ·exact zB
  ·exact⟨HeapOk.box rfl rfl ⟨LeC.int (by first|rfl|(dsimp only;omega)),LeC.int (by first|rfl|(dsimp only;omega)),(zZ rfl rfl (by rfl) (fun _ _ _ _=>⟨rfl,rfl⟩)),trivial⟩ rfl,trivial⟩
 refine vB [5] ?_;by_cases k2:k=2
 ·subst k2
  repeat (first
   |refine vB [7,14] ?_
   | (refine rG 8 ?_
      refine xE3 ?_;refine zBb zA rfl rfl rfl rfl rfl rfl rfl rfl rfl rfl oM oM ?_;refine xE2 ?_;refine aB ?_))
  refine⟨zC 55 [(4,.c (.pt 4 3 0 0))] [(4,⟨false,1,3,58,lF (bpC (zCw b q 2))⟩)] [4],[(4,⟨false,1,3,58,lF (bpC (zCw b q 2))⟩)],Wk.mk [(4,some 4)] rfl rfl rfl ?_ ?_,rfl,rfl,ARets.one (x:=.ag _) (ARes.box zA rfl rfl rfl rfl rfl rfl rfl)⟩
  ·exact zB
  ·exact⟨HeapOk.box rfl rfl ⟨LeC.int (by first|rfl|(dsimp only;omega)),LeC.int (by first|rfl|(dsimp only;omega)),(zZ rfl rfl (by rfl) (zFt (n:=b.n) (G:=bF (fun k=>if k<b.n then b.d k else true)) (fun i hi=>zAa (congrArg bC (if_pos (show i<b.n by omega)).symm)) (zAa (congrArg bC (if_neg xD).symm)) (fun _ _=>zAa rfl))),trivial⟩ rfl,trivial⟩
 refine vB [7] ?_;by_cases k3:k=3
 ·subst k3
  refine vB [9] ?_;refine AWp.weak (S':=zC 55 [(4,.c (.pt 4 3 0 0)),(5,.c (.pt 5 3 0 0)),(16,.c (iC ((3:Nat):Int)))] [(4,⟨false,1,3,58,lF [iC 0,iC 0,.p (.slice none 0 0)]⟩),(5,⟨false,1,3,58,lF (bpC b)⟩)] [4,5]) (Wk.mk [(4,some 4),(5,some 5)] rfl rfl rfl ?_ ?_) ?_
  ·exact zB
  ·exact⟨hSm,HeapOk.box rfl rfl ⟨LeC.refl _ rfl,LeC.refl _ rfl,zZ rfl rfl rfl (fun i _=>zAa ⟨rfl,rfl⟩),trivial⟩ rfl,trivial⟩
  have e2:(b.n:Int)/2=((b.n/2:Nat):Int):=by omega
  repeat (first
   |refine vB [14] ?_
   | (refine rG 10 ?_
      refine xE6 ?_;refine AList.cut (l:=0) (h:=b.n/2) zA rfl rfl rfl rfl rfl rfl rfl rfl ⟨_,_,rfl,by first|rfl|omega⟩ xD xD ?_;refine xE2 ?_;refine aB ?_))
  refine⟨zC 55 [(4,.c (.pt 4 3 0 0))] [(4,⟨false,1,3,58,lF (bpC (zCw b q 3))⟩)] [4],[(4,⟨false,1,3,58,lF (bpC (zCw b q 3))⟩)],Wk.mk [(4,some 4)] rfl rfl rfl ?_ ?_,rfl,rfl,ARets.one (x:=.ag _) (ARes.box zA rfl rfl rfl rfl rfl rfl rfl)⟩
  ·exact zB
  ·exact⟨HeapOk.box rfl rfl ⟨LeC.int (by first|rfl|(dsimp only;omega)),LeC.int (by first|rfl|(dsimp only;omega)),(zCO (by rfl) (fun _ _ _ _=>by rw[Nat.zero_add];rfl)),trivial⟩ rfl,trivial⟩
 refine vB [9] ?_;by_cases k4:k=4
 ·subst k4
  repeat (first
   |refine vB [11,12,14] ?_
   | (refine rG 13 ?_
      refine xE2 ?_;refine qr3 zOr ?_;refine xE2 ?_;refine aB ?_))
  refine⟨zC 55 [(4,.c (.pt 4 3 0 0))] [(4,⟨false,1,3,58,lF (bpC (zCw b q 4))⟩)] [4],[(4,⟨false,1,3,58,lF (bpC (zCw b q 4))⟩)],Wk.mk [(4,some 4)] rfl rfl rfl ?_ ?_,rfl,rfl,ARets.one (x:=.ag _) (ARes.box zA rfl rfl rfl rfl rfl rfl rfl)⟩
  ·exact zB
  ·exact⟨HeapOk.box rfl rfl ⟨LeC.int (by first|rfl|(dsimp only;omega)),LeC.int (by first|rfl|(dsimp only;omega)),(zZ rfl rfl (by rfl) (fun _ _ _ _=>⟨rfl,rfl⟩)),trivial⟩ rfl,trivial⟩
 obtain rfl:k=5:=by omega
 refine vB [11,14] ?_
 refine⟨zC 55 [(4,.c (.pt 4 3 0 0))] [(4,⟨false,1,3,58,lF (bpC (zCw b q 5))⟩)] [4],[(4,⟨false,1,3,58,lF (bpC (zCw b q 5))⟩)],Wk.mk [(4,some 4)] rfl rfl rfl ?_ ?_,rfl,rfl,ARets.one (x:=.ag _) (ARes.box zA rfl rfl rfl rfl rfl rfl rfl)⟩
 ·exact zB
 ·exact⟨HeapOk.box rfl rfl ⟨LeC.int (by first|rfl|(dsimp only;omega)),LeC.int (by first|rfl|(dsimp only;omega)),(zZ rfl rfl (by rfl) (fun _ _ _ _=>⟨rfl,rfl⟩)),trivial⟩ rfl,trivial⟩
abbrev zIA(p:Pb)(m id:Nat):List AB:= [rdB p.R,chM p.C m id p.C.length,bpB p.F,bgB p.O,bgB p.T,bpB (cpL p.C m p.C.length)]
theorem zLV{p:Pb}{m id:Nat}{ni:List Nat}(h:zT ni id=some 5):BackB [] ni (zFC p m) (zIA p m id):=
 BackB.same (fun i _ j _=>zL zAF _ i j) ⟨⟨_,rfl,fun i _ j _=>by
  show BackC [] ni (cpF p.C m 905 i j) (cpF p.C m id i j);unfold cpF;by_cases him:i=m
  ·rw[if_pos him,if_pos him]
   exact .owN 5 id h
  ·rw[if_neg him,if_neg him]
   exact .imm _ rfl⟩,BackB.same (fun i _ j _=>zL zAm _ i j) (BackB.same (fun i _ j _=>zL zU _ i j) (BackB.same (fun i _ j _=>zL zU _ i j) (BackB.same (fun i _ j _=>zL zAm _ i j) trivial)))⟩
theorem zLU{a b c d e f:Nat}(h1:zT [a,b,c,d,e,f] a=some 0)(h2:zT [a,b,c,d,e,f] b=some 1)(h3:zT [a,b,c,d,e,f] c=some 2)(h4:zT [a,b,c,d,e,f] d=some 3)(h5:zT [a,b,c,d,e,f] e=some 4):BackA [] [a,b,c,d,e,f] zLX (.ag [.ow a,.ow b,.ow c,.ow d,.ow e]):=
 .ag ⟨.owN 0 a h1,.owN 1 b h2,.owN 2 c h3,.owN 3 d h4,.owN 4 e h5,trivial⟩
theorem zGP{h:Nat→Option AB}{ren:List (Nat×Option Nat)}{C:List (List Bp)}{m id:Nat}(hh:h id=some (bpB (cpL C m C.length)))(hr:zCK ren id=true):∀i,i<C.length→∀j,j<1→LeC h ren (cpF C m id i j) (chF C i j):=fun i hi j _=>by
 unfold cpF;by_cases him:i=m
 ·rw[if_pos him]
  have e:cpL C m C.length=C.getD i []:=by unfold cpL;rw[if_pos xD,him]
  rw[e]at hh;exact zZ hh hr rfl (fun i _ j _=>⟨rfl,zL zAm _ i j⟩)
 ·rw[if_neg him]
  exact LeC.refl _ rfl
theorem zP5{h:Nat→Option AB}{ren:List (Nat×Option Nat)}{C:List (List Bp)}{m id:Nat}(hr:zD ren id=some (some id)):∀i,i<C.length→∀j,j<1→LeC h ren (cpF C m id i j) (cpF C m id i j):=fun i hi j _=>by
 unfold cpF;by_cases him:i=m
 ·rw[if_pos him]
  exact LeC.ow _ _ hr
 ·rw[if_neg him]
  exact LeC.refl _ rfl
theorem zJd{α:Type}{L:List α}{x y:α}(h:y∈L++ [x]):y∈L∨y=x:=by
 rcases List.mem_append.1 h with h|h
 ·exact .inl h
 ·exact .inr (List.mem_singleton.1 h)
theorem zJc{α:Type}{L:List α}{k:Nat}{x y:α}(h:y∈L.set k x):y∈L∨y=x:=List.mem_or_eq_of_mem_set h
theorem fzR{h:Nat→Option AB}{ren:List (Nat×Option Nat)}{id:Nat}{L:List Rd}(hh:h id=some (rdB L))(hr:zCK ren id=true):LeC h ren (.ow id) (lsR L):=zZ hh hr rfl (fun i _ j _=>⟨rfl,zL zAF _ i j⟩)
theorem fzB{h:Nat→Option AB}{ren:List (Nat×Option Nat)}{id:Nat}{L:List Bp}(hh:h id=some (bpB L))(hr:zCK ren id=true):LeC h ren (.ow id) (lsB L):=zZ hh hr rfl (fun i _ j _=>⟨rfl,zL zAm _ i j⟩)
theorem fzG{h:Nat→Option AB}{ren:List (Nat×Option Nat)}{id:Nat}{L:List Bg}(hh:h id=some (bgB L))(hr:zCK ren id=true):LeC h ren (.ow id) (lsG L):=zZ hh hr rfl (fun i _ j _=>⟨rfl,zL zU _ i j⟩)
theorem fzC{h:Nat→Option AB}{ren:List (Nat×Option Nat)}{id:Nat}{C:List (List Bp)}(hh:h id=some (chB C))(hr:zCK ren id=true):LeC h ren (.ow id) (lsC C):=zZ hh hr rfl (fun i _ j _=>⟨rfl,rfl⟩)
theorem zRG:∀k,k<5→∀j,j<2→zF [Value.int .i64 0,.int .i64 0] k j=zS rdC rdZ [⟨0,0⟩,⟨0,0⟩,⟨0,0⟩,⟨0,0⟩,⟨0,0⟩] k j∧zM (zF [Value.int .i64 0,.int .i64 0] k j)=true:=fun k hk j hj=>by
 have h1:k=0∨k=1∨k=2∨k=3∨k=4:=by omega
 have h2:j=0∨j=1:=by omega
 rcases h1 with rfl|rfl|rfl|rfl|rfl<;>rcases h2 with rfl|rfl<;>exact⟨rfl,rfl⟩
theorem zPK{h:Nat→Option AB}{ren:List (Nat×Option Nat)}(n:Nat):∀k,k<n→∀j,j<3→LeC h ren (zF [Value.int .i64 0,.int .i64 0,.slice none 0 0] k j) (zS bpC bpZ (List.replicate n bpZ) k j):=fun k hk j hj=>by
 have e:(List.replicate n bpZ).getD k bpZ=bpZ:=by simp[List.getD_eq_getElem?_getD,hk]
 unfold zS;rw[e];have:j=0∨j=1∨j=2:=by omega
 rcases this with rfl|rfl|rfl
 ·exact LeC.refl _ rfl
 ·exact LeC.refl _ rfl
 ·exact LeC.nils _ _
def zAX(p:Pb)(q1 q2:Int)(u:Int)(b r5 r6:Bp)(n:Nat):Nat→Pb
 |0=>⟨p.R++ [⟨u,q2⟩],p.C,p.F,p.O,p.T⟩
 |1=>⟨[⟨0,0⟩,⟨0,0⟩,⟨0,0⟩,⟨0,0⟩,⟨0,0⟩],p.C,p.F,p.O,p.T⟩
 |2=>⟨p.R,p.C,p.F,p.O++ [bgZ],p.T⟩
 |3=>⟨p.R,p.C,p.F,p.O,p.T.take (p.T.length/2)⟩
 |4=>⟨p.R,p.C,p.F++ [b],p.O,p.T++ [⟨q1,0,q2,0⟩]⟩
 |5=>⟨p.R,p.C,p.F.set 0 r5,p.O,p.T⟩
 |6=>⟨p.R,if 0<p.C.length then p.C.set 0 ((cpL p.C 0 p.C.length).set 0 r6)else p.C,p.F,p.O,p.T⟩
 |7=>⟨p.R,p.C++ [List.replicate n bpZ],p.F,p.O++ [bgZ],p.T⟩
 |_=>⟨p.R,p.C,p.F,p.O.set 0 ⟨q1,q2,0,q1⟩,p.T⟩
theorem zLW{C:List (List Bp)}(h:0<C.length):cpL C 0 C.length∈C:=by
 have hK:cpL C 0 C.length=C.getD 0 []:=by unfold cpL;rw[if_pos h]
 rw[hK];exact zAB h
theorem zRf{B:Nat}{p:Pb}{q1 q2 u:Int}{b r5 r6:Bp}{n:Nat}(hp:p.bd B)(hB2:200≤B)(hu:0≤u∧u<4)(hb:BpBd (B+40) b)(h5:BpBd (B+1) r5)(h6:BpBd (B+1) r6)(hn:n≤35)(k:Nat):(zAX p q1 q2 u b r5 r6 n k).bd (B+40):=by
 have hm0:=hp.mono (show B≤B+40 by omega)
 obtain⟨hrd,lR,lC,lF',lO,lT,lc,lf⟩:=hp
 match k with
 |0=>exact⟨fun r hr=>(zJd hr).elim (hrd r) fun e=>by subst e;exact⟨by dsimp only;omega,by dsimp only;omega⟩,by show(p.R++_).length≤_;simp;omega,hm0.lC,hm0.lF,hm0.lO,hm0.lT,hm0.C,hm0.F⟩
 | 1 =>exact⟨fun r hr=>by
     replace hr:r∈ [(⟨0,0⟩:Rd),⟨0,0⟩,⟨0,0⟩,⟨0,0⟩,⟨0,0⟩]:=hr
     simp at hr
     subst hr
     exact⟨by decide,by decide⟩,by show 5≤_;omega,hm0.lC,hm0.lF,hm0.lO,hm0.lT,hm0.C,hm0.F⟩
 |2=>exact⟨hrd,hm0.lR,hm0.lC,hm0.lF,by show(p.O++_).length≤_;simp;omega,hm0.lT,hm0.C,hm0.F⟩
 |3=>exact⟨hrd,hm0.lR,hm0.lC,hm0.lF,hm0.lO,by show(p.T.take _).length≤_;rw[List.length_take];omega,hm0.C,hm0.F⟩
 |4=>exact⟨hrd,hm0.lR,hm0.lC,by show(p.F++_).length≤_;simp;omega,hm0.lO,by show(p.T++_).length≤_;simp;omega,hm0.C,fun y hy=>(zJd hy).elim (hm0.F y) fun e=>by subst e;exact hb⟩
 |5=>exact⟨hrd,hm0.lR,hm0.lC,by show(p.F.set _ _).length≤_;simp;omega,hm0.lO,hm0.lT,hm0.C,fun y hy=>(zJc hy).elim (hm0.F y) fun e=>by subst e;exact h5.mono xD⟩
 | 6 =>
   by_cases hC:0<p.C.length
   ·have hmem:=zLW hC
    refine⟨hrd,hm0.lR,?_,hm0.lF,hm0.lO,hm0.lT,fun l hl=> ?_,hm0.F⟩
    ·show(if 0<p.C.length then _ else p.C).length≤_
     rw[if_pos hC,List.length_set];omega
    ·replace hl:l∈(if 0<p.C.length then p.C.set 0 ((cpL p.C 0 p.C.length).set 0 r6)else p.C):=hl
     rw[if_pos hC]at hl
     rcases zJc hl with hl|rfl
     ·exact hm0.C l hl
     ·refine⟨by rw[List.length_set];exact(hm0.C _ hmem).1,fun b hb=>(zJc hb).elim ((hm0.C _ hmem).2 b) fun e=>by subst e;exact h6.mono xD⟩
   ·have e:zAX p q1 q2 u b r5 r6 n 6=p:=by
     show(⟨p.R,if 0<p.C.length then _ else p.C,p.F,p.O,p.T⟩:Pb)=p
     rw[if_neg hC]
    rw[e];exact hm0
 |7=>exact⟨hrd,hm0.lR,by show(p.C++_).length≤_;simp;omega,hm0.lF,by show(p.O++_).length≤_;simp;omega,hm0.lT,fun l hl=>(zJd hl).elim (hm0.C l) fun e=>by subst e;exact⟨by simp;omega,fun b hb=>by rw[List.eq_of_mem_replicate hb];exact⟨by dsimp only;omega,Nat.zero_le _⟩⟩,hm0.F⟩
 |k+8=>exact⟨hrd,hm0.lR,hm0.lC,hm0.lF,by show(p.O.set _ _).length≤_;simp;omega,hm0.lT,hm0.C,hm0.F⟩
theorem zJz{α:Type}{L:List α}{k:Nat}{x:α}(h:¬k<L.length):L.set k x=L:=List.set_eq_of_length_le xD
theorem zOW(B:Nat)(p:Pb)(hp:p.bd B)(hB:B≤90000)(hB2:200≤B)(q0 q1 q2:Int)(hq1:-9223372036854775808≤q1∧q1≤9223372036854775807):∃x:Pb,x.bd (B+40)∧ACalls Tryz.prog 7 [.ag (pbC p),.ag [iC q0,iC q1,iC q2]] (.ag (pbC x)):=by
 have hCopy:=zKC p (hp.ok xD) 0;have hbd:= @zRf B p q1 q2;have hbd0:=hp
 obtain⟨hrd,lR,lC,lF',lO,lT,lc,lf⟩:=hp
 have hM:=zDb q0 9 xD xD;have h0:=Int.emod_nonneg q0 (show(9:Int)≠0 by omega);have h9:=Int.emod_lt_of_pos q0 (show(0:Int)<9 by omega);generalize q0%9=c at hM h0 h9
 obtain⟨k,rfl⟩:=Int.eq_ofNat_of_zero_le h0
 have hM4:=zDb q1 4 xD xD;have h4:=Int.emod_nonneg q1 (show(4:Int)≠0 by omega);have h5:=Int.emod_lt_of_pos q1 (show(0:Int)<4 by omega)
 obtain⟨u,hu⟩:∃u,q1%4=u:=⟨_,rfl⟩
 rw[hu]at hM4 h4 h5;have hMd:=(zKL 2 (fI [q1,q2]) (by decide)).cv (args':= [.c (zQW q1 q2)]) ⟨.c (zQV q1 q2),trivial⟩;have hmb:BpBd (B+40) (mdV 2 (fI [q1,q2])):=by
  have hb:=zMO 2 (fI [q1,q2]);have hn:mdW 2 (fI [q1,q2])*mdH 2 (fI [q1,q2])≤16*12:=Nat.mul_le_mul hb.1 hb.2
  exact⟨by unfold mdV;dsimp only;omega,by unfold mdV;dsimp only;omega⟩
 generalize mdV 2 (fI [q1,q2])=b at hMd hmb
 obtain⟨r5,hr5,hO5⟩:∃r,BpBd (B+1) r∧(0<p.F.length→ACalls Tryz.prog 24 [.ag (bpC (p.F.getD 0 bpZ)),.c (iC q1)] (.ag (bpC r))):=by
  by_cases hF:0<p.F.length
  ·obtain⟨r,h1,h2⟩:=zHW B (p.F.getD 0 bpZ) q1 (lf _ (zAB hF)) xD hq1
   exact⟨r,h1,fun _=>h2⟩
  ·exact⟨bpZ,⟨by dsimp only;omega,Nat.zero_le _⟩,fun h=>absurd h hF⟩
 obtain⟨r6,hr6,hO6⟩:∃r,BpBd (B+1) r∧(0<p.C.length→0<(cpL p.C 0 p.C.length).length→ACalls Tryz.prog 24 [.ag (bpC ((cpL p.C 0 p.C.length).getD 0 bpZ)),.c (iC q1)] (.ag (bpC r))):=by
  by_cases hF:0<p.C.length∧0<(cpL p.C 0 p.C.length).length
  ·obtain⟨r,h1,h2⟩:=zHW B ((cpL p.C 0 p.C.length).getD 0 bpZ) q1 ((lc _ (zLW hF.1)).2 _ (zAB hF.2)) xD hq1
   exact⟨r,h1,fun _ _=>h2⟩
  ·exact⟨bpZ,⟨by dsimp only;omega,Nat.zero_le _⟩,fun h h'=>absurd ⟨h,h'⟩ hF⟩
 have hM7:=zDb q1 35 xD xD;have h35:=Int.emod_lt_of_pos q1 (show(0:Int)<35 by omega)
 obtain⟨n,hn⟩:∃n:Nat,q1%35=n:=Int.eq_ofNat_of_zero_le (Int.emod_nonneg q1 xD)
 rw[hn]at hM7 h35
 refine⟨zAX p q1 q2 u b r5 r6 n k,hbd hbd0 hB2 ⟨h4,h5⟩ hmb hr5 hr6 xD k,?_⟩
 clear hbd hbd0 hmb hr5 hr6;refine zJ Tryz.func7 rfl rfl Tryz.ntmps7 rfl ?_
 repeat (first
  |refine vB [0] ?_
  | (refine rG 1 ?_
     refine vA ?_;refine AList.callG [] [150,151,152,153,154,155] [] [] (zFC p 0) [] (zIA p 0 155) rfl rfl FnV.func rfl Tryz.func22 rfl xC (trivial) rfl (zLU rfl rfl rfl rfl rfl) (trivial) (zLV rfl) (hCopy) ?_;refine xE2 ?_;refine aB ?_))
 repeat (first
  |refine vB [] ?_
  | (refine rG 2 ?_
     refine xE2 ?_;refine xB Tryz.func12 hM ?_;refine aB ?_))
 refine AWp.weak (S':=
  zC 147 [(3,.c (.pt 3 3 0 0)),(4,.c (.pt 4 5 0 0)),(5,.c (.pt 5 5 0 0)),(10,.c (iC k))] [(3,⟨false,1,3,24,lF [iC q0,iC q1,iC q2]⟩),(4,⟨false,1,5,34,lF [nl8,nl8,nl8,nl8,nl8]⟩),(5,⟨false,1,5,34,lF [.ow 150,.ow 151,.ow 152,.ow 153,.ow 154]⟩),(150,rdB p.R),(151,chM p.C 0 155 p.C.length),(152,bpB p.F),(153,bgB p.O),(154,bgB p.T),(155,bpB (cpL p.C 0 p.C.length))] [3,4,5,150,151,152,153,154,155]
  ) (Wk.mk [(3,some 3),(4,some 4),(5,some 5),(150,some 150),(151,some 151),(152,some 152),(153,some 153),(154,some 154),(155,some 155)] rfl rfl rfl ?_ ?_) ?_
 ·exact zB
 ·exact⟨hSm,hSm,HeapOk.box rfl rfl ⟨LeC.ow _ _ rfl,LeC.ow _ _ rfl,LeC.ow _ _ rfl,LeC.ow _ _ rfl,LeC.ow _ _ rfl,trivial⟩ rfl,hrF zAF,.inr ⟨151,p.C.length,_,.inl rfl,rfl,rfl,zP5 rfl⟩,
  hrF zAm,hrF zU,hrF zU
  ,hrF zAm,trivial⟩
 by_cases k6:k=6
 ·subst k6
  by_cases hC:0<p.C.length
  ·have hC':(p.C.length:Int)>0:=by omega
   by_cases hL:0<(cpL p.C 0 p.C.length).length
   ·have hL':((cpL p.C 0 p.C.length).length:Int)>0:=by omega
    have hO:=hO6 hC hL
    repeat (first
     |refine vB [3,5,7,9,11,14,17] ?_
     | (refine rG 18 ?_
        refine xE7 ?_;refine zI (zH (k:=0) zA) ?_;refine xE4 ?_;refine aB ?_)
     |(refine AWp.draw (id:=19) zK ?_;refine xE2 ?_;refine zI (zH (k:=0) zA) ?_;refine xE3 ?_;refine zI (zH (k:=0) zA) ?_;refine vA ?_;refine zI (zH (k:=0) zA) ?_;refine xE3 ?_;refine xB Tryz.func24 hO ?_;refine zI (zH (k:=0) zA) ?_;refine vA ?_;refine aB ⟨by kernel_rfl,?_⟩))
    refine AWp.weak (S':=
     zC 147 [(3,.c (.pt 3 3 0 0)),(4,.c (.pt 4 5 0 0)),(5,.c (.pt 5 5 0 0))] [(3,⟨false,1,3,24,lF [iC q0,iC q1,iC q2]⟩),(4,⟨false,1,5,34,lF [nl8,nl8,nl8,nl8,nl8]⟩),(5,⟨false,1,5,34,lF [.ow 150,.ow 151,.ow 152,.ow 153,.ow 154]⟩),(150,rdB p.R),(151,chB (p.C.set 0 ((cpL p.C 0 p.C.length).set 0 r6))),(152,bpB p.F),(153,bgB p.O),(154,bgB p.T)] [3,4,5,150,151,152,153,154]
     ) (Wk.mk [(3,some 3),(4,some 4),(5,some 5),(150,some 150),(151,some 151),(152,some 152),(153,some 153),(154,some 154)] rfl rfl rfl ?_ ?_) ?_
    ·exact zB
    ·exact⟨hSm,hSm,HeapOk.box rfl rfl ⟨LeC.ow _ _ rfl,LeC.ow _ _ rfl,LeC.ow _ _ rfl,LeC.ow _ _ rfl,LeC.ow _ _ rfl,trivial⟩ rfl,hrF zAF,.inr ⟨151,p.C.length,_,.inl rfl,List.length_set,rfl,fun i hi j hj=>by
      show LeC _ _ (cpF p.C 0 155 i j) (lsB ((p.C.set 0 _).getD i []));unfold cpF;by_cases hi0:i=0
      ·subst hi0
       rw[if_pos rfl,List.getD_eq_getElem?_getD,List.getElem?_set_self hC];exact zZ rfl rfl List.length_set (zJA _ zAm hL)
      ·rw[if_neg hi0,List.getD_eq_getElem?_getD (l:=p.C.set 0 _),List.getElem?_set_ne (Ne.symm hi0),←List.getD_eq_getElem?_getD]
       exact LeC.refl _ rfl⟩,
     hrF zAm,hrF zU,hrF zU
     ,trivial⟩
    refine vB [26] ?_
    refine⟨zC 147 [(4,.c (.pt 4 5 0 0))] [(4,⟨false,1,5,34,lF (pbC (zAX p q1 q2 u b r5 r6 n 6))⟩)] [4],[(4,⟨false,1,5,34,lF (pbC (zAX p q1 q2 u b r5 r6 n 6))⟩)],Wk.mk [(4,some 4)] rfl rfl rfl ?_ ?_,rfl,rfl,ARets.one (x:=.ag _) (ARes.box zA rfl rfl rfl rfl rfl rfl rfl)⟩
    ·exact zB
    ·exact⟨HeapOk.box rfl rfl ⟨
     fzR rfl rfl,(by show LeC _ _ _ (lsC (if 0<p.C.length then _ else p.C));rw[if_pos hC];exact fzC rfl rfl),fzB rfl rfl,fzG rfl rfl,fzG rfl rfl
     ,trivial⟩ rfl,trivial⟩
   ·have hL':¬((cpL p.C 0 p.C.length).length:Int)>0:=by omega
    have e6:p.C.set 0 ((cpL p.C 0 p.C.length).set 0 r6)=p.C:=by
     have hK:cpL p.C 0 p.C.length=p.C.getD 0 []:=by unfold cpL;rw[if_pos hC]
     rw[show(cpL p.C 0 p.C.length).set 0 r6=cpL p.C 0 p.C.length from zJz hL,hK,List.getD_eq_getElem?_getD,List.getElem?_eq_getElem hC];exact List.set_getElem_self hC
    repeat (first
     |refine vB [3,5,7,9,11,14,17] ?_
     | (refine rG 18 ?_
        refine xE7 ?_;refine zI (zH (k:=0) zA) ?_;refine xE4 ?_;refine aB ?_))
    refine AWp.weak (S':=
     zC 147 [(3,.c (.pt 3 3 0 0)),(4,.c (.pt 4 5 0 0)),(5,.c (.pt 5 5 0 0)),(10,.c (iC ((6:Nat):Int)))] [(3,⟨false,1,3,24,lF [iC q0,iC q1,iC q2]⟩),(4,⟨false,1,5,34,lF [nl8,nl8,nl8,nl8,nl8]⟩),(5,⟨false,1,5,34,lF [.ow 150,.ow 151,.ow 152,.ow 153,.ow 154]⟩),(150,rdB p.R),(151,chB p.C),(152,bpB p.F),(153,bgB p.O),(154,bgB p.T)] [3,4,5,150,151,152,153,154]
     ) (Wk.mk [(3,some 3),(4,some 4),(5,some 5),(150,some 150),(151,some 151),(152,some 152),(153,some 153),(154,some 154)] rfl rfl rfl ?_ ?_) ?_
    ·exact zB
    ·exact⟨hSm,hSm,HeapOk.box rfl rfl ⟨LeC.ow _ _ rfl,LeC.ow _ _ rfl,LeC.ow _ _ rfl,LeC.ow _ _ rfl,LeC.ow _ _ rfl,trivial⟩ rfl,hrF zAF,.inr ⟨151,p.C.length,_,.inl rfl,rfl,rfl,zGP rfl rfl⟩,
     hrF zAm,hrF zU,hrF zU
     ,trivial⟩
    refine vB [26] ?_
    refine⟨zC 147 [(4,.c (.pt 4 5 0 0))] [(4,⟨false,1,5,34,lF (pbC (zAX p q1 q2 u b r5 r6 n 6))⟩)] [4],[(4,⟨false,1,5,34,lF (pbC (zAX p q1 q2 u b r5 r6 n 6))⟩)],Wk.mk [(4,some 4)] rfl rfl rfl ?_ ?_,rfl,rfl,ARets.one (x:=.ag _) (ARes.box zA rfl rfl rfl rfl rfl rfl rfl)⟩
    ·exact zB
    ·exact⟨HeapOk.box rfl rfl ⟨
     fzR rfl rfl,(by show LeC _ _ _ (lsC (if 0<p.C.length then _ else p.C));rw[if_pos hC,e6];exact fzC rfl rfl),fzB rfl rfl,fzG rfl rfl,fzG rfl rfl
     ,trivial⟩ rfl,trivial⟩
  ·have hC':¬(p.C.length:Int)>0:=by omega
   refine vB [3,5,7,9,11,14,17,18] ?_;refine AWp.weak (S':=
    zC 147 [(3,.c (.pt 3 3 0 0)),(4,.c (.pt 4 5 0 0)),(5,.c (.pt 5 5 0 0)),(10,.c (iC ((6:Nat):Int)))] [(3,⟨false,1,3,24,lF [iC q0,iC q1,iC q2]⟩),(4,⟨false,1,5,34,lF [nl8,nl8,nl8,nl8,nl8]⟩),(5,⟨false,1,5,34,lF [.ow 150,.ow 151,.ow 152,.ow 153,.ow 154]⟩),(150,rdB p.R),(151,chB p.C),(152,bpB p.F),(153,bgB p.O),(154,bgB p.T)] [3,4,5,150,151,152,153,154]
    ) (Wk.mk [(3,some 3),(4,some 4),(5,some 5),(150,some 150),(151,some 151),(152,some 152),(153,some 153),(154,some 154)] rfl rfl rfl ?_ ?_) ?_
   ·exact zB
   ·exact⟨hSm,hSm,HeapOk.box rfl rfl ⟨LeC.ow _ _ rfl,LeC.ow _ _ rfl,LeC.ow _ _ rfl,LeC.ow _ _ rfl,LeC.ow _ _ rfl,trivial⟩ rfl,hrF zAF,.inr ⟨151,p.C.length,_,.inl rfl,rfl,rfl,zGP rfl rfl⟩,
    hrF zAm,hrF zU,hrF zU
    ,trivial⟩
   refine vB [26] ?_
   refine⟨zC 147 [(4,.c (.pt 4 5 0 0))] [(4,⟨false,1,5,34,lF (pbC (zAX p q1 q2 u b r5 r6 n 6))⟩)] [4],[(4,⟨false,1,5,34,lF (pbC (zAX p q1 q2 u b r5 r6 n 6))⟩)],Wk.mk [(4,some 4)] rfl rfl rfl ?_ ?_,rfl,rfl,ARets.one (x:=.ag _) (ARes.box zA rfl rfl rfl rfl rfl rfl rfl)⟩
   ·exact zB
   ·exact⟨HeapOk.box rfl rfl ⟨
    fzR rfl rfl,(by show LeC _ _ _ (lsC (if 0<p.C.length then _ else p.C));rw[if_neg hC];exact fzC rfl rfl),fzB rfl rfl,fzG rfl rfl,fzG rfl rfl
    ,trivial⟩ rfl,trivial⟩
 refine AWp.weak (S':=
  zC 147 [(3,.c (.pt 3 3 0 0)),(4,.c (.pt 4 5 0 0)),(5,.c (.pt 5 5 0 0)),(10,.c (iC k))] [(3,⟨false,1,3,24,lF [iC q0,iC q1,iC q2]⟩),(4,⟨false,1,5,34,lF [nl8,nl8,nl8,nl8,nl8]⟩),(5,⟨false,1,5,34,lF [.ow 150,.ow 151,.ow 152,.ow 153,.ow 154]⟩),(150,rdB p.R),(151,chB p.C),(152,bpB p.F),(153,bgB p.O),(154,bgB p.T)] [3,4,5,150,151,152,153,154]
  ) (Wk.mk [(3,some 3),(4,some 4),(5,some 5),(150,some 150),(151,some 151),(152,some 152),(153,some 153),(154,some 154)] rfl rfl rfl ?_ ?_) ?_
 ·exact zB
 ·exact⟨hSm,hSm,HeapOk.box rfl rfl ⟨LeC.ow _ _ rfl,LeC.ow _ _ rfl,LeC.ow _ _ rfl,LeC.ow _ _ rfl,LeC.ow _ _ rfl,trivial⟩ rfl,hrF zAF,.inr ⟨151,p.C.length,_,.inl rfl,rfl,rfl,zGP rfl rfl⟩,
  hrF zAm,hrF zU,hrF zU
  ,trivial⟩
 by_cases k0:k=0
 ·subst k0
  repeat (first
   |refine vB [3,26] ?_
   |(refine AWp.draw (id:=4) zK ?_;refine xE4 ?_;refine xB Tryz.func12 hM4 ?_;refine xE4 ?_;refine zBb zA rfl rfl rfl rfl rfl rfl rfl rfl rfl rfl oM oM ?_;refine xE2 ?_;refine aB ⟨by kernel_rfl,?_⟩))
  refine⟨zC 147 [(4,.c (.pt 4 5 0 0))] [(4,⟨false,1,5,34,lF (pbC (zAX p q1 q2 u b r5 r6 n 0))⟩)] [4],[(4,⟨false,1,5,34,lF (pbC (zAX p q1 q2 u b r5 r6 n 0))⟩)],Wk.mk [(4,some 4)] rfl rfl rfl ?_ ?_,rfl,rfl,ARets.one (x:=.ag _) (ARes.box zA rfl rfl rfl rfl rfl rfl rfl)⟩
  ·exact zB
  ·exact⟨HeapOk.box rfl rfl ⟨
   zZ rfl rfl List.length_append (zBh (c:=rdC) (z:=rdZ) p.R ⟨u,q2⟩ zAF rfl),fzC rfl rfl,fzB rfl rfl,fzG rfl rfl,fzG rfl rfl
   ,trivial⟩ rfl,trivial⟩
 refine vB [3] ?_;by_cases k1:k=1
 ·subst k1
  repeat (first
   |refine vB [5,26] ?_
   | (refine rG 6 ?_
      refine zC5 (zCN (n:=5) zA) ?_;refine xE2 ?_;refine aB ?_))
  refine⟨zC 147 [(4,.c (.pt 4 5 0 0))] [(4,⟨false,1,5,34,lF (pbC (zAX p q1 q2 u b r5 r6 n 1))⟩)] [4],[(4,⟨false,1,5,34,lF (pbC (zAX p q1 q2 u b r5 r6 n 1))⟩)],Wk.mk [(4,some 4)] rfl rfl rfl ?_ ?_,rfl,rfl,ARets.one (x:=.ag _) (ARes.box zA rfl rfl rfl rfl rfl rfl rfl)⟩
  ·exact zB
  ·exact⟨HeapOk.box rfl rfl ⟨
   zZ rfl rfl rfl zRG,fzC rfl rfl,fzB rfl rfl,fzG rfl rfl,fzG rfl rfl
   ,trivial⟩ rfl,trivial⟩
 refine vB [5] ?_;by_cases k2:k=2
 ·subst k2
  repeat (first
   |refine vB [7,26] ?_
   | (refine rG 8 ?_
      refine xE4 ?_;refine zBb zA rfl rfl rfl rfl rfl rfl rfl rfl rfl rfl oM oM ?_;refine xE2 ?_;refine aB ?_))
  refine⟨zC 147 [(4,.c (.pt 4 5 0 0))] [(4,⟨false,1,5,34,lF (pbC (zAX p q1 q2 u b r5 r6 n 2))⟩)] [4],[(4,⟨false,1,5,34,lF (pbC (zAX p q1 q2 u b r5 r6 n 2))⟩)],Wk.mk [(4,some 4)] rfl rfl rfl ?_ ?_,rfl,rfl,ARets.one (x:=.ag _) (ARes.box zA rfl rfl rfl rfl rfl rfl rfl)⟩
  ·exact zB
  ·exact⟨HeapOk.box rfl rfl ⟨
   fzR rfl rfl,fzC rfl rfl,fzB rfl rfl,zZ rfl rfl List.length_append (zBh (c:=bgC) (z:=bgZ) p.O bgZ zU rfl),fzG rfl rfl
   ,trivial⟩ rfl,trivial⟩
 refine vB [7] ?_;by_cases k3:k=3
 ·subst k3
  have hlen:(p.T.take (p.T.length/2)).length=p.T.length/2:=by rw[List.length_take];omega
  refine AWp.weak (S':=zC 147 [(3,.c (.pt 3 3 0 0)),(4,.c (.pt 4 5 0 0)),(5,.c (.pt 5 5 0 0)),(10,.c (iC ((3:Nat):Int)))] [(3,⟨false,1,3,24,lF [iC q0,iC q1,iC q2]⟩),(4,⟨false,1,5,34,lF [nl8,nl8,nl8,nl8,nl8]⟩),(5,⟨false,1,5,34,lF (pbC p)⟩)] [3,4,5]) (Wk.mk [(3,some 3),(4,some 4),(5,some 5)] rfl rfl rfl ?_ ?_) ?_
  ·exact zB
  ·exact⟨hSm,hSm,HeapOk.box rfl rfl ⟨fzR rfl rfl,fzC rfl rfl,fzB rfl rfl,fzG rfl rfl,fzG rfl rfl,trivial⟩ rfl,trivial⟩
  have e2:(p.T.length:Int)/2=((p.T.length/2:Nat):Int):=by omega
  repeat (first
   |refine vB [9,26] ?_
   | (refine rG 10 ?_
      refine xE6 ?_;refine AList.cut (l:=0) (h:=p.T.length/2) zA rfl rfl rfl rfl rfl rfl rfl rfl ⟨_,_,rfl,by first|rfl|omega⟩ xD xD ?_;refine xE2 ?_;refine aB ?_))
  refine⟨zC 147 [(4,.c (.pt 4 5 0 0))] [(4,⟨false,1,5,34,lF (pbC (zAX p q1 q2 u b r5 r6 n 3))⟩)] [4],[(4,⟨false,1,5,34,lF (pbC (zAX p q1 q2 u b r5 r6 n 3))⟩)],Wk.mk [(4,some 4)] rfl rfl rfl ?_ ?_,rfl,rfl,ARets.one (x:=.ag _) (ARes.box zA rfl rfl rfl rfl rfl rfl rfl)⟩
  ·exact zB
  ·exact⟨HeapOk.box rfl rfl ⟨
   LeC.refl _ rfl,LeC.refl _ rfl,LeC.refl _ rfl,LeC.refl _ rfl,zCO hlen (fun i hi j hj=>by rw[Nat.zero_add];exact zJx (sz:=4) p.T _ i hi j hj)
   ,trivial⟩ rfl,trivial⟩
 refine vB [9] ?_;by_cases k4:k=4
 ·subst k4
  repeat (first
   |refine vB [11,26] ?_
   |(refine AWp.draw (id:=12) zK ?_;refine xE7 ?_;refine xB Tryz.func23 hMd ?_;refine vA ?_;refine zBb zA rfl rfl rfl rfl rfl rfl rfl rfl rfl rfl oM oM ?_;refine xE2 ?_;refine aB ⟨by kernel_rfl,?_⟩)
   | (refine rG 13 ?_
      refine xE8 ?_;refine zBb zA rfl rfl rfl rfl rfl rfl rfl rfl rfl rfl oM oM ?_;refine xE2 ?_;refine aB ?_))
  refine⟨zC 147 [(4,.c (.pt 4 5 0 0))] [(4,⟨false,1,5,34,lF (pbC (zAX p q1 q2 u b r5 r6 n 4))⟩)] [4],[(4,⟨false,1,5,34,lF (pbC (zAX p q1 q2 u b r5 r6 n 4))⟩)],Wk.mk [(4,some 4)] rfl rfl rfl ?_ ?_,rfl,rfl,ARets.one (x:=.ag _) (ARes.box zA rfl rfl rfl rfl rfl rfl rfl)⟩
  ·exact zB
  ·exact⟨HeapOk.box rfl rfl ⟨
   fzR rfl rfl,fzC rfl rfl,zZ rfl rfl List.length_append (zBh (c:=bpC) (z:=bpZ) p.F b zAm rfl),fzG rfl rfl,zZ rfl rfl List.length_append (zBh (c:=bgC) (z:=bgZ) p.T ⟨q1,0,q2,0⟩ zU rfl)
   ,trivial⟩ rfl,trivial⟩
 refine vB [11] ?_;by_cases k5:k=5
 ·subst k5
  by_cases hF:0<p.F.length
  ·have hF':(p.F.length:Int)>0:=by omega
   have hO:=hO5 hF
   repeat (first
    |refine vB [14,15,26] ?_
    |(refine AWp.draw (id:=16) zK ?_;refine xE4 ?_;refine zI (zH (k:=0) zA) ?_;refine xE3 ?_;refine xB Tryz.func24 hO ?_;refine zI (zH (k:=0) zA) ?_;refine vA ?_;refine aB ⟨by kernel_rfl,?_⟩))
   refine⟨zC 147 [(4,.c (.pt 4 5 0 0))] [(4,⟨false,1,5,34,lF (pbC (zAX p q1 q2 u b r5 r6 n 5))⟩)] [4],[(4,⟨false,1,5,34,lF (pbC (zAX p q1 q2 u b r5 r6 n 5))⟩)],Wk.mk [(4,some 4)] rfl rfl rfl ?_ ?_,rfl,rfl,ARets.one (x:=.ag _) (ARes.box zA rfl rfl rfl rfl rfl rfl rfl)⟩
   ·exact zB
   ·exact⟨HeapOk.box rfl rfl ⟨
    fzR rfl rfl,fzC rfl rfl,zZ rfl rfl List.length_set (zJA (c:=bpC) (z:=bpZ) (e:=r5) p.F zAm hF),fzG rfl rfl,fzG rfl rfl
    ,trivial⟩ rfl,trivial⟩
  ·have hF':¬(p.F.length:Int)>0:=by omega
   refine vB [14,15,26] ?_
   refine⟨zC 147 [(4,.c (.pt 4 5 0 0))] [(4,⟨false,1,5,34,lF (pbC (zAX p q1 q2 u b r5 r6 n 5))⟩)] [4],[(4,⟨false,1,5,34,lF (pbC (zAX p q1 q2 u b r5 r6 n 5))⟩)],Wk.mk [(4,some 4)] rfl rfl rfl ?_ ?_,rfl,rfl,ARets.one (x:=.ag _) (ARes.box zA rfl rfl rfl rfl rfl rfl rfl)⟩
   ·exact zB
   ·exact⟨HeapOk.box rfl rfl ⟨
    fzR rfl rfl,fzC rfl rfl,(by show LeC _ _ _ (lsB (p.F.set 0 r5));rw[zJz hF];exact fzB rfl rfl),fzG rfl rfl,fzG rfl rfl
    ,trivial⟩ rfl,trivial⟩
 refine vB [14,17] ?_;by_cases k7:k=7
 ·subst k7
  repeat (first
   |refine vB [20] ?_
   |(refine AWp.draw (id:=21) zK ?_;refine xE4 ?_;refine xB Tryz.func12 hM7 ?_;refine zC5 (zCN (n:=n) zA) ?_;refine zF1 (zHG zA) ?_;refine zGq zA rfl rfl rfl rfl rfl rfl rfl rfl rfl rfl rfl oM oM ?_;refine xE2 ?_;refine aB ⟨by kernel_rfl,?_⟩)
   | (refine rG 22 ?_
      refine xE4 ?_;refine zBb zA rfl rfl rfl rfl rfl rfl rfl rfl rfl rfl oM oM ?_;refine xE2 ?_;refine aB ?_))
  refine AWp.weak (S':=zC 147 [(4,.c (.pt 4 5 0 0)),(5,.c (.pt 5 5 0 0))] [(4,⟨false,1,5,34,lF [nl8,nl8,nl8,nl8,nl8]⟩),(5,⟨false,1,5,34,lF [.ow 150,.ow 151,.ow 152,.ow 153,.ow 154]⟩),(150,rdB p.R),(151,chM (p.C++ [List.replicate n bpZ]) p.C.length 155 (p.C.length+1)),(152,bpB p.F),(153,bgB (p.O++ [bgZ])),(154,bgB p.T),(155,bpB (List.replicate n bpZ))] [4,5,150,151,152,153,154,155]) (Wk.mk [(4,some 4),(5,some 5),(150,some 150),(151,some 122),(152,some 152),(153,some 128),(154,some 154),(155,some 120)] rfl rfl rfl ?_ ?_) ?_
  ·exact zB
  ·exact⟨hSm,HeapOk.box rfl rfl ⟨LeC.ow _ _ rfl,LeC.ow _ _ rfl,LeC.ow _ _ rfl,LeC.ow _ _ rfl,LeC.ow _ _ rfl,trivial⟩ rfl,hrF zAF,.inr ⟨122,p.C.length+1,_,.inl rfl,rfl,rfl,fun i hi j hj=>by
    obtain rfl:j=0:=Nat.lt_one_iff.mp hj;show LeC _ _ _ (cpF (p.C++ [List.replicate n bpZ]) p.C.length 155 i 0);unfold cpF;by_cases hil:i<p.C.length
    ·rw[if_neg xD,zK6 hil]
     refine zDa ?_ rfl;show lsB (p.C.getD i [])=lsB ((p.C++ [List.replicate n bpZ]).getD i []);rw[List.getD_eq_getElem?_getD (l:=p.C++_),List.getElem?_append_left hil,←List.getD_eq_getElem?_getD]
    ·obtain rfl:i=p.C.length:=by omega
     rw[if_pos rfl,zK5 (Nat.le_refl _),Nat.sub_self];exact LeC.ow _ _ rfl⟩,hrF zAm,HeapOk.row rfl rfl List.length_append (zBh p.O bgZ zU rfl),hrF zU,.inr ⟨120,n,_,.inl rfl,List.length_replicate,rfl,zPK n⟩,trivial⟩
  have hcl:cpL (p.C++ [List.replicate n bpZ]) p.C.length (p.C++ [List.replicate n bpZ]).length=List.replicate n bpZ:=by
   unfold cpL;rw[if_pos (by simp),List.getD_eq_getElem?_getD,List.getElem?_append_right (Nat.le_refl _),Nat.sub_self]
   rfl
  refine AWp.weak (S':=zC 147 [(4,.c (.pt 4 5 0 0)),(5,.c (.pt 5 5 0 0))] [(4,⟨false,1,5,34,lF [nl8,nl8,nl8,nl8,nl8]⟩),(5,⟨false,1,5,34,lF [.ow 150,.ow 151,.ow 152,.ow 153,.ow 154]⟩),(150,rdB p.R),(151,chB (p.C++ [List.replicate n bpZ])),(152,bpB p.F),(153,bgB (p.O++ [bgZ])),(154,bgB p.T)] [4,5,150,151,152,153,154]) (Wk.mk [(4,some 4),(5,some 5),(150,some 150),(151,some 151),(152,some 152),(153,some 153),(154,some 154)] rfl rfl rfl ?_ ?_) ?_
  ·exact zB
  ·exact⟨hSm,HeapOk.box rfl rfl ⟨LeC.ow _ _ rfl,LeC.ow _ _ rfl,LeC.ow _ _ rfl,LeC.ow _ _ rfl,LeC.ow _ _ rfl,trivial⟩ rfl,hrF zAF,.inr ⟨151,p.C.length+1,_,.inl rfl,by simp,rfl,fun i hi j hj=>zGP (C:=p.C++ [List.replicate n bpZ]) (by rw[hcl];rfl) rfl i (by simp;omega) j hj⟩,hrF zAm,hrF zU,hrF zU,trivial⟩
  refine vB [26] ?_
  refine⟨zC 147 [(4,.c (.pt 4 5 0 0))] [(4,⟨false,1,5,34,lF (pbC (zAX p q1 q2 u b r5 r6 n 7))⟩)] [4],[(4,⟨false,1,5,34,lF (pbC (zAX p q1 q2 u b r5 r6 n 7))⟩)],Wk.mk [(4,some 4)] rfl rfl rfl ?_ ?_,rfl,rfl,ARets.one (x:=.ag _) (ARes.box zA rfl rfl rfl rfl rfl rfl rfl)⟩
  ·exact zB
  ·exact⟨HeapOk.box rfl rfl ⟨
   fzR rfl rfl,fzC rfl rfl,fzB rfl rfl,fzG rfl rfl,fzG rfl rfl
   ,trivial⟩ rfl,trivial⟩
 obtain rfl:k=8:=by omega
 by_cases hF:0<p.O.length
 ·have hF':(p.O.length:Int)>0:=by omega
  repeat (first
   |refine vB [20,23,24,26] ?_
   | (refine rG 25 ?_
      refine xE9 ?_;refine zI (zH (k:=0) zA) ?_;refine vA ?_;refine aB ?_))
  refine⟨zC 147 [(4,.c (.pt 4 5 0 0))] [(4,⟨false,1,5,34,lF (pbC (zAX p q1 q2 u b r5 r6 n 8))⟩)] [4],[(4,⟨false,1,5,34,lF (pbC (zAX p q1 q2 u b r5 r6 n 8))⟩)],Wk.mk [(4,some 4)] rfl rfl rfl ?_ ?_,rfl,rfl,ARets.one (x:=.ag _) (ARes.box zA rfl rfl rfl rfl rfl rfl rfl)⟩
  ·exact zB
  ·exact⟨HeapOk.box rfl rfl ⟨
   fzR rfl rfl,fzC rfl rfl,fzB rfl rfl,zZ rfl rfl List.length_set (zJA (c:=bgC) (z:=bgZ) (sz:=4) (e:=(⟨q1,q2,0,q1⟩:Bg)) p.O zU hF),fzG rfl rfl
   ,trivial⟩ rfl,trivial⟩
 ·have hF':¬(p.O.length:Int)>0:=by omega
  refine vB [20,23,24,26] ?_
  refine⟨zC 147 [(4,.c (.pt 4 5 0 0))] [(4,⟨false,1,5,34,lF (pbC (zAX p q1 q2 u b r5 r6 n 8))⟩)] [4],[(4,⟨false,1,5,34,lF (pbC (zAX p q1 q2 u b r5 r6 n 8))⟩)],Wk.mk [(4,some 4)] rfl rfl rfl ?_ ?_,rfl,rfl,ARets.one (x:=.ag _) (ARes.box zA rfl rfl rfl rfl rfl rfl rfl)⟩
  ·exact zB
  ·exact⟨HeapOk.box rfl rfl ⟨
   fzR rfl rfl,fzC rfl rfl,fzB rfl rfl,(by show LeC _ _ _ (lsG (p.O.set 0 _));rw[zJz hF];exact fzG rfl rfl),fzG rfl rfl
   ,trivial⟩ rfl,trivial⟩
theorem zR7{p:Pb}(h:Sm p):p.bd 200:=by
 obtain⟨hR,hr,hC,hc,hF,hf,hO,hT⟩:=h
 have h65:∀b:Bp,(∃d,b=zAY d)→BpBd 200 b:=fun b ⟨d,e⟩=>by subst e;exact⟨(by decide:-((200:Nat):Int)≤6∧(6:Int)≤((200:Nat):Int)),(by decide:30≤200)⟩
 exact⟨fun r h=>(hr r h).2,by omega,by omega,by omega,by omega,by omega,fun l hl=>⟨by have:=(hc l hl).1;omega,fun b hb=>h65 b ((hc l hl).2 b hb)⟩,fun b hb=>h65 b (hf b hb)⟩
theorem zSA{n k m:Nat}(h:k≤m):∃r,zBA n m=zBA n k++r:=by
 induction m with
 |zero=>obtain rfl:k=0:=Nat.le_zero.1 h;exact⟨[],rfl⟩
 | succ m ih=>
   by_cases e:k=m+1
   ·subst e;exact⟨[],(List.append_nil _).symm⟩
   ·obtain⟨r,hr⟩:=ih xD
    exact⟨r++zBz n m,by show zBA n m++_=_;rw[hr,List.append_assoc]⟩
theorem zSz{n k i:Nat}{bad:List Int→Bool}(hk:k≤n)(h0:(zBA n k).find? bad=none)(hi:i<(zBz n k).length)(hb:bad ((zBz n k).getD i [])=true)(hl:∀j,j<i→bad ((zBz n k).getD j [])=false):(zBA n (n+1)).find? bad=some ((zBz n k).getD i []):=by
 obtain⟨r,hr⟩:=zSA (n:=n) (show k+1≤n+1 by omega)
 rw[hr]
 show((zBA n k++zBz n k)++r).find? bad=_
 rw[List.append_assoc,List.find?_append,h0,List.find?_append,zIM hi hb hl]
 rfl
theorem zSB{n k:Nat}{bad:List Int→Bool}(h0:(zBA n k).find? bad=none)(h1:∀j,j<(zBz n k).length→bad ((zBz n k).getD j [])=false):(zBA n (k+1)).find? bad=none:=by
 show(zBA n k++zBz n k).find? bad=none
 rw[List.find?_append,h0];exact zL7 h1
theorem zQI(s:List Int)(x:Int)(hl:s.length≤1000000):ACalls Tryz.prog 41 [.c (lsI s),.c (iC x)] (.c (bC (decide (x∈s)))):=by
 obtain⟨v,hv⟩:∃v,decide (x∈s)=v:=⟨_,rfl⟩
 rw[hv];refine zJ Tryz.func41 rfl rfl Tryz.ntmps41 rfl ?_;refine vB [0,1] ?_;refine AWp.round (fun k:Nat=>zC 18 [(0,.c (lsI s)),(1,.c (iC x)),(5,.c (iC (k:Nat)))] [] []) (fun k=>k≤s.length∧∀j,j<k→¬fI s j=x) (fun k=>s.length-k) 0 ⟨Nat.zero_le _,fun j hj=>absurd hj (Nat.not_lt_zero _)⟩ ?_ (fun k hk=> ?_)
 ·refine Wk.mk [] rfl rfl rfl ?_ trivial
  exact zB
 obtain⟨hk,hno⟩:=hk
 by_cases hks:k<s.length
 ·have hkl:(k:Int)<s.length:=by omega
  obtain⟨y,hy⟩:∃y,fI s k=y:=⟨_,rfl⟩
  have hcy:iF (fI s) k 0=iC y:=by rw[←hy]
  by_cases hxy:y=x
  ·obtain rfl:true=v:=by rw[←hv];exact(decide_eq_true (mem_fI.2 ⟨k,hks,hy.trans hxy⟩)).symm
   repeat (first
    |refine vB [2,5] ?_
    | (refine rG 4 ?_
       refine xE2 ?_
       first|refine zG (aP (k:=k) zA) ?_|refine zI (zH (k:=k) zA) ?_
       first|refine zY zA (hcy) rfl rfl rfl rfl rfl oM ?_|refine zAp zA rfl rfl rfl rfl rfl rfl rfl oM oM (hcy) ?_
       refine xE2 ?_;refine aB ?_))
   refine⟨zC 18 [(4,.c (bC true))] [] [],[],Wk.mk [] rfl rfl rfl ?_ trivial,rfl,rfl,aR1⟩
   exact zB
  · -- ax 16 ref30.in
    repeat (first
     |refine vB [2,3] ?_
     | (refine rG 4 ?_
        refine xE2 ?_
        first|refine zG (aP (k:=k) zA) ?_|refine zI (zH (k:=k) zA) ?_
        first|refine zY zA (hcy) rfl rfl rfl rfl rfl oM ?_|refine zAp zA rfl rfl rfl rfl rfl rfl rfl oM oM (hcy) ?_
        refine xE2 ?_;refine aB ?_))
    refine⟨k+1,⟨hks,fun j hj=> ?_⟩,Wk.mk [] rfl rfl rfl ?_ trivial,by omega⟩
    ·by_cases e:j=k
     ·subst e;rw[hy];exact hxy
     ·exact hno j xD
    ·exact zB
 ·obtain rfl:k=s.length:=by omega
  have hkl:¬((s.length:Nat):Int)<s.length:=by omega
  obtain rfl:false=v:=by rw[←hv];exact(decide_eq_false fun hm=>by obtain⟨i,h1,h2⟩:=mem_fI.1 hm;exact hno i h1 h2).symm
  refine vB [2,6] ?_
  refine⟨zC 18 [(4,.c (bC false))] [] [],[],Wk.mk [] rfl rfl rfl ?_ trivial,rfl,rfl,aR1⟩
  exact zB
theorem zR2(H:List Hg)(s:List Int)(hH:H.length≤1000000)(hs:s.length≤1000000):ACalls Tryz.prog 62 [.c (lsH H),.c (lsI s)] (.c (bC (zA9 H.length s))):=by
 obtain⟨v,hv⟩:∃v,zA9 H.length s=v:=⟨_,rfl⟩
 rw[hv];refine zJ Tryz.func62 rfl rfl Tryz.ntmps62 rfl ?_;refine vB [0,1] ?_;refine AWp.round (fun k:Nat=>zC 42 [(0,.c (lsH H)),(1,.c (lsI s)),(5,.c (iC (k:Nat)))] [] []) (fun k=>k≤s.length∧∀i,i<k→0≤fI s i∧fI s i<H.length∧(0<i→fI s (i-1)<fI s i)) (fun k=>s.length-k) 0 ⟨Nat.zero_le _,fun _ h=>absurd h (Nat.not_lt_zero _)⟩ ?_ (fun k hk=> ?_)
 ·refine Wk.mk [] rfl rfl rfl ?_ trivial
  exact zB
 obtain⟨hk,hok⟩:=hk
 by_cases hkl:k<s.length;rotate_left
 ·have hkl':¬(k:Int)<s.length:=by omega
  obtain rfl:k=s.length:=by omega
  rw[nmOk_iff.2 hok]at hv;subst hv;refine vB [2,6] ?_
  refine⟨zC 42 [(4,.c (bC true))] [] [],[],Wk.mk [] rfl rfl rfl ?_ trivial,rfl,rfl,aR1⟩
  exact zB
 have hkl':(k:Int)<s.length:=by omega
 have bad:¬(0≤fI s k∧fI s k<H.length∧(0<k→fI s (k-1)<fI s k))→v=false:=fun h=>by rw[←hv,zMX hkl h]
 have go:0≤fI s k∧fI s k<H.length∧(0<k→fI s (k-1)<fI s k)→k+1≤s.length∧∀i,i<k+1→0≤fI s i∧fI s i<H.length∧(0<i→fI s (i-1)<fI s i):=fun h=>⟨hkl,fun i hi=>by
  by_cases e:i=k
  ·rw[e];exact h
  ·exact hok i xD⟩
 obtain⟨y,hy⟩:∃y,fI s k=y:=⟨_,rfl⟩
 have hcy:iF (fI s) k 0=iC y:=by rw[←hy]
 rw[hy]at bad go;clear hok;by_cases c1:y<0
 ·obtain rfl:=bad fun h=>by omega
  repeat (first
   |refine vB [2,5] ?_
   |(refine AWp.draw (id:=4) zK ?_;refine xE2 ?_;(first|refine zG (aP (k:=k) zA) ?_|refine zI (zH (k:=k) zA) ?_);(first|refine zY zA (hcy) rfl rfl rfl rfl rfl oM ?_|refine zAp zA rfl rfl rfl rfl rfl rfl rfl oM oM (hcy) ?_);(iterate 26 refine vA ?_);refine aB ⟨by kernel_rfl,?_⟩))
  refine⟨zC 42 [(4,.c (bC false))] [] [],[],Wk.mk [] rfl rfl rfl ?_ trivial,rfl,rfl,aR1⟩
  exact zB
 by_cases c2:y≥H.length
 ·obtain rfl:=bad fun h=>by omega
  repeat (first
   |refine vB [2,5] ?_
   |(refine AWp.draw (id:=4) zK ?_;refine xE2 ?_;(first|refine zG (aP (k:=k) zA) ?_|refine zI (zH (k:=k) zA) ?_);(first|refine zY zA (hcy) rfl rfl rfl rfl rfl oM ?_|refine zAp zA rfl rfl rfl rfl rfl rfl rfl oM oM (hcy) ?_);refine xE4 ?_;(first|refine qr2 aG ?_|refine zG (aP (k:=k) zA) ?_|refine zI (zH (k:=k) zA) ?_);(first|refine qr2 aG ?_|refine zY zA (hcy) rfl rfl rfl rfl rfl oM ?_|refine zAp zA rfl rfl rfl rfl rfl rfl rfl oM oM (hcy) ?_);(iterate 20 refine vA ?_);refine aB ⟨by kernel_rfl,?_⟩))
  refine⟨zC 42 [(4,.c (bC false))] [] [],[],Wk.mk [] rfl rfl rfl ?_ trivial,rfl,rfl,aR1⟩
  exact zB
 by_cases c3:k=0
 ·have g:=go ⟨by omega,by omega,fun h=>by omega⟩
  have c3':¬(k:Int)>0:=by omega
  repeat (first
   |refine vB [2,3] ?_
   |(refine AWp.draw (id:=4) zK ?_;refine xE2 ?_;(first|refine zG (aP (k:=k) zA) ?_|refine zI (zH (k:=k) zA) ?_);(first|refine zY zA (hcy) rfl rfl rfl rfl rfl oM ?_|refine zAp zA rfl rfl rfl rfl rfl rfl rfl oM oM (hcy) ?_);refine xE4 ?_;(first|refine qr2 aG ?_|refine zG (aP (k:=k) zA) ?_|refine zI (zH (k:=k) zA) ?_);(first|refine qr2 aG ?_|refine zY zA (hcy) rfl rfl rfl rfl rfl oM ?_|refine zAp zA rfl rfl rfl rfl rfl rfl rfl oM oM (hcy) ?_);(iterate 20 refine vA ?_);refine aB ⟨by kernel_rfl,?_⟩))
  refine⟨k+1,g,Wk.mk [] rfl rfl rfl ?_ trivial,by omega⟩
  exact zB
 have c3':(k:Int)>0:=by omega
 obtain⟨m,hm⟩:∃m,k=m+1:=⟨k-1,by omega⟩
 have hm1:k-1=m:=by omega
 have hml:m<s.length:=by omega
 rw[hm1]at bad go
 obtain⟨z,hz⟩:∃z,fI s m=z:=⟨_,rfl⟩
 have hcz:iF (fI s) m 0=iC z:=by rw[←hz]
 rw[hz]at bad go;by_cases c4:y≤z
 ·obtain rfl:=bad fun h=>by have:=h.2.2 xD;omega
  repeat (first
   |refine vB [2,5] ?_
   |(refine AWp.draw (id:=4) zK ?_;refine xE2 ?_;(first|refine zG (aP (k:=k) zA) ?_|refine zI (zH (k:=k) zA) ?_);(first|refine zY zA (hcy) rfl rfl rfl rfl rfl oM ?_|refine zAp zA rfl rfl rfl rfl rfl rfl rfl oM oM (hcy) ?_);refine xE4 ?_;(first|refine qr2 aG ?_|refine zG (aP (k:=k) zA) ?_|refine zI (zH (k:=k) zA) ?_);(first|refine qr2 aG ?_|refine zY zA (hcy) rfl rfl rfl rfl rfl oM ?_|refine zAp zA rfl rfl rfl rfl rfl rfl rfl oM oM (hcy) ?_);refine zB4 ?_;(first|refine qr2 aG ?_|refine zG (aP (k:=k) zA) ?_|refine zI (zH (k:=k) zA) ?_);(first|refine qr2 aG ?_|refine zY zA (hcy) rfl rfl rfl rfl rfl oM ?_|refine zAp zA rfl rfl rfl rfl rfl rfl rfl oM oM (hcy) ?_);refine xE3 ?_;(first|refine qr2 aG ?_|refine zG (aP (k:=m) zA) ?_|refine zI (zH (k:=m) zA) ?_);(first|refine qr2 aG ?_|refine zY zA (hcz) rfl rfl rfl rfl rfl oM ?_|refine zAp zA rfl rfl rfl rfl rfl rfl rfl oM oM (hcz) ?_);refine xE3 ?_;refine aB ⟨by kernel_rfl,?_⟩))
  refine⟨zC 42 [(4,.c (bC false))] [] [],[],Wk.mk [] rfl rfl rfl ?_ trivial,rfl,rfl,aR1⟩
  exact zB
 have g:=go ⟨by omega,by omega,fun h=>by omega⟩
 repeat (first
  |refine vB [2,3] ?_
  |(refine AWp.draw (id:=4) zK ?_;refine xE2 ?_;(first|refine zG (aP (k:=k) zA) ?_|refine zI (zH (k:=k) zA) ?_);(first|refine zY zA (hcy) rfl rfl rfl rfl rfl oM ?_|refine zAp zA rfl rfl rfl rfl rfl rfl rfl oM oM (hcy) ?_);refine xE4 ?_;(first|refine qr2 aG ?_|refine zG (aP (k:=k) zA) ?_|refine zI (zH (k:=k) zA) ?_);(first|refine qr2 aG ?_|refine zY zA (hcy) rfl rfl rfl rfl rfl oM ?_|refine zAp zA rfl rfl rfl rfl rfl rfl rfl oM oM (hcy) ?_);refine zB4 ?_;(first|refine qr2 aG ?_|refine zG (aP (k:=k) zA) ?_|refine zI (zH (k:=k) zA) ?_);(first|refine qr2 aG ?_|refine zY zA (hcy) rfl rfl rfl rfl rfl oM ?_|refine zAp zA rfl rfl rfl rfl rfl rfl rfl oM oM (hcy) ?_);refine xE3 ?_;(first|refine qr2 aG ?_|refine zG (aP (k:=m) zA) ?_|refine zI (zH (k:=m) zA) ?_);(first|refine qr2 aG ?_|refine zY zA (hcz) rfl rfl rfl rfl rfl oM ?_|refine zAp zA rfl rfl rfl rfl rfl rfl rfl oM oM (hcz) ?_);refine xE3 ?_;refine aB ⟨by kernel_rfl,?_⟩))
 refine⟨k+1,g,Wk.mk [] rfl rfl rfl ?_ trivial,by omega⟩
 exact zB
theorem j30{P:Nat→Prop}(h:P 0∧P 1∧P 2):∀j,j<3→P j:=fun j hj=>by
 obtain⟨h0,h1,h2⟩:=h
 match j,hj with
 |0,_=>exact h0
 |1,_=>exact h1
 |2,_=>exact h2
theorem zJq(p:Pb)(hp:p.ok)(H:List Hg)(hH:zCB H)(s:List Int)(hs:s.length≤1000000):ACalls Tryz.prog 32 [.ag (pbC p),.c (lsH H),.c (lsI s)] (.tu [.ag (pbC (zAd p H s).1),.c (iC (zAd p H s).2)]):=by
 have hC:=zHk p hp
 obtain⟨e,he⟩:∃e,zAr p=e:=⟨_,rfl⟩
 rw[he]at hC;by_cases h0:e=0;rotate_left
 ·rw [show zAd p H s=(pbZ,e) by unfold zAd;rw[he,if_neg h0]]
  refine zJ Tryz.func32 rfl rfl Tryz.ntmps32 rfl ?_
  repeat (first
   |refine vB [0,2,3] ?_
   | (refine rG 1 ?_
      refine vA ?_;refine xB Tryz.func31 hC ?_;refine vA ?_;refine aB ?_))
  refine⟨zC 71 [(6,.c (.pt 6 5 0 0)),(7,.c (iC (e)))] [(6,⟨false,1,5,34,lF (pbC pbZ)⟩)] [6],[(6,⟨false,1,5,34,lF (pbC pbZ)⟩)],Wk.mk [(6,some 6)] rfl rfl rfl ?_ ?_,rfl,rfl,ARets.two (x:=.ag _) (y:=.c _) (ARes.box zA rfl rfl rfl rfl rfl rfl rfl) (ARes.tmp rfl rfl)⟩
  ·exact zB
  ·exact⟨HeapOk.box rfl rfl ⟨LeC.nils _ _,LeC.nils _ _,LeC.nils _ _,LeC.nils _ _,LeC.nils _ _,trivial⟩ rfl,trivial⟩
 subst h0;have hfit:=zCE hp he;have lC:=hfit.c;have lO:=hfit.o;have lH:=hH.1;have hI:=zR2 H s xD hs
 obtain⟨V,hV⟩:∃V,zAd p H s=V:=⟨_,rfl⟩
 have hwv:(if zA9 H.length s=true then (if zAr (anP p H s)=0 then (anP p H s,(0:Int))else (pbZ,zAr (anP p H s)))else (pbZ,1))=V:=by rw[←hV];unfold zAd;rw[if_pos he]
 rw[hV];generalize zA9 H.length s=b at *
 cases b with
 | false=>
   obtain rfl:(pbZ,(1:Int))=V:=hwv;refine zJ Tryz.func32 rfl rfl Tryz.ntmps32 rfl ?_
   repeat (first
    |refine vB [0,2,5] ?_
    | (refine rG 1 ?_
       refine vA ?_;refine xB Tryz.func31 hC ?_;refine vA ?_;refine aB ?_)
    | (refine rG 4 ?_
       refine xE2 ?_;refine xB Tryz.func62 hI ?_;refine vA ?_;refine aB ?_))
   refine⟨zC 71 [(6,.c (.pt 6 5 0 0)),(7,.c (iC (1)))] [(6,⟨false,1,5,34,lF (pbC pbZ)⟩)] [6],[(6,⟨false,1,5,34,lF (pbC pbZ)⟩)],Wk.mk [(6,some 6)] rfl rfl rfl ?_ ?_,rfl,rfl,ARets.two (x:=.ag _) (y:=.c _) (ARes.box zA rfl rfl rfl rfl rfl rfl rfl) (ARes.tmp rfl rfl)⟩
   ·exact zB
   ·exact⟨HeapOk.box rfl rfl ⟨LeC.nils _ _,LeC.nils _ _,LeC.nils _ _,LeC.nils _ _,LeC.nils _ _,trivial⟩ rfl,trivial⟩
 |true=>
 rw[if_pos rfl]at hwv
 obtain⟨m,hm⟩:∃m,p.C.length=m:=⟨_,rfl⟩
 have cG:=zKC p hp m;refine zJ Tryz.func32 rfl rfl Tryz.ntmps32 rfl ?_
 repeat (first
  |refine vB [0,2] ?_
  | (refine rG 1 ?_
     refine vA ?_;refine xB Tryz.func31 hC ?_;refine vA ?_;refine aB ?_)
  | (refine rG 4 ?_
     refine xE2 ?_;refine xB Tryz.func62 hI ?_;refine vA ?_;refine aB ?_)
  | (refine rG 6 ?_
     refine vA ?_;refine AList.callG [] [260,261,262,263,264,265] [] [] (zFC p m) [] (zIA p m 265) rfl rfl FnV.func rfl Tryz.func22 rfl xC (trivial) rfl (zLU rfl rfl rfl rfl rfl) (trivial) (zLV rfl) (cG) ?_;refine xE2 ?_;refine aB ?_))
 clear cG;refine AWp.weak (S':=
  zC 71 [(1,.c (lsH H)),(2,.c (lsI s)),(6,.c (.pt 6 5 0 0)),(9,.c (.pt 9 5 0 0))] [(6,⟨false,1,5,34,lF [nl8,nl8,nl8,nl8,nl8]⟩),(9,⟨false,1,5,34,lF [lsR p.R,.ow 120,lsB p.F,.ow 121,lsG p.T]⟩),(120,chB p.C),(121,bgB p.O)] [6,9,120,121]) (Wk.mk [(6,some 6),(9,some 9),(120,some 261),(121,some 263)] rfl rfl rfl ?_ ?_) ?_
 ·exact zB
 ·exact⟨hSm,HeapOk.box rfl rfl ⟨fzR rfl rfl,LeC.ow _ _ rfl,fzB rfl rfl,LeC.ow _ _ rfl,fzG rfl rfl,trivial⟩ rfl,HeapOk.row rfl rfl rfl (fun i hi j _=>by
   have e:cpF p.C m 265 i j=chF p.C i j:=if_neg xD
   exact⟨e,by rw[e];rfl⟩),hrF zU,trivial⟩
 clear hm;refine vB [7] ?_;refine AWp.round (fun k:Nat=>
  zC 71 [(1,.c (lsH H)),(2,.c (lsI s)),(6,.c (.pt 6 5 0 0)),(9,.c (.pt 9 5 0 0)),(10,.c (iC (k:Nat)))] [(6,⟨false,1,5,34,lF [nl8,nl8,nl8,nl8,nl8]⟩),(9,⟨false,1,5,34,lF [lsR p.R,.ow 120,lsB p.F,.ow 121,lsG p.T]⟩),(120,chB (p.C++anC H s k)),(121,bgB (p.O++anO H k))] [6,9,120,121]
  ) (fun k=>k≤H.length) (fun k=>H.length-k) 0 (Nat.zero_le _) ?_ (fun k hk=> ?_)
 ·rw[show p.C++anC H s 0=p.C from List.append_nil _,show p.O++anO H 0=p.O from List.append_nil _]
  refine Wk.mk [(6,some 6),(9,some 9),(120,some 120),(121,some 121)] rfl rfl rfl ?_ ?_
  ·exact zB
  ·exact⟨hSm,HeapOk.box rfl rfl ⟨LeC.refl _ rfl,LeC.ow _ _ rfl,LeC.refl _ rfl,LeC.ow _ _ rfl,LeC.refl _ rfl,trivial⟩ rfl,HeapOk.row rfl rfl rfl (fun i _ j _=>⟨rfl,rfl⟩),hrF zU,trivial⟩
 by_cases hkl:k<H.length;rotate_left
 ·have hkl':¬(k:Int)<H.length:=by omega
  obtain rfl:k=H.length:=by omega
  have hW:=zHk (anP p H s) (zEl s hp hH he);refine vB [8] ?_;refine AWp.weak (S':=zC 71 [(6,.c (.pt 6 5 0 0)),(9,.c (.pt 9 5 0 0))] [(6,⟨false,1,5,34,lF [nl8,nl8,nl8,nl8,nl8]⟩),(9,⟨false,1,5,34,lF (pbC (anP p H s))⟩)] [6,9]) (Wk.mk [(6,some 6),(9,some 9)] rfl rfl rfl ?_ ?_) ?_
  ·exact zB
  ·exact⟨hSm,HeapOk.box rfl rfl ⟨LeC.refl _ rfl,zZ rfl rfl rfl (fun _ _ _ _=>⟨rfl,rfl⟩),LeC.refl _ rfl,zZ rfl rfl rfl (fun i _ j _=>⟨rfl,zL zU _ i j⟩),LeC.refl _ rfl,trivial⟩ rfl,trivial⟩
  generalize zAr (anP p H s)=f at *;by_cases hf:f=0
  ·rw [if_pos hf]at hwv
   subst hf hwv
   repeat (first
    |refine vB [16,18] ?_
    | (refine rG 15 ?_
       refine vA ?_;refine xB Tryz.func31 hW ?_;refine vA ?_;refine aB ?_))
   refine⟨zC 71 [(6,.c (.pt 6 5 0 0)),(7,.c (iC 0))] [(6,⟨false,1,5,34,lF (pbC (anP p H s))⟩)] [6],[(6,⟨false,1,5,34,lF (pbC (anP p H s))⟩)],Wk.mk [(6,some 6)] rfl rfl rfl ?_ ?_,rfl,rfl,ARets.two (x:=.ag _) (y:=.c _) (ARes.box zA rfl rfl rfl rfl rfl rfl rfl) (ARes.tmp rfl rfl)⟩
   ·exact zB
   ·exact⟨hSm,trivial⟩
  ·rw [if_neg hf]at hwv
   subst hwv
   repeat (first
    |refine vB [16,17] ?_
    | (refine rG 15 ?_
       refine vA ?_;refine xB Tryz.func31 hW ?_;refine vA ?_;refine aB ?_))
   refine⟨zC 71 [(6,.c (.pt 6 5 0 0)),(7,.c (iC (f)))] [(6,⟨false,1,5,34,lF (pbC pbZ)⟩)] [6],[(6,⟨false,1,5,34,lF (pbC pbZ)⟩)],Wk.mk [(6,some 6)] rfl rfl rfl ?_ ?_,rfl,rfl,ARets.two (x:=.ag _) (y:=.c _) (ARes.box zA rfl rfl rfl rfl rfl rfl rfl) (ARes.tmp rfl rfl)⟩
   ·exact zB
   ·exact⟨HeapOk.box rfl rfl ⟨LeC.nils _ _,LeC.nils _ _,LeC.nils _ _,LeC.nils _ _,LeC.nils _ _,trivial⟩ rfl,trivial⟩
 have hkl':(k:Int)<H.length:=by omega
 have hb:=zG2 hH s hkl;have hcn:=zQI s (k:Int) hs;have e1:p.C++anC H s (k+1)=(p.C++anC H s k)++ [zBY H s k]:=by rw[zIa,List.append_assoc]
 have e2:p.O++anO H (k+1)=(p.O++anO H k)++ [(H.getD k hgZ).own]:=by rw[zIb,List.append_assoc]
 have l1:(p.C++anC H s k).length≤1000000:=by rw[List.length_append,zEJ];omega
 have l2:(p.O++anO H k).length≤1000000:=by rw[List.length_append,zGE];omega
 obtain⟨h,hh⟩:∃h,H.getD k hgZ=h:=⟨_,rfl⟩
 have hlc:h.ch.length≤1000000:=by rw[←hh];exact(hH.2 _ (zAB hkl)).2.1
 have eN:zAD (zS hgC hgZ H k) 0 3=bpC h.now:=by rw[←hh];rfl
 have eC:zS hgC hgZ H k 3=lsB h.ch:=by rw[←hh];rfl
 have eO:zAD (zS hgC hgZ H k) 4 4=bgC h.own:=by rw[←hh];rfl
 have hX:zBY H s k=if (k:Int)∈s then h.ch else [h.now]:=by rw[←hh]
 rw[hh]at e2;generalize zBY H s k=X at *;generalize p.C++anC H s k=q1 at *;generalize p.O++anO H k=q2 at *
 repeat (first
  |refine vB [8] ?_
  | (refine rG 10 ?_
     refine xE2 ?_
     first|refine zG (aP (k:=k) zA) ?_|refine zI (zH (k:=k) zA) ?_
     refine vA ?_;refine zEb zA (eN) rfl rfl rfl rfl rfl oM ?_;refine xE2 ?_;refine aB ?_))
 refine zEd (
  zC 71 [(1,.c (lsH H)),(2,.c (lsI s)),(6,.c (.pt 6 5 0 0)),(9,.c (.pt 9 5 0 0)),(10,.c (iC (k:Nat))),(11,.c (lsB X))] [(6,⟨false,1,5,34,lF [nl8,nl8,nl8,nl8,nl8]⟩),(9,⟨false,1,5,34,lF [lsR p.R,.ow 120,lsB p.F,.ow 121,lsG p.T]⟩),(120,chB (q1)),(121,bgB (q2))] [6,9,120,121]
  ) ?_ ?_
 ·by_cases hm:(k:Int)∈s
  ·rw [decide_eq_true hm]at hcn
   rw[if_pos hm]at hX;subst hX
   repeat (first
    |refine vB [] ?_
    | (refine rG 11 ?_
       refine xE2 ?_;refine xB Tryz.func41 hcn ?_;refine aB ?_)
    | (refine rG 12 ?_
       refine xE3 ?_
       first|refine zG (aP (k:=k) zA) ?_|refine zI (zH (k:=k) zA) ?_
       refine vA ?_
       first|refine zY zA (eC) rfl rfl rfl rfl rfl oM ?_|refine zAp zA rfl rfl rfl rfl rfl rfl rfl oM oM (eC) ?_
       refine xA ?_;refine vA ?_;refine aB ?_))
   refine⟨rfl,Wk.mk [(6,some 6),(9,some 9),(120,some 120),(121,some 121)] rfl rfl rfl ?_ ?_⟩
   ·repeat (first|exact trivial|refine⟨⟨_,rfl,by first|exact LeA.c (zZ rfl rfl rfl (fun i _ j _=>⟨rfl,zL zAm _ i j⟩))|exact leT⟩,?_⟩)
   ·exact⟨hSm,HeapOk.box rfl rfl ⟨LeC.refl _ rfl,LeC.ow _ _ rfl,LeC.refl _ rfl,LeC.ow _ _ rfl,LeC.refl _ rfl,trivial⟩ rfl,HeapOk.row rfl rfl rfl (fun i _ j _=>⟨rfl,rfl⟩),hrF zU,trivial⟩
  ·rw [decide_eq_false hm]at hcn
   rw[if_neg hm]at hX;subst hX
   repeat (first
    |refine vB [] ?_
    | (refine rG 11 ?_
       refine xE2 ?_;refine xB Tryz.func41 hcn ?_;refine aB ?_))
   refine⟨rfl,Wk.mk [(6,some 6),(9,some 9),(120,some 120),(121,some 121)] rfl rfl rfl ?_ ?_⟩
   ·repeat (first|exact trivial|refine⟨⟨_,rfl,by first|exact LeA.c (zCO rfl (fun i hi j hj=>by obtain rfl:i=0:=Nat.lt_one_iff.mp hi;revert j;exact j30 ⟨rfl,rfl,rfl⟩))|exact leT⟩,?_⟩)
   ·exact⟨hSm,HeapOk.box rfl rfl ⟨LeC.refl _ rfl,LeC.ow _ _ rfl,LeC.refl _ rfl,LeC.ow _ _ rfl,LeC.refl _ rfl,trivial⟩ rfl,HeapOk.row rfl rfl rfl (fun i _ j _=>⟨rfl,rfl⟩),hrF zU,trivial⟩
 repeat (first
  |refine vB [9] ?_
  | (refine rG 13 ?_
     refine xE4 ?_;refine xA ?_;refine xE2 ?_;refine aB ?_)
  |(refine AWp.draw (id:=14) zK ?_;refine xE4 ?_;(first|refine zG (aP (k:=k) zA) ?_|refine zI (zH (k:=k) zA) ?_);refine vA ?_;refine zEb zA (eO) rfl rfl rfl rfl rfl oM ?_;refine vA ?_;refine xA ?_;refine xE2 ?_;refine aB ⟨by kernel_rfl,?_⟩))
 refine⟨k+1,hkl,?_,by omega⟩
 rw[e1,e2];refine Wk.mk [(6,some 6),(9,some 9),(120,some 52),(121,some 62)] rfl rfl rfl ?_ ?_
 ·exact zB
 ·exact⟨hSm,HeapOk.box rfl rfl ⟨LeC.refl _ rfl,LeC.ow _ _ rfl,LeC.refl _ rfl,LeC.ow _ _ rfl,LeC.refl _ rfl,trivial⟩ rfl,HeapOk.row rfl rfl List.length_append (zDs _ _),HeapOk.row rfl rfl List.length_append (zBh _ _ zU rfl),trivial⟩
abbrev llB(L:List (List Int)):AB:=⟨true,L.length,1,23,fun k _=>lsI (L.getD k [])⟩
theorem zML(L M:List (List Int))(i j:Nat):zAj (fun k _=>lsI (L.getD k [])) L.length (fun k _=>lsI (M.getD k [])) i j=lsI ((L++M).getD i []):=by
 unfold zAj;by_cases h:i<L.length
 ·rw[Nat.blt_eq.mpr h,List.getD_eq_getElem?_getD (l:=L++M),List.getElem?_append_left h,←List.getD_eq_getElem?_getD]
  rfl
 ·rw[show Nat.blt i L.length=false from Bool.eq_false_iff.2 fun e=>h (Nat.blt_eq.mp e),List.getD_eq_getElem?_getD (l:=L++M),List.getElem?_append_right xD,←List.getD_eq_getElem?_getD]
  rfl
theorem zIz{n:Nat}:∀(r:Nat) (l:List Int) (x:Nat),x≤n→(zAN n r l x).length≤2^(n-x)
 |0,l,x,_=>Nat.one_le_two_pow
 | r+1,l,x,hx=>by
   have key:∀d x,d+x=n→(zBG (zAN n r) l d x).length+1≤2^d:=fun d=>by
    induction d with
    |zero=>exact fun x _=>Nat.le_refl _
    | succ d ih=>
      intro x hx
      show(zAN n r (l++ [(x:Int)]) (x+1)++zBG (zAN n r) l d (x+1)).length+1≤_
      have h1:=zIz (n:=n) r (l++ [(x:Int)]) (x+1) xD;have h2:=ih (x+1) xD;rw[show n-(x+1)=d by omega]at h1;rw[List.length_append,Nat.pow_succ]
      omega
   have:=key (n-x) x xD
   show(zBG (zAN n r) l (n-x) x).length≤_
   omega
theorem zNb{d:Nat}(h:d≤20):2^d≤1048576:=Nat.le_trans (Nat.pow_le_pow_right (by decide) h) (by decide)
theorem zKT(n:Nat)(hn:n≤20):∀(r:Nat) (l:List Int) (x:Nat),(l.length=0→x=0)→(∀m,l.length=m+1→fI l m+1=(x:Int))→x≤n→l.length+r≤100→∀K:Nat,K=l.length+r→
 ACalls Tryz.prog 33 [.c (iC n),.c (lsI l),.c (iC K)] (.c (lsL (zAN n r l x)))
 | 0,l,x,h0,h1,hx,hl,K,hK=>by
   have hKe:(l.length:Int)=(K:Int):=by omega
   show ACalls _ _ _ (.c (lsL [l]));refine zJ Tryz.func33 rfl rfl Tryz.ntmps33 rfl ?_
   repeat (first
    |refine vB [0,1] ?_
    | (refine rG 2 ?_
       refine xE2 ?_;refine zFd zA rfl rfl rfl rfl rfl rfl rfl rfl rfl rfl ((Nat.zero_add _).symm) ((fun _ _ _ _=>⟨rfl,rfl⟩)) oM oM ?_;refine xE2 ?_;refine aB ?_))
   refine⟨zC 46 [(6,.c (lsL [l]))] [] [],[],Wk.mk [] rfl rfl rfl ?_ trivial,rfl,rfl,aR1⟩
   exact⟨⟨_,rfl,.c (zCO rfl (fun i hi j hj=>by obtain rfl:i=0:=Nat.lt_one_iff.mp hi;obtain rfl:j=0:=Nat.lt_one_iff.mp hj;rfl))⟩,trivial⟩
 | r + 1,l,x,h0,h1,hx,hl,K,hK=>by
   have hKe:¬(l.length:Int)=(K:Int):=by omega
   obtain⟨v,hv⟩:∃v,zAN n (r+1) l x=v:=⟨_,rfl⟩
   have hv': []++zBG (zAN n r) l (n-x) x=v:=hv;have hvl:v.length≤1048576:=by rw[←hv];exact Nat.le_trans (zIz _ _ _ hx) (zNb xD)
   rw[hv]
   obtain⟨z,hz⟩:∃z:Int,z=x:=⟨_,rfl⟩
   refine zJ Tryz.func33 rfl rfl Tryz.ntmps33 rfl ?_;refine vB [0,1,3] ?_;refine zEd (zC 46 [(0,.c (iC n)),(1,.c (lsI l)),(2,.c (iC K)),(7,.c (iC z))] [] []) ?_ ?_
   ·by_cases hl0:l.length=0
    ·have hx0:=h0 hl0
     obtain rfl:z=0:=by omega
     have hl':¬(l.length:Int)>0:=by omega
     refine vB [4] ?_
     refine⟨rfl,Wk.mk [] rfl rfl rfl ?_ trivial⟩
     exact zB
    ·obtain⟨m,hm⟩:∃m,l.length=m+1:=⟨l.length-1,by omega⟩
     have hx1:=h1 m hm
     obtain⟨y,hy⟩:∃y,fI l m=y:=⟨_,rfl⟩
     have hcy:iF (fI l) m 0=iC y:=by rw[←hy]
     obtain rfl:z=y+1:=by omega
     have hl':(l.length:Int)>0:=by omega
     repeat (first
      |refine vB [4] ?_
      | (refine rG 5 ?_
         refine xE4 ?_
         first|refine zG (aP (k:=m) zA) ?_|refine zI (zH (k:=m) zA) ?_
         first|refine zY zA (hcy) rfl rfl rfl rfl rfl oM ?_|refine zAp zA rfl rfl rfl rfl rfl rfl rfl oM oM (hcy) ?_
         refine xE2 ?_;refine aB ?_))
     refine⟨rfl,Wk.mk [] rfl rfl rfl ?_ trivial⟩
     exact zB
   subst hz;refine vB [6,7] ?_;refine AWp.round (fun s:Nat×List (List Int)=>zC 46 [(0,.c (iC n)),(1,.c (lsI l)),(2,.c (iC K)),(8,.c (.ow 20)),(9,.c (iC (s.1:Nat)))] [(20,llB s.2)] [20]) (fun s=>(x≤s.1∧s.1≤n)∧s.2++zBG (zAN n r) l (n-s.1) s.1=v) (fun s=>n-s.1) (x,[]) ⟨⟨Nat.le_refl _,hx⟩,hv'⟩ ?_ (fun s hs=> ?_)
   ·refine Wk.mk [(20,none)] rfl rfl rfl ?_ ?_
    ·exact zB
    ·exact⟨HeapOk.nil rfl rfl,trivial⟩
   obtain⟨k,out⟩:=s
   obtain⟨⟨hxk,hkn⟩,hkv⟩:=hs
   dsimp only at hxk hkn hkv⊢;by_cases hk:k<n;rotate_left
   ·obtain rfl:k=n:=by omega
    have hk':¬((k:Nat):Int)<k:=by omega
    rw[Nat.sub_self]at hkv;obtain rfl:out=v:=by rw[←hkv];exact(List.append_nil _).symm
    refine vB [8,11] ?_
    refine⟨zC 46 [(6,.c (lsL out))] [] [],[],Wk.mk [] rfl rfl rfl ?_ trivial,rfl,rfl,aR1⟩
    exact⟨⟨_,rfl,.c (zZ rfl rfl rfl (fun _ _ _ _=>⟨rfl,rfl⟩))⟩,trivial⟩
   have hk':(k:Int)<n:=by omega
   have hF:=zKT n hn r (l++ [(k:Int)]) (k+1) (fun h=>by rw[List.length_append,List.length_singleton]at h;omega) (fun m hm=>by
    rw[List.length_append,List.length_singleton]at hm;obtain rfl:m=l.length:=by omega
    rw[zII];omega) hk (by rw[List.length_append,List.length_singleton];omega) K (by rw[List.length_append,List.length_singleton];omega)
   rw[show n-k=(n-(k+1))+1 by omega]at hkv;change out++(zAN n r (l++ [(k:Int)]) (k+1)++zBG (zAN n r) l (n-(k+1)) (k+1))=v at hkv;rw[←List.append_assoc]at hkv;generalize zAN n r (l++ [(k:Int)]) (k+1)=R at *;have hoR:out.length+R.length≤1048576:=by
    have:=congrArg List.length hkv;rw[List.length_append,List.length_append]at this
    omega
   repeat (first
    |refine vB [8,9] ?_
    | (refine rG 10 ?_
       refine xE4 ?_;refine xA ?_;refine xE2 ?_;refine zFd zA rfl rfl rfl rfl rfl rfl rfl rfl rfl rfl (@List.length_append _ l [(k:Int)]) (zDt l k) oM oM ?_;refine vA ?_;refine xB Tryz.func33 hF ?_;refine xA ?_;refine vA ?_;refine aB ?_))
   refine⟨(k+1,out++R),⟨⟨by dsimp only;omega,hk⟩,hkv⟩,Wk.mk [(20,some 44)] rfl rfl rfl ?_ ?_,by dsimp only;omega⟩
   ·exact zB
   ·exact⟨HeapOk.row rfl rfl List.length_append (fun i _ j _=>⟨zML _ _ i j,by rw[zML];rfl⟩),trivial⟩
end Go.Proofs.YtbffmfeldkjkcaaGreat
end
