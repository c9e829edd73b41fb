/- Parts of the proof: A30s. -/
import Derived.Test.YtbffmfeldkjkcaaGreatG46
import Derived.Test.YtbffmfeldkjkcaaGreatHA30zcr05
set_option linter.unusedSimpArgs false
set_option linter.unusedVariables false
set_option maxHeartbeats 0
set_option maxRecDepth 100000
section
namespace Go.Proofs.YtbffmfeldkjkcaaGreat
open Go.RowKit Go.Flow Go.AV Go.Plain
theorem zQG{h:Nat→Option AB}{ren:List (Nat×Option Nat)}(n:Nat):∀k,k<n→∀j,j<8→LeC h ren (zF [Value.int .i64 0,.int .i64 0,.slice none 0 0,.slice none 0 0,.int .i64 0,.int .i64 0,.int .i64 0,.int .i64 0] k j) (zS hgC hgZ (List.replicate n hgZ) k j):=fun k hk j hj=>by
 have e:(List.replicate n hgZ).getD k hgZ=hgZ:=by simp[List.getD_eq_getElem?_getD,hk]
 unfold zS;rw[e]
 revert j
 exact j8 ⟨LeC.refl _ rfl,LeC.refl _ rfl,LeC.nils _ _,LeC.nils _ _,LeC.refl _ rfl,LeC.refl _ rfl,LeC.refl _ rfl,LeC.refl _ rfl⟩
theorem zRg(c:Cs)(H:List Hg)(B:Nat)(hH:HgBd B H)(hB:B≤1000)(hl2:H.length≤2)(hq:-9223372036854775808≤c.l1∧c.l1≤9223372036854775807):∃H':List Hg,HgBd (B+20) H'∧ACalls Tryz.prog 8 [.ag (csC c),.c (lsH H)] (.c (lsH H')):=by
 have hHm:∀h∈H,HgB (B+20) h:=fun h hh=>HgB.mono xD (hH.2 h hh)
 by_cases h0:H.length=0
 ·have hM:=zDb c.l1 11 xD xD
  have m0:=Int.emod_nonneg c.l1 (show(11:Int)≠0 by omega);have m1:=Int.emod_lt_of_pos c.l1 (show(0:Int)<11 by omega);generalize c.l1%11=r at hM m0 m1
  obtain⟨r,rfl⟩:=Int.eq_ofNat_of_zero_le m0
  have hz:HgB (B+20) hgZ:=⟨⟨by show -((B+20:Nat):Int)≤0∧(0:Int)≤((B+20:Nat):Int);omega,Nat.zero_le _⟩,Nat.zero_le _,fun _ h=>by cases h⟩
  refine⟨List.replicate r hgZ,⟨by rw[List.length_replicate];omega,fun h hh=>by rw[List.eq_of_mem_replicate hh];exact hz⟩,?_⟩
  have h0':(H.length:Int)=0:=by omega
  refine zJ Tryz.func8 rfl rfl Tryz.ntmps8 rfl ?_
  repeat (first
   |refine vB [0,2] ?_
   | (refine rG 1 ?_
      refine xE2 ?_;refine xA ?_;refine vA ?_;refine aB ?_)
   | (refine rG 3 ?_
      refine vA ?_
      first|refine zAE (aU (i:=1) zA) ?_|refine zAE (zBM (i:=1) zA) ?_|refine zAE (zA4 (i:=1) zA) ?_
      refine vA ?_;refine xB Tryz.func12 hM ?_;refine zC5 (zCN (n:=r) zA) ?_;refine vA ?_;refine aB ?_))
  refine⟨zC 93 [(4,.c (lsH (List.replicate r hgZ)))] [] [],[],Wk.trans (B:=zC 93 [(4,.c (.ow 17))] [(17,hgB (List.replicate r hgZ))] [17]) (Wk.mk [(17,some 17)] rfl rfl rfl ?_ ?_) (Wk.mk [] rfl rfl rfl ?_ trivial),rfl,rfl,aR1⟩
  ·exact zB
  ·exact⟨.inr ⟨17,r,_,.inl rfl,List.length_replicate,rfl,zQG r⟩,trivial⟩
  ·exact⟨⟨_,rfl,.c (zZ rfl rfl rfl (fun i _ j _=>⟨rfl,zL zCY _ i j⟩))⟩,trivial⟩
 have h0':¬(H.length:Int)=0:=by omega
 have hMk:=zDb c.l1 H.length xD xD;have k0:=Int.emod_nonneg c.l1 (show(H.length:Int)≠0 by omega);have k1:=Int.emod_lt_of_pos c.l1 (show(0:Int)<H.length by omega);generalize c.l1%(H.length:Int)=k at hMk k0 k1
 obtain⟨k,rfl⟩:=Int.eq_ofNat_of_zero_le k0
 have hkl:k<H.length:=by omega
 have hMt:=zDb c.l0 4 xD xD;have t0:=Int.emod_nonneg c.l0 (show(4:Int)≠0 by omega);have t1:=Int.emod_lt_of_pos c.l0 (show(0:Int)<4 by omega);generalize c.l0%4=t at hMt t0 t1
 obtain⟨h,hh⟩:∃h,H.getD k hgZ=h:=⟨_,rfl⟩
 have hhm:h∈H:=by rw[←hh];exact zAB hkl
 obtain⟨bN,bC1,bC2⟩:=hH.2 h hhm
 obtain⟨r,hr,hO⟩:=zHW B h.now c.l1 bN xD hq
 have eN:zAD (zS hgC hgZ H k) 0 3=bpC h.now:=by rw[←hh];rfl
 have eC:zS hgC hgZ H k 3=lsB h.ch:=by rw[←hh];rfl
 have eA:zAD (zS hgC hgZ H k) 0 8=hgC h:=by rw[←hh];rfl
 have hset1:∀e:Hg,HgB (B+20) e→HgBd (B+20) (H.set k e):=fun e he=>⟨by rw[List.length_set];have:=hH.1;omega,fun x hx=>(List.mem_or_eq_of_mem_set hx).elim (hHm x) fun q=>by rw[q];exact he⟩
 have hr20:BpBd (B+20) r:=hr.mono xD;by_cases c0:t=0
 ·subst c0
  refine⟨H.set k ⟨r,h.ch,h.own⟩,hset1 _ ⟨hr20,by show h.ch.length≤_;omega,fun b hb=>(bC2 b hb).mono xD⟩,?_⟩
  have hs:=zFO hkl 0 3 (bpC r) ⟨r,h.ch,h.own⟩ (by rw[hh];exact j8 ⟨rfl,rfl,rfl,rfl,rfl,rfl,rfl,rfl⟩)
  refine zJ Tryz.func8 rfl rfl Tryz.ntmps8 rfl ?_
  repeat (first
   |refine vB [0,2,6,15] ?_
   | (refine rG 1 ?_
      refine xE2 ?_;refine xA ?_;refine vA ?_;refine aB ?_)
   | (refine rG 4 ?_
      refine vA ?_
      first|refine zAE (aU (i:=1) zA) ?_|refine zAE (zBM (i:=1) zA) ?_|refine zAE (zA4 (i:=1) zA) ?_
      refine xE3 ?_
      first|refine xB Tryz.func12 hMk ?_|refine xB Tryz.func12 hMt ?_
      refine vA ?_;refine aB ?_)
   | (refine rG 5 ?_
      refine vA ?_
      first|refine zAE (aU (i:=0) zA) ?_|refine zAE (zBM (i:=0) zA) ?_|refine zAE (zA4 (i:=0) zA) ?_
      refine vA ?_
      first|refine xB Tryz.func12 hMk ?_|refine xB Tryz.func12 hMt ?_
      refine aB ?_)
   |(refine AWp.draw (id:=7) zK ?_;refine xE4 ?_;(first|refine zG (aP (k:=k) zA) ?_|refine zI (zH (k:=k) zA) ?_);refine vA ?_;refine zHI zA rfl rfl rfl rfl rfl rfl rfl oM (by first|omega|(dsimp only;omega)|exact of_decide_eq_true rfl|(simp;done)|(simp;omega)|(show _+_*3+3≤12;omega)) (eN) ?_;refine vA ?_;(first|refine zAE (aU (i:=1) zA) ?_|refine zAE (zBM (i:=1) zA) ?_|refine zAE (zA4 (i:=1) zA) ?_);refine vA ?_;refine xB Tryz.func24 hO ?_;(first|refine zG (aP (k:=k) zA) ?_|refine zI (zH (k:=k) zA) ?_);refine xE2 ?_;refine aB ⟨by kernel_rfl,?_⟩))
  refine⟨zC 93 [(4,.c (lsH (H.set k ⟨r,h.ch,h.own⟩)))] [] [],[],Wk.mk [] rfl rfl rfl ?_ trivial,rfl,rfl,aR1⟩
  exact⟨⟨_,rfl,.c (zZ rfl rfl List.length_set (fun i hi j hj=>hs i xD j hj))⟩,trivial⟩
 by_cases c1:t=1
 ·subst c1
  refine⟨H.set k ⟨h.now,h.ch++ [r],h.own⟩,hset1 _ ⟨bN.mono xD,by show(h.ch++ [r]).length≤_;rw[List.length_append,List.length_singleton];omega,fun b hb=>by
   rcases List.mem_append.1 hb with hb|hb
   ·exact(bC2 b hb).mono xD
   ·rw[List.mem_singleton.1 hb];exact hr20⟩,?_⟩
  have hs:=zFO hkl 3 1 [lsB (h.ch++ [r])] ⟨h.now,h.ch++ [r],h.own⟩ (by rw[hh];exact j8 ⟨rfl,rfl,rfl,rfl,rfl,rfl,rfl,rfl⟩)
  have hsn:=zBh (c:=bpC) (z:=bpZ) (sz:=3) h.ch r zAm rfl;refine zJ Tryz.func8 rfl rfl Tryz.ntmps8 rfl ?_
  repeat (first
   |refine vB [0,2,6,8,15] ?_
   | (refine rG 1 ?_
      refine xE2 ?_;refine xA ?_;refine vA ?_;refine aB ?_)
   | (refine rG 4 ?_
      refine vA ?_
      first|refine zAE (aU (i:=1) zA) ?_|refine zAE (zBM (i:=1) zA) ?_|refine zAE (zA4 (i:=1) zA) ?_
      refine xE3 ?_
      first|refine xB Tryz.func12 hMk ?_|refine xB Tryz.func12 hMt ?_
      refine vA ?_;refine aB ?_)
   | (refine rG 5 ?_
      refine vA ?_
      first|refine zAE (aU (i:=0) zA) ?_|refine zAE (zBM (i:=0) zA) ?_|refine zAE (zA4 (i:=0) zA) ?_
      refine vA ?_
      first|refine xB Tryz.func12 hMk ?_|refine xB Tryz.func12 hMt ?_
      refine aB ?_)
   |(refine AWp.draw (id:=9) zK ?_;refine xE5 ?_;(first|refine zG (aP (k:=k) zA) ?_|refine zI (zH (k:=k) zA) ?_);refine vA ?_;(first|refine zY zA (eC) rfl rfl rfl rfl rfl oM ?_|refine zAp zA rfl rfl rfl rfl rfl rfl rfl oM oM (eC) ?_);refine xA ?_;refine xE2 ?_;(first|refine zG (aP (k:=k) zA) ?_|refine zI (zH (k:=k) zA) ?_);refine vA ?_;refine zHI zA rfl rfl rfl rfl rfl rfl rfl oM (by first|omega|(dsimp only;omega)|exact of_decide_eq_true rfl|(simp;done)|(simp;omega)|(show _+_*3+3≤12;omega)) (eN) ?_;refine vA ?_;(first|refine zAE (aU (i:=1) zA) ?_|refine zAE (zBM (i:=1) zA) ?_|refine zAE (zA4 (i:=1) zA) ?_);refine vA ?_;refine xB Tryz.func24 hO ?_;refine vA ?_;refine zFd zA rfl rfl rfl rfl rfl rfl rfl rfl rfl rfl (@List.length_append _ h.ch [r]) (hsn) oM oM ?_;(first|refine zG (aP (k:=k) zA) ?_|refine zI (zH (k:=k) zA) ?_);refine xE2 ?_;refine aB ⟨by kernel_rfl,?_⟩))
  refine⟨zC 93 [(4,.c (lsH (H.set k ⟨h.now,h.ch++ [r],h.own⟩)))] [] [],[],Wk.mk [] rfl rfl rfl ?_ trivial,rfl,rfl,aR1⟩
  exact⟨⟨_,rfl,.c (zZ rfl rfl List.length_set (fun i hi j hj=>hs i xD j hj))⟩,trivial⟩
 by_cases c2:t=2
 ·subst c2
  refine⟨H.set k ⟨h.now,h.ch,⟨c.l1,0,0,c.l1⟩⟩,hset1 _ ⟨bN.mono xD,by show h.ch.length≤_;omega,fun b hb=>(bC2 b hb).mono xD⟩,?_⟩
  have hs:=zFO hkl 4 4 (bgC ⟨c.l1,0,0,c.l1⟩) ⟨h.now,h.ch,⟨c.l1,0,0,c.l1⟩⟩ (by rw[hh];exact j8 ⟨rfl,rfl,rfl,rfl,rfl,rfl,rfl,rfl⟩)
  refine zJ Tryz.func8 rfl rfl Tryz.ntmps8 rfl ?_
  repeat (first
   |refine vB [0,2,6,8,10,15] ?_
   | (refine rG 1 ?_
      refine xE2 ?_;refine xA ?_;refine vA ?_;refine aB ?_)
   | (refine rG 4 ?_
      refine vA ?_
      first|refine zAE (aU (i:=1) zA) ?_|refine zAE (zBM (i:=1) zA) ?_|refine zAE (zA4 (i:=1) zA) ?_
      refine xE3 ?_
      first|refine xB Tryz.func12 hMk ?_|refine xB Tryz.func12 hMt ?_
      refine vA ?_;refine aB ?_)
   | (refine rG 5 ?_
      refine vA ?_
      first|refine zAE (aU (i:=0) zA) ?_|refine zAE (zBM (i:=0) zA) ?_|refine zAE (zA4 (i:=0) zA) ?_
      refine vA ?_
      first|refine xB Tryz.func12 hMk ?_|refine xB Tryz.func12 hMt ?_
      refine aB ?_)
   | (refine rG 11 ?_
      refine xE3 ?_
      first|refine zAE (aU (i:=1) zA) ?_|refine zAE (zBM (i:=1) zA) ?_|refine zAE (zA4 (i:=1) zA) ?_
      refine xE2 ?_
      first|refine zAE (aU (i:=1) zA) ?_|refine zAE (zBM (i:=1) zA) ?_|refine zAE (zA4 (i:=1) zA) ?_
      refine xE2 ?_
      first|refine zG (aP (k:=k) zA) ?_|refine zI (zH (k:=k) zA) ?_
      refine xE2 ?_;refine aB ?_))
  refine⟨zC 93 [(4,.c (lsH (H.set k ⟨h.now,h.ch,⟨c.l1,0,0,c.l1⟩⟩)))] [] [],[],Wk.mk [] rfl rfl rfl ?_ trivial,rfl,rfl,aR1⟩
  exact⟨⟨_,rfl,.c (zZ rfl rfl List.length_set (fun i hi j hj=>hs i xD j hj))⟩,trivial⟩
 obtain rfl:t=3:=by omega
 obtain⟨L,hL⟩:∃L:Nat→List Hg,L=fun m=>H++List.replicate m h:=⟨_,rfl⟩
 have hLl:∀m,(L m).length=H.length+m:=fun m=>by rw[hL];simp
 have hLs:∀m,L (m+1)=L m++ [h]:=fun m=>by rw[hL];show H++List.replicate (m+1) h=H++List.replicate m h++ [h];rw[List.replicate_succ',List.append_assoc]
 have hLk:∀m,zAD (zS hgC hgZ (L m) k) 0 8=hgC h:=fun m=>by
  have:(L m).getD k hgZ=h:=by rw[hL,←hh];show(H++_).getD k hgZ=_;rw[List.getD_eq_getElem?_getD,List.getElem?_append_left hkl,←List.getD_eq_getElem?_getD]
  show zAD (fun j=>(hgC ((L m).getD k hgZ)).getD j .any) 0 8=_;rw[this]
  rfl
 refine⟨L (10-H.length),⟨by rw[hLl];omega,fun x hx=> ?_⟩,?_⟩
 ·rw[hL]at hx
  rcases List.mem_append.1 hx with hx|hx
  ·exact hHm x hx
  ·rw[List.eq_of_mem_replicate hx];exact hHm h hhm
 refine zJ Tryz.func8 rfl rfl Tryz.ntmps8 rfl ?_
 repeat (first
  |refine vB [0,2,6,8,10,12] ?_
  | (refine rG 1 ?_
     refine xE2 ?_;refine xA ?_;refine vA ?_;refine aB ?_)
  | (refine rG 4 ?_
     refine vA ?_
     first|refine zAE (aU (i:=1) zA) ?_|refine zAE (zBM (i:=1) zA) ?_|refine zAE (zA4 (i:=1) zA) ?_
     refine xE3 ?_
     first|refine xB Tryz.func12 hMk ?_|refine xB Tryz.func12 hMt ?_
     refine vA ?_;refine aB ?_)
  | (refine rG 5 ?_
     refine vA ?_
     first|refine zAE (aU (i:=0) zA) ?_|refine zAE (zBM (i:=0) zA) ?_|refine zAE (zA4 (i:=0) zA) ?_
     refine vA ?_
     first|refine xB Tryz.func12 hMk ?_|refine xB Tryz.func12 hMt ?_
     refine aB ?_))
 refine AWp.round (fun m:Nat=>zC 93 [(5,.c (.ow 20)),(6,.c (iC (k:Nat)))] [(20,hgB (L m))] [20]) (fun m=>H.length+m≤10) (fun m=>10-H.length-m) 0 xD ?_ (fun m hm=> ?_)
 ·refine Wk.mk [(20,some 9)] rfl rfl rfl ?_ ?_
  ·exact zB
  ·have e0:L 0=H:=by rw[hL];exact List.append_nil _
   rw[e0]
   exact⟨hrF zCY,trivial⟩
 have hlm:=hLl m;by_cases hm10:H.length+m<10
 ·have hm':((L m).length:Int)<10:=by omega
  have hka:=hLk m
  repeat (first
   |refine vB [13] ?_
   | (refine rG 14 ?_
      refine xE3 ?_
      first|refine zG (aP (k:=k) zA) ?_|refine zI (zH (k:=k) zA) ?_
      refine zHI zA rfl rfl rfl rfl rfl rfl rfl oM (by first|omega|(dsimp only;omega)|exact of_decide_eq_true rfl|(simp;done)|(simp;omega)|(show _+_*3+3≤12;omega)) (hka) ?_
      refine vA ?_;refine xA ?_;refine vA ?_;refine aB ?_))
  refine⟨m+1,by omega,?_,by omega⟩
  rw[hLs];refine Wk.mk [(20,some 91)] rfl rfl rfl ?_ ?_
  ·exact zB
  ·exact⟨HeapOk.row rfl rfl List.length_append (zBh (c:=hgC) (z:=hgZ) (L m) h zCY rfl),trivial⟩
 have hm':¬((L m).length:Int)<10:=by omega
 obtain rfl:m=10-H.length:=by omega
 refine vB [13,15] ?_
 refine⟨zC 93 [(4,.c (lsH (L (10-H.length))))] [] [],[],Wk.mk [] rfl rfl rfl ?_ trivial,rfl,rfl,aR1⟩
 exact⟨⟨_,rfl,.c (zZ rfl rfl rfl (fun i _ j _=>⟨rfl,zL zCY _ i j⟩))⟩,trivial⟩
end Go.Proofs.YtbffmfeldkjkcaaGreat
end
