/- Parts of the proof: A24p, A24q, A24v. -/
import Derived.Test.YtbffmfeldkjkcaaGreatG17
set_option linter.unusedSimpArgs false
set_option linter.unusedVariables false
set_option maxHeartbeats 0
set_option maxRecDepth 100000
section
namespace Go.Proofs.YtbffmfeldkjkcaaGreat
open Go.RowKit Go.Flow Go.AV Go.Plain
def zFN(a b:Bp)(x y:Bg)(c:Cl):Bool:=decide (xsV a b x y c≤0)
def zFB(p:Cl→Bool)(L:List Cl):Cl×Bool:=match L.find? p with
 |some c=>(c,true)
 |none=>(clZ,false)
instance(a b:Bp):Decidable (zBv a b):=by unfold zBv;infer_instance
def zCF(a b:Bp)(x y:Bg):Cl×Bool:=if zBv a b then zFB (zFN a b x y) (alL a.W x y)else (clZ,false)
def lsN(f:Cl→Int)(L:List Cl)(z:Int):Int:=L.foldl (fun m c=>min m (f c)) z
theorem zL8{p:Cl→Bool}{L:List Cl}{k:Nat}(hk:k<L.length)(h:p (L.getD k clZ)=true)(hn:∀i,i<k→p (L.getD i clZ)=false):L.find? p=some (L.getD k clZ):=by
 have hg:∀i (hi:i<L.length),L.getD i clZ=L[i]:=fun i hi=>by rw[List.getD_eq_getElem?_getD,List.getElem?_eq_getElem hi];rfl
 rw[List.find?_eq_some_iff_getElem]
 refine⟨h,k,hk,(hg k hk).symm,fun j hj=> ?_⟩
 rw[←hg j xD,hn j hj]
 rfl
theorem zIN{p:Cl→Bool}{L:List Cl}(hn:∀i,i<L.length→p (L.getD i clZ)=false):L.find? p=none:=by
 rw[List.find?_eq_none];intro c hc
 obtain⟨i,hi,rfl⟩:=List.getElem_of_mem hc
 have:=hn i hi;rw[List.getD_eq_getElem?_getD,List.getElem?_eq_getElem hi]at this;exact fun h=>by rw[show p L[i]=false from this]at h;cases h
def clK(L:List (Int×Int))(k i:Nat):Cl:=⟨(L.getD k mvZ).1,(L.getD k mvZ).2,(i:Int)-4⟩
theorem zGB(m:Nat)(d:Int×Int)(k:Nat):(alI m d k).length=k:=by unfold alI;simp
theorem zFs(m:Nat)(d:Int×Int){k i:Nat}(h:i<k):(alI m d k).getD i clZ=⟨d.1,d.2,(i:Int)-4⟩:=by
 unfold alI;rw[List.getD_eq_getElem?_getD,List.getElem?_map,List.getElem?_range h]
 rfl
theorem zL9{p:Cl→Bool}{M:Nat}:∀(L:List (Int×Int)) (k i:Nat),k<L.length→i<M→p (clK L k i)=true→(∀k',k'<k→∀i',i'<M→p (clK L k' i')=false)→(∀i',i'<i→p (clK L k i')=false)→
 (L.flatMap fun d=>alI 0 d M).find? p=some (clK L k i)
 | [],_,_,h,_,_,_,_=>by cases h
 | d::L,0,i,_,hi,hp,_,h2=>by
   rw[List.flatMap_cons,List.find?_append];have e:(alI 0 d M).find? p=some ((alI 0 d M).getD i clZ):=zL8 (by rw[zGB];exact hi) (by rw[zFs 0 d hi];exact hp) (fun j hj=>by rw[zFs 0 d xD];exact h2 j hj)
   rw[e,zFs 0 d hi]
   rfl
 | d::L,k+1,i,hk,hi,hp,h1,h2=>by
   rw[List.flatMap_cons,List.find?_append];have e:(alI 0 d M).find? p=none:=zIN (fun j hj=>by rw[zGB]at hj;rw[zFs 0 d hj];exact h1 0 xD j hj)
   have hs:∀k' i',clK (d::L) (k'+1) i'=clK L k' i':=fun _ _=>rfl
   rw[e,zL9 L k i (by simpa using hk) hi hp (fun k' hk' i' hi'=>h1 (k'+1) xD i' hi') h2]
   rfl
theorem zMa{p:Cl→Bool}{M:Nat}:∀(L:List (Int×Int)),(∀k',k'<L.length→∀i',i'<M→p (clK L k' i')=false)→(L.flatMap fun d=>alI 0 d M).find? p=none
 | [],_=>rfl
 | d::L,h=>by
   rw[List.flatMap_cons,List.find?_append,zIN (fun j hj=>by rw[zGB]at hj;rw[zFs 0 d hj];exact h 0 (by simp) j hj),zMa L (fun k' hk' i' hi'=>h (k'+1) (by simpa using hk') i' hi')]
   rfl
abbrev clX(a b:Bp)(x y:Bg)(d:Int×Int)(i:Nat):List Value:= [.int .i64 ((i:Int)-4),.int .i64 (xsV a b x y ⟨d.1,d.2,(i:Int)-4⟩)]
theorem zSj(a b:Bp)(x y:Bg)(d:Int×Int)(h:zBv a b)(hd:(-4≤d.1∧d.1≤4)∧-4≤d.2∧d.2≤4):
 ∃ (n:Nat) (c0 c1:Nat→Int) (t0 t1:Int),ACalls Tryz.prog 95 [.ag (prC a b (zAk x) (zAk y)),.ag (mvC d)] (.c (.fn 109 3 (itC a b x y n c0 c1 t0 t1)))∧
   zGv Tryz.prog 109 ((zHu a b x y n c0 c1 t0 t1).map .c) (clX a b x y d) (alM a.W x y):=by
 obtain⟨ha,hb,hW,hH⟩:=h
 obtain⟨q0,q1,q2,q3,q4⟩:=okB ha
 obtain⟨Wn,hWn⟩:=Int.eq_ofNat_of_zero_le q0
 obtain⟨Hn,hHn⟩:=Int.eq_ofNat_of_zero_le q2
 have hst:=zE3 x y q0
 obtain⟨t,ht⟩:=Int.eq_ofNat_of_zero_le hst.1
 have hM:((alM a.W x y:Nat):Int)=a.W+9-stN a.W x y:=by unfold alM;omega
 refine⟨_,_,_,_,_,zSi a b x y d Wn Hn ha hb hWn hHn hW.symm hH.symm hd,?_⟩
 have hX:clX a b x y d=stX x y t (zAA (alB a b d.1 d.2) Wn 0 Hn 0) (zAA (alB b a (-d.1) (-d.2)) Wn d.1 Hn 0) (zAM (alB a b d.1 d.2) Wn Hn 0) (zAM (alB b a (-d.1) (-d.2)) Wn Hn 0):=funext fun i=>(zSb a b x y d Wn Hn t hWn hHn hW.symm hH.symm ht i).symm
 rw[hX];have hcb:∀(B:Nat→Nat→Bool) (s:Int) (k:Nat),0≤zAA B Wn s Hn 0 k∧zAA B Wn s Hn 0 k≤97:=fun B s k=>by have:=zIw B Wn s Hn 0 k;omega
 have hob:∀(B:Nat→Nat→Bool) (s:Int) (i:Nat),0≤zAM B Wn Hn 0-wS (zAA B Wn s Hn 0) i t∧zAM B Wn Hn 0-wS (zAA B Wn s Hn 0) i t≤100000:=fun B s i=>by
  refine⟨?_,?_⟩
  ·rw[zHD B Wn s ((i:Int)-4-s) i t rfl Hn]
   exact zDE fun k _=>Go.Plain.cnt_nonneg _ _
  ·have h1:=zJP B Wn Hn 0 xD xD
   have h2:=zE8 (hcb B s) i t
   omega
 exact zSh a b x y (Wn+40) t (alM a.W x y) Wn _ _ _ _ hWn xD rfl ht xD (hcb _ _) (hcb _ _) (hob _ _) (hob _ _)
def cnB(c:Cl)(b:Bool):List AB:= [⟨false,1,3,66,lF (clC c)⟩,⟨false,1,1,4,lF [bC b]⟩]
theorem zIs(c:Cl)(b:Bool):(cnB c b).length= [8,9].length∧∀B∈cnB c b,PlainB B:=⟨rfl,fun B hB=>by
 rcases List.mem_cons.1 hB with rfl|hB
 ·exact PlainB.box [.int .i64 c.dx,.int .i64 c.dy,.int .i64 c.col] rfl rfl
 ·rcases List.mem_cons.1 hB with rfl|hB
  ·exact PlainB.box [.bool b] rfl rfl
  ·cases hB⟩
theorem zLH(a b:Bp)(x y:Bg)(d:Int×Int)(i:Nat)(v:Value)(hv:v∈clX a b x y d i):v.oneCell'=true:=by
 rcases List.mem_cons.1 hv with rfl|hv
 ·rfl
 ·rcases List.mem_cons.1 hv with rfl|hv
  ·rfl
  ·cases hv
theorem zLI{p:Cl→Bool}{L:List Cl}{c:Cl}(h:L.find? p=some c):zFB p L=(c,true):=by unfold zFB;rw[h]
theorem zLJ{p:Cl→Bool}{L:List Cl}(h:L.find? p=none):zFB p L=(clZ,false):=by unfold zFB;rw[h]
theorem zQw(i:Nat):zAs (i+1) true i=false:=by unfold zAs;rw[show Nat.beq (i+1) (i+1)=true from Nat.beq_refl _];rfl
theorem zQx{k i:Nat}(h:i<k):zAs (k+1) true i=true:=by
 unfold zAs;rw[show Nat.beq (i+1) (k+1)=false from Bool.eq_false_iff.2 fun h=>by have:=Nat.eq_of_beq_eq_true h;omega]
 rfl
theorem zNQ{x y:Bg}{k:Nat}(hk:k<(shL (shN x y)).length):(-4≤((shL (shN x y)).getD k mvZ).1∧((shL (shN x y)).getD k mvZ).1≤4)∧-4≤((shL (shN x y)).getD k mvZ).2∧((shL (shN x y)).getD k mvZ).2≤4:=by
 obtain⟨-,hm⟩:=zE1 x y
 have:=zNR hk
 omega
theorem zOI(a b:Bp)(x y:Bg):ACalls Tryz.prog 87 [.ag (bpC a),.ag (bpC b),.ag (bgC x),.ag (bgC y)] (.tu [.ag (clC (zCF a b x y).1),.c (bC (zCF a b x y).2)]):=by
 have hAl:=zPl a b;have hl1:=zGD x;have hl2:=zGD y;have hSh:=zPd x y;unfold zCF;by_cases hok:zBv a b
 ·rw [if_pos hok]
  rw[decide_eq_true hok]at hAl;have hst:∀k,k<(shL (shN x y)).length→_:=fun k hk=>zSj a b x y ((shL (shN x y)).getD k mvZ) hok (zNQ hk)
  have hfl:alL a.W x y=(shL (shN x y)).flatMap fun d=>alI 0 d (alM a.W x y):=rfl
  rw[hfl];have hSl:(shL (shN x y)).length≤81:=by
   obtain⟨-,hm4⟩:=zE1 x y
   rw[zHs hm4];have:=Nat.mul_le_mul (show 2*shN x y+1≤9 by omega) (show 2*shN x y+1≤9 by omega)
   omega
  generalize shL (shN x y)=S at *
  obtain⟨M,hM⟩:∃M,alM a.W x y=M:=⟨_,rfl⟩
  rw[hM]at hst⊢
  obtain⟨n,hnl⟩:∃n,S.length=n:=⟨_,rfl⟩
  rw[hnl]at hSh hSl hst;refine zJ Tryz.func87 rfl rfl Tryz.ntmps87 rfl ?_
  repeat (first
   |refine vB [0] ?_
   | (refine rG 1 ?_
      refine xE2 ?_;refine xB Tryz.func92 hAl ?_;refine vA ?_;refine aB ?_)
   |(refine AWp.draw (id:=3) zK ?_;refine xE3 ?_;refine xB Tryz.func93 hl1 ?_;refine vA ?_;refine xB Tryz.func93 hl2 ?_;refine xE3 ?_;refine aB ⟨by kernel_rfl,?_⟩)
   | (refine rG 4 ?_
      refine xE2 ?_;refine xB Tryz.func94 hSh ?_;refine xE2 ?_;refine aB ?_))
  refine AWp.round (fun k:Nat=>zC 51 [(8,.c (.pt 8 3 0 0)),(9,.c (.pt 9 1 0 0)),(10,.c (.pt 10 14 0 0)),(29,.c (.ls n 2 (zS mvC mvZ S))),(30,.c (iC n)),(31,.c (iC k))] [(8,⟨false,1,3,66,lF (clC clZ)⟩),(9,⟨false,1,1,4,lF [bC false]⟩),(10,⟨false,1,14,155,lF (prC a b (zAk x) (zAk y))⟩)] [8,9,10])
   (fun k=>k≤n∧∀k',k'<k→∀i',i'<M→zFN a b x y (clK S k' i')=false) (fun k=>n-k) 0 ⟨Nat.zero_le _,fun _ h=>absurd h (Nat.not_lt_zero _)⟩ ?_ (fun k hk=> ?_)
  ·refine Wk.mk [(8,some 8),(9,some 9),(10,some 10)] rfl rfl rfl ?_ ?_
   ·exact zB
   ·exact zAf
  ·obtain⟨hk,hno⟩:=hk
   by_cases hkn:k<n
   ·obtain⟨n',c0,c1,t0,t1,hS,hIt⟩:=hst k hkn
    repeat (first
     |refine vB [5] ?_
     | (refine rG 6 ?_
        refine zG (aP (k:=k) zA) ?_;refine xE3 ?_;refine aB ?_)
     | (refine rG 7 ?_
        refine xE2 ?_;refine xB Tryz.func95 hS ?_;refine aB ?_))
    rcases zMb (fun i=>zFN a b x y (clK S k i)) M with hn1|⟨i0,hi0,hb,hn1⟩
    ·refine AWp.range (N:=M) (stop:=false) (eS:=.ret) (ids:= [8,9]) (bsI:=fun _=>cnB clZ false) (ts:= [(8,.c (.pt 1000 3 0 0)),(9,.c (.pt 1001 1 0 0)),(12,.c (.pl 1 2 (lF (mvC (S.getD k mvZ))) 0 0))]) (ys:=zHu a b x y n' c0 c1 t0 t1) (xs:=clX a b x y (S.getD k mvZ)) rfl (enters_of Tryz.func109 xC rfl) ⟨ViewC.imm _ rfl,ViewC.imm _ rfl,ViewC.imm _ rfl,trivial⟩ rfl hIt (fun _ h=>h) (fun h=>by cases h) (fun _=>rfl) rfl ?_ (fun i hi=>zIs _ _) ?_ rfl (fun i hi=>⟨rfl,zLH a b x y _ i⟩) (.inl rfl) (fun i hi=> ?_) ?_
     ·exact LendOk.box rfl rfl rfl (LendOk.box rfl rfl rfl trivial)
     ·repeat (first|exact trivial|refine⟨⟨_,rfl,by first|exact ViewA.c (ViewC.imm _ rfl)|exact ViewA.c (ViewC.lend _ _ _ _ _ rfl)|exact ViewA.c (zKY rfl rfl rfl rfl)⟩,?_⟩)
     ·have hfa:¬xsV a b x y ⟨(S.getD k mvZ).1,(S.getD k mvZ).2,(i:Int)-4⟩≤0:=of_decide_eq_false (hn1 i hi)
      refine vB [8,9] ?_
      refine⟨rfl,?_⟩
      refine vB [10] ?_
      refine⟨rfl,mkG (fun _=>True) 0 true 51 2 [] (zAt 0 (cnB (clZ) false)) [],[],Wk.mkG [] rfl rfl rfl rfl rfl trivial ?_,rfl,rfl⟩
      exact zAf
     ·refine vB [12] ?_
      refine⟨k+1,⟨by omega,fun k' hk' i' hi'=> ?_⟩,Wk.mk [(8,some 8),(9,some 9),(10,some 10)] rfl rfl rfl ?_ ?_,by omega⟩
      ·by_cases e:k'=k
       ·rw[e];exact hn1 i' hi'
       ·exact hno k' xD i' hi'
      ·exact zB
      ·exact zAf
    ·have hfind:=zL9 (p:=zFN a b x y) S k i0 (by rw[hnl];exact hkn) hi0 hb hno hn1
     rw[zLI hfind];refine AWp.range (N:=i0+1) (stop:=true) (eS:=.exit 0) (ids:= [8,9]) (bsI:=fun i=>if i≤i0 then cnB clZ false else cnB (clK S k i0) true) (ts:= [(8,.c (.pt 1000 3 0 0)),(9,.c (.pt 1001 1 0 0)),(12,.c (.pl 1 2 (lF (mvC (S.getD k mvZ))) 0 0))]) (ys:=zHu a b x y n' c0 c1 t0 t1) (xs:=clX a b x y (S.getD k mvZ)) rfl (enters_of Tryz.func109 xC rfl) ⟨ViewC.imm _ rfl,ViewC.imm _ rfl,ViewC.imm _ rfl,trivial⟩ rfl hIt (fun _ h=>h) (fun _=>⟨by omega,by omega⟩) (fun h=>by cases h) rfl ?_ (fun i hi=> ?_) ?_ rfl (fun i hi=>⟨rfl,zLH a b x y _ i⟩) (.inr ⟨_,rfl⟩) (fun i hi=> ?_) ?_
     ·exact LendOk.box rfl rfl rfl (LendOk.box rfl rfl rfl trivial)
     ·by_cases h:i≤i0
      ·rw[if_pos h];exact zIs _ _
      ·rw[if_neg h];exact zIs _ _
     ·repeat (first|exact trivial|refine⟨⟨_,rfl,by first|exact ViewA.c (ViewC.imm _ rfl)|exact ViewA.c (ViewC.lend _ _ _ _ _ rfl)|exact ViewA.c (zKY rfl rfl rfl rfl)⟩,?_⟩)
     ·rw[if_pos (by omega:i≤i0)]
      by_cases hik:i=i0
      ·subst hik
       have hfa:xsV a b x y ⟨(S.getD k mvZ).1,(S.getD k mvZ).2,(i:Int)-4⟩≤0:=of_decide_eq_true hb;rw[zQw i,if_neg (by omega:¬i+1≤i)];refine vB [8,9] ?_
       refine⟨rfl,?_⟩
       refine vB [10,11] ?_
       refine⟨rfl,mkG (fun _=>True) 0 true 51 2 [] (zAt 0 (cnB (clK S k i) true)) [],[],Wk.mkG [] rfl rfl rfl rfl rfl trivial ?_,rfl,rfl⟩
       exact zAf
      ·have hfa:¬xsV a b x y ⟨(S.getD k mvZ).1,(S.getD k mvZ).2,(i:Int)-4⟩≤0:=of_decide_eq_false (hn1 i xD)
       rw[zQx (by omega:i<i0),if_pos (by omega:i+1≤i0)];refine vB [8,9] ?_
       refine⟨rfl,?_⟩
       refine vB [10] ?_
       refine⟨rfl,mkG (fun _=>True) 0 true 51 2 [] (zAt 0 (cnB (clZ) false)) [],[],Wk.mkG [] rfl rfl rfl rfl rfl trivial ?_,rfl,rfl⟩
       exact zAf
     ·rw[if_neg (by omega:¬i0+1≤i0)]
      refine vB [13] ?_
      refine⟨zC 51 [(8,.c (.pt 8 3 0 0)),(9,.c (.pt 9 1 0 0))] [(8,⟨false,1,3,66,lF (clC (clK S k i0))⟩),(9,⟨false,1,1,4,lF [bC true]⟩)] [8,9],[(8,⟨false,1,3,66,lF (clC (clK S k i0))⟩),(9,⟨false,1,1,4,lF [bC true]⟩)],Wk.mk [(8,some 8),(9,some 9)] rfl rfl rfl ?_ ?_,rfl,rfl,ARets.two (x:=.ag _) (y:=.c _) (ARes.box zA rfl rfl rfl rfl rfl rfl rfl) (zDr zA rfl rfl rfl rfl rfl rfl)⟩
      ·exact zB
      ·exact zAf
   ·obtain rfl:k=n:=by omega
    rw[zLJ (zMa S (fun k' hk'=>hno k' (by rw[←hnl];exact hk')))]
    refine vB [5,13] ?_
    refine⟨zC 51 [(8,.c (.pt 8 3 0 0)),(9,.c (.pt 9 1 0 0))] [(8,⟨false,1,3,66,lF (clC (clZ))⟩),(9,⟨false,1,1,4,lF [bC false]⟩)] [8,9],[(8,⟨false,1,3,66,lF (clC (clZ))⟩),(9,⟨false,1,1,4,lF [bC false]⟩)],Wk.mk [(8,some 8),(9,some 9)] rfl rfl rfl ?_ ?_,rfl,rfl,ARets.two (x:=.ag _) (y:=.c _) (ARes.box zA rfl rfl rfl rfl rfl rfl rfl) (zDr zA rfl rfl rfl rfl rfl rfl)⟩
    ·exact zB
    ·exact zAf
 ·rw [if_neg hok]
  rw[decide_eq_false hok]at hAl;refine zJ Tryz.func87 rfl rfl Tryz.ntmps87 rfl ?_
  repeat (first
   |refine vB [0,2] ?_
   | (refine rG 1 ?_
      refine xE2 ?_;refine xB Tryz.func92 hAl ?_;refine vA ?_;refine aB ?_))
  refine⟨zC 51 [(8,.c (.pt 8 3 0 0)),(9,.c (.pt 9 1 0 0))] [(8,⟨false,1,3,66,lF (clC (clZ))⟩),(9,⟨false,1,1,4,lF [bC false]⟩)] [8,9],[(8,⟨false,1,3,66,lF (clC (clZ))⟩),(9,⟨false,1,1,4,lF [bC false]⟩)],Wk.mk [(8,some 8),(9,some 9)] rfl rfl rfl ?_ ?_,rfl,rfl,ARets.two (x:=.ag _) (y:=.c _) (ARes.box zA rfl rfl rfl rfl rfl rfl rfl) (zDr zA rfl rfl rfl rfl rfl rfl)⟩
  ·exact zB
  ·exact zAf
theorem AWp.cut{P:Program}{x:Code}{Q:Exit→St→Prop}{S:St}(S1:St)(h:AWp P x (fun e S'=>e=.normal∧Wk S' S1) S)(hz:∀S',Wk S' S1→Q .normal S'):AWp P x Q S:=
 h.mono fun e S' h=>by obtain⟨rfl,hw⟩:=h;exact hz S' hw
end Go.Proofs.YtbffmfeldkjkcaaGreat
end
