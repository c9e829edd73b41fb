/- Parts of the proof: A24p, A24q, A24v. -/
import Derived.Test.YtbffmfeldkjkcaaG17
set_option linter.unusedSimpArgs false
set_option linter.unusedVariables false
set_option maxHeartbeats 0
section
namespace Go.Proofs.Ytbffmfeldkjkcaa
open Go.RowKit Go.Flow Go.AV Go.Plain
def hitC(a b:Bp)(x y:Bg)(c:Cl):Bool:=decide (xsV a b x y c≤0)
def cnfR(p:Cl→Bool)(L:List Cl):Cl×Bool:=match L.find? p with
 |some c=>(c,true)
 |none=>(clZ,false)
instance(a b:Bp):Decidable (cmpOk a b):=by unfold cmpOk;infer_instance
def cnfV(a b:Bp)(x y:Bg):Cl×Bool:=if cmpOk a b then cnfR (hitC a b x y) (alL a.W x y)else (clZ,false)
def lsN(f:Cl→Int)(L:List Cl)(z:Int):Int:=L.foldl (fun m c=>min m (f c)) z
theorem find_at{p:Cl→Bool}{L:List Cl}{k:Nat}(hk:k<L.length)(h:p (L.getD k clZ)=true)(hn:∀i,i<k→p (L.getD i clZ)=false):L.find? p=some (L.getD k clZ):=by
 have hg:∀i (hi:i<L.length),L.getD i clZ=L[i]:=fun i hi=>by rw[List.getD_eq_getElem?_getD,List.getElem?_eq_getElem hi];rfl
 rw[List.find?_eq_some_iff_getElem]
 refine⟨h,k,hk,(hg k hk).symm,fun j hj=> ?_⟩
 rw[←hg j (by omega),hn j hj]
 rfl
theorem find_no{p:Cl→Bool}{L:List Cl}(hn:∀i,i<L.length→p (L.getD i clZ)=false):L.find? p=none:=by
 rw[List.find?_eq_none]
 intro c hc
 obtain⟨i,hi,rfl⟩:=List.getElem_of_mem hc
 have:=hn i hi
 rw[List.getD_eq_getElem?_getD,List.getElem?_eq_getElem hi]at this
 exact fun h=>by rw[show p L[i]=false from this]at h;cases h
def clK(L:List (Int×Int))(k i:Nat):Cl:=⟨(L.getD k mvZ).1,(L.getD k mvZ).2,(i:Int)-4⟩
theorem alI_len(m:Nat)(d:Int×Int)(k:Nat):(alI m d k).length=k:=by unfold alI;simp
theorem alI_get(m:Nat)(d:Int×Int){k i:Nat}(h:i<k):(alI m d k).getD i clZ=⟨d.1,d.2,(i:Int)-4⟩:=by
 unfold alI
 rw[List.getD_eq_getElem?_getD,List.getElem?_map,List.getElem?_range h]
 rfl
theorem find_flat{p:Cl→Bool}{M:Nat}:∀(L:List (Int×Int)) (k i:Nat),k<L.length→i<M→p (clK L k i)=true→(∀k',k'<k→∀i',i'<M→p (clK L k' i')=false)→(∀i',i'<i→p (clK L k i')=false)→
 (L.flatMap fun d=>alI 0 d M).find? p=some (clK L k i)
 | [],_,_,h,_,_,_,_=>by cases h
 | d::L,0,i,_,hi,hp,_,h2=>by
   rw[List.flatMap_cons,List.find?_append]
   have e:(alI 0 d M).find? p=some ((alI 0 d M).getD i clZ):=find_at (by rw[alI_len];exact hi) (by rw[alI_get 0 d hi];exact hp) (fun j hj=>by rw[alI_get 0 d (by omega)];exact h2 j hj)
   rw[e,alI_get 0 d hi]
   rfl
 | d::L,k+1,i,hk,hi,hp,h1,h2=>by
   rw[List.flatMap_cons,List.find?_append]
   have e:(alI 0 d M).find? p=none:=find_no (fun j hj=>by rw[alI_len]at hj;rw[alI_get 0 d hj];exact h1 0 (by omega) j hj)
   have hs:∀k' i',clK (d::L) (k'+1) i'=clK L k' i':=fun _ _=>rfl
   rw[e,find_flat L k i (by simpa using hk) hi hp (fun k' hk' i' hi'=>h1 (k'+1) (by omega) i' hi') h2]
   rfl
theorem find_flat_no{p:Cl→Bool}{M:Nat}:∀(L:List (Int×Int)),(∀k',k'<L.length→∀i',i'<M→p (clK L k' i')=false)→(L.flatMap fun d=>alI 0 d M).find? p=none
 | [],_=>rfl
 | d::L,h=>by
   rw[List.flatMap_cons,List.find?_append,find_no (fun j hj=>by rw[alI_len]at hj;rw[alI_get 0 d hj];exact h 0 (by simp) j hj),find_flat_no L (fun k' hk' i' hi'=>h (k'+1) (by simpa using hk') i' hi')]
   rfl
abbrev clX(a b:Bp)(x y:Bg)(d:Int×Int)(i:Nat):List Value:= [.int .i64 ((i:Int)-4),.int .i64 (xsV a b x y ⟨d.1,d.2,(i:Int)-4⟩)]
theorem strips_any(a b:Bp)(x y:Bg)(d:Int×Int)(h:cmpOk a b)(hd:(-4≤d.1∧d.1≤4)∧-4≤d.2∧d.2≤4):
 ∃ (n:Nat) (c0 c1:Nat→Int) (t0 t1:Int),ACalls Try.prog 77 [.ag (prC a b (lim4 x) (lim4 y)),.ag (mvC d)] (.c (.fn 98 3 (itC a b x y n c0 c1 t0 t1)))∧
   ItCalls Try.prog 98 ((stYs a b x y n c0 c1 t0 t1).map .c) (clX a b x y d) (alM a.W x y):=by
 obtain⟨ha,hb,hW,hH⟩:=h
 obtain⟨q0,q1,q2,q3,q4⟩:=okB ha
 obtain⟨Wn,hWn⟩:=Int.eq_ofNat_of_zero_le q0
 obtain⟨Hn,hHn⟩:=Int.eq_ofNat_of_zero_le q2
 have hst:=stN_bd x y q0
 obtain⟨t,ht⟩:=Int.eq_ofNat_of_zero_le hst.1
 have hM:((alM a.W x y:Nat):Int)=a.W+9-stN a.W x y:=by unfold alM;omega
 refine⟨_,_,_,_,_,strips_A a b x y d Wn Hn ha hb hWn hHn hW.symm hH.symm hd,?_⟩
 have hX:clX a b x y d=stX x y t (colP (alB a b d.1 d.2) Wn 0 Hn 0) (colP (alB b a (-d.1) (-d.2)) Wn d.1 Hn 0) (totP (alB a b d.1 d.2) Wn Hn 0) (totP (alB b a (-d.1) (-d.2)) Wn Hn 0):=funext fun i=>(stX_xs a b x y d Wn Hn t hWn hHn hW.symm hH.symm ht i).symm
 rw[hX]
 have hcb:∀(B:Nat→Nat→Bool) (s:Int) (k:Nat),0≤colP B Wn s Hn 0 k∧colP B Wn s Hn 0 k≤97:=fun B s k=>by have:=colP_bd B Wn s Hn 0 k;omega
 have hob:∀(B:Nat→Nat→Bool) (s:Int) (i:Nat),0≤totP B Wn Hn 0-wS (colP B Wn s Hn 0) i t∧totP B Wn Hn 0-wS (colP B Wn s Hn 0) i t≤100000:=fun B s i=>by
  refine⟨?_,?_⟩
  ·rw[win_law B Wn s ((i:Int)-4-s) i t rfl Hn]
   exact sumTo_nonneg fun k _=>Go.Plain.cnt_nonneg _ _
  ·have h1:=totP_bd B Wn Hn 0 (by omega) (by omega)
   have h2:=wS_bd (hcb B s) i t
   omega
 exact stripsIt_A a b x y (Wn+40) t (alM a.W x y) Wn _ _ _ _ hWn (by omega) rfl ht (by omega) (hcb _ _) (hcb _ _) (hob _ _) (hob _ _)
def cnB(c:Cl)(b:Bool):List AB:= [⟨false,1,3,66,lF (clC c)⟩,⟨false,1,1,4,lF [bC b]⟩]
theorem cnB_plain(c:Cl)(b:Bool):(cnB c b).length= [8,9].length∧∀B∈cnB c b,PlainB B:=⟨rfl,fun B hB=>by
 rcases List.mem_cons.1 hB with rfl|hB
 ·exact PlainB.box [.int .i64 c.dx,.int .i64 c.dy,.int .i64 c.col] rfl rfl
 ·rcases List.mem_cons.1 hB with rfl|hB
  ·exact PlainB.box [.bool b] rfl rfl
  ·cases hB⟩
theorem clX_one(a b:Bp)(x y:Bg)(d:Int×Int)(i:Nat)(v:Value)(hv:v∈clX a b x y d i):v.oneCell'=true:=by
 rcases List.mem_cons.1 hv with rfl|hv
 ·rfl
 ·rcases List.mem_cons.1 hv with rfl|hv
  ·rfl
  ·cases hv
theorem cnfR_hit{p:Cl→Bool}{L:List Cl}{c:Cl}(h:L.find? p=some c):cnfR p L=(c,true):=by unfold cnfR;rw[h]
theorem cnfR_no{p:Cl→Bool}{L:List Cl}(h:L.find? p=none):cnfR p L=(clZ,false):=by unfold cnfR;rw[h]
theorem goes_at(i:Nat):goesB (i+1) true i=false:=by unfold goesB;rw[show Nat.beq (i+1) (i+1)=true from Nat.beq_refl _];rfl
theorem goes_bef{k i:Nat}(h:i<k):goesB (k+1) true i=true:=by
 unfold goesB
 rw[show Nat.beq (i+1) (k+1)=false from Bool.eq_false_iff.2 fun h=>by have:=Nat.eq_of_beq_eq_true h;omega]
 rfl
theorem shN_bd{x y:Bg}{k:Nat}(hk:k<(shL (shN x y)).length):(-4≤((shL (shN x y)).getD k mvZ).1∧((shL (shN x y)).getD k mvZ).1≤4)∧-4≤((shL (shN x y)).getD k mvZ).2∧((shL (shN x y)).getD k mvZ).2≤4:=by
 obtain⟨-,hm⟩:=shN_eq x y
 have:=sh_bd hk
 omega
set_option maxRecDepth 100000 in
theorem Confused_A(a b:Bp)(x y:Bg):ACalls Try.prog 49 [.ag (bpC a),.ag (bpC b),.ag (bgC x),.ag (bgC y)] (.tu [.ag (clC (cnfV a b x y).1),.c (bC (cnfV a b x y).2)]):=by
 have hAl:=alike_A a b
 have hl1:=alim_A x
 have hl2:=alim_A y
 have hSh:=aShifts_A x y
 unfold cnfV
 by_cases hok:cmpOk a b
 ·rw [if_pos hok]
  rw[decide_eq_true hok]at hAl
  have hst:∀k,k<(shL (shN x y)).length→_:=fun k hk=>strips_any a b x y ((shL (shN x y)).getD k mvZ) hok (shN_bd hk)
  have hfl:alL a.W x y=(shL (shN x y)).flatMap fun d=>alI 0 d (alM a.W x y):=rfl
  rw[hfl]
  have hSl:(shL (shN x y)).length≤81:=by
   obtain⟨-,hm4⟩:=shN_eq x y
   rw[shL_len hm4]
   have:=Nat.mul_le_mul (show 2*shN x y+1≤9 by omega) (show 2*shN x y+1≤9 by omega)
   omega
  generalize shL (shN x y)=S at *
  obtain⟨M,hM⟩:∃M,alM a.W x y=M:=⟨_,rfl⟩
  rw[hM]at hst⊢
  obtain⟨n,hnl⟩:∃n,S.length=n:=⟨_,rfl⟩
  rw[hnl]at hSh hSl hst
  refine acalls_at Try.func49 rfl rfl Try.ntmps49 rfl ?_
  repeat (first
   |refine vB [0] ?_
   | (refine rG 1 ?_
      (iterate 2 refine vA ?_)
      refine aH rfl rfl rfl rfl Try.func74 rfl (by kernel_rfl) (hAl) ?_
      refine vA ?_
      refine aB ?_)
   |(refine AWp.draw (id:=3) mixed ?_;(iterate 3 refine vA ?_);refine aH rfl rfl rfl rfl Try.func75 rfl (by kernel_rfl) (hl1) ?_;refine vA ?_;refine aH rfl rfl rfl rfl Try.func75 rfl (by kernel_rfl) (hl2) ?_;(iterate 3 refine vA ?_);refine aB ⟨by kernel_rfl,?_⟩)
   | (refine rG 4 ?_
      (iterate 2 refine vA ?_)
      refine aH rfl rfl rfl rfl Try.func76 rfl (by kernel_rfl) (hSh) ?_
      (iterate 2 refine vA ?_)
      refine aB ?_))
  refine AWp.round (fun k:Nat=>mkSt 51 [(8,.c (.pt 8 3 0 0)),(9,.c (.pt 9 1 0 0)),(10,.c (.pt 10 14 0 0)),(29,.c (.ls n 2 (rowF mvC mvZ S))),(30,.c (iC n)),(31,.c (iC k))] [(8,⟨false,1,3,66,lF (clC clZ)⟩),(9,⟨false,1,1,4,lF [bC false]⟩),(10,⟨false,1,14,144,lF (prC a b (lim4 x) (lim4 y))⟩)] [8,9,10])
   (fun k=>k≤n∧∀k',k'<k→∀i',i'<M→hitC a b x y (clK S k' i')=false) (fun k=>n-k) 0 ⟨Nat.zero_le _,fun _ h=>absurd h (Nat.not_lt_zero _)⟩ ?_ (fun k hk=> ?_)
  ·refine Wk.mk [(8,some 8),(9,some 9),(10,some 10)] rfl rfl rfl ?_ ?_
   ·exact allT
   ·exact allH
  ·obtain⟨hk,hno⟩:=hk
   by_cases hkn:k<n
   ·obtain⟨n',c0,c1,t0,t1,hS,hIt⟩:=hst k hkn
    repeat (first
     |refine vB [5] ?_
     | (refine rG 6 ?_
        refine qr8eo2 (aP (k:=k) tyOk) ?_
        (iterate 3 refine vA ?_)
        refine aB ?_)
     | (refine rG 7 ?_
        (iterate 2 refine vA ?_)
        refine aH rfl rfl rfl rfl Try.func77 rfl (by kernel_rfl) (hS) ?_
        refine aB ?_))
    rcases first_hit (fun i=>hitC a b x y (clK S k i)) M with hn1|⟨i0,hi0,hb,hn1⟩
    ·refine AWp.range (N:=M) (stop:=false) (eS:=.ret) (ids:= [8,9]) (bsI:=fun _=>cnB clZ false) (ts:= [(8,.c (.pt 1000 3 0 0)),(9,.c (.pt 1001 1 0 0)),(12,.c (.pl 1 2 (lF (mvC (S.getD k mvZ))) 0 0))]) (ys:=stYs a b x y n' c0 c1 t0 t1) (xs:=clX a b x y (S.getD k mvZ)) rfl (enters_of Try.func98 (by kernel_rfl) rfl) ⟨ViewC.imm _ rfl,ViewC.imm _ rfl,ViewC.imm _ rfl,trivial⟩ rfl hIt (fun _ h=>h) (fun h=>by cases h) (fun _=>rfl) rfl ?_ (fun i hi=>cnB_plain _ _) ?_ rfl (fun i hi=>⟨rfl,clX_one a b x y _ i⟩) (.inl rfl) (fun i hi=> ?_) ?_
     ·exact LendOk.box rfl rfl rfl (LendOk.box rfl rfl rfl trivial)
     ·repeat (first|exact trivial|refine⟨⟨_,rfl,by first|exact ViewA.c (ViewC.imm _ rfl)|exact ViewA.c (ViewC.lend _ _ _ _ _ rfl)|exact ViewA.c (ViewC.roBox rfl rfl rfl rfl)⟩,?_⟩)
     ·have hfa:¬xsV a b x y ⟨(S.getD k mvZ).1,(S.getD k mvZ).2,(i:Int)-4⟩≤0:=of_decide_eq_false (hn1 i hi)
      refine vB [8,9] ?_
      refine⟨rfl,?_⟩
      refine vB [10] ?_
      refine⟨rfl,mkG (fun _=>True) 0 true 51 2 [] (lentL 0 (cnB (clZ) false)) [],[],Wk.mkG [] rfl rfl rfl rfl rfl trivial ?_,rfl,rfl⟩
      exact allH
     ·refine vB [12] ?_
      refine⟨k+1,⟨by omega,fun k' hk' i' hi'=> ?_⟩,Wk.mk [(8,some 8),(9,some 9),(10,some 10)] rfl rfl rfl ?_ ?_,by omega⟩
      ·by_cases e:k'=k
       ·rw[e];exact hn1 i' hi'
       ·exact hno k' (by omega) i' hi'
      ·exact allT
      ·exact allH
    ·have hfind:=find_flat (p:=hitC a b x y) S k i0 (by rw[hnl];exact hkn) hi0 hb hno hn1
     rw[cnfR_hit hfind]
     refine AWp.range (N:=i0+1) (stop:=true) (eS:=.exit 0) (ids:= [8,9]) (bsI:=fun i=>if i≤i0 then cnB clZ false else cnB (clK S k i0) true) (ts:= [(8,.c (.pt 1000 3 0 0)),(9,.c (.pt 1001 1 0 0)),(12,.c (.pl 1 2 (lF (mvC (S.getD k mvZ))) 0 0))]) (ys:=stYs a b x y n' c0 c1 t0 t1) (xs:=clX a b x y (S.getD k mvZ)) rfl (enters_of Try.func98 (by kernel_rfl) rfl) ⟨ViewC.imm _ rfl,ViewC.imm _ rfl,ViewC.imm _ rfl,trivial⟩ rfl hIt (fun _ h=>h) (fun _=>⟨by omega,by omega⟩) (fun h=>by cases h) rfl ?_ (fun i hi=> ?_) ?_ rfl (fun i hi=>⟨rfl,clX_one a b x y _ i⟩) (.inr ⟨_,rfl⟩) (fun i hi=> ?_) ?_
     ·exact LendOk.box rfl rfl rfl (LendOk.box rfl rfl rfl trivial)
     ·by_cases h:i≤i0
      ·rw[if_pos h];exact cnB_plain _ _
      ·rw[if_neg h];exact cnB_plain _ _
     ·repeat (first|exact trivial|refine⟨⟨_,rfl,by first|exact ViewA.c (ViewC.imm _ rfl)|exact ViewA.c (ViewC.lend _ _ _ _ _ rfl)|exact ViewA.c (ViewC.roBox rfl rfl rfl rfl)⟩,?_⟩)
     ·rw[if_pos (by omega:i≤i0)]
      by_cases hik:i=i0
      ·subst hik
       have hfa:xsV a b x y ⟨(S.getD k mvZ).1,(S.getD k mvZ).2,(i:Int)-4⟩≤0:=of_decide_eq_true hb
       rw[goes_at i,if_neg (by omega:¬i+1≤i)]
       refine vB [8,9] ?_
       refine⟨rfl,?_⟩
       refine vB [10,11] ?_
       refine⟨rfl,mkG (fun _=>True) 0 true 51 2 [] (lentL 0 (cnB (clK S k i) true)) [],[],Wk.mkG [] rfl rfl rfl rfl rfl trivial ?_,rfl,rfl⟩
       exact allH
      ·have hfa:¬xsV a b x y ⟨(S.getD k mvZ).1,(S.getD k mvZ).2,(i:Int)-4⟩≤0:=of_decide_eq_false (hn1 i (by omega))
       rw[goes_bef (by omega:i<i0),if_pos (by omega:i+1≤i0)]
       refine vB [8,9] ?_
       refine⟨rfl,?_⟩
       refine vB [10] ?_
       refine⟨rfl,mkG (fun _=>True) 0 true 51 2 [] (lentL 0 (cnB (clZ) false)) [],[],Wk.mkG [] rfl rfl rfl rfl rfl trivial ?_,rfl,rfl⟩
       exact allH
     ·rw[if_neg (by omega:¬i0+1≤i0)]
      refine vB [13] ?_
      refine⟨mkSt 51 [(8,.c (.pt 8 3 0 0)),(9,.c (.pt 9 1 0 0))] [(8,⟨false,1,3,66,lF (clC (clK S k i0))⟩),(9,⟨false,1,1,4,lF [bC true]⟩)] [8,9],[(8,⟨false,1,3,66,lF (clC (clK S k i0))⟩),(9,⟨false,1,1,4,lF [bC true]⟩)],Wk.mk [(8,some 8),(9,some 9)] rfl rfl rfl ?_ ?_,rfl,rfl,ARets.two (x:=.ag _) (y:=.c _) (ARes.box tyOk rfl rfl rfl rfl rfl rfl rfl) (ARes.box1 tyOk rfl rfl rfl rfl rfl rfl)⟩
      ·exact allT
      ·exact allH
   ·obtain rfl:k=n:=by omega
    rw[cnfR_no (find_flat_no S (fun k' hk'=>hno k' (by rw[←hnl];exact hk')))]
    refine vB [5,13] ?_
    refine⟨mkSt 51 [(8,.c (.pt 8 3 0 0)),(9,.c (.pt 9 1 0 0))] [(8,⟨false,1,3,66,lF (clC (clZ))⟩),(9,⟨false,1,1,4,lF [bC false]⟩)] [8,9],[(8,⟨false,1,3,66,lF (clC (clZ))⟩),(9,⟨false,1,1,4,lF [bC false]⟩)],Wk.mk [(8,some 8),(9,some 9)] rfl rfl rfl ?_ ?_,rfl,rfl,ARets.two (x:=.ag _) (y:=.c _) (ARes.box tyOk rfl rfl rfl rfl rfl rfl rfl) (ARes.box1 tyOk rfl rfl rfl rfl rfl rfl)⟩
    ·exact allT
    ·exact allH
 ·rw [if_neg hok]
  rw[decide_eq_false hok]at hAl
  refine acalls_at Try.func49 rfl rfl Try.ntmps49 rfl ?_
  repeat (first
   |refine vB [0,2] ?_
   | (refine rG 1 ?_
      (iterate 2 refine vA ?_)
      refine aH rfl rfl rfl rfl Try.func74 rfl (by kernel_rfl) (hAl) ?_
      refine vA ?_
      refine aB ?_))
  refine⟨mkSt 51 [(8,.c (.pt 8 3 0 0)),(9,.c (.pt 9 1 0 0))] [(8,⟨false,1,3,66,lF (clC (clZ))⟩),(9,⟨false,1,1,4,lF [bC false]⟩)] [8,9],[(8,⟨false,1,3,66,lF (clC (clZ))⟩),(9,⟨false,1,1,4,lF [bC false]⟩)],Wk.mk [(8,some 8),(9,some 9)] rfl rfl rfl ?_ ?_,rfl,rfl,ARets.two (x:=.ag _) (y:=.c _) (ARes.box tyOk rfl rfl rfl rfl rfl rfl rfl) (ARes.box1 tyOk rfl rfl rfl rfl rfl rfl)⟩
  ·exact allT
  ·exact allH
theorem AWp.cut{P:Program}{x:Code}{Q:Exit→St→Prop}{S:St}(S1:St)(h:AWp P x (fun e S'=>e=.normal∧Wk S' S1) S)(hz:∀S',Wk S' S1→Q .normal S'):AWp P x Q S:=
 h.mono fun e S' h=>by obtain⟨rfl,hw⟩:=h;exact hz S' hw
end Go.Proofs.Ytbffmfeldkjkcaa
end
