/- Parts of the proof: AShr, A29c, A29d, A29da, A29e. -/
import Derived.Test.YtpefnljgalpllaaG39
import Derived.Test.YtpefnljgalpllaaG42
import Derived.Test.YtpefnljgalpllaaG43
set_option linter.unusedSimpArgs false
set_option linter.unusedVariables false
set_option maxHeartbeats 0
section
namespace Go.AV
open Go Go.RowKit Go.Flow
section
variable{P:Program}{tab:List (TypeId×TD)}
variable{ops:Array Oper}{rest:List Oper}{acc:List (List Nat×List Nat)}{S:St}{Q:List (List Nat×List Nat)→St→Prop}{dst:Option Tmp}{ty:TypeId}{pos:String}{after:Array Edge}{guard:Option (Nat×Bool)}
theorem AList.cutOw(T:tabOk P tab=true){id id1:Nat}{x y:Operand}{t el:TypeId}{d e:TD}{n m:Nat}{F:Nat→Nat→CV}
 (hw:S.wants ops {dst:=some id,op:=.slice t x none (some y) none,type:=ty,pos,after,guard}=some true) (hd:dOk S.n (some id)=true) (hf:S.fr id=true)
 (hx:S.opd x=some (.c (.ow id1))) (ht:assoc tab t=some d) (hk:d.k=.sl el) (he:assoc tab el=some e) (hh:S.h id1=some ⟨true,n,e.size,el,F⟩) (hlo:Nat.blt id1 1000=true)
 (hy:∃k i,S.opd y=some (.c (.p (.int k i)))∧i=(m:Int)) (hm:m≤n)
 (hn:AList P ops rest (([id1,id],[id1,id,id])::acc) (S.eff (some id) ⟨.c (.ow id),[(id1,none),(id,some ⟨true,m,e.size,el,F⟩)],[id]⟩) Q):
 AList P ops ({dst:=some id,op:=.slice t x none (some y) none,type:=ty,pos,after,guard}::rest) acc S Q:=
 AList.cons [id1] ⟨.c (.ow id),[(id1,none),(id,some ⟨true,m,e.size,el,F⟩)],[id]⟩ (LStep.of hw fun S1 hA hr1 hal b0 σ a w R=>by
  obtain⟨inf,z,u,i1,i2,i3,-⟩:=ty_info T he
  have hu:=ty_sl T ht hk
  obtain⟨hfr,hidl⟩:=R.fr id ((hal id (by simp)).trans hf)
  have rs:=opd_rep R ((hA.op x (by simp[Op.operands])).trans hx)
  obtain⟨k,i,f1,f2⟩:=hy
  have ey:a.eval y=.int k m:=by rw[←f2];exact rep_int (opd_rep R ((hA.op y (by simp[Op.operands])).trans f1))
  have hB1:=(hr1 id1 (by simp)).trans hh
  have e0:σ id1=some (a.eval x):=rs.2.1
  obtain⟨v,g1,g2⟩:=R.hp.blk id1 _ hB1
  rw[e0]at g1
  cases g1
  have hne:S1.h id1≠none:=by rw[hB1];simp
  have hn1:id1≠id:=fun e=>by rw[e,hfr]at e0;cases e0
  have hlo:=Nat.blt_eq.mp hlo
  have hK:Keep (own σ S1.h) w w:=⟨rfl,rfl,rfl,Nat.le_refl _,fun _ _ _=>rfl⟩
  obtain⟨v',hex,h1c,hbb,hOB⟩:∃v',(execOp a.eval {dst:=some id,op:=.slice t x none (some y) none,type:=ty,pos,after,guard}).run P w=.ok (.value v') w∧(v'.oneCell'=true∧∃A n c,v'=.slice A n c)∧(∀b,baseBlk v'=some b→baseBlk (a.eval x)=some b)∧
   ∀(σ':Nat→Option Value) (h':Nat→Option AB),(∀b,out b0 σ' h' b→out b0 σ S1.h b)→(∀i v,σ i=some v→σ' i=some v)→OBk σ' (out b0 σ' h') w v' ⟨true,m,e.size,el,F⟩:=by
   rcases g2.row rfl with ⟨_,q1,q2⟩|⟨b,cap,cs,q1,q2,q3,q4⟩
   ·have q2:n=0:=q2
    obtain rfl:m=0:=by omega
    refine⟨.slice none 0 0,?_,⟨rfl,none,0,0,rfl⟩,fun b hb=>(by cases hb),fun σ' h' _ _=>.inl ⟨rfl,rfl,rfl⟩⟩
    simp[execOp,Instr.sliceAt,Instr.slice,run_underlying hu,q1,Instr.sliceBounds,Instr.sliceBound,asIntOf,ey,sizeOf,typeInfo,i1,i2]
   ·rcases q1 with ⟨_,q1,q5,q6⟩|⟨q1,_⟩
    rotate_left
    ·cases q1
    replace q5:n≤cap:=q5
    replace q1:a.eval x=.slice (some ⟨b,0,none⟩) n cap:=q1
    have c1:(m:Int)≤cap:=by omega
    have c3:m≤cap:=by omega
    have c4:¬cap<m:=by omega
    refine⟨.slice (some ⟨b,0,none⟩) m cap,?_,⟨rfl,_,_,_,rfl⟩,fun b' hb=>by rw[q1];exact hb,fun σ' h' hO hs=>.inr (.inl ⟨b,cap,cs,.inl ⟨rfl,rfl,c3,q6⟩,q2,q3,fun k hk j hj=> ?_⟩)⟩
    ·simp[execOp,Instr.sliceAt,Instr.slice,run_underlying hu,q1,Instr.sliceBounds,Instr.sliceBound,asIntOf,ey,sizeOf,typeInfo,i1,i2,c1,c3,c4,Addr.add]
    ·have hk:k<m:=hk
     obtain⟨u,r1,r2⟩:=q4 k (show k<n by omega) j hj
     exact⟨u,r1,r2.keep ⟨rfl,rfl,rfl,Nat.le_refl _,fun _ _ _=>rfl⟩ (fun b hb=>.inl (hO b hb)) hs⟩
  rw[hex]
  have hsub:∀i u,σ i=some u→put σ id (some v') i=some u:=fun i u h=>by
   rw[put_ne _ _ (fun e=>by rw[e,hfr]at h;cases h)];exact h
  generalize hB':(⟨true,m,e.size,el,F⟩:AB)=B' at hOB⊢
  have hlk:look [(id1,none),(id,some B')] S1.h=put (put S1.h id (some B')) id1 none:=rfl
  have hid:look [(id1,none),(id,some B')] S1.h id=some B':=by
   rw[hlk]
   exact(put_ne _ _ (Ne.symm hn1)).trans (put_same _ _ _)
  have hoth:∀i,i≠id→look [(id1,none),(id,some B')] S1.h i=none∨(look [(id1,none),(id,some B')] S1.h i=S1.h i∧i≠id1):=fun i hi=>by
   rw[hlk]
   by_cases h1:i=id1
   ·subst h1;exact .inl (put_same _ _ _)
   ·exact .inr ⟨(put_ne _ _ h1).trans (put_ne _ _ hi),h1⟩
  have hout:∀b,out b0 (put σ id (some v')) (look [(id1,none),(id,some B')] S1.h) b→out b0 σ S1.h b:=fun b hb=>by
   rcases hb with ⟨i,u,h1,h2,h3⟩|hb
   ·by_cases hi:i=id
    ·subst hi
     rw[put_same]at h2
     cases h2
     exact .inl ⟨id1,_,hne,e0,hbb b h3⟩
    ·rw[put_ne _ _ hi]at h2
     rcases hoth i hi with h0|⟨h0,_⟩
     ·exact absurd h0 h1
     ·rw[h0]at h1
      exact .inl ⟨i,u,h1,h2,h3⟩
   ·exact .inr hb
  obtain⟨H,_,hO⟩:=R.hp.put (id:=id) (B':=B') (v':=v') (σ':=put σ id (some v')) (h':=look [(id1,none),(id,some B')] S1.h) (w':=w) hsub hid (put_same _ _ _)
   (fun i hi=>(hoth i hi).imp (fun h=>h) fun h=>h.1) hK
   (fun i u hi=>by
     obtain⟨h1,-⟩:=b0.one i u hi
     have h3:=R.hp.fx i u hi
     rcases hoth i (by omega)with h0|h0
     ·rw[hlk]at h0
      exact absurd ((put_ne _ _ (by omega)).symm.trans ((put_ne _ _ (by omega)).symm.trans h0)) h3.2
     ·rw[h0.1];exact h3.2) (fun i hi=>put_ne _ _ (by omega))
   (fun i u b hi h1 h2 h3=>rfl) (hOB _ _ hout hsub)
   (fun b hb=>by
     have ho:own σ S1.h b:=⟨id1,_,hne,e0,hbb b hb⟩
     refine⟨R.hp.new b ho,.inl ho,fun i u hi h1 h2 h3=> ?_⟩
     rcases hoth i hi with h0|⟨h0,h00⟩
     ·exact absurd h0 h1
     ·rw[h0]at h1
      exact h00 (R.hp.inj i id1 u _ b h1 hne h2 e0 h3 (hbb b hb)))
  exact⟨_,R.step (e:=⟨.c (.ow id),[(id1,none),(id,some B')],[id]⟩) (by rw[hA.n];exact hd) hsub hK H hO (fun _=>⟨h1c.1,put_same _ _ _,.inl h1c.2⟩) fun i hi=>by
   by_cases h:i=id
   ·exact .inr (by simp[h])
   ·rw[put_ne _ _ h]at hi;exact .inl hi⟩) hn
end
end Go.AV
end
section
namespace Go.Proofs.Ytpefnljgalpllaa
open Go.RowKit Go.Flow Go.AV Go.Plain
def unsV(p:Pb):Int:=if (solveV p).2=0 then 7 else if (solveV p).2=60 then 0 else (solveV p).2
set_option maxRecDepth 100000 in
theorem uns_A(p:Pb)(hp:p.ok):ACalls Try.prog 37 [.ag (pbC p)] (.c (iC (unsV p))):=by
 have hS:=Solve28_A p hp
 unfold unsV
 generalize solveV p=o at *
 obtain⟨ol,oe⟩:=o
 dsimp only at hS⊢
 by_cases h0:oe=0
 ·rw [if_pos h0]
  subst h0
  refine acalls_at Try.func37 rfl rfl Try.ntmps37 rfl ?_
  repeat (first
   |refine vB [0,2,4,5] ?_
   | (refine rG 1 ?_
      refine vA ?_
      refine aH rfl rfl rfl rfl Try.func14 rfl (by kernel_rfl) (hS) ?_
      (iterate 5 refine vA ?_)
      refine aB ?_))
  refine⟨mkSt 16 [(2,.c (iC 7))] [] [],[],Wk.mk [] rfl rfl rfl ?_ trivial,rfl,rfl,aR1⟩
  exact allT
 ·rw[if_neg h0]
  by_cases h1:oe=60
  ·rw [if_pos h1]
   subst h1
   refine acalls_at Try.func37 rfl rfl Try.ntmps37 rfl ?_
   repeat (first
    |refine vB [0,2,4,6,7] ?_
    | (refine rG 1 ?_
       refine vA ?_
       refine aH rfl rfl rfl rfl Try.func14 rfl (by kernel_rfl) (hS) ?_
       (iterate 5 refine vA ?_)
       refine aB ?_))
   refine⟨mkSt 16 [(2,.c (iC 0))] [] [],[],Wk.mk [] rfl rfl rfl ?_ trivial,rfl,rfl,aR1⟩
   exact allT
  ·rw [if_neg h1]
   refine acalls_at Try.func37 rfl rfl Try.ntmps37 rfl ?_
   repeat (first
    |refine vB [0,2,3,4,6] ?_
    | (refine rG 1 ?_
       refine vA ?_
       refine aH rfl rfl rfl rfl Try.func14 rfl (by kernel_rfl) (hS) ?_
       (iterate 5 refine vA ?_)
       refine aB ?_))
   refine⟨mkSt 16 [(2,.c (iC oe))] [] [],[],Wk.mk [] rfl rfl rfl ?_ trivial,rfl,rfl,aR1⟩
   exact allT
def combX(rec:List Int→Nat→List (List Int))(l:List Int):Nat→Nat→List (List Int)
 |0,_=> []
 |m+1,x=>rec (l++ [(x:Int)]) (x+1)++combX rec l m (x+1)
def combG(n:Nat):Nat→List Int→Nat→List (List Int)
 |0,l,_=> [l]
 |r+1,l,x=>combX (combG n r) l (n-x) x
abbrev bxI(c:CV):AB:=⟨false,1,1,23,lF [c]⟩
abbrev bxE:AB:=⟨false,1,1,36,lF [iC 0]⟩
abbrev nilI:CV:=.p (.slice none 0 0)
def setB(all:List (List Int))(N:Nat)(e:Bool):List AB:= [bxI (if e=true then lsI (all.getD (N-1) [])else nilI),bxE]
def setRM(all:List (List Int))(N:Nat)(stop:Bool):RM where
 nb:=2
 ys:=fun i=> [.c (lsI (all.getD i []))]
 hB:=fun _=> [bxI nilI,bxE]
 hE:=fun i=>setB all N (stop && Nat.beq i N)
 mv:=fun _=> []
 la:=fun _=> []
theorem comb_len{n:Nat}:∀(r:Nat) (l:List Int) (x:Nat),∀s∈combG n r l x,s.length=l.length+r
 | 0,l,x,s,h=>by
   obtain rfl:s=l:=by simpa[combG]using h
   rfl
 | r + 1,l,x,s,h=>by
   have key:∀m x,∀s∈combX (combG n r) l m x,s.length=l.length+(r+1):=fun m=>by
    induction m with
    |zero=>intro x s h;cases h
    | succ m ih=>
      intro x s h
      rcases List.mem_append.1 h with h|h
      ·rw[comb_len r _ _ s h,List.length_append]
       show l.length+1+r=_
       omega
      ·exact ih _ s h
   exact key _ _ s h
abbrev pl1(c:CV):CV:=.pl 1 1 (lF [c]) 0 0
abbrev seC(k n:Int)(lp:Nat)(i:Nat):CV:= [pl1 (iC k),pl1 (.p (yv lp)),pl1 (iC n),.pt 4 1 0 0].getD i .any
abbrev seE(k n:Int)(lp d:Nat):CV:=pl1 (fiR 59 4 (seC k n lp) 4 d)
abbrev seA(k n:Int)(lp d:Nat)(v:CV)(x:Int):List V1:= [.c v,.c (iC x),.c (pl1 (iC k)),.c (pl1 (.p (yv lp))),.c (pl1 (iC n)),.c (seE k n lp d)]
def endsB(stop:Bool)(N g m:Nat):Bool:=stop && decide (N≤g+m)
def endG(stop:Bool)(N g m:Nat):Nat:=if endsB stop N g m=true then N else g+m
theorem ys_all{all:List (List Int)}{N g:Nat}{stop:Bool}{ids:List Nat}{l:List Int}(h:all.getD g []=l):LeL (LentV ids []) [.c (lsI l)] ((setRM all N stop).ys g):=by
 show LeL (LentV ids []) [V1.c (lsI l)] [V1.c (lsI (all.getD g []))]
 rw[h]
 exact⟨.c (.b (.imm _ rfl)),trivial⟩
theorem drop_hd{all:List (List Int)}{g:Nat}{l:List Int}{rest:List (List Int)}(h:all.drop g=l::rest):g<all.length∧all.getD g []=l∧all.drop (g+1)=rest:=by
 have hlt:g<all.length:=Decidable.byContradiction fun hn=>by rw[List.drop_eq_nil_of_le (by omega)]at h;cases h
 rw[List.drop_eq_getElem_cons hlt]at h
 cases h
 exact⟨hlt,by rw[List.getD_eq_getElem?_getD,List.getElem?_eq_getElem hlt];rfl,rfl⟩
theorem drop_app{all A B:List (List Int)}{g:Nat}(h:all.drop g=A++B):all.drop (g+A.length)=B:=by
 rw[←List.drop_drop,h,List.drop_left]
theorem ends_no{stop:Bool}{N g m:Nat}(h:endsB stop N g m=false):endG stop N g m=g+m∧(stop=true→g+m<N):=by
 refine⟨if_neg (by rw[h];decide),fun hs=> ?_⟩
 unfold endsB at h
 rw[hs,Bool.true_and,decide_eq_false_iff_not]at h
 omega
theorem ends_yes{stop:Bool}{N g m:Nat}(h:endsB stop N g m=true):endG stop N g m=N∧stop=true∧N≤g+m:=by
 refine⟨if_pos h,?_⟩
 unfold endsB at h
 rw[Bool.and_eq_true,decide_eq_true_eq]at h
 exact h
theorem ends_of{stop:Bool}{N g m:Nat}(h1:stop=true)(h2:N≤g+m):endsB stop N g m=true:=by
 unfold endsB
 rw[h1,decide_eq_true h2]
 rfl
theorem ends_goes{stop e:Bool}{N g:Nat}(he:endsB stop N g 1=e)(hg:stop=true→g<N):goesB N stop g = !e∧endG stop N g 1=g+1∧(stop && Nat.beq (g+1) N)=e:=by
 unfold goesB
 cases e with
 | true=>
   obtain⟨h1,h2,h3⟩:=ends_yes he
   have:=hg h2
   rw[h2,show N=g+1 by omega,Nat.beq_refl]
   refine⟨rfl,?_,rfl⟩
   subst h2
   have:N=g+1:=by omega
   subst this
   exact h1
 | false=>
   refine⟨?_,(ends_no he).1,?_⟩
   all_goals
    cases hs:stop with
    |false=>rfl
    | true=>
      have:=(ends_no he).2 hs
      rw[show Nat.beq (g+1) N=false from Bool.eq_false_iff.2 fun h=>by have:=Nat.eq_of_beq_eq_true h;omega]
      rfl
theorem bx2_lend{S:St}{ids l:List Nat}{i j:Nat}{c:CV}{bs:List AB}(hc:immC c=true)(h1:S.h i=some (bxI c))(h2:S.h j=some bxE)(h:LendOkN S ids l bs):LendOkN S ids (i::j::l) (bxI c::bxE::bs):=
 ⟨⟨_,h1,(fun h=>by cases h),fun k hk m hm=>by
   obtain rfl:k=0:=Nat.lt_one_iff.mp hk
   obtain rfl:m=0:=Nat.lt_one_iff.mp hm
   exact .b (.imm _ hc)⟩,⟨_,h2,(fun h=>by cases h),fun k hk m hm=>by
   obtain rfl:k=0:=Nat.lt_one_iff.mp hk
   obtain rfl:m=0:=Nat.lt_one_iff.mp hm
   exact .b (.imm _ rfl)⟩,h⟩
theorem bx2_lendM{S:St}{ids l:List Nat}{i j:Nat}{c:CV}{bs:List AB}(hc:immC c=true)(h1:S.h i=some (bxI c))(h2:S.h j=some bxE)(h:LendOkM S ids [] l bs):LendOkM S ids [] (i::j::l) (bxI c::bxE::bs):=
 ⟨⟨_,h1,(fun h=>by cases h),fun k hk m hm=>by
   obtain rfl:k=0:=Nat.lt_one_iff.mp hk
   obtain rfl:m=0:=Nat.lt_one_iff.mp hm
   exact .b (.imm _ hc)⟩,⟨_,h2,(fun h=>by cases h),fun k hk m hm=>by
   obtain rfl:k=0:=Nat.lt_one_iff.mp hk
   obtain rfl:m=0:=Nat.lt_one_iff.mp hm
   exact .b (.imm _ rfl)⟩,h⟩
theorem bx2_back{ids ni:List Nat}{c:CV}{l m:List AB}(hc:immC c=true)(h:BackBM ids ni l m):BackBM ids ni (bxI c::bxE::l) (bxI c::bxE::m):=
 ⟨⟨_,rfl,fun k hk m hm=>by
   obtain rfl:k=0:=Nat.lt_one_iff.mp hk
   obtain rfl:m=0:=Nat.lt_one_iff.mp hm
   exact .b (.imm _ hc)⟩,⟨_,rfl,fun k hk m hm=>by
   obtain rfl:k=0:=Nat.lt_one_iff.mp hk
   obtain rfl:m=0:=Nat.lt_one_iff.mp hm
   exact .b (.imm _ rfl)⟩,h⟩
theorem row_back{ids ni:List Nat}{n:Nat}{ty:TypeId}{F:Nat→Nat→CV}(hi:∀k,k<n→∀j,j<1→immC (F k j)=true):BackBM ids ni [⟨true,n,1,ty,F⟩] [⟨true,n,1,ty,F⟩]:=⟨⟨_,rfl,fun k hk j hj=>.b (.imm _ (hi k hk j hj))⟩,trivial⟩
theorem setC_imm{all:List (List Int)}{N:Nat}{e:Bool}:immC (if e=true then lsI (all.getD (N-1) [])else nilI)=true:=by cases e<;>rfl
theorem setB_back{ids ni:List Nat}{all:List (List Int)}{N:Nat}{e:Bool}{l m:List AB}(h:BackBM ids ni l m):BackBM ids ni (setB all N e++l) (setB all N e++m):=bx2_back setC_imm h
theorem setE_back{all:List (List Int)}{N g:Nat}{stop e:Bool}(he:(stop && Nat.beq (g+1) N)=e):BackBM [1000,1001] [] ((setRM all N stop).hE (g+1)++(setRM all N stop).la g) (setB all N e):=by
 show BackBM [1000,1001] [] (setB all N (stop && Nat.beq (g+1) N)++ []) (setB all N e)
 rw[he]
 exact bx2_back setC_imm trivial
theorem bx2_heap{S:St}{ren:List (Nat×Option Nat)}{c:CV}(hc:immC c=true){rest:List (Nat×AB)}(h0:S.h 1000=some (bxI c))(h1:S.h 1001=some bxE)(h:AllH S ren rest):AllH S ren ((1000,bxI c)::(1001,bxE)::rest):=
 ⟨HeapOk.lentC rfl h0 ⟨LeC.refl _ hc,trivial⟩ rfl,HeapOk.lentC rfl h1 ⟨LeC.refl _ rfl,trivial⟩ rfl,h⟩
set_option maxRecDepth 100000 in
theorem extend_Y(all:List (List Int))(n K lp N:Nat)(stop:Bool)(hn:n≤1000)(hK:K≤1000)(hNf:stop=false→N=all.length):∀(r:Nat) (l:List Int) (x0 g:Nat) (rest:List (List Int)) (F:Nat→Nat→CV),l.length+r=K→0<l.length→x0≤n→all.drop g=combG n r l x0++rest→(stop=true→g<N)→(∀k,k<l.length→∀j,j<1→F k j=iF (fI l) k j)→
 FY Try.prog 59 lp (setRM all N stop) N stop g (endG stop N g (combG n r l x0).length) (endsB stop N g (combG n r l x0).length) (seA K n lp r (.ow 1002) x0) [bxI nilI,bxE,⟨true,l.length,1,3,F⟩] [] (.c (bC (!endsB stop N g (combG n r l x0).length))) (setB all N (endsB stop N g (combG n r l x0).length)++ [⟨true,l.length,1,3,F⟩]) []
 | 0,l,x0,g,rest,F,hm,h0,hx0,hdr,hg,hF=>by
   obtain⟨hgl,hall,-⟩:=drop_hd hdr
   have hys:=ys_all (N:=N) (stop:=stop) (ids:= [1000,1001]) hall
   have hlK:((l.length:Nat):Int)=K:=by omega
   have hl2:l.length≤1000000:=by omega
   have hgN:g<N:=by
    cases hs:stop with
    |true=>exact hg hs
    |false=>have:=hNf hs;omega
   obtain⟨e,he⟩:∃e,endsB stop N g (combG n 0 l x0).length=e:=⟨_,rfl⟩
   obtain⟨hgo,hG,hst⟩:=ends_goes (show endsB stop N g 1=e from he) hg
   rw[show endG stop N g (combG n 0 l x0).length=g+1 from hG,he]
   refine fy_at Try.func59 rfl rfl Try.ntmps59 rfl ?_
   refine AWp.weak (S':=
    mkG (itM Try.prog lp (setRM all N stop) N stop) g false 33 3 [(0,.c (.ow 1002)),(2,.c (pl1 (iC (K:Nat)))),(3,.c (pl1 (.p (yv lp))))] [(1000,bxI nilI),(1001,bxE),(1002,rowI l.length (fI l))] []
    ) (Wk.mkG [] rfl rfl rfl rfl rfl ?_ ?_) ?_
   ·repeat (first|exact trivial|refine⟨⟨_,rfl,by first|exact LeA.c (LeC.owB _ rfl)|exact leT⟩,?_⟩)
   ·exact bx2_heap rfl rfl rfl ⟨HeapOk.lentRow rfl rfl (fun k hk j hj=>⟨hF k hk j hj,by rw[hF k hk j hj];rfl⟩),trivial⟩
   refine vB [0,1] ?_
   refine AWp.drawT 3 mixed ?_
   (iterate 2 refine vA ?_)
   refine AList.callTP [1002] rfl rfl rfl rfl Try.func60 rfl (by kernel_rfl) (Clone_T l.length (fI l) h0 hl2) (⟨.inr ⟨1002,l.length,1,_,_,iF (fI l),rfl,rfl,by simp,rfl,fun _ _=>cell1 ⟨rfl,rfl⟩⟩,trivial⟩) (fun _ _ _ _=>rfl) ?_
   refine aB ⟨by kernel_rfl,?_⟩
   refine AText.weak (S':=mkG (itM Try.prog lp (setRM all N stop) N stop) g false 33 3 [(14,.c (.p (yv lp))),(16,.c (lsI l))] [(1000,bxI nilI),(1001,bxE),(1002,rowI l.length (fI l))] []) (Wk.mkG [] rfl rfl rfl rfl rfl ?_ ?_) ?_
   ·exact⟨⟨_,rfl,.c (LeC.refl _ rfl)⟩,⟨_,rfl,.c (LeC.fz rfl rfl rfl (fun _ _ _ _=>⟨rfl,rfl⟩))⟩,trivial⟩
   ·exact bx2_heap rfl rfl rfl ⟨HeapOk.lentRow rfl rfl (fun _ _=>cell1 ⟨rfl,rfl⟩),trivial⟩
   cases e with
   | true=>
     refine AText.yieldM (i:=g) false [1000,1001] [] [] (setB all N true) [] rfl rfl rfl rfl (fun _ h=>h) rfl rfl (hgN) (hgo) ((by show ∀k,k<2→_;decide)) (bx2_lendM rfl rfl rfl trivial) trivial rfl (by exact hys) (by exact setE_back hst) trivial ?_
     refine AText.all ?_
     refine vA ?_
     refine aB ?_
     refine vB [] ?_
     refine⟨⟨rfl,rfl⟩,mkG (fun _=>True) _ _ 33 3 [(8,.c (bC false))] (lentL 0 (setB all N true++ [⟨true,l.length,1,3,F⟩])) [],[],_,setB all N true++ [⟨true,l.length,1,3,F⟩],[],⟨rfl,rfl,rfl⟩,rfl,Wk.mkG [] rfl rfl rfl rfl rfl ?_ ?_ rfl rfl (fun _ _=>trivial),rfl,rfl,GRets.one (x:=.c _) (GRes.tmp rfl)⟩
     ·exact allT
     ·exact bx2_heap setC_imm rfl rfl ⟨HeapOk.lentRow rfl rfl (fun k hk j hj=>⟨(hF k hk j hj).symm,rfl⟩),trivial⟩
   | false=>
     refine AText.yieldM (i:=g) true [1000,1001] [] [] (setB all N false) [] rfl rfl rfl rfl (fun _ h=>h) rfl rfl (hgN) (hgo) ((by show ∀k,k<2→_;decide)) (bx2_lendM rfl rfl rfl trivial) trivial rfl (by exact hys) (by exact setE_back hst) trivial ?_
     refine AText.all ?_
     refine vA ?_
     refine aB ?_
     refine vB [] ?_
     refine⟨⟨rfl,rfl⟩,mkG (fun _=>True) _ _ 33 3 [(8,.c (bC true))] (lentL 0 (setB all N false++ [⟨true,l.length,1,3,F⟩])) [],[],_,setB all N false++ [⟨true,l.length,1,3,F⟩],[],⟨rfl,rfl,rfl⟩,rfl,Wk.mkG [] rfl rfl rfl rfl rfl ?_ ?_ rfl rfl (fun _ _=>trivial),rfl,rfl,GRets.one (x:=.c _) (GRes.tmp rfl)⟩
     ·exact allT
     ·exact bx2_heap setC_imm rfl rfl ⟨HeapOk.lentRow rfl rfl (fun k hk j hj=>⟨(hF k hk j hj).symm,rfl⟩),trivial⟩
 | r +1,l,x0,g,rest,F,hm,h0,hx0,hdr,hg,hF=>by
   have hlK:¬((l.length:Nat):Int)=K:=by omega
   have hl2:l.length≤1000000:=by omega
   obtain⟨M,hM⟩:∃M,(combG n (r+1) l x0).length=M:=⟨_,rfl⟩
   rw[hM]
   replace hM:(combX (combG n r) l (n-x0) x0).length=M:=hM
   replace hdr:all.drop g=combX (combG n r) l (n-x0) x0++rest:=hdr
   refine fy_at Try.func59 rfl rfl Try.ntmps59 rfl ?_
   refine AWp.weak (S':=
    mkG (itM Try.prog lp (setRM all N stop) N stop) g false 33 3 [(0,.c (.ow 1002)),(1,.c (iC (x0:Nat))),(2,.c (pl1 (iC (K:Nat)))),(3,.c (pl1 (.p (yv lp)))),(4,.c (pl1 (iC (n:Nat)))),(5,.c (seE (K:Nat) (n:Nat) lp (r+1)))] [(1000,bxI nilI),(1001,bxE),(1002,rowI l.length (fI l))] []
    ) (Wk.mkG [] rfl rfl rfl rfl rfl ?_ ?_) ?_
   ·repeat (first|exact trivial|refine⟨⟨_,rfl,by first|exact LeA.c (LeC.owB _ rfl)|exact leT⟩,?_⟩)
   ·exact bx2_heap rfl rfl rfl ⟨HeapOk.lentRow rfl rfl (fun k hk j hj=>⟨hF k hk j hj,by rw[hF k hk j hj];rfl⟩),trivial⟩
   refine vB [0,1,3] ?_
   refine AWp.round (fun s:Nat×Nat=>
    mkG (itM Try.prog lp (setRM all N stop) N stop) s.2 false 33 3 [(0,.c (.ow 1002)),(2,.c (pl1 (iC (K:Nat)))),(3,.c (pl1 (.p (yv lp)))),(4,.c (pl1 (iC (n:Nat)))),(5,.c (seE (K:Nat) (n:Nat) lp (r+1))),(9,.c (iC (s.1:Nat)))] [(1000,bxI nilI),(1001,bxE),(1002,rowI l.length (fI l))] []
    ) (fun s=>s.1≤n∧all.drop s.2=combX (combG n r) l (n-s.1) s.1++rest∧s.2+(combX (combG n r) l (n-s.1) s.1).length=g+M∧(stop=true→s.2<N)) (fun s=>n-s.1) (x0,g) ⟨hx0,hdr,by dsimp only;rw[hM],hg⟩ ?_ (fun s hs=> ?_)
   ·refine Wk.mkG [] rfl rfl rfl rfl rfl ?_ ?_
    ·repeat (first|exact trivial|refine⟨⟨_,rfl,by first|exact LeA.c (LeC.owB _ rfl)|exact leT⟩,?_⟩)
    ·exact bx2_heap rfl rfl rfl ⟨HeapOk.lentRow rfl rfl (fun _ _=>cell1 ⟨rfl,rfl⟩),trivial⟩
   obtain⟨x,gs⟩:=s
   obtain⟨hx,hdr1,hlen,hgs⟩:=hs
   dsimp only at hx hdr1 hlen hgs⊢
   by_cases hxn:x<n
   rotate_left
   ·have hxn':¬(x:Int)<n:=by omega
    rw[show n-x=0 by omega]at hlen
    replace hlen:gs+0=g+M:=hlen
    have he:endsB stop N g M=false:=by
     cases h:endsB stop N g M with
     |false=>rfl
     |true=>obtain⟨_,h2,h3⟩:=ends_yes h;have:=hgs h2;omega
    obtain rfl:gs=g+M:=by omega
    rw[(ends_no he).1,he]
    refine vB [4,8] ?_
    refine⟨⟨rfl,rfl⟩,mkG (fun _=>True) _ _ 33 3 [(8,.c (bC true))] (lentL 0 (setB all N false++ [⟨true,l.length,1,3,F⟩])) [],[],_,setB all N false++ [⟨true,l.length,1,3,F⟩],[],⟨rfl,rfl,rfl⟩,rfl,Wk.mkG [] rfl rfl rfl rfl rfl ?_ ?_ rfl rfl (fun _ _=>trivial),rfl,rfl,GRets.one (x:=.c _) (GRes.tmp rfl)⟩
    ·exact allT
    ·exact bx2_heap setC_imm rfl rfl ⟨HeapOk.lentRow rfl rfl (fun k hk j hj=>⟨(hF k hk j hj).symm,rfl⟩),trivial⟩
   have hxn':(x:Int)<n:=by omega
   obtain⟨m,hm1⟩:∃m,n-x=m+1:=⟨n-x-1,by omega⟩
   have hm2:n-(x+1)=m:=by omega
   rw[hm1]at hdr1 hlen
   replace hdr1:all.drop gs=(combG n r (l++ [(x:Int)]) (x+1)++combX (combG n r) l m (x+1))++rest:=hdr1
   replace hlen:gs+(combG n r (l++ [(x:Int)]) (x+1)++combX (combG n r) l m (x+1)).length=g+M:=hlen
   rw[List.append_assoc]at hdr1
   rw[List.length_append]at hlen
   have hsn:=chI_snoc l x
   have hih:=extend_Y all n K lp N stop hn hK hNf r (l++ [(x:Int)]) (x+1) gs (combX (combG n r) l m (x+1)++rest) (appF (iF (fI l)) l.length (sF [iC (x:Nat)] 1)) (by simp only[List.length_append,List.length_singleton];omega) (by simp) (by omega) hdr1 hgs (fun k hk j hj=>(hsn k (by simpa using hk) j hj).1)
   obtain⟨R1,hR1⟩:∃R1,combG n r (l++ [(x:Int)]) (x+1)=R1:=⟨_,rfl⟩
   rw[hR1]at hih hdr1 hlen
   simp only[List.length_append,List.length_singleton]at hih
   have hdr2:all.drop (gs+R1.length)=combX (combG n r) l (n-(x+1)) (x+1)++rest:=by rw[hm2];exact drop_app hdr1
   have hlen2:gs+R1.length+(combX (combG n r) l (n-(x+1)) (x+1)).length=g+M:=by rw[hm2];omega
   have hx1:((x+1:Nat):Int)=(x:Int)+1:=rfl
   rw[hx1]at hih
   refine vB [4] ?_
   by_cases he:endsB stop N gs R1.length=true
   ·obtain⟨q1,q2,q3⟩:=ends_yes he
    have he2:endsB stop N g M=true:=ends_of q2 (by omega)
    rw[q1,he]at hih
    rw[(ends_yes he2).1,he2]
    refine AWp.draw9 mixed (fun _ h=>h.1) (by kernel_rfl) (AHoist.move rfl rfl rfl) (AHoist.move rfl rfl rfl) (AHoist.move rfl rfl rfl) (AHoist.add rfl rfl rfl rfl (by omega) (by omega)) ?_ ?_
    ·refine AText.split 2 ?_
     refine vA ?_
     refine vA ?_
     refine aB ?_
     refine AText.appCallY tyOk [] [1000,1001] [bxI nilI,bxE] (setB all N true) (setB all N true) rfl AMid.nil rfl rfl rfl rfl rfl rfl rfl rfl (.inr ⟨1002,rfl,rfl,rfl,by simp⟩) (fun _ _ _ _=>rfl) (fun k hk j hj=>by obtain rfl:k=0:=Nat.lt_one_iff.mp hk;obtain rfl:j=0:=Nat.lt_one_iff.mp hj;rfl) (by omega) (by omega) (by dsimp only;omega) (FnV.fi 4 _ rfl rfl) rfl Try.func59 rfl (by kernel_rfl) (fun _ h=>h) rfl rfl (by show ∀k,k<2→_;decide) (bx2_lend rfl rfl rfl trivial) rfl (by exact⟨.c (.b (.ow 28 2 rfl)),.c (.b (.imm _ rfl)),.c (.b (.imm _ rfl)),.c (.b (.imm _ rfl)),.c (.b (.imm _ rfl)),.c (.b (.imm _ rfl)),trivial⟩) (.c (.imm _ rfl)) (by exact setB_back (row_back fun k hk j hj=>(hsn k hk j hj).2)) hih ?_
     refine AText.all ?_
     refine vA ?_
     refine aB ?_
     refine vB [7] ?_
     refine⟨⟨rfl,rfl⟩,mkG (fun _=>True) _ _ 33 3 [(8,.c (bC false))] (lentL 0 (setB all N true++ [⟨true,l.length,1,3,F⟩])) [],[],_,setB all N true++ [⟨true,l.length,1,3,F⟩],[],⟨rfl,rfl,rfl⟩,rfl,Wk.mkG [] rfl rfl rfl rfl rfl ?_ ?_ rfl rfl (fun _ _=>trivial),rfl,rfl,GRets.one (x:=.c _) (GRes.tmp rfl)⟩
     ·exact allT
     ·exact bx2_heap setC_imm rfl rfl ⟨HeapOk.lentRow rfl rfl (fun k hk j hj=>⟨(hF k hk j hj).symm,rfl⟩),trivial⟩
    ·refine vA ?_
     refine aB ⟨?_,?_⟩
     ·refine AText.split 1 ?_
      refine vA ?_
      refine aB ?_
      refine AText.appCallY tyOk [] [1000,1001] [bxI nilI,bxE] (setB all N true) (setB all N true) rfl AMid.nil rfl rfl rfl rfl rfl rfl rfl rfl (.inr ⟨1002,rfl,rfl,rfl,by simp⟩) (fun _ _ _ _=>rfl) (fun k hk j hj=>by obtain rfl:k=0:=Nat.lt_one_iff.mp hk;obtain rfl:j=0:=Nat.lt_one_iff.mp hj;rfl) (by omega) (by omega) (by dsimp only;omega) (FnV.fi 4 _ rfl rfl) rfl Try.func59 rfl (by kernel_rfl) (fun _ h=>h) rfl rfl (by show ∀k,k<2→_;decide) (bx2_lend rfl rfl rfl trivial) rfl (by exact⟨.c (.b (.ow 28 2 rfl)),.c (.b (.imm _ rfl)),.c (.b (.imm _ rfl)),.c (.b (.imm _ rfl)),.c (.b (.imm _ rfl)),.c (.b (.imm _ rfl)),trivial⟩) (.c (.imm _ rfl)) (by exact setB_back (row_back fun k hk j hj=>(hsn k hk j hj).2)) hih ?_
      refine AText.all ?_
      refine vA ?_
      refine aB ?_
      refine vB [7] ?_
      refine⟨⟨rfl,rfl⟩,mkG (fun _=>True) _ _ 33 3 [(8,.c (bC false))] (lentL 0 (setB all N true++ [⟨true,l.length,1,3,F⟩])) [],[],_,setB all N true++ [⟨true,l.length,1,3,F⟩],[],⟨rfl,rfl,rfl⟩,rfl,Wk.mkG [] rfl rfl rfl rfl rfl ?_ ?_ rfl rfl (fun _ _=>trivial),rfl,rfl,GRets.one (x:=.c _) (GRes.tmp rfl)⟩
      ·exact allT
      ·exact bx2_heap setC_imm rfl rfl ⟨HeapOk.lentRow rfl rfl (fun k hk j hj=>⟨(hF k hk j hj).symm,rfl⟩),trivial⟩
     ·refine AText.appCallY tyOk [_] [1000,1001] [bxI nilI,bxE] (setB all N true) (setB all N true) rfl (AMid.load1l tyOk rfl rfl rfl rfl rfl (by omega) AMid.nil) rfl rfl rfl rfl rfl rfl rfl rfl (.inr ⟨1002,rfl,rfl,rfl,by simp⟩) (fun _ _ _ _=>rfl) (fun k hk j hj=>by obtain rfl:k=0:=Nat.lt_one_iff.mp hk;obtain rfl:j=0:=Nat.lt_one_iff.mp hj;rfl) (by omega) (by omega) (by dsimp only;omega) (FnV.fi 4 _ rfl rfl) rfl Try.func59 rfl (by kernel_rfl) (fun _ h=>h) rfl rfl (by show ∀k,k<2→_;decide) (bx2_lend rfl rfl rfl trivial) rfl (by exact⟨.c (.b (.ow 28 2 rfl)),.c (.b (.imm _ rfl)),.c (.b (.imm _ rfl)),.c (.b (.imm _ rfl)),.c (.b (.imm _ rfl)),.c (.b (.imm _ rfl)),trivial⟩) (.c (.imm _ rfl)) (by exact setB_back (row_back fun k hk j hj=>(hsn k hk j hj).2)) hih ?_
      refine AText.all ?_
      refine vA ?_
      refine aB ?_
      refine vB [7] ?_
      refine⟨⟨rfl,rfl⟩,mkG (fun _=>True) _ _ 33 3 [(8,.c (bC false))] (lentL 0 (setB all N true++ [⟨true,l.length,1,3,F⟩])) [],[],_,setB all N true++ [⟨true,l.length,1,3,F⟩],[],⟨rfl,rfl,rfl⟩,rfl,Wk.mkG [] rfl rfl rfl rfl rfl ?_ ?_ rfl rfl (fun _ _=>trivial),rfl,rfl,GRets.one (x:=.c _) (GRes.tmp rfl)⟩
      ·exact allT
      ·exact bx2_heap setC_imm rfl rfl ⟨HeapOk.lentRow rfl rfl (fun k hk j hj=>⟨(hF k hk j hj).symm,rfl⟩),trivial⟩
   ·have he:=Bool.eq_false_iff.2 he
    obtain⟨q1,hno2⟩:=ends_no he
    rw[q1,he]at hih
    refine AWp.draw9 mixed (fun _ h=>h.1) (by kernel_rfl) (AHoist.move rfl rfl rfl) (AHoist.move rfl rfl rfl) (AHoist.move rfl rfl rfl) (AHoist.add rfl rfl rfl rfl (by omega) (by omega)) ?_ ?_
    ·refine AText.split 2 ?_
     refine vA ?_
     refine vA ?_
     refine aB ?_
     refine AText.appCallY tyOk [] [1000,1001] [bxI nilI,bxE] (setB all N false) (setB all N false) rfl AMid.nil rfl rfl rfl rfl rfl rfl rfl rfl (.inr ⟨1002,rfl,rfl,rfl,by simp⟩) (fun _ _ _ _=>rfl) (fun k hk j hj=>by obtain rfl:k=0:=Nat.lt_one_iff.mp hk;obtain rfl:j=0:=Nat.lt_one_iff.mp hj;rfl) (by omega) (by omega) (by dsimp only;omega) (FnV.fi 4 _ rfl rfl) rfl Try.func59 rfl (by kernel_rfl) (fun _ h=>h) rfl rfl (by show ∀k,k<2→_;decide) (bx2_lend rfl rfl rfl trivial) rfl (by exact⟨.c (.b (.ow 28 2 rfl)),.c (.b (.imm _ rfl)),.c (.b (.imm _ rfl)),.c (.b (.imm _ rfl)),.c (.b (.imm _ rfl)),.c (.b (.imm _ rfl)),trivial⟩) (.c (.imm _ rfl)) (by exact setB_back (row_back fun k hk j hj=>(hsn k hk j hj).2)) hih ?_
     refine AText.all ?_
     refine vA ?_
     refine aB ?_
     refine vB [5] ?_
     refine⟨(x+1,gs+R1.length),⟨by dsimp only;omega,by dsimp only;exact hdr2,by dsimp only;omega,fun h=>by dsimp only;exact hno2 h⟩,Wk.mkG [] rfl rfl rfl rfl rfl ?_ ?_,by dsimp only;omega⟩
     ·repeat (first|exact trivial|refine⟨⟨_,rfl,by first|exact LeA.c (LeC.owB _ rfl)|exact leT⟩,?_⟩)
     ·exact bx2_heap rfl rfl rfl ⟨HeapOk.lentRow rfl rfl (fun _ _=>cell1 ⟨rfl,rfl⟩),trivial⟩
    ·refine vA ?_
     refine aB ⟨?_,?_⟩
     ·refine AText.split 1 ?_
      refine vA ?_
      refine aB ?_
      refine AText.appCallY tyOk [] [1000,1001] [bxI nilI,bxE] (setB all N false) (setB all N false) rfl AMid.nil rfl rfl rfl rfl rfl rfl rfl rfl (.inr ⟨1002,rfl,rfl,rfl,by simp⟩) (fun _ _ _ _=>rfl) (fun k hk j hj=>by obtain rfl:k=0:=Nat.lt_one_iff.mp hk;obtain rfl:j=0:=Nat.lt_one_iff.mp hj;rfl) (by omega) (by omega) (by dsimp only;omega) (FnV.fi 4 _ rfl rfl) rfl Try.func59 rfl (by kernel_rfl) (fun _ h=>h) rfl rfl (by show ∀k,k<2→_;decide) (bx2_lend rfl rfl rfl trivial) rfl (by exact⟨.c (.b (.ow 28 2 rfl)),.c (.b (.imm _ rfl)),.c (.b (.imm _ rfl)),.c (.b (.imm _ rfl)),.c (.b (.imm _ rfl)),.c (.b (.imm _ rfl)),trivial⟩) (.c (.imm _ rfl)) (by exact setB_back (row_back fun k hk j hj=>(hsn k hk j hj).2)) hih ?_
      refine AText.all ?_
      refine vA ?_
      refine aB ?_
      refine vB [5] ?_
      refine⟨(x+1,gs+R1.length),⟨by dsimp only;omega,by dsimp only;exact hdr2,by dsimp only;omega,fun h=>by dsimp only;exact hno2 h⟩,Wk.mkG [] rfl rfl rfl rfl rfl ?_ ?_,by dsimp only;omega⟩
      ·repeat (first|exact trivial|refine⟨⟨_,rfl,by first|exact LeA.c (LeC.owB _ rfl)|exact leT⟩,?_⟩)
      ·exact bx2_heap rfl rfl rfl ⟨HeapOk.lentRow rfl rfl (fun _ _=>cell1 ⟨rfl,rfl⟩),trivial⟩
     ·refine AText.appCallY tyOk [_] [1000,1001] [bxI nilI,bxE] (setB all N false) (setB all N false) rfl (AMid.load1l tyOk rfl rfl rfl rfl rfl (by omega) AMid.nil) rfl rfl rfl rfl rfl rfl rfl rfl (.inr ⟨1002,rfl,rfl,rfl,by simp⟩) (fun _ _ _ _=>rfl) (fun k hk j hj=>by obtain rfl:k=0:=Nat.lt_one_iff.mp hk;obtain rfl:j=0:=Nat.lt_one_iff.mp hj;rfl) (by omega) (by omega) (by dsimp only;omega) (FnV.fi 4 _ rfl rfl) rfl Try.func59 rfl (by kernel_rfl) (fun _ h=>h) rfl rfl (by show ∀k,k<2→_;decide) (bx2_lend rfl rfl rfl trivial) rfl (by exact⟨.c (.b (.ow 28 2 rfl)),.c (.b (.imm _ rfl)),.c (.b (.imm _ rfl)),.c (.b (.imm _ rfl)),.c (.b (.imm _ rfl)),.c (.b (.imm _ rfl)),trivial⟩) (.c (.imm _ rfl)) (by exact setB_back (row_back fun k hk j hj=>(hsn k hk j hj).2)) hih ?_
      refine AText.all ?_
      refine vA ?_
      refine aB ?_
      refine vB [5] ?_
      refine⟨(x+1,gs+R1.length),⟨by dsimp only;omega,by dsimp only;exact hdr2,by dsimp only;omega,fun h=>by dsimp only;exact hno2 h⟩,Wk.mkG [] rfl rfl rfl rfl rfl ?_ ?_,by dsimp only;omega⟩
      ·repeat (first|exact trivial|refine⟨⟨_,rfl,by first|exact LeA.c (LeC.owB _ rfl)|exact leT⟩,?_⟩)
      ·exact bx2_heap rfl rfl rfl ⟨HeapOk.lentRow rfl rfl (fun _ _=>cell1 ⟨rfl,rfl⟩),trivial⟩
abbrev setsL(n K:Nat):List (List Int):=combG n K [] 0
set_option maxRecDepth 100000 in
theorem sets_A(n K:Int):ACalls Try.prog 38 [.c (iC n),.c (iC K)] (.c (.fn 58 2 fun i=> [pl1 (iC K),pl1 (iC n)].getD i .any)):=by
 refine acalls_at Try.func38 rfl rfl Try.ntmps38 rfl ?_
 repeat (first
  |refine vB [0] ?_
  | (refine rG 1 ?_
     refine qr5 AList.makeFn ?_
     refine vA ?_
     refine aB ?_))
 refine⟨mkSt 6 [(4,.c (.fn 58 2 fun i=> [pl1 (iC K),pl1 (iC n)].getD i .any))] [] [],[],Wk.mk [] rfl rfl rfl ⟨⟨_,rfl,.c (LeC.fn _ _ _ _ (fun i hi=> ?_) (fun i hi=> ?_))⟩,trivial⟩ trivial,rfl,rfl,ARets.one (x:=.c _) (ARes.fn rfl fun i hi=> ?_)⟩
 all_goals
  have hi1:i<2:=hi
  obtain rfl|rfl:i=0∨i=1:=by omega
 ·exact⟨trivial,trivial⟩
 ·exact⟨trivial,trivial⟩
 ·exact LeC.fzP rfl rfl rfl rfl
 ·exact LeC.fzP rfl rfl rfl rfl
 ·rfl
 ·rfl
set_option maxRecDepth 100000 in
theorem extend_Y0(all:List (List Int))(n K lp N:Nat)(stop:Bool)(hn:n≤1000)(hK:K≤1000)(hNf:stop=false→N=all.length)(hdr:all=setsL n K)(hg:stop=true→0<N):
 FY Try.prog 59 lp (setRM all N stop) N stop 0 (endG stop N 0 all.length) (endsB stop N 0 all.length) (seA K n lp K nilI 0) [bxI nilI,bxE] [] (.c (bC (!endsB stop N 0 all.length))) (setB all N (endsB stop N 0 all.length)++ []) []:=by
 obtain⟨g,hg0⟩:∃g,g=0:=⟨_,rfl⟩
 cases K with
 | zero=>
   obtain rfl:all= [[]]:=hdr
   obtain⟨all,hal⟩:∃all:List (List Int),all= [[]]:=⟨_,rfl⟩
   have hys:=ys_all (all:= [[]]) (g:=0) (l:= []) (N:=N) (stop:=stop) (ids:= [1000,1001]) rfl
   have hgN:0<N:=by
    cases hs:stop with
    |true=>exact hg hs
    |false=>have:=hNf hs;rw[this];exact Nat.one_pos
   obtain⟨e,he⟩:∃e,endsB stop N 0 ([[]]:List (List Int)).length=e:=⟨_,rfl⟩
   obtain⟨hgo,hG,hst⟩:=ends_goes (show endsB stop N 0 1=e from he) hg
   rw[show endG stop N 0 ([[]]:List (List Int)).length=0+1 from hG,he]
   rw[←hal]at hys⊢
   have hCl:=(CloneI_A 0 (iF (fI [])) (fun _ _ _ _=>rfl) (by omega)).cv (args':= [.c nilI]) ⟨.c Cv.nil,trivial⟩
   subst hg0
   refine fy_at Try.func59 rfl rfl Try.ntmps59 rfl ?_
   refine AWp.weak (S':=mkG (itM Try.prog lp (setRM all N stop) N stop) 0 false 33 2 [(0,.c nilI),(2,.c (pl1 (iC (0:Nat)))),(3,.c (pl1 (.p (yv lp)))),(4,.c (pl1 (iC (n:Nat))))] [(1000,bxI nilI),(1001,bxE)] []) (Wk.mkG [] rfl rfl rfl rfl rfl ?_ ?_) ?_
   ·exact allT
   ·exact bx2_heap rfl rfl rfl trivial
   refine vB [0,1] ?_
   refine AWp.drawT 3 mixed ?_
   (iterate 2 refine vA ?_)
   refine aH rfl rfl rfl rfl Try.func60 rfl (by kernel_rfl) (hCl) ?_
   refine aB ⟨by kernel_rfl,?_⟩
   cases e with
   | true=>
     refine AText.yieldM (i:=0) false [1000,1001] [] [] (setB all N true) [] rfl rfl rfl rfl (fun _ h=>h) rfl rfl (hgN) (hgo) ((by show ∀k,k<2→_;decide)) (bx2_lendM rfl rfl rfl trivial) trivial rfl (by exact hys) (by exact setE_back hst) trivial ?_
     refine AText.all ?_
     refine vA ?_
     refine aB ?_
     refine vB [] ?_
     refine⟨⟨rfl,rfl⟩,mkG (fun _=>True) _ _ 33 2 [(8,.c (bC false))] (lentL 0 (setB all N true++ [])) [],[],_,setB all N true++ [],[],⟨rfl,rfl,rfl⟩,rfl,Wk.mkG [] rfl rfl rfl rfl rfl ?_ ?_ rfl rfl (fun _ _=>trivial),rfl,rfl,GRets.one (x:=.c _) (GRes.tmp rfl)⟩
     ·exact allT
     ·exact bx2_heap setC_imm rfl rfl trivial
   | false=>
     refine AText.yieldM (i:=0) true [1000,1001] [] [] (setB all N false) [] rfl rfl rfl rfl (fun _ h=>h) rfl rfl (hgN) (hgo) ((by show ∀k,k<2→_;decide)) (bx2_lendM rfl rfl rfl trivial) trivial rfl (by exact hys) (by exact setE_back hst) trivial ?_
     refine AText.all ?_
     refine vA ?_
     refine aB ?_
     refine vB [] ?_
     refine⟨⟨rfl,rfl⟩,mkG (fun _=>True) _ _ 33 2 [(8,.c (bC true))] (lentL 0 (setB all N false++ [])) [],[],_,setB all N false++ [],[],⟨rfl,rfl,rfl⟩,rfl,Wk.mkG [] rfl rfl rfl rfl rfl ?_ ?_ rfl rfl (fun _ _=>trivial),rfl,rfl,GRets.one (x:=.c _) (GRes.tmp rfl)⟩
     ·exact allT
     ·exact bx2_heap setC_imm rfl rfl trivial
 | succ r=>
   have hK0:¬(0:Int)=((r+1:Nat):Int):=by omega
   obtain⟨M,hM⟩:∃M,all.length=M:=⟨_,rfl⟩
   rw[hM]
   have hall:all=combX (combG n r) [] (n-0) 0:=hdr
   have hM2:(combX (combG n r) [] (n-0) 0).length=M:=by rw[←hall];exact hM
   refine fy_at Try.func59 rfl rfl Try.ntmps59 rfl ?_
   refine AWp.weak (S':=
    mkG (itM Try.prog lp (setRM all N stop) N stop) 0 false 33 2 [(0,.c nilI),(1,.c (iC (0:Nat))),(2,.c (pl1 (iC (r+1:Nat)))),(3,.c (pl1 (.p (yv lp)))),(4,.c (pl1 (iC (n:Nat)))),(5,.c (seE (r+1:Nat) (n:Nat) lp (r+1)))] [(1000,bxI nilI),(1001,bxE)] []
    ) (Wk.mkG [] rfl rfl rfl rfl rfl ?_ ?_) ?_
   ·exact allT
   ·exact bx2_heap rfl rfl rfl trivial
   refine vB [0,1,3] ?_
   refine AWp.round (fun s:Nat×Nat=>
    mkG (itM Try.prog lp (setRM all N stop) N stop) s.2 false 33 2 [(0,.c nilI),(2,.c (pl1 (iC (r+1:Nat)))),(3,.c (pl1 (.p (yv lp)))),(4,.c (pl1 (iC (n:Nat)))),(5,.c (seE (r+1:Nat) (n:Nat) lp (r+1))),(9,.c (iC (s.1:Nat)))] [(1000,bxI nilI),(1001,bxE)] []
    ) (fun s=>s.1≤n∧all.drop s.2=combX (combG n r) [] (n-s.1) s.1++ []∧s.2+(combX (combG n r) [] (n-s.1) s.1).length=0+M∧(stop=true→s.2<N)) (fun s=>n-s.1) (0,0) ⟨Nat.zero_le _,by rw[List.append_nil];exact hall,by dsimp only;rw[hM2],hg⟩ ?_ (fun s hs=> ?_)
   ·refine Wk.mkG [] rfl rfl rfl rfl rfl ?_ ?_
    ·exact allT
    ·exact bx2_heap rfl rfl rfl trivial
   obtain⟨x,gs⟩:=s
   obtain⟨hx,hdr1,hlen,hgs⟩:=hs
   dsimp only at hx hdr1 hlen hgs⊢
   by_cases hxn:x<n
   rotate_left
   ·have hxn':¬(x:Int)<n:=by omega
    rw[show n-x=0 by omega]at hlen
    replace hlen:gs+0=0+M:=hlen
    have he:endsB stop N 0 M=false:=by
     cases h:endsB stop N 0 M with
     |false=>rfl
     |true=>obtain⟨_,h2,h3⟩:=ends_yes h;have:=hgs h2;omega
    obtain rfl:gs=0+M:=by omega
    rw[(ends_no he).1,he]
    refine vB [4,8] ?_
    refine⟨⟨rfl,rfl⟩,mkG (fun _=>True) _ _ 33 2 [(8,.c (bC true))] (lentL 0 (setB all N false++ [])) [],[],_,setB all N false++ [],[],⟨rfl,rfl,rfl⟩,rfl,Wk.mkG [] rfl rfl rfl rfl rfl ?_ ?_ rfl rfl (fun _ _=>trivial),rfl,rfl,GRets.one (x:=.c _) (GRes.tmp rfl)⟩
    ·exact allT
    ·exact bx2_heap setC_imm rfl rfl trivial
   have hxn':(x:Int)<n:=by omega
   obtain⟨m,hm1⟩:∃m,n-x=m+1:=⟨n-x-1,by omega⟩
   have hm2:n-(x+1)=m:=by omega
   rw[hm1]at hdr1 hlen
   replace hdr1:all.drop gs=(combG n r ([]++ [(x:Int)]) (x+1)++combX (combG n r) [] m (x+1))++ []:=hdr1
   replace hlen:gs+(combG n r ([]++ [(x:Int)]) (x+1)++combX (combG n r) [] m (x+1)).length=0+M:=hlen
   rw[List.append_assoc]at hdr1
   rw[List.length_append]at hlen
   have hsn:∀k,k<0+1→∀j,j<1→appF (fun _ _=>CV.any) 0 (sF [iC (x:Nat)] 1) k j=iF (fI ([]++ [(x:Int)])) k j∧immC (appF (fun _ _=>CV.any) 0 (sF [iC (x:Nat)] 1) k j)=true:=fun k hk j hj=>by
    obtain rfl:k=0:=by omega
    obtain rfl:j=0:=by omega
    exact⟨rfl,rfl⟩
   have hih:=extend_Y all n (r+1) lp N stop hn hK hNf r ([]++ [(x:Int)]) (x+1) gs (combX (combG n r) [] m (x+1)++ []) (appF (fun _ _=>.any) 0 (sF [iC (x:Nat)] 1)) (by simp;omega) (by simp) (by omega) hdr1 hgs (fun k hk j hj=>(hsn k hk j hj).1)
   obtain⟨R1,hR1⟩:∃R1,combG n r ([]++ [(x:Int)]) (x+1)=R1:=⟨_,rfl⟩
   rw[hR1]at hih hdr1 hlen
   have hdr2:all.drop (gs+R1.length)=combX (combG n r) [] (n-(x+1)) (x+1)++ []:=by rw[hm2];exact drop_app hdr1
   have hlen2:gs+R1.length+(combX (combG n r) [] (n-(x+1)) (x+1)).length=0+M:=by rw[hm2];omega
   have hx1:((x+1:Nat):Int)=(x:Int)+1:=rfl
   rw[hx1]at hih
   refine vB [4] ?_
   by_cases he:endsB stop N gs R1.length=true
   ·obtain⟨q1,q2,q3⟩:=ends_yes he
    have he2:endsB stop N 0 M=true:=ends_of q2 (by omega)
    rw[q1,he]at hih
    rw[(ends_yes he2).1,he2]
    refine AWp.draw9 mixed (fun _ h=>h.1) (by kernel_rfl) (AHoist.move rfl rfl rfl) (AHoist.move rfl rfl rfl) (AHoist.move rfl rfl rfl) (AHoist.add rfl rfl rfl rfl (by omega) (by omega)) ?_ ?_
    ·refine AText.split 2 ?_
     refine vA ?_
     refine vA ?_
     refine aB ?_
     refine AText.appCallY tyOk [] [1000,1001] [bxI nilI,bxE] (setB all N true) (setB all N true) rfl AMid.nil rfl rfl rfl rfl rfl rfl rfl rfl (.inl ⟨rfl,rfl,rfl⟩) (fun k hk=>absurd hk (Nat.not_lt_zero _)) (fun k hk j hj=>by obtain rfl:k=0:=Nat.lt_one_iff.mp hk;obtain rfl:j=0:=Nat.lt_one_iff.mp hj;rfl) (by omega) (by omega) (by dsimp only;omega) (FnV.fi 4 _ rfl rfl) rfl Try.func59 rfl (by kernel_rfl) (fun _ h=>h) rfl rfl (by show ∀k,k<2→_;decide) (bx2_lend rfl rfl rfl trivial) rfl (by exact⟨.c (.b (.ow 28 2 rfl)),.c (.b (.imm _ rfl)),.c (.b (.imm _ rfl)),.c (.b (.imm _ rfl)),.c (.b (.imm _ rfl)),.c (.b (.imm _ rfl)),trivial⟩) (.c (.imm _ rfl)) (by exact setB_back (row_back fun k hk j hj=>(hsn k hk j hj).2)) hih ?_
     refine AText.all ?_
     refine vA ?_
     refine aB ?_
     refine vB [7] ?_
     refine⟨⟨rfl,rfl⟩,mkG (fun _=>True) _ _ 33 2 [(8,.c (bC false))] (lentL 0 (setB all N true++ [])) [],[],_,setB all N true++ [],[],⟨rfl,rfl,rfl⟩,rfl,Wk.mkG [] rfl rfl rfl rfl rfl ?_ ?_ rfl rfl (fun _ _=>trivial),rfl,rfl,GRets.one (x:=.c _) (GRes.tmp rfl)⟩
     ·exact allT
     ·exact bx2_heap setC_imm rfl rfl trivial
    ·refine vA ?_
     refine aB ⟨?_,?_⟩
     ·refine AText.split 1 ?_
      refine vA ?_
      refine aB ?_
      refine AText.appCallY tyOk [] [1000,1001] [bxI nilI,bxE] (setB all N true) (setB all N true) rfl AMid.nil rfl rfl rfl rfl rfl rfl rfl rfl (.inl ⟨rfl,rfl,rfl⟩) (fun k hk=>absurd hk (Nat.not_lt_zero _)) (fun k hk j hj=>by obtain rfl:k=0:=Nat.lt_one_iff.mp hk;obtain rfl:j=0:=Nat.lt_one_iff.mp hj;rfl) (by omega) (by omega) (by dsimp only;omega) (FnV.fi 4 _ rfl rfl) rfl Try.func59 rfl (by kernel_rfl) (fun _ h=>h) rfl rfl (by show ∀k,k<2→_;decide) (bx2_lend rfl rfl rfl trivial) rfl (by exact⟨.c (.b (.ow 28 2 rfl)),.c (.b (.imm _ rfl)),.c (.b (.imm _ rfl)),.c (.b (.imm _ rfl)),.c (.b (.imm _ rfl)),.c (.b (.imm _ rfl)),trivial⟩) (.c (.imm _ rfl)) (by exact setB_back (row_back fun k hk j hj=>(hsn k hk j hj).2)) hih ?_
      refine AText.all ?_
      refine vA ?_
      refine aB ?_
      refine vB [7] ?_
      refine⟨⟨rfl,rfl⟩,mkG (fun _=>True) _ _ 33 2 [(8,.c (bC false))] (lentL 0 (setB all N true++ [])) [],[],_,setB all N true++ [],[],⟨rfl,rfl,rfl⟩,rfl,Wk.mkG [] rfl rfl rfl rfl rfl ?_ ?_ rfl rfl (fun _ _=>trivial),rfl,rfl,GRets.one (x:=.c _) (GRes.tmp rfl)⟩
      ·exact allT
      ·exact bx2_heap setC_imm rfl rfl trivial
     ·refine AText.appCallY tyOk [_] [1000,1001] [bxI nilI,bxE] (setB all N true) (setB all N true) rfl (AMid.load1l tyOk rfl rfl rfl rfl rfl (by omega) AMid.nil) rfl rfl rfl rfl rfl rfl rfl rfl (.inl ⟨rfl,rfl,rfl⟩) (fun k hk=>absurd hk (Nat.not_lt_zero _)) (fun k hk j hj=>by obtain rfl:k=0:=Nat.lt_one_iff.mp hk;obtain rfl:j=0:=Nat.lt_one_iff.mp hj;rfl) (by omega) (by omega) (by dsimp only;omega) (FnV.fi 4 _ rfl rfl) rfl Try.func59 rfl (by kernel_rfl) (fun _ h=>h) rfl rfl (by show ∀k,k<2→_;decide) (bx2_lend rfl rfl rfl trivial) rfl (by exact⟨.c (.b (.ow 28 2 rfl)),.c (.b (.imm _ rfl)),.c (.b (.imm _ rfl)),.c (.b (.imm _ rfl)),.c (.b (.imm _ rfl)),.c (.b (.imm _ rfl)),trivial⟩) (.c (.imm _ rfl)) (by exact setB_back (row_back fun k hk j hj=>(hsn k hk j hj).2)) hih ?_
      refine AText.all ?_
      refine vA ?_
      refine aB ?_
      refine vB [7] ?_
      refine⟨⟨rfl,rfl⟩,mkG (fun _=>True) _ _ 33 2 [(8,.c (bC false))] (lentL 0 (setB all N true++ [])) [],[],_,setB all N true++ [],[],⟨rfl,rfl,rfl⟩,rfl,Wk.mkG [] rfl rfl rfl rfl rfl ?_ ?_ rfl rfl (fun _ _=>trivial),rfl,rfl,GRets.one (x:=.c _) (GRes.tmp rfl)⟩
      ·exact allT
      ·exact bx2_heap setC_imm rfl rfl trivial
   ·have he:=Bool.eq_false_iff.2 he
    obtain⟨q1,hno2⟩:=ends_no he
    rw[q1,he]at hih
    refine AWp.draw9 mixed (fun _ h=>h.1) (by kernel_rfl) (AHoist.move rfl rfl rfl) (AHoist.move rfl rfl rfl) (AHoist.move rfl rfl rfl) (AHoist.add rfl rfl rfl rfl (by omega) (by omega)) ?_ ?_
    ·refine AText.split 2 ?_
     refine vA ?_
     refine vA ?_
     refine aB ?_
     refine AText.appCallY tyOk [] [1000,1001] [bxI nilI,bxE] (setB all N false) (setB all N false) rfl AMid.nil rfl rfl rfl rfl rfl rfl rfl rfl (.inl ⟨rfl,rfl,rfl⟩) (fun k hk=>absurd hk (Nat.not_lt_zero _)) (fun k hk j hj=>by obtain rfl:k=0:=Nat.lt_one_iff.mp hk;obtain rfl:j=0:=Nat.lt_one_iff.mp hj;rfl) (by omega) (by omega) (by dsimp only;omega) (FnV.fi 4 _ rfl rfl) rfl Try.func59 rfl (by kernel_rfl) (fun _ h=>h) rfl rfl (by show ∀k,k<2→_;decide) (bx2_lend rfl rfl rfl trivial) rfl (by exact⟨.c (.b (.ow 28 2 rfl)),.c (.b (.imm _ rfl)),.c (.b (.imm _ rfl)),.c (.b (.imm _ rfl)),.c (.b (.imm _ rfl)),.c (.b (.imm _ rfl)),trivial⟩) (.c (.imm _ rfl)) (by exact setB_back (row_back fun k hk j hj=>(hsn k hk j hj).2)) hih ?_
     refine AText.all ?_
     refine vA ?_
     refine aB ?_
     refine vB [5] ?_
     refine⟨(x+1,gs+R1.length),⟨by dsimp only;omega,by dsimp only;exact hdr2,by dsimp only;omega,fun h=>by dsimp only;exact hno2 h⟩,Wk.mkG [] rfl rfl rfl rfl rfl ?_ ?_,by dsimp only;omega⟩
     ·exact allT
     ·exact bx2_heap rfl rfl rfl trivial
    ·refine vA ?_
     refine aB ⟨?_,?_⟩
     ·refine AText.split 1 ?_
      refine vA ?_
      refine aB ?_
      refine AText.appCallY tyOk [] [1000,1001] [bxI nilI,bxE] (setB all N false) (setB all N false) rfl AMid.nil rfl rfl rfl rfl rfl rfl rfl rfl (.inl ⟨rfl,rfl,rfl⟩) (fun k hk=>absurd hk (Nat.not_lt_zero _)) (fun k hk j hj=>by obtain rfl:k=0:=Nat.lt_one_iff.mp hk;obtain rfl:j=0:=Nat.lt_one_iff.mp hj;rfl) (by omega) (by omega) (by dsimp only;omega) (FnV.fi 4 _ rfl rfl) rfl Try.func59 rfl (by kernel_rfl) (fun _ h=>h) rfl rfl (by show ∀k,k<2→_;decide) (bx2_lend rfl rfl rfl trivial) rfl (by exact⟨.c (.b (.ow 28 2 rfl)),.c (.b (.imm _ rfl)),.c (.b (.imm _ rfl)),.c (.b (.imm _ rfl)),.c (.b (.imm _ rfl)),.c (.b (.imm _ rfl)),trivial⟩) (.c (.imm _ rfl)) (by exact setB_back (row_back fun k hk j hj=>(hsn k hk j hj).2)) hih ?_
      refine AText.all ?_
      refine vA ?_
      refine aB ?_
      refine vB [5] ?_
      refine⟨(x+1,gs+R1.length),⟨by dsimp only;omega,by dsimp only;exact hdr2,by dsimp only;omega,fun h=>by dsimp only;exact hno2 h⟩,Wk.mkG [] rfl rfl rfl rfl rfl ?_ ?_,by dsimp only;omega⟩
      ·exact allT
      ·exact bx2_heap rfl rfl rfl trivial
     ·refine AText.appCallY tyOk [_] [1000,1001] [bxI nilI,bxE] (setB all N false) (setB all N false) rfl (AMid.load1l tyOk rfl rfl rfl rfl rfl (by omega) AMid.nil) rfl rfl rfl rfl rfl rfl rfl rfl (.inl ⟨rfl,rfl,rfl⟩) (fun k hk=>absurd hk (Nat.not_lt_zero _)) (fun k hk j hj=>by obtain rfl:k=0:=Nat.lt_one_iff.mp hk;obtain rfl:j=0:=Nat.lt_one_iff.mp hj;rfl) (by omega) (by omega) (by dsimp only;omega) (FnV.fi 4 _ rfl rfl) rfl Try.func59 rfl (by kernel_rfl) (fun _ h=>h) rfl rfl (by show ∀k,k<2→_;decide) (bx2_lend rfl rfl rfl trivial) rfl (by exact⟨.c (.b (.ow 28 2 rfl)),.c (.b (.imm _ rfl)),.c (.b (.imm _ rfl)),.c (.b (.imm _ rfl)),.c (.b (.imm _ rfl)),.c (.b (.imm _ rfl)),trivial⟩) (.c (.imm _ rfl)) (by exact setB_back (row_back fun k hk j hj=>(hsn k hk j hj).2)) hih ?_
      refine AText.all ?_
      refine vA ?_
      refine aB ?_
      refine vB [5] ?_
      refine⟨(x+1,gs+R1.length),⟨by dsimp only;omega,by dsimp only;exact hdr2,by dsimp only;omega,fun h=>by dsimp only;exact hno2 h⟩,Wk.mkG [] rfl rfl rfl rfl rfl ?_ ?_,by dsimp only;omega⟩
      ·exact allT
      ·exact bx2_heap rfl rfl rfl trivial
set_option maxRecDepth 100000 in
theorem setsIt_M(all:List (List Int))(n K N:Nat)(stop:Bool)(hn:n≤1000)(hK:K≤1000)(hdr:all=setsL n K)(h0:stop=true→0<N)(h1:stop=false→N=all.length):
 ItM1 Try.prog 58 [.c (pl1 (iC (K:Nat))),.c (pl1 (iC (n:Nat)))] (setRM all N stop) all.length N stop:=by
 have hex:=fun lp=>extend_Y0 all n K lp N stop hn hK h1 hdr h0
 refine itm1_of Try.func58 rfl rfl Try.ntmps58 rfl (fun _ _=>by show 0≤100;omega) (fun _ _=>rfl) fun lp hN1 hN2=> ?_
 have e1:endsB stop N 0 all.length=stop∧endG stop N 0 all.length=N:=by
  unfold endG endsB
  cases stop with
  |true=>have:=(hN1 rfl).2;simp;omega
  |false=>have:=hN2 rfl;simp;omega
 have hex:=hex lp
 rw[e1.1,e1.2]at hex
 have hEN:(setRM all N stop).hE N=setB all N stop:=by
  show setB all N (stop && Nat.beq N N)=_
  rw[Nat.beq_refl,Bool.and_true]
 repeat (first
  |refine vB [0,1] ?_
  | (refine rG 2 ?_
     refine qr5 AList.makeFn ?_
     refine vA ?_
     refine aB ?_))
 refine AWp.weak (S':=mkG (itM Try.prog lp (setRM all N stop) N stop) 0 false 8 2 [(4,.c (.pt 4 1 0 0))] [(4,⟨false,1,1,104,lF [.fn 59 4 (seC K n lp)]⟩),(1000,bxI nilI),(1001,bxE)] [4]) (Wk.mkG [(4,some 4)] rfl rfl rfl rfl rfl ?_ ?_) ?_
 ·exact⟨⟨_,rfl,.c (.pt _ _ _ _ _ rfl)⟩,trivial⟩
 ·refine⟨HeapOk.box rfl rfl ⟨LeC.fn _ 4 _ _ (fun i hi=> ?_) (fun i hi=> ?_),trivial⟩ rfl,bx2_heap rfl rfl rfl trivial⟩
  all_goals
   obtain rfl|rfl|rfl|rfl:i=0∨i=1∨i=2∨i=3:=by omega
  ·exact⟨trivial,trivial⟩
  ·exact⟨trivial,trivial⟩
  ·exact⟨trivial,trivial⟩
  ·exact⟨trivial,trivial⟩
  ·exact .refl _ rfl
  ·exact LeC.fzP rfl rfl rfl rfl
  ·exact .refl _ rfl
  ·exact .pt _ _ _ _ _ rfl
 refine AWp.frzRec (t:=4) (K+1) rfl rfl (fun i hi=> ?_) rfl ?_
 ·obtain rfl|rfl|rfl|rfl:i=0∨i=1∨i=2∨i=3:=by omega
  ·exact .inl rfl
  ·exact .inl rfl
  ·exact .inl rfl
  ·exact .inr rfl
 refine AWp.text ?_
 refine AText.split 1 ?_
 refine vA ?_
 refine aB ?_
 refine AText.callY [1000,1001] [] [] [bxI nilI,bxE] [] _ [] (setB all N stop++ []) [] rfl rfl (FnV.fi 4 _ rfl rfl) rfl Try.func59 rfl (by kernel_rfl) (fun _ h=>h) rfl rfl (by show ∀k,k<2→_;decide) (bx2_lendM rfl rfl rfl trivial) ?_ rfl (by exact⟨.c (.b (.imm _ rfl)),.c (.b (.imm _ rfl)),.c (.b (.imm _ rfl)),.c (.b (.imm _ rfl)),.c (.b (.imm _ rfl)),.c (.b (.imm _ rfl)),trivial⟩) (.c (.imm _ rfl)) (by exact setB_back (l:= []) (m:= []) trivial) trivial hex ?_
 ·trivial
 refine AText.all ?_
 refine aB ?_
 skip
 refine⟨⟨rfl,rfl⟩,mkG (itM Try.prog lp (setRM all N stop) N stop) N stop 8 2 [] (endL [] (setB all N stop)) [],[],Wk.mkG [] rfl rfl rfl rfl rfl trivial ?_,by rw[hEN];rfl,rfl⟩
 exact bx2_heap setC_imm rfl rfl trivial
end Go.Proofs.Ytpefnljgalpllaa
end
