/- Parts of the proof: AShr, A29c, A29d, A29da, A29e, A29f, A29g. -/
import Derived.Test.YtpefnljgalpllaaGreatG35
import Derived.Test.YtpefnljgalpllaaGreatG38
import Derived.Test.YtpefnljgalpllaaGreatG39
set_option linter.unusedSimpArgs false
set_option linter.unusedVariables false
set_option maxHeartbeats 0
set_option maxRecDepth 100000
section
namespace Go.AV
open Go Go.RowKit Go.Flow
section
variable{P:Program}{tab:List (TypeId×TD)}
variable{ops:Array Oper}{rest:List Oper}{acc:List (List Nat×List Nat)}{S:St}{Q:List (List Nat×List Nat)→St→Prop}{dst:Option Tmp}{ty:TypeId}{pos:String}{after:Array Edge}{guard:Option (Nat×Bool)}
theorem zHW(T:zAp P tab=true){id id1:Nat}{x y:Operand}{t el:TypeId}{d e:TD}{n m:Nat}{F:Nat→Nat→CV}
 (hw:S.wants ops {dst:=some id,op:=.slice t x none (some y) none,type:=ty,pos,after,guard}=some true) (hd:dOk S.n (some id)=true) (hf:S.fr id=true)
 (hx:S.opd x=some (.c (.ow id1))) (ht:zD tab t=some d) (hk:d.k=.sl el) (he:zD tab el=some e) (hh:S.h id1=some ⟨true,n,e.size,el,F⟩) (hlo:Nat.blt id1 1000=true)
 (hy:∃k i,S.opd y=some (.c (.p (.int k i)))∧i=(m:Int)) (hm:m≤n)
 (hn:AList P ops rest (([id1,id],[id1,id,id])::acc) (S.eff (some id) ⟨.c (.ow id),[(id1,none),(id,some ⟨true,m,e.size,el,F⟩)],[id]⟩) Q):
 AList P ops ({dst:=some id,op:=.slice t x none (some y) none,type:=ty,pos,after,guard}::rest) acc S Q:=
 AList.cons [id1] ⟨.c (.ow id),[(id1,none),(id,some ⟨true,m,e.size,el,F⟩)],[id]⟩ (LStep.of hw fun S1 hA hr1 hal b0 σ a w R=>by
  obtain⟨inf,z,u,i1,i2,i3,-⟩:=zA2 T he
  have hu:=zB0 T ht hk
  obtain⟨hfr,hidl⟩:=R.fr id ((hal id (by simp)).trans hf)
  have rs:=zX R ((hA.op x (by simp[Op.operands])).trans hx)
  obtain⟨k,i,f1,f2⟩:=hy
  have ey:a.eval y=.int k m:=by rw[←f2];exact zA1 (zX R ((hA.op y (by simp[Op.operands])).trans f1))
  have hB1:=(hr1 id1 (by simp)).trans hh;have e0:σ id1=some (a.eval x):=rs.2.1
  obtain⟨v,g1,g2⟩:=R.hp.blk id1 _ hB1
  rw[e0]at g1
  cases g1
  have hne:S1.h id1≠none:=by rw[hB1];simp
  have hn1:id1≠id:=fun e=>by rw[e,hfr]at e0;cases e0
  have hlo:=Nat.blt_eq.mp hlo;have hK:Keep (own σ S1.h) w w:=⟨rfl,rfl,rfl,Nat.le_refl _,fun _ _ _=>rfl⟩
  obtain⟨v',hex,h1c,hbb,hOB⟩:∃v',(execOp a.eval {dst:=some id,op:=.slice t x none (some y) none,type:=ty,pos,after,guard}).run P w=.ok (.value v') w∧(v'.oneCell'=true∧∃A n c,v'=.slice A n c)∧(∀b,zAj v'=some b→zAj (a.eval x)=some b)∧
   ∀(σ':Nat→Option Value) (h':Nat→Option AB),(∀b,out b0 σ' h' b→out b0 σ S1.h b)→(∀i v,σ i=some v→σ' i=some v)→OBk σ' (out b0 σ' h') w v' ⟨true,m,e.size,el,F⟩:=by
   rcases g2.row rfl with ⟨_,q1,q2⟩|⟨b,cap,cs,q1,q2,q3,q4⟩
   ·have q2:n=0:=q2
    obtain rfl:m=0:=by omega
    refine⟨.slice none 0 0,?_,⟨rfl,none,0,0,rfl⟩,fun b hb=>(by cases hb),fun σ' h' _ _=>.inl ⟨rfl,rfl,rfl⟩⟩
    simp[execOp,Instr.sliceAt,Instr.slice,run_underlying hu,q1,Instr.sliceBounds,Instr.sliceBound,asIntOf,ey,sizeOf,typeInfo,i1,i2]
   ·rcases q1 with ⟨_,q1,q5,q6⟩|⟨q1,_⟩
    rotate_left
    ·cases q1
    replace q5:n≤cap:=q5
    replace q1:a.eval x=.slice (some ⟨b,0,none⟩) n cap:=q1
    have c1:(m:Int)≤cap:=by omega
    have c3:m≤cap:=by omega
    have c4:¬cap<m:=by omega
    refine⟨.slice (some ⟨b,0,none⟩) m cap,?_,⟨rfl,_,_,_,rfl⟩,fun b' hb=>by rw[q1];exact hb,fun σ' h' hO hs=>.inr (.inl ⟨b,cap,cs,.inl ⟨rfl,rfl,c3,q6⟩,q2,q3,fun k hk j hj=> ?_⟩)⟩
    ·simp[execOp,Instr.sliceAt,Instr.slice,run_underlying hu,q1,Instr.sliceBounds,Instr.sliceBound,asIntOf,ey,sizeOf,typeInfo,i1,i2,c1,c3,c4,Addr.add]
    ·have hk:k<m:=hk
     obtain⟨u,r1,r2⟩:=q4 k (show k<n by omega) j hj
     exact⟨u,r1,r2.keep ⟨rfl,rfl,rfl,Nat.le_refl _,fun _ _ _=>rfl⟩ (fun b hb=>.inl (hO b hb)) hs⟩
  rw[hex];have hsub:∀i u,σ i=some u→put σ id (some v') i=some u:=fun i u h=>by
   rw[zAa _ _ (fun e=>by rw[e,hfr]at h;cases h)];exact h
  generalize hB':(⟨true,m,e.size,el,F⟩:AB)=B' at hOB⊢;have hlk:zAb [(id1,none),(id,some B')] S1.h=put (put S1.h id (some B')) id1 none:=rfl;have hid:zAb [(id1,none),(id,some B')] S1.h id=some B':=by
   rw[hlk]
   exact(zAa _ _ (Ne.symm hn1)).trans (zAk _ _ _)
  have hoth:∀i,i≠id→zAb [(id1,none),(id,some B')] S1.h i=none∨(zAb [(id1,none),(id,some B')] S1.h i=S1.h i∧i≠id1):=fun i hi=>by
   rw[hlk];by_cases h1:i=id1
   ·subst h1;exact .inl (zAk _ _ _)
   ·exact .inr ⟨(zAa _ _ h1).trans (zAa _ _ hi),h1⟩
  have hout:∀b,out b0 (put σ id (some v')) (zAb [(id1,none),(id,some B')] S1.h) b→out b0 σ S1.h b:=fun b hb=>by
   rcases hb with ⟨i,u,h1,h2,h3⟩|hb
   ·by_cases hi:i=id
    ·subst hi
     rw[zAk]at h2
     cases h2
     exact .inl ⟨id1,_,hne,e0,hbb b h3⟩
    ·rw[zAa _ _ hi]at h2
     rcases hoth i hi with h0|⟨h0,_⟩
     ·exact absurd h0 h1
     ·rw[h0]at h1
      exact .inl ⟨i,u,h1,h2,h3⟩
   ·exact .inr hb
  obtain⟨H,_,hO⟩:=R.hp.put (id:=id) (B':=B') (v':=v') (σ':=put σ id (some v')) (h':=zAb [(id1,none),(id,some B')] S1.h) (w':=w) hsub hid (zAk _ _ _)
   (fun i hi=>(hoth i hi).imp (fun h=>h) fun h=>h.1) hK
   (fun i u hi=>by
     obtain⟨h1,-⟩:=b0.one i u hi
     have h3:=R.hp.fx i u hi
     rcases hoth i (by omega)with h0|h0
     ·rw[hlk]at h0
      exact absurd ((zAa _ _ (by omega)).symm.trans ((zAa _ _ (by omega)).symm.trans h0)) h3.2
     ·rw[h0.1];exact h3.2) (fun i hi=>zAa _ _ (by omega))
   (fun i u b hi h1 h2 h3=>rfl) (hOB _ _ hout hsub)
   (fun b hb=>by
     have ho:own σ S1.h b:=⟨id1,_,hne,e0,hbb b hb⟩
     refine⟨R.hp.new b ho,.inl ho,fun i u hi h1 h2 h3=> ?_⟩
     rcases hoth i hi with h0|⟨h0,h00⟩
     ·exact absurd h0 h1
     ·rw[h0]at h1
      exact h00 (R.hp.inj i id1 u _ b h1 hne h2 e0 h3 (hbb b hb)))
  exact⟨_,R.step (e:=⟨.c (.ow id),[(id1,none),(id,some B')],[id]⟩) (by rw[hA.n];exact hd) hsub hK H hO (fun _=>⟨h1c.1,zAk _ _ _,.inl h1c.2⟩) fun i hi=>by
   by_cases h:i=id
   ·exact .inr (by simp[h])
   ·rw[zAa _ _ h]at hi;exact .inl hi⟩) hn
end
end Go.AV
end
section
namespace Go.Proofs.YtpefnljgalpllaaGreat
open Go.RowKit Go.Flow Go.AV Go.Plain
def zAX(p:Pb):Int:=if (zBt p).2=0 then 7 else if (zBt p).2=60 then 0 else (zBt p).2
theorem zJ3(p:Pb)(hp:p.ok):ACalls Tryz.prog 28 [.ag (pbC p)] (.c (iC (zAX p))):=by
 have hS:=zPB p hp;unfold zAX;generalize zBt p=o at *
 obtain⟨ol,oe⟩:=o
 dsimp only at hS⊢;by_cases h0:oe=0
 ·rw [if_pos h0]
  subst h0;refine zH Tryz.func28 rfl rfl Tryz.ntmps28 rfl ?_
  repeat (first
   |refine vB [0,2,4,5] ?_
   | (refine rG 1 ?_
      refine vA ?_;refine xB Tryz.func48 hS ?_;refine xE5 ?_;refine aB ?_))
  refine⟨zC 16 [(2,.c (iC 7))] [] [],[],Wk.mk [] rfl rfl rfl ?_ trivial,rfl,rfl,aR1⟩
  exact zB
 ·rw[if_neg h0]
  by_cases h1:oe=60
  ·rw [if_pos h1]
   subst h1;refine zH Tryz.func28 rfl rfl Tryz.ntmps28 rfl ?_
   repeat (first
    |refine vB [0,2,4,6,7] ?_
    | (refine rG 1 ?_
       refine vA ?_;refine xB Tryz.func48 hS ?_;refine xE5 ?_;refine aB ?_))
   refine⟨zC 16 [(2,.c (iC 0))] [] [],[],Wk.mk [] rfl rfl rfl ?_ trivial,rfl,rfl,aR1⟩
   exact zB
  ·rw [if_neg h1]
   refine zH Tryz.func28 rfl rfl Tryz.ntmps28 rfl ?_
   repeat (first
    |refine vB [0,2,3,4,6] ?_
    | (refine rG 1 ?_
       refine vA ?_;refine xB Tryz.func48 hS ?_;refine xE5 ?_;refine aB ?_))
   refine⟨zC 16 [(2,.c (iC oe))] [] [],[],Wk.mk [] rfl rfl rfl ?_ trivial,rfl,rfl,aR1⟩
   exact zB
def zBc(rec:List Int→Nat→List (List Int))(l:List Int):Nat→Nat→List (List Int)
 |0,_=> []
 |m+1,x=>rec (l++ [(x:Int)]) (x+1)++zBc rec l m (x+1)
def zAy(n:Nat):Nat→List Int→Nat→List (List Int)
 |0,l,_=> [l]
 |r+1,l,x=>zBc (zAy n r) l (n-x) x
abbrev bxI(c:CV):AB:=⟨false,1,1,35,lF [c]⟩
abbrev bxE:AB:=⟨false,1,1,36,lF [iC 0]⟩
abbrev zAO:CV:=.p (.slice none 0 0)
def zAf(all:List (List Int))(N:Nat)(e:Bool):List AB:= [bxI (if e=true then lsI (all.getD (N-1) [])else zAO),bxE]
def zBA(all:List (List Int))(N:Nat)(stop:Bool):RM where
 nb:=2
 ys:=fun i=> [.c (lsI (all.getD i []))]
 hB:=fun _=> [bxI zAO,bxE]
 hE:=fun i=>zAf all N (stop && Nat.beq i N)
 mv:=fun _=> []
 la:=fun _=> []
theorem zLX{n:Nat}:∀(r:Nat) (l:List Int) (x:Nat),∀s∈zAy n r l x,s.length=l.length+r
 | 0,l,x,s,h=>by
   obtain rfl:s=l:=by simpa[zAy]using h
   rfl
 | r + 1,l,x,s,h=>by
   have key:∀m x,∀s∈zBc (zAy n r) l m x,s.length=l.length+(r+1):=fun m=>by
    induction m with
    |zero=>intro x s h;cases h
    | succ m ih=>
      intro x s h
      rcases List.mem_append.1 h with h|h
      ·rw[zLX r _ _ s h,List.length_append]
       show l.length+1+r=_
       omega
      ·exact ih _ s h
   exact key _ _ s h
abbrev pl1(c:CV):CV:=.pl 1 1 (lF [c]) 0 0
abbrev seC(k n:Int)(lp:Nat)(i:Nat):CV:= [pl1 (iC k),pl1 (.p (yv lp)),pl1 (iC n),.pt 4 1 0 0].getD i .any
abbrev seE(k n:Int)(lp d:Nat):CV:=pl1 (fiR 50 4 (seC k n lp) 4 d)
abbrev seA(k n:Int)(lp d:Nat)(v:CV)(x:Int):List V1:= [.c v,.c (iC x),.c (pl1 (iC k)),.c (pl1 (.p (yv lp))),.c (pl1 (iC n)),.c (seE k n lp d)]
def zA4(stop:Bool)(N g m:Nat):Bool:=stop && decide (N≤g+m)
def zDx(stop:Bool)(N g m:Nat):Nat:=if zA4 stop N g m=true then N else g+m
theorem zOC{all:List (List Int)}{N g:Nat}{stop:Bool}{ids:List Nat}{l:List Int}(h:all.getD g []=l):LeL (zCc ids []) [.c (lsI l)] ((zBA all N stop).ys g):=by
 show LeL (zCc ids []) [V1.c (lsI l)] [V1.c (lsI (all.getD g []))];rw[h]
 exact⟨.c (.b (.imm _ rfl)),trivial⟩
theorem zQO{all:List (List Int)}{g:Nat}{l:List Int}{rest:List (List Int)}(h:all.drop g=l::rest):g<all.length∧all.getD g []=l∧all.drop (g+1)=rest:=by
 have hlt:g<all.length:=Decidable.byContradiction fun hn=>by rw[List.drop_eq_nil_of_le xD]at h;cases h
 rw[List.drop_eq_getElem_cons hlt]at h
 cases h
 exact⟨hlt,by rw[List.getD_eq_getElem?_getD,List.getElem?_eq_getElem hlt];rfl,rfl⟩
theorem zL9{all A B:List (List Int)}{g:Nat}(h:all.drop g=A++B):all.drop (g+A.length)=B:=by
 rw[←List.drop_drop,h,List.drop_left]
theorem zEY{stop:Bool}{N g m:Nat}(h:zA4 stop N g m=false):zDx stop N g m=g+m∧(stop=true→g+m<N):=by
 refine⟨if_neg (by rw[h];decide),fun hs=> ?_⟩
 unfold zA4 at h;rw[hs,Bool.true_and,decide_eq_false_iff_not]at h
 omega
theorem zEn{stop:Bool}{N g m:Nat}(h:zA4 stop N g m=true):zDx stop N g m=N∧stop=true∧N≤g+m:=by
 refine⟨if_pos h,?_⟩
 unfold zA4 at h;rw[Bool.and_eq_true,decide_eq_true_eq]at h;exact h
theorem zMd{stop:Bool}{N g m:Nat}(h1:stop=true)(h2:N≤g+m):zA4 stop N g m=true:=by
 unfold zA4;rw[h1,decide_eq_true h2]
 rfl
theorem zMc{stop e:Bool}{N g:Nat}(he:zA4 stop N g 1=e)(hg:stop=true→g<N):zAs N stop g = !e∧zDx stop N g 1=g+1∧(stop && Nat.beq (g+1) N)=e:=by
 unfold zAs
 cases e with
 | true=>
   obtain⟨h1,h2,h3⟩:=zEn he
   have:=hg h2;rw[h2,show N=g+1 by omega,Nat.beq_refl]
   refine⟨rfl,?_,rfl⟩
   subst h2;have:N=g+1:=by omega
   subst this;exact h1
 | false=>
   refine⟨?_,(zEY he).1,?_⟩
   all_goals
    cases hs:stop with
    |false=>rfl
    | true=>
      have:=(zEY he).2 hs;rw[show Nat.beq (g+1) N=false from Bool.eq_false_iff.2 fun h=>by have:=Nat.eq_of_beq_eq_true h;omega]
      rfl
theorem zCH{S:St}{ids l:List Nat}{i j:Nat}{c:CV}{bs:List AB}(hc:zK c=true)(h1:S.h i=some (bxI c))(h2:S.h j=some bxE)(h:zFr S ids l bs):zFr S ids (i::j::l) (bxI c::bxE::bs):=
 ⟨⟨_,h1,(fun h=>by cases h),fun k hk m hm=>by
   obtain rfl:k=0:=Nat.lt_one_iff.mp hk;obtain rfl:m=0:=Nat.lt_one_iff.mp hm;exact .b (.imm _ hc)⟩,⟨_,h2,(fun h=>by cases h),fun k hk m hm=>by
   obtain rfl:k=0:=Nat.lt_one_iff.mp hk;obtain rfl:m=0:=Nat.lt_one_iff.mp hm;exact .b (.imm _ rfl)⟩,h⟩
theorem zEi{S:St}{ids l:List Nat}{i j:Nat}{c:CV}{bs:List AB}(hc:zK c=true)(h1:S.h i=some (bxI c))(h2:S.h j=some bxE)(h:zBh S ids [] l bs):zBh S ids [] (i::j::l) (bxI c::bxE::bs):=
 ⟨⟨_,h1,(fun h=>by cases h),fun k hk m hm=>by
   obtain rfl:k=0:=Nat.lt_one_iff.mp hk;obtain rfl:m=0:=Nat.lt_one_iff.mp hm;exact .b (.imm _ hc)⟩,⟨_,h2,(fun h=>by cases h),fun k hk m hm=>by
   obtain rfl:k=0:=Nat.lt_one_iff.mp hk;obtain rfl:m=0:=Nat.lt_one_iff.mp hm;exact .b (.imm _ rfl)⟩,h⟩
theorem zLo{ids ni:List Nat}{c:CV}{l m:List AB}(hc:zK c=true)(h:zAV ids ni l m):zAV ids ni (bxI c::bxE::l) (bxI c::bxE::m):=
 ⟨⟨_,rfl,fun k hk m hm=>by
   obtain rfl:k=0:=Nat.lt_one_iff.mp hk;obtain rfl:m=0:=Nat.lt_one_iff.mp hm;exact .b (.imm _ hc)⟩,⟨_,rfl,fun k hk m hm=>by
   obtain rfl:k=0:=Nat.lt_one_iff.mp hk;obtain rfl:m=0:=Nat.lt_one_iff.mp hm;exact .b (.imm _ rfl)⟩,h⟩
theorem zCP{ids ni:List Nat}{n:Nat}{ty:TypeId}{F:Nat→Nat→CV}(hi:∀k,k<n→∀j,j<1→zK (F k j)=true):zAV ids ni [⟨true,n,1,ty,F⟩] [⟨true,n,1,ty,F⟩]:=⟨⟨_,rfl,fun k hk j hj=>.b (.imm _ (hi k hk j hj))⟩,trivial⟩
theorem zBY{all:List (List Int)}{N:Nat}{e:Bool}:zK (if e=true then lsI (all.getD (N-1) [])else zAO)=true:=by cases e<;>rfl
theorem zCj{ids ni:List Nat}{all:List (List Int)}{N:Nat}{e:Bool}{l m:List AB}(h:zAV ids ni l m):zAV ids ni (zAf all N e++l) (zAf all N e++m):=zLo zBY h
theorem zHD{all:List (List Int)}{N g:Nat}{stop e:Bool}(he:(stop && Nat.beq (g+1) N)=e):zAV [1000,1001] [] ((zBA all N stop).hE (g+1)++(zBA all N stop).la g) (zAf all N e):=by
 show zAV [1000,1001] [] (zAf all N (stop && Nat.beq (g+1) N)++ []) (zAf all N e);rw[he];exact zLo zBY trivial
theorem zAS{S:St}{ren:List (Nat×Option Nat)}{c:CV}(hc:zK c=true){rest:List (Nat×AB)}(h0:S.h 1000=some (bxI c))(h1:S.h 1001=some bxE)(h:zD8 S ren rest):zD8 S ren ((1000,bxI c)::(1001,bxE)::rest):=
 ⟨zY rfl h0 ⟨LeC.refl _ hc,trivial⟩ rfl,zY rfl h1 ⟨LeC.refl _ rfl,trivial⟩ rfl,h⟩
theorem zMf(all:List (List Int))(n K lp N:Nat)(stop:Bool)(hn:n≤1000)(hK:K≤1000)(hNf:stop=false→N=all.length):∀(r:Nat) (l:List Int) (x0 g:Nat) (rest:List (List Int)) (F:Nat→Nat→CV),l.length+r=K→0<l.length→x0≤n→all.drop g=zAy n r l x0++rest→(stop=true→g<N)→(∀k,k<l.length→∀j,j<1→F k j=iF (fI l) k j)→
 FY Tryz.prog 50 lp (zBA all N stop) N stop g (zDx stop N g (zAy n r l x0).length) (zA4 stop N g (zAy n r l x0).length) (seA K n lp r (.ow 1002) x0) [bxI zAO,bxE,⟨true,l.length,1,3,F⟩] [] (.c (bC (!zA4 stop N g (zAy n r l x0).length))) (zAf all N (zA4 stop N g (zAy n r l x0).length)++ [⟨true,l.length,1,3,F⟩]) []
 | 0,l,x0,g,rest,F,hm,h0,hx0,hdr,hg,hF=>by
   obtain⟨hgl,hall,-⟩:=zQO hdr
   have hys:=zOC (N:=N) (stop:=stop) (ids:= [1000,1001]) hall;have hlK:((l.length:Nat):Int)=K:=by omega
   have hl2:l.length≤1000000:=by omega
   have hgN:g<N:=by
    cases hs:stop with
    |true=>exact hg hs
    |false=>have:=hNf hs;omega
   obtain⟨e,he⟩:∃e,zA4 stop N g (zAy n 0 l x0).length=e:=⟨_,rfl⟩
   obtain⟨hgo,hG,hst⟩:=zMc (show zA4 stop N g 1=e from he) hg
   rw[show zDx stop N g (zAy n 0 l x0).length=g+1 from hG,he];refine zG5 Tryz.func50 rfl rfl Tryz.ntmps50 rfl ?_;refine AWp.weak (S':=
    mkG (itM Tryz.prog lp (zBA all N stop) N stop) g false 33 3 [(0,.c (.ow 1002)),(2,.c (pl1 (iC (K:Nat)))),(3,.c (pl1 (.p (yv lp))))] [(1000,bxI zAO),(1001,bxE),(1002,zBk l.length (fI l))] []
    ) (Wk.mkG [] rfl rfl rfl rfl rfl ?_ ?_) ?_
   ·repeat (first|exact trivial|refine⟨⟨_,rfl,by first|exact LeA.c (LeC.owB _ rfl)|exact leT⟩,?_⟩)
   ·exact zAS rfl rfl rfl ⟨zAg rfl rfl (fun k hk j hj=>⟨hF k hk j hj,by rw[hF k hk j hj];rfl⟩),trivial⟩
   refine vB [0,1] ?_;refine zKG 3 zI ?_;refine xE2 ?_;refine zOI [1002] rfl rfl rfl rfl Tryz.func51 rfl xC (zO3 l.length (fI l) h0 hl2) (⟨.inr ⟨1002,l.length,1,_,_,iF (fI l),rfl,rfl,by simp,rfl,fun _ _=>zZ ⟨rfl,rfl⟩⟩,trivial⟩) (fun _ _ _ _=>rfl) ?_;refine aB ⟨by kernel_rfl,?_⟩;refine AText.weak (S':=mkG (itM Tryz.prog lp (zBA all N stop) N stop) g false 33 3 [(14,.c (.p (yv lp))),(16,.c (lsI l))] [(1000,bxI zAO),(1001,bxE),(1002,zBk l.length (fI l))] []) (Wk.mkG [] rfl rfl rfl rfl rfl ?_ ?_) ?_
   ·exact⟨⟨_,rfl,.c (LeC.refl _ rfl)⟩,⟨_,rfl,.c (zAl rfl rfl rfl (fun _ _ _ _=>⟨rfl,rfl⟩))⟩,trivial⟩
   ·exact zAS rfl rfl rfl ⟨zAg rfl rfl (fun _ _=>zZ ⟨rfl,rfl⟩),trivial⟩
   cases e with
   | true=>
     refine AText.yieldM (i:=g) false [1000,1001] [] [] (zAf all N true) [] rfl rfl rfl rfl (fun _ h=>h) rfl rfl (hgN) (hgo) ((by show ∀k,k<2→_;decide)) (zEi rfl rfl rfl trivial) trivial rfl (by exact hys) (by exact zHD hst) trivial ?_
     refine AText.all ?_;refine vA ?_;refine aB ?_;refine vB [] ?_
     refine⟨⟨rfl,rfl⟩,mkG (fun _=>True) _ _ 33 3 [(8,.c (bC false))] (zAi 0 (zAf all N true++ [⟨true,l.length,1,3,F⟩])) [],[],_,zAf all N true++ [⟨true,l.length,1,3,F⟩],[],⟨rfl,rfl,rfl⟩,rfl,Wk.mkG [] rfl rfl rfl rfl rfl ?_ ?_ rfl rfl (fun _ _=>trivial),rfl,rfl,GRets.one (x:=.c _) (GRes.tmp rfl)⟩
     ·exact zB
     ·exact zAS zBY rfl rfl ⟨zAg rfl rfl (fun k hk j hj=>⟨(hF k hk j hj).symm,rfl⟩),trivial⟩
   | false=>
     refine AText.yieldM (i:=g) true [1000,1001] [] [] (zAf all N false) [] rfl rfl rfl rfl (fun _ h=>h) rfl rfl (hgN) (hgo) ((by show ∀k,k<2→_;decide)) (zEi rfl rfl rfl trivial) trivial rfl (by exact hys) (by exact zHD hst) trivial ?_
     refine AText.all ?_;refine vA ?_;refine aB ?_;refine vB [] ?_
     refine⟨⟨rfl,rfl⟩,mkG (fun _=>True) _ _ 33 3 [(8,.c (bC true))] (zAi 0 (zAf all N false++ [⟨true,l.length,1,3,F⟩])) [],[],_,zAf all N false++ [⟨true,l.length,1,3,F⟩],[],⟨rfl,rfl,rfl⟩,rfl,Wk.mkG [] rfl rfl rfl rfl rfl ?_ ?_ rfl rfl (fun _ _=>trivial),rfl,rfl,GRets.one (x:=.c _) (GRes.tmp rfl)⟩
     ·exact zB
     ·exact zAS zBY rfl rfl ⟨zAg rfl rfl (fun k hk j hj=>⟨(hF k hk j hj).symm,rfl⟩),trivial⟩
 | r +1,l,x0,g,rest,F,hm,h0,hx0,hdr,hg,hF=>by
   have hlK:¬((l.length:Nat):Int)=K:=by omega
   have hl2:l.length≤1000000:=by omega
   obtain⟨M,hM⟩:∃M,(zAy n (r+1) l x0).length=M:=⟨_,rfl⟩
   rw[hM]
   replace hM:(zBc (zAy n r) l (n-x0) x0).length=M:=hM
   replace hdr:all.drop g=zBc (zAy n r) l (n-x0) x0++rest:=hdr
   refine zG5 Tryz.func50 rfl rfl Tryz.ntmps50 rfl ?_;refine AWp.weak (S':=
    mkG (itM Tryz.prog lp (zBA all N stop) N stop) g false 33 3 [(0,.c (.ow 1002)),(1,.c (iC (x0:Nat))),(2,.c (pl1 (iC (K:Nat)))),(3,.c (pl1 (.p (yv lp)))),(4,.c (pl1 (iC (n:Nat)))),(5,.c (seE (K:Nat) (n:Nat) lp (r+1)))] [(1000,bxI zAO),(1001,bxE),(1002,zBk l.length (fI l))] []
    ) (Wk.mkG [] rfl rfl rfl rfl rfl ?_ ?_) ?_
   ·repeat (first|exact trivial|refine⟨⟨_,rfl,by first|exact LeA.c (LeC.owB _ rfl)|exact leT⟩,?_⟩)
   ·exact zAS rfl rfl rfl ⟨zAg rfl rfl (fun k hk j hj=>⟨hF k hk j hj,by rw[hF k hk j hj];rfl⟩),trivial⟩
   refine vB [0,1,3] ?_;refine AWp.round (fun s:Nat×Nat=>
    mkG (itM Tryz.prog lp (zBA all N stop) N stop) s.2 false 33 3 [(0,.c (.ow 1002)),(2,.c (pl1 (iC (K:Nat)))),(3,.c (pl1 (.p (yv lp)))),(4,.c (pl1 (iC (n:Nat)))),(5,.c (seE (K:Nat) (n:Nat) lp (r+1))),(9,.c (iC (s.1:Nat)))] [(1000,bxI zAO),(1001,bxE),(1002,zBk l.length (fI l))] []
    ) (fun s=>s.1≤n∧all.drop s.2=zBc (zAy n r) l (n-s.1) s.1++rest∧s.2+(zBc (zAy n r) l (n-s.1) s.1).length=g+M∧(stop=true→s.2<N)) (fun s=>n-s.1) (x0,g) ⟨hx0,hdr,by dsimp only;rw[hM],hg⟩ ?_ (fun s hs=> ?_)
   ·refine Wk.mkG [] rfl rfl rfl rfl rfl ?_ ?_
    ·repeat (first|exact trivial|refine⟨⟨_,rfl,by first|exact LeA.c (LeC.owB _ rfl)|exact leT⟩,?_⟩)
    ·exact zAS rfl rfl rfl ⟨zAg rfl rfl (fun _ _=>zZ ⟨rfl,rfl⟩),trivial⟩
   obtain⟨x,gs⟩:=s
   obtain⟨hx,hdr1,hlen,hgs⟩:=hs
   dsimp only at hx hdr1 hlen hgs⊢;by_cases hxn:x<n;rotate_left
   ·have hxn':¬(x:Int)<n:=by omega
    rw[show n-x=0 by omega]at hlen
    replace hlen:gs+0=g+M:=hlen
    have he:zA4 stop N g M=false:=by
     cases h:zA4 stop N g M with
     |false=>rfl
     |true=>obtain⟨_,h2,h3⟩:=zEn h;have:=hgs h2;omega
    obtain rfl:gs=g+M:=by omega
    rw[(zEY he).1,he];refine vB [4,8] ?_
    refine⟨⟨rfl,rfl⟩,mkG (fun _=>True) _ _ 33 3 [(8,.c (bC true))] (zAi 0 (zAf all N false++ [⟨true,l.length,1,3,F⟩])) [],[],_,zAf all N false++ [⟨true,l.length,1,3,F⟩],[],⟨rfl,rfl,rfl⟩,rfl,Wk.mkG [] rfl rfl rfl rfl rfl ?_ ?_ rfl rfl (fun _ _=>trivial),rfl,rfl,GRets.one (x:=.c _) (GRes.tmp rfl)⟩
    ·exact zB
    ·exact zAS zBY rfl rfl ⟨zAg rfl rfl (fun k hk j hj=>⟨(hF k hk j hj).symm,rfl⟩),trivial⟩
   have hxn':(x:Int)<n:=by omega
   obtain⟨m,hm1⟩:∃m,n-x=m+1:=⟨n-x-1,by omega⟩
   have hm2:n-(x+1)=m:=by omega
   rw[hm1]at hdr1 hlen
   replace hdr1:all.drop gs=(zAy n r (l++ [(x:Int)]) (x+1)++zBc (zAy n r) l m (x+1))++rest:=hdr1
   replace hlen:gs+(zAy n r (l++ [(x:Int)]) (x+1)++zBc (zAy n r) l m (x+1)).length=g+M:=hlen
   rw[List.append_assoc]at hdr1;rw[List.length_append]at hlen;have hsn:=zDc l x;have hih:=zMf all n K lp N stop hn hK hNf r (l++ [(x:Int)]) (x+1) gs (zBc (zAy n r) l m (x+1)++rest) (zAh (iF (fI l)) l.length (sF [iC (x:Nat)] 1)) (by simp only[List.length_append,List.length_singleton];omega) (by simp) xD hdr1 hgs (fun k hk j hj=>(hsn k (by simpa using hk) j hj).1)
   obtain⟨R1,hR1⟩:∃R1,zAy n r (l++ [(x:Int)]) (x+1)=R1:=⟨_,rfl⟩
   rw[hR1]at hih hdr1 hlen
   simp only[List.length_append,List.length_singleton]at hih
   have hdr2:all.drop (gs+R1.length)=zBc (zAy n r) l (n-(x+1)) (x+1)++rest:=by rw[hm2];exact zL9 hdr1
   have hlen2:gs+R1.length+(zBc (zAy n r) l (n-(x+1)) (x+1)).length=g+M:=by rw[hm2];omega
   have hx1:((x+1:Nat):Int)=(x:Int)+1:=rfl;rw[hx1]at hih;refine vB [4] ?_;by_cases he:zA4 stop N gs R1.length=true
   ·obtain⟨q1,q2,q3⟩:=zEn he
    have he2:zA4 stop N g M=true:=zMd q2 xD;rw[q1,he]at hih;rw[(zEn he2).1,he2];refine zGn zI (fun _ h=>h.1) xC (AHoist.move rfl rfl rfl) (AHoist.move rfl rfl rfl) (AHoist.move rfl rfl rfl) (AHoist.add rfl rfl rfl rfl xD xD) ?_ ?_
    ·refine AText.split 2 ?_
     refine vA ?_;refine vA ?_;refine aB ?_;refine zCD zA [] [1000,1001] [bxI zAO,bxE] (zAf all N true) (zAf all N true) rfl AMid.nil rfl rfl rfl rfl rfl rfl rfl rfl (.inr ⟨1002,rfl,rfl,rfl,by simp⟩) (fun _ _ _ _=>rfl) (fun k hk j hj=>by obtain rfl:k=0:=Nat.lt_one_iff.mp hk;obtain rfl:j=0:=Nat.lt_one_iff.mp hj;rfl) xD xD (by dsimp only;omega) (FnV.fi 4 _ rfl rfl) rfl Tryz.func50 rfl xC (fun _ h=>h) rfl rfl (by show ∀k,k<2→_;decide) (zCH rfl rfl rfl trivial) rfl (by exact⟨.c (.b (.ow 28 2 rfl)),.c (.b (.imm _ rfl)),.c (.b (.imm _ rfl)),.c (.b (.imm _ rfl)),.c (.b (.imm _ rfl)),.c (.b (.imm _ rfl)),trivial⟩) (.c (.imm _ rfl)) (by exact zCj (zCP fun k hk j hj=>(hsn k hk j hj).2)) hih ?_
     refine AText.all ?_;refine vA ?_;refine aB ?_;refine vB [7] ?_
     refine⟨⟨rfl,rfl⟩,mkG (fun _=>True) _ _ 33 3 [(8,.c (bC false))] (zAi 0 (zAf all N true++ [⟨true,l.length,1,3,F⟩])) [],[],_,zAf all N true++ [⟨true,l.length,1,3,F⟩],[],⟨rfl,rfl,rfl⟩,rfl,Wk.mkG [] rfl rfl rfl rfl rfl ?_ ?_ rfl rfl (fun _ _=>trivial),rfl,rfl,GRets.one (x:=.c _) (GRes.tmp rfl)⟩
     ·exact zB
     ·exact zAS zBY rfl rfl ⟨zAg rfl rfl (fun k hk j hj=>⟨(hF k hk j hj).symm,rfl⟩),trivial⟩
    ·refine vA ?_
     refine aB ⟨?_,?_⟩
     ·refine AText.split 1 ?_
      refine vA ?_;refine aB ?_;refine zCD zA [] [1000,1001] [bxI zAO,bxE] (zAf all N true) (zAf all N true) rfl AMid.nil rfl rfl rfl rfl rfl rfl rfl rfl (.inr ⟨1002,rfl,rfl,rfl,by simp⟩) (fun _ _ _ _=>rfl) (fun k hk j hj=>by obtain rfl:k=0:=Nat.lt_one_iff.mp hk;obtain rfl:j=0:=Nat.lt_one_iff.mp hj;rfl) xD xD (by dsimp only;omega) (FnV.fi 4 _ rfl rfl) rfl Tryz.func50 rfl xC (fun _ h=>h) rfl rfl (by show ∀k,k<2→_;decide) (zCH rfl rfl rfl trivial) rfl (by exact⟨.c (.b (.ow 28 2 rfl)),.c (.b (.imm _ rfl)),.c (.b (.imm _ rfl)),.c (.b (.imm _ rfl)),.c (.b (.imm _ rfl)),.c (.b (.imm _ rfl)),trivial⟩) (.c (.imm _ rfl)) (by exact zCj (zCP fun k hk j hj=>(hsn k hk j hj).2)) hih ?_
      refine AText.all ?_;refine vA ?_;refine aB ?_;refine vB [7] ?_
      refine⟨⟨rfl,rfl⟩,mkG (fun _=>True) _ _ 33 3 [(8,.c (bC false))] (zAi 0 (zAf all N true++ [⟨true,l.length,1,3,F⟩])) [],[],_,zAf all N true++ [⟨true,l.length,1,3,F⟩],[],⟨rfl,rfl,rfl⟩,rfl,Wk.mkG [] rfl rfl rfl rfl rfl ?_ ?_ rfl rfl (fun _ _=>trivial),rfl,rfl,GRets.one (x:=.c _) (GRes.tmp rfl)⟩
      ·exact zB
      ·exact zAS zBY rfl rfl ⟨zAg rfl rfl (fun k hk j hj=>⟨(hF k hk j hj).symm,rfl⟩),trivial⟩
     ·refine zCD zA [_] [1000,1001] [bxI zAO,bxE] (zAf all N true) (zAf all N true) rfl (AMid.load1l zA rfl rfl rfl rfl rfl xD AMid.nil) rfl rfl rfl rfl rfl rfl rfl rfl (.inr ⟨1002,rfl,rfl,rfl,by simp⟩) (fun _ _ _ _=>rfl) (fun k hk j hj=>by obtain rfl:k=0:=Nat.lt_one_iff.mp hk;obtain rfl:j=0:=Nat.lt_one_iff.mp hj;rfl) xD xD (by dsimp only;omega) (FnV.fi 4 _ rfl rfl) rfl Tryz.func50 rfl xC (fun _ h=>h) rfl rfl (by show ∀k,k<2→_;decide) (zCH rfl rfl rfl trivial) rfl (by exact⟨.c (.b (.ow 28 2 rfl)),.c (.b (.imm _ rfl)),.c (.b (.imm _ rfl)),.c (.b (.imm _ rfl)),.c (.b (.imm _ rfl)),.c (.b (.imm _ rfl)),trivial⟩) (.c (.imm _ rfl)) (by exact zCj (zCP fun k hk j hj=>(hsn k hk j hj).2)) hih ?_
      refine AText.all ?_;refine vA ?_;refine aB ?_;refine vB [7] ?_
      refine⟨⟨rfl,rfl⟩,mkG (fun _=>True) _ _ 33 3 [(8,.c (bC false))] (zAi 0 (zAf all N true++ [⟨true,l.length,1,3,F⟩])) [],[],_,zAf all N true++ [⟨true,l.length,1,3,F⟩],[],⟨rfl,rfl,rfl⟩,rfl,Wk.mkG [] rfl rfl rfl rfl rfl ?_ ?_ rfl rfl (fun _ _=>trivial),rfl,rfl,GRets.one (x:=.c _) (GRes.tmp rfl)⟩
      ·exact zB
      ·exact zAS zBY rfl rfl ⟨zAg rfl rfl (fun k hk j hj=>⟨(hF k hk j hj).symm,rfl⟩),trivial⟩
   ·have he:=Bool.eq_false_iff.2 he
    obtain⟨q1,hno2⟩:=zEY he
    rw[q1,he]at hih;refine zGn zI (fun _ h=>h.1) xC (AHoist.move rfl rfl rfl) (AHoist.move rfl rfl rfl) (AHoist.move rfl rfl rfl) (AHoist.add rfl rfl rfl rfl xD xD) ?_ ?_
    ·refine AText.split 2 ?_
     refine vA ?_;refine vA ?_;refine aB ?_;refine zCD zA [] [1000,1001] [bxI zAO,bxE] (zAf all N false) (zAf all N false) rfl AMid.nil rfl rfl rfl rfl rfl rfl rfl rfl (.inr ⟨1002,rfl,rfl,rfl,by simp⟩) (fun _ _ _ _=>rfl) (fun k hk j hj=>by obtain rfl:k=0:=Nat.lt_one_iff.mp hk;obtain rfl:j=0:=Nat.lt_one_iff.mp hj;rfl) xD xD (by dsimp only;omega) (FnV.fi 4 _ rfl rfl) rfl Tryz.func50 rfl xC (fun _ h=>h) rfl rfl (by show ∀k,k<2→_;decide) (zCH rfl rfl rfl trivial) rfl (by exact⟨.c (.b (.ow 28 2 rfl)),.c (.b (.imm _ rfl)),.c (.b (.imm _ rfl)),.c (.b (.imm _ rfl)),.c (.b (.imm _ rfl)),.c (.b (.imm _ rfl)),trivial⟩) (.c (.imm _ rfl)) (by exact zCj (zCP fun k hk j hj=>(hsn k hk j hj).2)) hih ?_
     refine AText.all ?_;refine vA ?_;refine aB ?_;refine vB [5] ?_
     refine⟨(x+1,gs+R1.length),⟨by dsimp only;omega,by dsimp only;exact hdr2,by dsimp only;omega,fun h=>by dsimp only;exact hno2 h⟩,Wk.mkG [] rfl rfl rfl rfl rfl ?_ ?_,by dsimp only;omega⟩
     ·repeat (first|exact trivial|refine⟨⟨_,rfl,by first|exact LeA.c (LeC.owB _ rfl)|exact leT⟩,?_⟩)
     ·exact zAS rfl rfl rfl ⟨zAg rfl rfl (fun _ _=>zZ ⟨rfl,rfl⟩),trivial⟩
    ·refine vA ?_
     refine aB ⟨?_,?_⟩
     ·refine AText.split 1 ?_
      refine vA ?_;refine aB ?_;refine zCD zA [] [1000,1001] [bxI zAO,bxE] (zAf all N false) (zAf all N false) rfl AMid.nil rfl rfl rfl rfl rfl rfl rfl rfl (.inr ⟨1002,rfl,rfl,rfl,by simp⟩) (fun _ _ _ _=>rfl) (fun k hk j hj=>by obtain rfl:k=0:=Nat.lt_one_iff.mp hk;obtain rfl:j=0:=Nat.lt_one_iff.mp hj;rfl) xD xD (by dsimp only;omega) (FnV.fi 4 _ rfl rfl) rfl Tryz.func50 rfl xC (fun _ h=>h) rfl rfl (by show ∀k,k<2→_;decide) (zCH rfl rfl rfl trivial) rfl (by exact⟨.c (.b (.ow 28 2 rfl)),.c (.b (.imm _ rfl)),.c (.b (.imm _ rfl)),.c (.b (.imm _ rfl)),.c (.b (.imm _ rfl)),.c (.b (.imm _ rfl)),trivial⟩) (.c (.imm _ rfl)) (by exact zCj (zCP fun k hk j hj=>(hsn k hk j hj).2)) hih ?_
      refine AText.all ?_;refine vA ?_;refine aB ?_;refine vB [5] ?_
      refine⟨(x+1,gs+R1.length),⟨by dsimp only;omega,by dsimp only;exact hdr2,by dsimp only;omega,fun h=>by dsimp only;exact hno2 h⟩,Wk.mkG [] rfl rfl rfl rfl rfl ?_ ?_,by dsimp only;omega⟩
      ·repeat (first|exact trivial|refine⟨⟨_,rfl,by first|exact LeA.c (LeC.owB _ rfl)|exact leT⟩,?_⟩)
      ·exact zAS rfl rfl rfl ⟨zAg rfl rfl (fun _ _=>zZ ⟨rfl,rfl⟩),trivial⟩
     ·refine zCD zA [_] [1000,1001] [bxI zAO,bxE] (zAf all N false) (zAf all N false) rfl (AMid.load1l zA rfl rfl rfl rfl rfl xD AMid.nil) rfl rfl rfl rfl rfl rfl rfl rfl (.inr ⟨1002,rfl,rfl,rfl,by simp⟩) (fun _ _ _ _=>rfl) (fun k hk j hj=>by obtain rfl:k=0:=Nat.lt_one_iff.mp hk;obtain rfl:j=0:=Nat.lt_one_iff.mp hj;rfl) xD xD (by dsimp only;omega) (FnV.fi 4 _ rfl rfl) rfl Tryz.func50 rfl xC (fun _ h=>h) rfl rfl (by show ∀k,k<2→_;decide) (zCH rfl rfl rfl trivial) rfl (by exact⟨.c (.b (.ow 28 2 rfl)),.c (.b (.imm _ rfl)),.c (.b (.imm _ rfl)),.c (.b (.imm _ rfl)),.c (.b (.imm _ rfl)),.c (.b (.imm _ rfl)),trivial⟩) (.c (.imm _ rfl)) (by exact zCj (zCP fun k hk j hj=>(hsn k hk j hj).2)) hih ?_
      refine AText.all ?_;refine vA ?_;refine aB ?_;refine vB [5] ?_
      refine⟨(x+1,gs+R1.length),⟨by dsimp only;omega,by dsimp only;exact hdr2,by dsimp only;omega,fun h=>by dsimp only;exact hno2 h⟩,Wk.mkG [] rfl rfl rfl rfl rfl ?_ ?_,by dsimp only;omega⟩
      ·repeat (first|exact trivial|refine⟨⟨_,rfl,by first|exact LeA.c (LeC.owB _ rfl)|exact leT⟩,?_⟩)
      ·exact zAS rfl rfl rfl ⟨zAg rfl rfl (fun _ _=>zZ ⟨rfl,rfl⟩),trivial⟩
abbrev zBZ(n K:Nat):List (List Int):=zAy n K [] 0
theorem zSC(n K:Int):ACalls Tryz.prog 29 [.c (iC n),.c (iC K)] (.c (.fn 49 2 fun i=> [pl1 (iC K),pl1 (iC n)].getD i .any)):=by
 refine zH Tryz.func29 rfl rfl Tryz.ntmps29 rfl ?_
 repeat (first
  |refine vB [0] ?_
  | (refine rG 1 ?_
     refine qr5 zCQ ?_;refine vA ?_;refine aB ?_))
 refine⟨zC 6 [(4,.c (.fn 49 2 fun i=> [pl1 (iC K),pl1 (iC n)].getD i .any))] [] [],[],Wk.mk [] rfl rfl rfl ⟨⟨_,rfl,.c (LeC.fn _ _ _ _ (fun i hi=> ?_) (fun i hi=> ?_))⟩,trivial⟩ trivial,rfl,rfl,ARets.one (x:=.c _) (ARes.fn rfl fun i hi=> ?_)⟩
 all_goals
  have hi1:i<2:=hi;obtain rfl|rfl:i=0∨i=1:=by omega
 ·exact⟨trivial,trivial⟩
 ·exact⟨trivial,trivial⟩
 ·exact zBw rfl rfl rfl rfl
 ·exact zBw rfl rfl rfl rfl
 ·rfl
 ·rfl
theorem zQP(all:List (List Int))(n K lp N:Nat)(stop:Bool)(hn:n≤1000)(hK:K≤1000)(hNf:stop=false→N=all.length)(hdr:all=zBZ n K)(hg:stop=true→0<N):
 FY Tryz.prog 50 lp (zBA all N stop) N stop 0 (zDx stop N 0 all.length) (zA4 stop N 0 all.length) (seA K n lp K zAO 0) [bxI zAO,bxE] [] (.c (bC (!zA4 stop N 0 all.length))) (zAf all N (zA4 stop N 0 all.length)++ []) []:=by
 obtain⟨g,hg0⟩:∃g,g=0:=⟨_,rfl⟩
 cases K with
 | zero=>
   obtain rfl:all= [[]]:=hdr
   obtain⟨all,hal⟩:∃all:List (List Int),all= [[]]:=⟨_,rfl⟩
   have hys:=zOC (all:= [[]]) (g:=0) (l:= []) (N:=N) (stop:=stop) (ids:= [1000,1001]) rfl;have hgN:0<N:=by
    cases hs:stop with
    |true=>exact hg hs
    |false=>have:=hNf hs;rw[this];exact Nat.one_pos
   obtain⟨e,he⟩:∃e,zA4 stop N 0 ([[]]:List (List Int)).length=e:=⟨_,rfl⟩
   obtain⟨hgo,hG,hst⟩:=zMc (show zA4 stop N 0 1=e from he) hg
   rw[show zDx stop N 0 ([[]]:List (List Int)).length=0+1 from hG,he];rw[←hal]at hys⊢;have hCl:=(zO1 0 (iF (fI [])) (fun _ _ _ _=>rfl) xD).cv (args':= [.c zAO]) ⟨.c Cv.nil,trivial⟩;subst hg0;refine zG5 Tryz.func50 rfl rfl Tryz.ntmps50 rfl ?_;refine AWp.weak (S':=mkG (itM Tryz.prog lp (zBA all N stop) N stop) 0 false 33 2 [(0,.c zAO),(2,.c (pl1 (iC (0:Nat)))),(3,.c (pl1 (.p (yv lp)))),(4,.c (pl1 (iC (n:Nat))))] [(1000,bxI zAO),(1001,bxE)] []) (Wk.mkG [] rfl rfl rfl rfl rfl ?_ ?_) ?_
   ·exact zB
   ·exact zAS rfl rfl rfl trivial
   refine vB [0,1] ?_;refine zKG 3 zI ?_;refine xE2 ?_;refine xB Tryz.func51 hCl ?_;refine aB ⟨by kernel_rfl,?_⟩
   cases e with
   | true=>
     refine AText.yieldM (i:=0) false [1000,1001] [] [] (zAf all N true) [] rfl rfl rfl rfl (fun _ h=>h) rfl rfl (hgN) (hgo) ((by show ∀k,k<2→_;decide)) (zEi rfl rfl rfl trivial) trivial rfl (by exact hys) (by exact zHD hst) trivial ?_
     refine AText.all ?_;refine vA ?_;refine aB ?_;refine vB [] ?_
     refine⟨⟨rfl,rfl⟩,mkG (fun _=>True) _ _ 33 2 [(8,.c (bC false))] (zAi 0 (zAf all N true++ [])) [],[],_,zAf all N true++ [],[],⟨rfl,rfl,rfl⟩,rfl,Wk.mkG [] rfl rfl rfl rfl rfl ?_ ?_ rfl rfl (fun _ _=>trivial),rfl,rfl,GRets.one (x:=.c _) (GRes.tmp rfl)⟩
     ·exact zB
     ·exact zAS zBY rfl rfl trivial
   | false=>
     refine AText.yieldM (i:=0) true [1000,1001] [] [] (zAf all N false) [] rfl rfl rfl rfl (fun _ h=>h) rfl rfl (hgN) (hgo) ((by show ∀k,k<2→_;decide)) (zEi rfl rfl rfl trivial) trivial rfl (by exact hys) (by exact zHD hst) trivial ?_
     refine AText.all ?_;refine vA ?_;refine aB ?_;refine vB [] ?_
     refine⟨⟨rfl,rfl⟩,mkG (fun _=>True) _ _ 33 2 [(8,.c (bC true))] (zAi 0 (zAf all N false++ [])) [],[],_,zAf all N false++ [],[],⟨rfl,rfl,rfl⟩,rfl,Wk.mkG [] rfl rfl rfl rfl rfl ?_ ?_ rfl rfl (fun _ _=>trivial),rfl,rfl,GRets.one (x:=.c _) (GRes.tmp rfl)⟩
     ·exact zB
     ·exact zAS zBY rfl rfl trivial
 | succ r=>
   have hK0:¬(0:Int)=((r+1:Nat):Int):=by omega
   obtain⟨M,hM⟩:∃M,all.length=M:=⟨_,rfl⟩
   rw[hM];have hall:all=zBc (zAy n r) [] (n-0) 0:=hdr;have hM2:(zBc (zAy n r) [] (n-0) 0).length=M:=by rw[←hall];exact hM
   refine zG5 Tryz.func50 rfl rfl Tryz.ntmps50 rfl ?_;refine AWp.weak (S':=
    mkG (itM Tryz.prog lp (zBA all N stop) N stop) 0 false 33 2 [(0,.c zAO),(1,.c (iC (0:Nat))),(2,.c (pl1 (iC (r+1:Nat)))),(3,.c (pl1 (.p (yv lp)))),(4,.c (pl1 (iC (n:Nat)))),(5,.c (seE (r+1:Nat) (n:Nat) lp (r+1)))] [(1000,bxI zAO),(1001,bxE)] []
    ) (Wk.mkG [] rfl rfl rfl rfl rfl ?_ ?_) ?_
   ·exact zB
   ·exact zAS rfl rfl rfl trivial
   refine vB [0,1,3] ?_;refine AWp.round (fun s:Nat×Nat=>
    mkG (itM Tryz.prog lp (zBA all N stop) N stop) s.2 false 33 2 [(0,.c zAO),(2,.c (pl1 (iC (r+1:Nat)))),(3,.c (pl1 (.p (yv lp)))),(4,.c (pl1 (iC (n:Nat)))),(5,.c (seE (r+1:Nat) (n:Nat) lp (r+1))),(9,.c (iC (s.1:Nat)))] [(1000,bxI zAO),(1001,bxE)] []
    ) (fun s=>s.1≤n∧all.drop s.2=zBc (zAy n r) [] (n-s.1) s.1++ []∧s.2+(zBc (zAy n r) [] (n-s.1) s.1).length=0+M∧(stop=true→s.2<N)) (fun s=>n-s.1) (0,0) ⟨Nat.zero_le _,by rw[List.append_nil];exact hall,by dsimp only;rw[hM2],hg⟩ ?_ (fun s hs=> ?_)
   ·refine Wk.mkG [] rfl rfl rfl rfl rfl ?_ ?_
    ·exact zB
    ·exact zAS rfl rfl rfl trivial
   obtain⟨x,gs⟩:=s
   obtain⟨hx,hdr1,hlen,hgs⟩:=hs
   dsimp only at hx hdr1 hlen hgs⊢;by_cases hxn:x<n;rotate_left
   ·have hxn':¬(x:Int)<n:=by omega
    rw[show n-x=0 by omega]at hlen
    replace hlen:gs+0=0+M:=hlen
    have he:zA4 stop N 0 M=false:=by
     cases h:zA4 stop N 0 M with
     |false=>rfl
     |true=>obtain⟨_,h2,h3⟩:=zEn h;have:=hgs h2;omega
    obtain rfl:gs=0+M:=by omega
    rw[(zEY he).1,he];refine vB [4,8] ?_
    refine⟨⟨rfl,rfl⟩,mkG (fun _=>True) _ _ 33 2 [(8,.c (bC true))] (zAi 0 (zAf all N false++ [])) [],[],_,zAf all N false++ [],[],⟨rfl,rfl,rfl⟩,rfl,Wk.mkG [] rfl rfl rfl rfl rfl ?_ ?_ rfl rfl (fun _ _=>trivial),rfl,rfl,GRets.one (x:=.c _) (GRes.tmp rfl)⟩
    ·exact zB
    ·exact zAS zBY rfl rfl trivial
   have hxn':(x:Int)<n:=by omega
   obtain⟨m,hm1⟩:∃m,n-x=m+1:=⟨n-x-1,by omega⟩
   have hm2:n-(x+1)=m:=by omega
   rw[hm1]at hdr1 hlen
   replace hdr1:all.drop gs=(zAy n r ([]++ [(x:Int)]) (x+1)++zBc (zAy n r) [] m (x+1))++ []:=hdr1
   replace hlen:gs+(zAy n r ([]++ [(x:Int)]) (x+1)++zBc (zAy n r) [] m (x+1)).length=0+M:=hlen
   rw[List.append_assoc]at hdr1;rw[List.length_append]at hlen;have hsn:∀k,k<0+1→∀j,j<1→zAh (fun _ _=>CV.any) 0 (sF [iC (x:Nat)] 1) k j=iF (fI ([]++ [(x:Int)])) k j∧zK (zAh (fun _ _=>CV.any) 0 (sF [iC (x:Nat)] 1) k j)=true:=fun k hk j hj=>by
    obtain rfl:k=0:=by omega
    obtain rfl:j=0:=by omega
    exact⟨rfl,rfl⟩
   have hih:=zMf all n (r+1) lp N stop hn hK hNf r ([]++ [(x:Int)]) (x+1) gs (zBc (zAy n r) [] m (x+1)++ []) (zAh (fun _ _=>.any) 0 (sF [iC (x:Nat)] 1)) (by simp;omega) (by simp) xD hdr1 hgs (fun k hk j hj=>(hsn k hk j hj).1)
   obtain⟨R1,hR1⟩:∃R1,zAy n r ([]++ [(x:Int)]) (x+1)=R1:=⟨_,rfl⟩
   rw[hR1]at hih hdr1 hlen;have hdr2:all.drop (gs+R1.length)=zBc (zAy n r) [] (n-(x+1)) (x+1)++ []:=by rw[hm2];exact zL9 hdr1
   have hlen2:gs+R1.length+(zBc (zAy n r) [] (n-(x+1)) (x+1)).length=0+M:=by rw[hm2];omega
   have hx1:((x+1:Nat):Int)=(x:Int)+1:=rfl;rw[hx1]at hih;refine vB [4] ?_;by_cases he:zA4 stop N gs R1.length=true
   ·obtain⟨q1,q2,q3⟩:=zEn he
    have he2:zA4 stop N 0 M=true:=zMd q2 xD;rw[q1,he]at hih;rw[(zEn he2).1,he2];refine zGn zI (fun _ h=>h.1) xC (AHoist.move rfl rfl rfl) (AHoist.move rfl rfl rfl) (AHoist.move rfl rfl rfl) (AHoist.add rfl rfl rfl rfl xD xD) ?_ ?_
    ·refine AText.split 2 ?_
     refine vA ?_;refine vA ?_;refine aB ?_;refine zCD zA [] [1000,1001] [bxI zAO,bxE] (zAf all N true) (zAf all N true) rfl AMid.nil rfl rfl rfl rfl rfl rfl rfl rfl (.inl ⟨rfl,rfl,rfl⟩) (fun k hk=>absurd hk (Nat.not_lt_zero _)) (fun k hk j hj=>by obtain rfl:k=0:=Nat.lt_one_iff.mp hk;obtain rfl:j=0:=Nat.lt_one_iff.mp hj;rfl) xD xD (by dsimp only;omega) (FnV.fi 4 _ rfl rfl) rfl Tryz.func50 rfl xC (fun _ h=>h) rfl rfl (by show ∀k,k<2→_;decide) (zCH rfl rfl rfl trivial) rfl (by exact⟨.c (.b (.ow 28 2 rfl)),.c (.b (.imm _ rfl)),.c (.b (.imm _ rfl)),.c (.b (.imm _ rfl)),.c (.b (.imm _ rfl)),.c (.b (.imm _ rfl)),trivial⟩) (.c (.imm _ rfl)) (by exact zCj (zCP fun k hk j hj=>(hsn k hk j hj).2)) hih ?_
     refine AText.all ?_;refine vA ?_;refine aB ?_;refine vB [7] ?_
     refine⟨⟨rfl,rfl⟩,mkG (fun _=>True) _ _ 33 2 [(8,.c (bC false))] (zAi 0 (zAf all N true++ [])) [],[],_,zAf all N true++ [],[],⟨rfl,rfl,rfl⟩,rfl,Wk.mkG [] rfl rfl rfl rfl rfl ?_ ?_ rfl rfl (fun _ _=>trivial),rfl,rfl,GRets.one (x:=.c _) (GRes.tmp rfl)⟩
     ·exact zB
     ·exact zAS zBY rfl rfl trivial
    ·refine vA ?_
     refine aB ⟨?_,?_⟩
     ·refine AText.split 1 ?_
      refine vA ?_;refine aB ?_;refine zCD zA [] [1000,1001] [bxI zAO,bxE] (zAf all N true) (zAf all N true) rfl AMid.nil rfl rfl rfl rfl rfl rfl rfl rfl (.inl ⟨rfl,rfl,rfl⟩) (fun k hk=>absurd hk (Nat.not_lt_zero _)) (fun k hk j hj=>by obtain rfl:k=0:=Nat.lt_one_iff.mp hk;obtain rfl:j=0:=Nat.lt_one_iff.mp hj;rfl) xD xD (by dsimp only;omega) (FnV.fi 4 _ rfl rfl) rfl Tryz.func50 rfl xC (fun _ h=>h) rfl rfl (by show ∀k,k<2→_;decide) (zCH rfl rfl rfl trivial) rfl (by exact⟨.c (.b (.ow 28 2 rfl)),.c (.b (.imm _ rfl)),.c (.b (.imm _ rfl)),.c (.b (.imm _ rfl)),.c (.b (.imm _ rfl)),.c (.b (.imm _ rfl)),trivial⟩) (.c (.imm _ rfl)) (by exact zCj (zCP fun k hk j hj=>(hsn k hk j hj).2)) hih ?_
      refine AText.all ?_;refine vA ?_;refine aB ?_;refine vB [7] ?_
      refine⟨⟨rfl,rfl⟩,mkG (fun _=>True) _ _ 33 2 [(8,.c (bC false))] (zAi 0 (zAf all N true++ [])) [],[],_,zAf all N true++ [],[],⟨rfl,rfl,rfl⟩,rfl,Wk.mkG [] rfl rfl rfl rfl rfl ?_ ?_ rfl rfl (fun _ _=>trivial),rfl,rfl,GRets.one (x:=.c _) (GRes.tmp rfl)⟩
      ·exact zB
      ·exact zAS zBY rfl rfl trivial
     ·refine zCD zA [_] [1000,1001] [bxI zAO,bxE] (zAf all N true) (zAf all N true) rfl (AMid.load1l zA rfl rfl rfl rfl rfl xD AMid.nil) rfl rfl rfl rfl rfl rfl rfl rfl (.inl ⟨rfl,rfl,rfl⟩) (fun k hk=>absurd hk (Nat.not_lt_zero _)) (fun k hk j hj=>by obtain rfl:k=0:=Nat.lt_one_iff.mp hk;obtain rfl:j=0:=Nat.lt_one_iff.mp hj;rfl) xD xD (by dsimp only;omega) (FnV.fi 4 _ rfl rfl) rfl Tryz.func50 rfl xC (fun _ h=>h) rfl rfl (by show ∀k,k<2→_;decide) (zCH rfl rfl rfl trivial) rfl (by exact⟨.c (.b (.ow 28 2 rfl)),.c (.b (.imm _ rfl)),.c (.b (.imm _ rfl)),.c (.b (.imm _ rfl)),.c (.b (.imm _ rfl)),.c (.b (.imm _ rfl)),trivial⟩) (.c (.imm _ rfl)) (by exact zCj (zCP fun k hk j hj=>(hsn k hk j hj).2)) hih ?_
      refine AText.all ?_;refine vA ?_;refine aB ?_;refine vB [7] ?_
      refine⟨⟨rfl,rfl⟩,mkG (fun _=>True) _ _ 33 2 [(8,.c (bC false))] (zAi 0 (zAf all N true++ [])) [],[],_,zAf all N true++ [],[],⟨rfl,rfl,rfl⟩,rfl,Wk.mkG [] rfl rfl rfl rfl rfl ?_ ?_ rfl rfl (fun _ _=>trivial),rfl,rfl,GRets.one (x:=.c _) (GRes.tmp rfl)⟩
      ·exact zB
      ·exact zAS zBY rfl rfl trivial
   ·have he:=Bool.eq_false_iff.2 he
    obtain⟨q1,hno2⟩:=zEY he
    rw[q1,he]at hih;refine zGn zI (fun _ h=>h.1) xC (AHoist.move rfl rfl rfl) (AHoist.move rfl rfl rfl) (AHoist.move rfl rfl rfl) (AHoist.add rfl rfl rfl rfl xD xD) ?_ ?_
    ·refine AText.split 2 ?_
     refine vA ?_;refine vA ?_;refine aB ?_;refine zCD zA [] [1000,1001] [bxI zAO,bxE] (zAf all N false) (zAf all N false) rfl AMid.nil rfl rfl rfl rfl rfl rfl rfl rfl (.inl ⟨rfl,rfl,rfl⟩) (fun k hk=>absurd hk (Nat.not_lt_zero _)) (fun k hk j hj=>by obtain rfl:k=0:=Nat.lt_one_iff.mp hk;obtain rfl:j=0:=Nat.lt_one_iff.mp hj;rfl) xD xD (by dsimp only;omega) (FnV.fi 4 _ rfl rfl) rfl Tryz.func50 rfl xC (fun _ h=>h) rfl rfl (by show ∀k,k<2→_;decide) (zCH rfl rfl rfl trivial) rfl (by exact⟨.c (.b (.ow 28 2 rfl)),.c (.b (.imm _ rfl)),.c (.b (.imm _ rfl)),.c (.b (.imm _ rfl)),.c (.b (.imm _ rfl)),.c (.b (.imm _ rfl)),trivial⟩) (.c (.imm _ rfl)) (by exact zCj (zCP fun k hk j hj=>(hsn k hk j hj).2)) hih ?_
     refine AText.all ?_;refine vA ?_;refine aB ?_;refine vB [5] ?_
     refine⟨(x+1,gs+R1.length),⟨by dsimp only;omega,by dsimp only;exact hdr2,by dsimp only;omega,fun h=>by dsimp only;exact hno2 h⟩,Wk.mkG [] rfl rfl rfl rfl rfl ?_ ?_,by dsimp only;omega⟩
     ·exact zB
     ·exact zAS rfl rfl rfl trivial
    ·refine vA ?_
     refine aB ⟨?_,?_⟩
     ·refine AText.split 1 ?_
      refine vA ?_;refine aB ?_;refine zCD zA [] [1000,1001] [bxI zAO,bxE] (zAf all N false) (zAf all N false) rfl AMid.nil rfl rfl rfl rfl rfl rfl rfl rfl (.inl ⟨rfl,rfl,rfl⟩) (fun k hk=>absurd hk (Nat.not_lt_zero _)) (fun k hk j hj=>by obtain rfl:k=0:=Nat.lt_one_iff.mp hk;obtain rfl:j=0:=Nat.lt_one_iff.mp hj;rfl) xD xD (by dsimp only;omega) (FnV.fi 4 _ rfl rfl) rfl Tryz.func50 rfl xC (fun _ h=>h) rfl rfl (by show ∀k,k<2→_;decide) (zCH rfl rfl rfl trivial) rfl (by exact⟨.c (.b (.ow 28 2 rfl)),.c (.b (.imm _ rfl)),.c (.b (.imm _ rfl)),.c (.b (.imm _ rfl)),.c (.b (.imm _ rfl)),.c (.b (.imm _ rfl)),trivial⟩) (.c (.imm _ rfl)) (by exact zCj (zCP fun k hk j hj=>(hsn k hk j hj).2)) hih ?_
      refine AText.all ?_;refine vA ?_;refine aB ?_;refine vB [5] ?_
      refine⟨(x+1,gs+R1.length),⟨by dsimp only;omega,by dsimp only;exact hdr2,by dsimp only;omega,fun h=>by dsimp only;exact hno2 h⟩,Wk.mkG [] rfl rfl rfl rfl rfl ?_ ?_,by dsimp only;omega⟩
      ·exact zB
      ·exact zAS rfl rfl rfl trivial
     ·refine zCD zA [_] [1000,1001] [bxI zAO,bxE] (zAf all N false) (zAf all N false) rfl (AMid.load1l zA rfl rfl rfl rfl rfl xD AMid.nil) rfl rfl rfl rfl rfl rfl rfl rfl (.inl ⟨rfl,rfl,rfl⟩) (fun k hk=>absurd hk (Nat.not_lt_zero _)) (fun k hk j hj=>by obtain rfl:k=0:=Nat.lt_one_iff.mp hk;obtain rfl:j=0:=Nat.lt_one_iff.mp hj;rfl) xD xD (by dsimp only;omega) (FnV.fi 4 _ rfl rfl) rfl Tryz.func50 rfl xC (fun _ h=>h) rfl rfl (by show ∀k,k<2→_;decide) (zCH rfl rfl rfl trivial) rfl (by exact⟨.c (.b (.ow 28 2 rfl)),.c (.b (.imm _ rfl)),.c (.b (.imm _ rfl)),.c (.b (.imm _ rfl)),.c (.b (.imm _ rfl)),.c (.b (.imm _ rfl)),trivial⟩) (.c (.imm _ rfl)) (by exact zCj (zCP fun k hk j hj=>(hsn k hk j hj).2)) hih ?_
      refine AText.all ?_;refine vA ?_;refine aB ?_;refine vB [5] ?_
      refine⟨(x+1,gs+R1.length),⟨by dsimp only;omega,by dsimp only;exact hdr2,by dsimp only;omega,fun h=>by dsimp only;exact hno2 h⟩,Wk.mkG [] rfl rfl rfl rfl rfl ?_ ?_,by dsimp only;omega⟩
      ·exact zB
      ·exact zAS rfl rfl rfl trivial
theorem zN8(all:List (List Int))(n K N:Nat)(stop:Bool)(hn:n≤1000)(hK:K≤1000)(hdr:all=zBZ n K)(h0:stop=true→0<N)(h1:stop=false→N=all.length):
 zIa Tryz.prog 49 [.c (pl1 (iC (K:Nat))),.c (pl1 (iC (n:Nat)))] (zBA all N stop) all.length N stop:=by
 have hex:=fun lp=>zQP all n K lp N stop hn hK h1 hdr h0
 refine zRm Tryz.func49 rfl rfl Tryz.ntmps49 rfl (fun _ _=>by show 0≤100;omega) (fun _ _=>rfl) fun lp hN1 hN2=> ?_
 have e1:zA4 stop N 0 all.length=stop∧zDx stop N 0 all.length=N:=by
  unfold zDx zA4
  cases stop with
  |true=>have:=(hN1 rfl).2;simp;omega
  |false=>have:=hN2 rfl;simp;omega
 have hex:=hex lp;rw[e1.1,e1.2]at hex;have hEN:(zBA all N stop).hE N=zAf all N stop:=by
  show zAf all N (stop && Nat.beq N N)=_;rw[Nat.beq_refl,Bool.and_true]
 repeat (first
  |refine vB [0,1] ?_
  | (refine rG 2 ?_
     refine qr5 zCQ ?_;refine vA ?_;refine aB ?_))
 refine AWp.weak (S':=mkG (itM Tryz.prog lp (zBA all N stop) N stop) 0 false 8 2 [(4,.c (.pt 4 1 0 0))] [(4,⟨false,1,1,102,lF [.fn 50 4 (seC K n lp)]⟩),(1000,bxI zAO),(1001,bxE)] [4]) (Wk.mkG [(4,some 4)] rfl rfl rfl rfl rfl ?_ ?_) ?_
 ·exact⟨⟨_,rfl,.c (.pt _ _ _ _ _ rfl)⟩,trivial⟩
 ·refine⟨HeapOk.box rfl rfl ⟨LeC.fn _ 4 _ _ (fun i hi=> ?_) (fun i hi=> ?_),trivial⟩ rfl,zAS rfl rfl rfl trivial⟩
  all_goals
   obtain rfl|rfl|rfl|rfl:i=0∨i=1∨i=2∨i=3:=by omega
  ·exact⟨trivial,trivial⟩
  ·exact⟨trivial,trivial⟩
  ·exact⟨trivial,trivial⟩
  ·exact⟨trivial,trivial⟩
  ·exact .refl _ rfl
  ·exact zBw rfl rfl rfl rfl
  ·exact .refl _ rfl
  ·exact .pt _ _ _ _ _ rfl
 refine zOS (t:=4) (K+1) rfl rfl (fun i hi=> ?_) rfl ?_
 ·obtain rfl|rfl|rfl|rfl:i=0∨i=1∨i=2∨i=3:=by omega
  ·exact .inl rfl
  ·exact .inl rfl
  ·exact .inl rfl
  ·exact .inr rfl
 refine AWp.text ?_;refine AText.split 1 ?_;refine vA ?_;refine aB ?_;refine zOO [1000,1001] [] [] [bxI zAO,bxE] [] _ [] (zAf all N stop++ []) [] rfl rfl (FnV.fi 4 _ rfl rfl) rfl Tryz.func50 rfl xC (fun _ h=>h) rfl rfl (by show ∀k,k<2→_;decide) (zEi rfl rfl rfl trivial) ?_ rfl (by exact⟨.c (.b (.imm _ rfl)),.c (.b (.imm _ rfl)),.c (.b (.imm _ rfl)),.c (.b (.imm _ rfl)),.c (.b (.imm _ rfl)),.c (.b (.imm _ rfl)),trivial⟩) (.c (.imm _ rfl)) (by exact zCj (l:= []) (m:= []) trivial) trivial hex ?_
 ·trivial
 refine AText.all ?_;refine aB ?_
 skip
 refine⟨⟨rfl,rfl⟩,mkG (itM Tryz.prog lp (zBA all N stop) N stop) N stop 8 2 [] (zAv [] (zAf all N stop)) [],[],Wk.mkG [] rfl rfl rfl rfl rfl trivial ?_,by rw[hEN];rfl,rfl⟩
 exact zAS zBY rfl rfl trivial
theorem zEZ{l:List Int}{x:Int}{k:Nat}(h:k<l.length):fI (l++ [x]) k=fI l k:=by
 show(l++ [x]).getD k 0=l.getD k 0
 rw[List.getD_eq_getElem?_getD,List.getD_eq_getElem?_getD,List.getElem?_append_left h]
theorem zMh{l:List Int}{x:Int}:fI (l++ [x]) l.length=x:=by
 show(l++ [x]).getD l.length 0=x
 rw[List.getD_eq_getElem?_getD,List.getElem?_append_right (Nat.le_refl _)]
 simp
theorem zRG{n:Nat}{l:List Int}{x:Nat}(h:zA9 n l=true)(hx:∀k,k<l.length→fI l k<x)(hn:x<n):zA9 n (l++ [(x:Int)])=true:=nmOk_iff.2 fun k hk=>by
 rw[List.length_append,List.length_singleton]at hk;by_cases hkl:k<l.length
 ·obtain⟨h1,h2,h3⟩:=nmOk_iff.1 h k hkl
  rw[zEZ hkl]
  refine⟨h1,h2,fun h0=> ?_⟩
  rw[zEZ xD];exact h3 h0
 ·obtain rfl:k=l.length:=by omega
  rw[zMh]
  refine⟨by omega,by omega,fun h0=> ?_⟩
  rw[zEZ xD];exact hx _ xD
theorem zLY{n:Nat}:∀(r:Nat) (l:List Int) (x:Nat),zA9 n l=true→(∀k,k<l.length→fI l k<x)→∀s∈zAy n r l x,zA9 n s=true
 | 0,l,x,h,_,s,hs=>by
   obtain rfl:s=l:=by simpa[zAy]using hs
   exact h
 | r + 1,l,x,h,hx,s,hs=>by
   have key:∀m y,x≤y→(m=0∨y+m≤n)→∀s∈zBc (zAy n r) l m y,zA9 n s=true:=fun m=>by
    induction m with
    |zero=>intro y _ _ s h;cases h
    | succ m ih=>
      intro y hy hm s hs;have hyn:y<n:=by omega
      rcases List.mem_append.1 hs with hs|hs
      ·refine zLY r _ _ (zRG h (fun k hk=>by have:=hx k hk;omega) hyn) (fun k hk=> ?_) s hs
       rw[List.length_append,List.length_singleton]at hk;by_cases hkl:k<l.length
       ·rw[zEZ hkl];have:=hx k hkl;omega
       ·obtain rfl:k=l.length:=by omega
        rw[zMh];omega
      ·exact ih (y+1) xD xD s hs
   exact key (n-x) x (Nat.le_refl _) xD s hs
theorem zJH{n K:Nat}{s:List Int}(h:s∈zBZ n K):zA9 n s=true∧s.length=K:=
 ⟨zLY K [] 0 (nmOk_iff.2 fun k hk=>absurd hk (Nat.not_lt_zero _)) (fun k hk=>absurd hk (Nat.not_lt_zero _)) s h,by have:=zLX K [] 0 s h;simpa using this⟩
theorem zRV{p:Pb}{ns:List Int}(h:zAA p=0)(hn:zA9 p.C.length ns=true):zEy p ns=(zBf p ns,0):=by
 unfold zEy;rw[if_pos h,if_pos hn]
theorem zS0{p:Pb}(hp:p.ok){ns:List Int}(hn:ns.length≤1000000):(zBf p ns).ok:=
 ⟨hp.rd,hp.lR,by show(List.map _ ns).length≤_;rw[List.length_map];exact hn,hp.lF,by show(List.map _ ns).length≤_;rw[List.length_map];exact hn,hp.lT,fun l hl=>by
   obtain⟨x,_,rfl⟩:=List.mem_map.1 hl
   rcases Nat.lt_or_ge x.toNat p.C.length with h|h
   ·exact hp.lc _ (zAH h)
   ·rw[List.getD_eq_getElem?_getD,List.getElem?_eq_none h];exact Nat.zero_le _⟩
def zBS(p:Pb)(s:List Int):Bool:=decide (zAX (zBf p s)=0)
def zBI(n:Nat):Nat→List (List Int)
 |0=> []
 |k+1=>zBI n k++zBZ n k
def zNu:Option (List Int)→List Int×Int
 |some s=>(s,0)
 |none=>([],61)
def zBi(p:Pb):List Int×Int:=
 if zAA p=0 then
  if 8<p.C.length then ([],2)else
  if zAX p=0 then zNu ((zBI p.C.length (p.C.length+1)).find? (zBS p))else ([],zAX p)
 else ([],zAA p)
theorem zMn(bad:List Int→Bool):∀all:List (List Int),(∃i,i<all.length∧bad (all.getD i [])=true∧∀j,j<i→bad (all.getD j [])=false)∨∀j,j<all.length→bad (all.getD j [])=false
 | []=>.inr fun _ h=>absurd h (Nat.not_lt_zero _)
 | s ::l=>by
   cases h:bad s with
   |true=>exact .inl ⟨0,Nat.succ_pos _,h,fun _ h=>absurd h (Nat.not_lt_zero _)⟩
   | false=>
     rcases zMn bad l with ⟨i,h1,h2,h3⟩|h1
     ·exact .inl ⟨i+1,Nat.succ_lt_succ h1,h2,fun j hj=>by
       cases j with
       |zero=>exact h
       |succ j=>exact h3 j xD⟩
     ·exact .inr fun j hj=>by
       cases j with
       |zero=>exact h
       |succ j=>exact h1 j (by simpa using hj)
theorem zMj{bad:List Int→Bool}:∀{all:List (List Int)} {i:Nat},i<all.length→bad (all.getD i [])=true→(∀j,j<i→bad (all.getD j [])=false)→all.find? bad=some (all.getD i [])
 | s::l,0,_,h,_=>by
   rw[List.find?_cons]
   show(match bad s with|true=>some s|false=>_)=_
   rw[show bad s=true from h];rfl
 | s::l,i+1,hi,h,hl=>by
   rw[List.find?_cons,show bad s=false from hl 0 (Nat.succ_pos _)];exact zMj (all:=l) (i:=i) (by simpa using hi) h fun j hj=>hl (j+1) xD
theorem zQT{bad:List Int→Bool}{all:List (List Int)}(h:∀j,j<all.length→bad (all.getD j [])=false):all.find? bad=none:=by
 rw[List.find?_eq_none];intro s hs
 obtain⟨j,hj,rfl⟩:=List.mem_iff_getElem.1 hs
 have:=h j hj;rw[List.getD_eq_getElem?_getD,List.getElem?_eq_getElem hj]at this
 simpa using this
theorem zOm{n k m:Nat}(h:k≤m):∃r,zBI n m=zBI n k++r:=by
 induction m with
 |zero=>obtain rfl:k=0:=Nat.le_zero.1 h;exact⟨[],rfl⟩
 | succ m ih=>
   by_cases e:k=m+1
   ·subst e;exact⟨[],(List.append_nil _).symm⟩
   ·obtain⟨r,hr⟩:=ih xD
    exact⟨r++zBZ n m,by show zBI n m++_=_;rw[hr,List.append_assoc]⟩
theorem zTj{n k i:Nat}{bad:List Int→Bool}(hk:k≤n)(h0:(zBI n k).find? bad=none)(hi:i<(zBZ n k).length)(hb:bad ((zBZ n k).getD i [])=true)(hl:∀j,j<i→bad ((zBZ n k).getD j [])=false):(zBI n (n+1)).find? bad=some ((zBZ n k).getD i []):=by
 obtain⟨r,hr⟩:=zOm (n:=n) (show k+1≤n+1 by omega)
 rw[hr]
 show((zBI n k++zBZ n k)++r).find? bad=_
 rw[List.append_assoc,List.find?_append,h0,List.find?_append,zMj hi hb hl]
 rfl
theorem zTk{n k:Nat}{bad:List Int→Bool}(h0:(zBI n k).find? bad=none)(h1:∀j,j<(zBZ n k).length→bad ((zBZ n k).getD j [])=false):(zBI n (k+1)).find? bad=none:=by
 show(zBI n k++zBZ n k).find? bad=none
 rw[List.find?_append,h0];exact zQT h1
abbrev plP(p:Pb):CV:=.pl 1 5 (lF (pbC p)) 0 0
theorem zPe(p:Pb)(hp:p.ok):ACalls Tryz.prog 8 [.ag (pbC p)] (.tu [.c (lsI (zBi p).1),.c (iC (zBi p).2)]):=by
 have hC:=zFq p hp
 obtain⟨e,he⟩:∃e,zAA p=e:=⟨_,rfl⟩
 rw[he]at hC;by_cases h0:e=0;rotate_left
 ·rw [show zBi p=([],e) by rw[←he]at h0⊢;exact if_neg h0]
  refine zH Tryz.func8 rfl rfl Tryz.ntmps8 rfl ?_
  repeat (first
   |refine vB [0,2,3] ?_
   | (refine rG 1 ?_
      refine vA ?_;refine xB Tryz.func27 hC ?_;refine vA ?_;refine aB ?_))
  refine⟨zC 48 [(2,.c (.pt 2 1 0 0)),(3,.c (.pt 3 1 0 0))] [(2,⟨false,1,1,35,lF [lsI ([])]⟩),(3,⟨false,1,1,36,lF [iC (e)]⟩)] [2,3],[(2,⟨false,1,1,35,lF [lsI ([])]⟩),(3,⟨false,1,1,36,lF [iC (e)]⟩)],Wk.mk [(2,some 2),(3,some 3)] rfl rfl rfl ?_ ?_,rfl,rfl,ARets.two (x:=.c _) (y:=.c _) (zCp zA rfl rfl rfl rfl rfl rfl) (zCp zA rfl rfl rfl rfl rfl rfl)⟩
  ·exact zB
  ·exact⟨HeapOk.box rfl rfl ⟨LeC.nils _ _,trivial⟩ rfl,HeapOk.box rfl rfl ⟨LeC.refl _ rfl,trivial⟩ rfl,trivial⟩
 subst h0;by_cases h8:8<p.C.length
 ·rw [show zBi p=([],2) by unfold zBi;rw[if_pos he,if_pos h8]]
  have h8':(p.C.length:Int)>8:=by omega
  refine zH Tryz.func8 rfl rfl Tryz.ntmps8 rfl ?_
  repeat (first
   |refine vB [0,2,4,5] ?_
   | (refine rG 1 ?_
      refine vA ?_;refine xB Tryz.func27 hC ?_;refine vA ?_;refine aB ?_))
  refine⟨zC 48 [(2,.c (.pt 2 1 0 0)),(3,.c (.pt 3 1 0 0))] [(2,⟨false,1,1,35,lF [lsI ([])]⟩),(3,⟨false,1,1,36,lF [iC (2)]⟩)] [2,3],[(2,⟨false,1,1,35,lF [lsI ([])]⟩),(3,⟨false,1,1,36,lF [iC (2)]⟩)],Wk.mk [(2,some 2),(3,some 3)] rfl rfl rfl ?_ ?_,rfl,rfl,ARets.two (x:=.c _) (y:=.c _) (zCp zA rfl rfl rfl rfl rfl rfl) (zCp zA rfl rfl rfl rfl rfl rfl)⟩
  ·exact zB
  ·exact⟨HeapOk.box rfl rfl ⟨LeC.nils _ _,trivial⟩ rfl,HeapOk.box rfl rfl ⟨LeC.refl _ rfl,trivial⟩ rfl,trivial⟩
 have hU:=zJ3 p hp;have h8':¬(p.C.length:Int)>8:=by omega
 have hpv:zBi p=if zAX p=0 then zNu ((zBI p.C.length (p.C.length+1)).find? (zBS p))else ([],zAX p):=by unfold zBi;rw[if_pos he,if_neg h8]
 obtain⟨u,hu⟩:∃u,zAX p=u:=⟨_,rfl⟩
 rw[hu]at hpv hU;by_cases hu0:u=0;rotate_left
 ·rw [hpv,if_neg hu0]
  refine zH Tryz.func8 rfl rfl Tryz.ntmps8 rfl ?_
  repeat (first
   |refine vB [0,2,4,7,8] ?_
   | (refine rG 1 ?_
      refine vA ?_;refine xB Tryz.func27 hC ?_;refine vA ?_;refine aB ?_)
   | (refine rG 6 ?_
      refine vA ?_;refine xB Tryz.func28 hU ?_;refine vA ?_;refine aB ?_))
  refine⟨zC 48 [(2,.c (.pt 2 1 0 0)),(3,.c (.pt 3 1 0 0))] [(2,⟨false,1,1,35,lF [lsI ([])]⟩),(3,⟨false,1,1,36,lF [iC (u)]⟩)] [2,3],[(2,⟨false,1,1,35,lF [lsI ([])]⟩),(3,⟨false,1,1,36,lF [iC (u)]⟩)],Wk.mk [(2,some 2),(3,some 3)] rfl rfl rfl ?_ ?_,rfl,rfl,ARets.two (x:=.c _) (y:=.c _) (zCp zA rfl rfl rfl rfl rfl rfl) (zCp zA rfl rfl rfl rfl rfl rfl)⟩
  ·exact zB
  ·exact⟨HeapOk.box rfl rfl ⟨LeC.nils _ _,trivial⟩ rfl,HeapOk.box rfl rfl ⟨LeC.refl _ rfl,trivial⟩ rfl,trivial⟩
 subst hu0;rw[if_pos rfl]at hpv
 obtain⟨V,hV⟩:∃V,zBi p=V:=⟨_,rfl⟩
 rw[hV];rw[hV]at hpv;have hn8:p.C.length≤8:=by omega
 refine zH Tryz.func8 rfl rfl Tryz.ntmps8 rfl ?_
 repeat (first
  |refine vB [0,2,4,7,9] ?_
  | (refine rG 1 ?_
     refine vA ?_;refine xB Tryz.func27 hC ?_;refine vA ?_;refine aB ?_)
  | (refine rG 6 ?_
     refine vA ?_;refine xB Tryz.func28 hU ?_;refine vA ?_;refine aB ?_))
 refine AWp.round (fun k:Nat=>zC 48 [(1,.c (plP p)),(2,.c (.pt 2 1 0 0)),(3,.c (.pt 3 1 0 0)),(27,.c (iC ((p.C.length:Int)+1))),(28,.c (iC (k:Nat)))] [(2,bxI zAO),(3,bxE)] [2,3]) (fun k=>k≤p.C.length+1∧(zBI p.C.length k).find? (zBS p)=none) (fun k=>p.C.length+1-k) 0 ⟨Nat.zero_le _,rfl⟩ ?_ (fun k hk=> ?_)
 ·refine Wk.mk [(2,some 2),(3,some 3)] rfl rfl rfl ?_ ?_
  ·repeat (first|exact trivial|refine⟨⟨_,rfl,by first|exact LeA.c (zBw rfl rfl rfl rfl)|exact leT⟩,?_⟩)
  ·exact⟨hSm,hSm,trivial⟩
 obtain⟨hk,hfn⟩:=hk
 by_cases hkl:k<p.C.length+1;rotate_left
 ·have hkl':¬(k:Int)<(p.C.length:Int)+1:=by omega
  obtain rfl:k=p.C.length+1:=by omega
  rw[hfn]at hpv;subst hpv;refine vB [10,18] ?_
  refine⟨zC 48 [(2,.c (.pt 2 1 0 0)),(3,.c (.pt 3 1 0 0))] [(2,⟨false,1,1,35,lF [lsI ([])]⟩),(3,⟨false,1,1,36,lF [iC (61)]⟩)] [2,3],[(2,⟨false,1,1,35,lF [lsI ([])]⟩),(3,⟨false,1,1,36,lF [iC (61)]⟩)],Wk.mk [(2,some 2),(3,some 3)] rfl rfl rfl ?_ ?_,rfl,rfl,ARets.two (x:=.c _) (y:=.c _) (zCp zA rfl rfl rfl rfl rfl rfl) (zCp zA rfl rfl rfl rfl rfl rfl)⟩
  ·exact zB
  ·exact⟨HeapOk.box rfl rfl ⟨LeC.nils _ _,trivial⟩ rfl,HeapOk.box rfl rfl ⟨LeC.refl _ rfl,trivial⟩ rfl,trivial⟩
 have hkl':(k:Int)<(p.C.length:Int)+1:=by omega
 have hS:=zSC (p.C.length:Nat) (k:Nat)
 obtain⟨all,hal⟩:∃all,zBZ p.C.length k=all:=⟨_,rfl⟩
 have hmem:∀i,i<all.length→zA9 p.C.length (all.getD i [])=true∧(all.getD i []).length=k:=fun i hi=>by
  rw[←hal]at hi⊢;rw[List.getD_eq_getElem?_getD,List.getElem?_eq_getElem hi];exact zJH (List.getElem_mem hi)
 have hsl:∀i,i<all.length→ACalls Tryz.prog 30 [.ag (pbC p),.c (lsI (all.getD i []))] (.tu [.ag (pbC (zBf p (all.getD i []))),.c (iC 0)])∧ACalls Tryz.prog 28 [.ag (pbC (zBf p (all.getD i [])))] (.c (iC (zAX (zBf p (all.getD i []))))):=fun i hi=>by
  obtain⟨h1,h2⟩:=hmem i hi
  have hP:=zPl p hp (all.getD i []) xD;rw[zRV he h1]at hP
  exact⟨hP,zJ3 _ (zS0 hp xD)⟩
 rcases zMn (zBS p) all with ⟨i0,hi0,hb0,hl0⟩|hno
 ·have hb:∀i,i<i0+1→(true && Nat.beq (i+1) (i0+1))=zBS p (all.getD i []):=fun i hi=>by
   by_cases e:i=i0
   ·subst e;rw[Nat.beq_refl,hb0];rfl
   ·rw[hl0 i xD,show Nat.beq (i+1) (i0+1)=false from Bool.eq_false_iff.2 fun h=>by have:=Nat.eq_of_beq_eq_true h;omega];rfl
  have hbl:∀i,zBS p (all.getD i [])=true→i<i0+1→i=i0:=fun i hi hl=>Decidable.byContradiction fun hn=>by rw[hl0 i xD]at hi;cases hi
  rw[←hal]at hi0 hb0 hl0;have hf:=zTj (n:=p.C.length) xD hfn hi0 hb0 hl0;rw[hal]at hi0 hf;rw[hf]at hpv;subst hpv
  repeat (first
   |refine vB [10,11] ?_
   | (refine rG 12 ?_
      refine xE4 ?_;refine xB Tryz.func29 hS ?_;refine aB ?_))
  refine zKI (N:=i0+1) (stop:=true) (eS:=.ret) (A:=zBA all (i0+1) true) (M:=all.length) (cs:= [.c (pl1 (iC (k:Nat))),.c (pl1 (iC (p.C.length:Nat)))]) (ts:= [(1,.c (plP p)),(2,.c (.pt 1000 1 0 0)),(3,.c (.pt 1001 1 0 0))]) [2,3] [] [] (zAf all (i0+1) true) [] rfl (enters_of Tryz.func49 xC rfl) (fun i hi f k D e=>by
   obtain rfl|rfl:i=0∨i=1:=xD
   all_goals cases e) (by exact⟨.c (.b (.imm _ rfl)),.c (.b (.imm _ rfl)),trivial⟩) (zN8 all p.C.length k (i0+1) true xD xD hal.symm (fun _=>Nat.succ_pos _) (fun h=>by cases h)) (fun _ h=>h) (fun _=>⟨Nat.succ_pos _,hi0⟩) (fun h=>by cases h) (zEi rfl rfl rfl trivial) trivial rfl (fun i _=>⟨rfl,rfl,by show 0≤100;omega⟩) rfl rfl ?_ rfl (fun _ _=>rfl) (.inl rfl) (fun i hi=> ?_) ?_ trivial ?_
  ·exact⟨⟨_,rfl,.c (.b (.imm _ rfl))⟩,⟨_,rfl,.c (.b (.pt 2 0 1 0 0 rfl))⟩,⟨_,rfl,.c (.b (.pt 3 1 1 0 0 rfl))⟩,trivial⟩
  ·obtain⟨hP,hU2⟩:=hsl i xD
   have hbi:=hb i hi;have g:zAs (i0+1) true i = !(zBS p (all.getD i [])):=by unfold zAs;rw[hbi]
   have hE:(zBA all (i0+1) true).hE (i+1)=zAf all (i0+1) (zBS p (all.getD i [])):=by
    show zAf all (i0+1) (true && Nat.beq (i+1) (i0+1))=_;rw[hbi]
   rw[g,hE];refine AWp.weak (S':=mkG (fun _=>True) 0 false 48 2 [(1,.c (plP p)),(2,.c (.pt 1000 1 0 0)),(3,.c (.pt 1001 1 0 0)),(36,.c (lsI (all.getD i [])))] [(1000,bxI zAO),(1001,bxE)] []) (Wk.mkG [] rfl rfl rfl rfl rfl ?_ ?_ rfl rfl (fun _ _=>trivial)) ?_
   ·repeat (first|exact trivial|refine⟨⟨_,rfl,by first|exact LeA.c (LeC.ptB _ _ _ _ rfl)|exact leT⟩,?_⟩)
   ·exact zAS rfl rfl rfl trivial
   cases hbv:zBS p (all.getD i [])with
   | false=>
     have hu0:¬zAX (zBf p (all.getD i []))=0:=of_decide_eq_false hbv;generalize zAX (zBf p (all.getD i []))=u at *;refine vB [13] ?_
     refine⟨rfl,?_⟩
     repeat (first
      |refine vB [] ?_
      | (refine rG 14 ?_
         refine xE2 ?_;refine xB Tryz.func30 hP ?_;refine xE6 ?_;refine aB ?_)
      | (refine rG 15 ?_
         refine vA ?_;refine xB Tryz.func28 hU2 ?_;refine vA ?_;refine aB ?_))
     refine⟨rfl,mkG (fun _=>True) 0 true 48 2 [] (zAv [] (zAf all (i0+1) false)) [],[],Wk.mkG [] rfl rfl rfl rfl rfl trivial ?_ rfl rfl (fun _ _=>trivial),rfl,rfl⟩
     exact zAS zBY rfl rfl trivial
   | true=>
     rw[show zAX (zBf p (all.getD i []))=0 from of_decide_eq_true hbv]at hU2;have hlast:all.getD (i0+1-1) []=all.getD i []:=(by rw[hbl i hbv hi];rfl)
     refine vB [13] ?_
     refine⟨rfl,?_⟩
     repeat (first
      |refine vB [16] ?_
      | (refine rG 14 ?_
         refine xE2 ?_;refine xB Tryz.func30 hP ?_;refine xE6 ?_;refine aB ?_)
      | (refine rG 15 ?_
         refine vA ?_;refine xB Tryz.func28 hU2 ?_;refine vA ?_;refine aB ?_))
     refine⟨rfl,mkG (fun _=>True) 0 true 48 2 [] (zAv [] (zAf all (i0+1) true)) [],[],Wk.mkG [] rfl rfl rfl rfl rfl trivial ?_ rfl rfl (fun _ _=>trivial),rfl,rfl⟩
     exact⟨zY rfl rfl ⟨by rw[if_pos rfl,hlast];exact LeC.refl _ rfl,trivial⟩ rfl,zY rfl rfl ⟨LeC.refl _ rfl,trivial⟩ rfl,trivial⟩
  ·show zAV _ _ (zAf all (i0+1) (true && Nat.beq (i0+1) (i0+1))) _
   rw[Nat.beq_refl,Bool.and_true];exact zCj (l:= []) (m:= []) trivial
  refine vB [] ?_
  refine⟨zC 48 [(2,.c (.pt 2 1 0 0)),(3,.c (.pt 3 1 0 0))] [(2,⟨false,1,1,35,lF [lsI (all.getD i0 [])]⟩),(3,⟨false,1,1,36,lF [iC (0)]⟩)] [2,3],[(2,⟨false,1,1,35,lF [lsI (all.getD i0 [])]⟩),(3,⟨false,1,1,36,lF [iC (0)]⟩)],Wk.mk [(2,some 2),(3,some 3)] rfl rfl rfl ?_ ?_,rfl,rfl,ARets.two (x:=.c _) (y:=.c _) (zCp zA rfl rfl rfl rfl rfl rfl) (zCp zA rfl rfl rfl rfl rfl rfl)⟩
  ·exact zB
  ·exact⟨HeapOk.box rfl rfl ⟨LeC.refl _ rfl,trivial⟩ rfl,HeapOk.box rfl rfl ⟨LeC.refl _ rfl,trivial⟩ rfl,trivial⟩
 ·have hb:∀i,i<all.length→(false && Nat.beq (i+1) all.length)=zBS p (all.getD i []):=fun i hi=>(hno i hi).symm
  have hbl:∀i,zBS p (all.getD i [])=true→i<all.length→False:=fun i hi hl=>by rw[hno i hl]at hi;cases hi
  repeat (first
   |refine vB [10,11] ?_
   | (refine rG 12 ?_
      refine xE4 ?_;refine xB Tryz.func29 hS ?_;refine aB ?_))
  refine zKI (N:=all.length) (stop:=false) (eS:=.ret) (A:=zBA all (all.length) false) (M:=all.length) (cs:= [.c (pl1 (iC (k:Nat))),.c (pl1 (iC (p.C.length:Nat)))]) (ts:= [(1,.c (plP p)),(2,.c (.pt 1000 1 0 0)),(3,.c (.pt 1001 1 0 0))]) [2,3] [] [] (zAf all (all.length) false) [] rfl (enters_of Tryz.func49 xC rfl) (fun i hi f k D e=>by
   obtain rfl|rfl:i=0∨i=1:=xD
   all_goals cases e) (by exact⟨.c (.b (.imm _ rfl)),.c (.b (.imm _ rfl)),trivial⟩) (zN8 all p.C.length k (all.length) false xD xD hal.symm (fun h=>by cases h) (fun _=>rfl)) (fun _ h=>h) (fun h=>by cases h) (fun _=>rfl) (zEi rfl rfl rfl trivial) trivial rfl (fun i _=>⟨rfl,rfl,by show 0≤100;omega⟩) rfl rfl ?_ rfl (fun _ _=>rfl) (.inl rfl) (fun i hi=> ?_) ?_ trivial ?_
  ·exact⟨⟨_,rfl,.c (.b (.imm _ rfl))⟩,⟨_,rfl,.c (.b (.pt 2 0 1 0 0 rfl))⟩,⟨_,rfl,.c (.b (.pt 3 1 1 0 0 rfl))⟩,trivial⟩
  ·obtain⟨hP,hU2⟩:=hsl i xD
   have hbi:=hb i hi;have g:zAs (all.length) false i = !(zBS p (all.getD i [])):=by unfold zAs;rw[hbi]
   have hE:(zBA all (all.length) false).hE (i+1)=zAf all (all.length) (zBS p (all.getD i [])):=by
    show zAf all (all.length) (false && Nat.beq (i+1) (all.length))=_;rw[hbi]
   rw[g,hE];refine AWp.weak (S':=mkG (fun _=>True) 0 false 48 2 [(1,.c (plP p)),(2,.c (.pt 1000 1 0 0)),(3,.c (.pt 1001 1 0 0)),(36,.c (lsI (all.getD i [])))] [(1000,bxI zAO),(1001,bxE)] []) (Wk.mkG [] rfl rfl rfl rfl rfl ?_ ?_ rfl rfl (fun _ _=>trivial)) ?_
   ·repeat (first|exact trivial|refine⟨⟨_,rfl,by first|exact LeA.c (LeC.ptB _ _ _ _ rfl)|exact leT⟩,?_⟩)
   ·exact zAS rfl rfl rfl trivial
   cases hbv:zBS p (all.getD i [])with
   | false=>
     have hu0:¬zAX (zBf p (all.getD i []))=0:=of_decide_eq_false hbv;generalize zAX (zBf p (all.getD i []))=u at *;refine vB [13] ?_
     refine⟨rfl,?_⟩
     repeat (first
      |refine vB [] ?_
      | (refine rG 14 ?_
         refine xE2 ?_;refine xB Tryz.func30 hP ?_;refine xE6 ?_;refine aB ?_)
      | (refine rG 15 ?_
         refine vA ?_;refine xB Tryz.func28 hU2 ?_;refine vA ?_;refine aB ?_))
     refine⟨rfl,mkG (fun _=>True) 0 true 48 2 [] (zAv [] (zAf all (all.length) false)) [],[],Wk.mkG [] rfl rfl rfl rfl rfl trivial ?_ rfl rfl (fun _ _=>trivial),rfl,rfl⟩
     exact zAS zBY rfl rfl trivial
   | true=>
     rw[show zAX (zBf p (all.getD i []))=0 from of_decide_eq_true hbv]at hU2;have hlast:all.getD (all.length-1) []=all.getD i []:=(hbl i hbv hi).elim;refine vB [13] ?_
     refine⟨rfl,?_⟩
     repeat (first
      |refine vB [16] ?_
      | (refine rG 14 ?_
         refine xE2 ?_;refine xB Tryz.func30 hP ?_;refine xE6 ?_;refine aB ?_)
      | (refine rG 15 ?_
         refine vA ?_;refine xB Tryz.func28 hU2 ?_;refine vA ?_;refine aB ?_))
     refine⟨rfl,mkG (fun _=>True) 0 true 48 2 [] (zAv [] (zAf all (all.length) true)) [],[],Wk.mkG [] rfl rfl rfl rfl rfl trivial ?_ rfl rfl (fun _ _=>trivial),rfl,rfl⟩
     exact⟨zY rfl rfl ⟨by rw[if_pos rfl,hlast];exact LeC.refl _ rfl,trivial⟩ rfl,zY rfl rfl ⟨LeC.refl _ rfl,trivial⟩ rfl,trivial⟩
  ·show zAV _ _ (zAf all (all.length) (false && Nat.beq (all.length) (all.length))) _
   rw[Nat.beq_refl,Bool.and_true];exact zCj (l:= []) (m:= []) trivial
  refine vB [17] ?_;rw[←hal]at hno
  refine⟨k+1,⟨hkl,zTk hfn hno⟩,Wk.mk [(2,some 2),(3,some 3)] rfl rfl rfl ?_ ?_,by omega⟩
  ·exact zB
  ·exact⟨hSm,hSm,trivial⟩
end Go.Proofs.YtpefnljgalpllaaGreat
end
