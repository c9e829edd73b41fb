/- Parts of the proof: AClone. -/
import Derived.Test.YtbffmfeldkjkcaaGreatG25
set_option linter.unusedSimpArgs false
set_option linter.unusedVariables false
set_option maxHeartbeats 0
set_option maxRecDepth 100000
section
namespace Go.AV
open Go Go.RowKit Go.Flow
section
variable{P:Program}{tab:List (TypeId×TD)}
theorem zEc{c:Code}{Q:Exit→St→Prop}{S:St}{t sz:Nat}{F:Nat→Nat→CV}(h:S.t t=some (.c (.ls 0 sz F)))(k:∀A cap,AWp P c Q {S with t:=put S.t t (some (.c (.p (.slice A 0 cap))))}):AWp P c Q S:=⟨fun b0 a w ⟨σ,R⟩=>by
 obtain⟨h1,A,cap,e,_⟩:=R.sl t _ h
 refine(k A cap).get b0 a w ⟨σ,R.df,R.sz,R.ext,R.hp,fun t' x hx=> ?_,R.fr,R.le,R.gd,R.gh⟩
 by_cases e1:t'=t
 ·subst e1
  have hx:put S.t t' (some (AV.c (.p (.slice A 0 cap)))) t'=some x:=hx;rw[zAn]at hx
  cases hx
  exact⟨h1,e⟩
 ·have hx:put S.t t (some (AV.c (.p (.slice A 0 cap)))) t'=some x:=hx
  rw[zX _ _ e1]at hx;exact R.sl t' x hx⟩
variable{ops:Array Oper}{rest:List Oper}{acc:List (List Nat×List Nat)}{S:St}{Q:List (List Nat×List Nat)→St→Prop}{dst:Option Tmp}{ty:TypeId}{pos:String}{after:Array Edge}{guard:Option (Nat×Bool)}{xt yt:TypeId}{x:Operand}
theorem zBl{n c:Nat}{e:TypeId}(hw:S.wants ops {dst,op:=.binOp .eql xt x (.const (.slice none 0 0)) yt,type:=ty,pos,after,guard}=some true)(hd:dOk S.n dst=true)(hx:S.opd x=some (.c (.p (.slice none n c))))(ht:P.underlying xt=some (.slice e))
 (hn:AList P ops rest (([],[])::acc) (S.eff dst ⟨.c (.p (.bool true)),[],[]⟩) Q):AList P ops ({dst,op:=.binOp .eql xt x (.const (.slice none 0 0)) yt,type:=ty,pos,after,guard}::rest) acc S Q:=
 AList.val [] _ hw hd (fun S1 g1 _ b0 σ a w R=>by
  have e1:a.eval x=.slice none n c:=(zW R ((g1 x (by simp[Op.operands])).trans hx)).2
  refine⟨.bool true,?_,zCb rfl⟩
  have hr:(Go.binOp .eql xt (.slice none n c) (.slice none 0 0)).run P w=.ok (.bool true) w:=by simp[binOp,run_equal_slice_nil w xt e none n c ht]
  have e2:a.eval (.const (.slice none 0 0))=.slice none 0 0:=rfl;have hgd:(eqGuard .eql xt x (.const (.slice none 0 0)) (.slice none n c) (.slice none 0 0)).run P w=.ok () w:=by unfold eqGuard;rfl
  simp only[execOp,e1,e2,Sem.run_bind,hgd,hr,Result.andThen_ok,Sem.run_pure]) hn
theorem zBk{ad:Addr}{n c:Nat}{e:TypeId}(hw:S.wants ops {dst,op:=.binOp .eql xt x (.const (.slice none 0 0)) yt,type:=ty,pos,after,guard}=some true)(hd:dOk S.n dst=true)(hx:S.opd x=some (.c (.p (.slice (some ad) n c))))(ht:P.underlying xt=some (.slice e))
 (hn:AList P ops rest (([],[])::acc) (S.eff dst ⟨.c (.p (.bool false)),[],[]⟩) Q):AList P ops ({dst,op:=.binOp .eql xt x (.const (.slice none 0 0)) yt,type:=ty,pos,after,guard}::rest) acc S Q:=
 AList.val [] _ hw hd (fun S1 g1 _ b0 σ a w R=>by
  have e1:a.eval x=.slice (some ad) n c:=(zW R ((g1 x (by simp[Op.operands])).trans hx)).2
  refine⟨.bool false,?_,zCb rfl⟩
  have hr:=zNB (P:=P) (w:=w) (ad:=ad) (n:=n) (c:=c) ht;have e2:a.eval (.const (.slice none 0 0))=.slice none 0 0:=rfl;have hgd:(eqGuard .eql xt x (.const (.slice none 0 0)) (.slice (some ad) n c) (.slice none 0 0)).run P w=.ok () w:=by unfold eqGuard;rfl
  simp only[execOp,e1,e2,Sem.run_bind,hgd,hr,Result.andThen_ok,Sem.run_pure]) hn
theorem zBj(T:zAq P tab=true){id id1:Nat}{s:Operand}{t el:TypeId}{d e:TD}{n c:Nat}{A:Option Addr}{F:Nat→Nat→CV}
 (hw:S.wants ops {dst:=some id,op:=.call {callee:=.builtin .append,args:= #[s,x],argTypes:= #[t,t]},type:=ty,pos,after,guard}=some true) (hd:dOk S.n (some id)=true) (hf:S.fr id=true)
 (hs:S.opd s=some (.c (.ow id1))) (hx:S.opd x=some (.c (.p (.slice A 0 c)))) (ht:zD tab t=some d) (hk:d.k=.sl el) (he:zD tab el=some e) (hh:S.h id1=some ⟨true,n,e.size,el,F⟩) (hsz:(Nat.blt 0 e.size && Nat.blt id1 1000)=true)
 (h63:n+0≤4611686018427387904) (hb:(n+0)*e.bytes≤140737488355328)
 (hn:AList P ops rest (([id1,id],[id1,id,id])::acc) (S.eff (some id) ⟨.c (.ow id),[(id1,none),(id,some ⟨true,n+0,e.size,el,zAj F n (fun _ _=>.any)⟩)],[id]⟩) Q):
 AList P ops ({dst:=some id,op:=.call {callee:=.builtin .append,args:= #[s,x],argTypes:= #[t,t]},type:=ty,pos,after,guard}::rest) acc S Q:=
 AList.app T (o:=some id1) (F:=F) (G:=fun _ _=>.any) [] hw hd hf hs hx ht hk he (Nat.blt_eq.mp (Bool.and_eq_true_iff.1 hsz).1) (.inr ⟨id1,rfl,rfl,hh,Nat.blt_eq.mp (Bool.and_eq_true_iff.1 hsz).2⟩)
  (fun S1 _ b0 σ a w R u hu=>⟨A,c,[],hu.2,by simp,fun p v hp=>by simp at hp,fun k hk=>absurd hk (Nat.not_lt_zero _)⟩) h63 hb hn
end
end Go.AV
namespace Go.Proofs.YtbffmfeldkjkcaaGreat
open Go.RowKit Go.Flow Go.AV Go.Plain

theorem zKA(n:Nat)(F:Nat→Nat→CV)(hF:∀k,k<n→∀j,j<2→zM (F k j)=true)(hn:n≤1000000):ACalls Tryz.prog 53 [.c (.ls n 2 F)] (.c (.ls n 2 F)):=by
 by_cases h0:n=0
 ·subst h0
  refine zJ Tryz.func53 rfl rfl Tryz.ntmps53 rfl ?_;refine zEc (t:=0) rfl fun A cap=> ?_
  refine AWp.weak (S':=zC 8 [(0,.c (.p (.slice A 0 cap)))] [] []) (Wk.mk [] rfl rfl rfl ⟨⟨_,rfl,.c (LeC.refl _ rfl)⟩,trivial⟩ trivial) ?_
  cases A with
  | none=>
    repeat (first
     |refine vB [0,2] ?_
     | (refine rG 1 ?_
        refine vA ?_
        first|refine zBc rfl rfl rfl Tryz.underlying29 oM oM ?_|refine zBl rfl rfl rfl Tryz.underlying29 ?_|refine zBk rfl rfl rfl Tryz.underlying29 ?_
        refine aB ?_)
     | (refine rG 3 ?_
        refine xE2 ?_
        first|refine zAT zA rfl rfl rfl rfl rfl rfl rfl rfl rfl rfl oM oM ?_|refine zBj zA rfl rfl rfl rfl rfl rfl rfl rfl rfl rfl oM oM ?_
        refine vA ?_;refine aB ?_))
    refine⟨zC 8 [(2,.c (.ls 0 2 F))] [] [],[],Wk.mk [] rfl rfl rfl ⟨⟨_,rfl,LeA.c (LeC.nils _ _)⟩,trivial⟩ trivial,rfl,rfl,aR1⟩
  | some ad=>
    repeat (first
     |refine vB [0,2] ?_
     | (refine rG 1 ?_
        refine vA ?_
        first|refine zBc rfl rfl rfl Tryz.underlying29 oM oM ?_|refine zBl rfl rfl rfl Tryz.underlying29 ?_|refine zBk rfl rfl rfl Tryz.underlying29 ?_
        refine aB ?_)
     | (refine rG 3 ?_
        refine xE2 ?_
        first|refine zAT zA rfl rfl rfl rfl rfl rfl rfl rfl rfl rfl oM oM ?_|refine zBj zA rfl rfl rfl rfl rfl rfl rfl rfl rfl rfl oM oM ?_
        refine vA ?_;refine aB ?_))
    refine⟨zC 8 [(2,.c (.ls 0 2 F))] [] [],[],Wk.mk [] rfl rfl rfl ⟨⟨_,rfl,LeA.c (zZ rfl rfl rfl (fun i hi=>absurd hi (Nat.not_lt_zero _)))⟩,trivial⟩ trivial,rfl,rfl,aR1⟩
 ·have h0:0<n:=Nat.pos_of_ne_zero h0
  refine zJ Tryz.func53 rfl rfl Tryz.ntmps53 rfl ?_
  repeat (first
   |refine vB [0,2] ?_
   | (refine rG 1 ?_
      refine vA ?_
      first|refine zBc rfl rfl rfl Tryz.underlying29 oM oM ?_|refine zBl rfl rfl rfl Tryz.underlying29 ?_|refine zBk rfl rfl rfl Tryz.underlying29 ?_
      refine aB ?_)
   | (refine rG 3 ?_
      refine xE2 ?_
      first|refine zAT zA rfl rfl rfl rfl rfl rfl rfl rfl rfl rfl oM oM ?_|refine zBj zA rfl rfl rfl rfl rfl rfl rfl rfl rfl rfl oM oM ?_
      refine vA ?_;refine aB ?_))
  refine⟨zC 8 [(2,.c (.ls n 2 F))] [] [],[],Wk.mk [] rfl rfl rfl ⟨⟨_,rfl,LeA.c (zZ rfl rfl rfl (fun i hi j hj=>⟨rfl,hF i hi j hj⟩))⟩,trivial⟩ trivial,rfl,rfl,aR1⟩
theorem zKw(n:Nat)(F:Nat→Nat→CV)(hF:∀k,k<n→∀j,j<4→zM (F k j)=true)(hn:n≤1000000):ACalls Tryz.prog 55 [.c (.ls n 4 F)] (.c (.ls n 4 F)):=by
 by_cases h0:n=0
 ·subst h0
  refine zJ Tryz.func55 rfl rfl Tryz.ntmps55 rfl ?_;refine zEc (t:=0) rfl fun A cap=> ?_
  refine AWp.weak (S':=zC 8 [(0,.c (.p (.slice A 0 cap)))] [] []) (Wk.mk [] rfl rfl rfl ⟨⟨_,rfl,.c (LeC.refl _ rfl)⟩,trivial⟩ trivial) ?_
  cases A with
  | none=>
    repeat (first
     |refine vB [0,2] ?_
     | (refine rG 1 ?_
        refine vA ?_
        first|refine zBc rfl rfl rfl Tryz.underlying32 oM oM ?_|refine zBl rfl rfl rfl Tryz.underlying32 ?_|refine zBk rfl rfl rfl Tryz.underlying32 ?_
        refine aB ?_)
     | (refine rG 3 ?_
        refine xE2 ?_
        first|refine zAT zA rfl rfl rfl rfl rfl rfl rfl rfl rfl rfl oM oM ?_|refine zBj zA rfl rfl rfl rfl rfl rfl rfl rfl rfl rfl oM oM ?_
        refine vA ?_;refine aB ?_))
    refine⟨zC 8 [(2,.c (.ls 0 4 F))] [] [],[],Wk.mk [] rfl rfl rfl ⟨⟨_,rfl,LeA.c (LeC.nils _ _)⟩,trivial⟩ trivial,rfl,rfl,aR1⟩
  | some ad=>
    repeat (first
     |refine vB [0,2] ?_
     | (refine rG 1 ?_
        refine vA ?_
        first|refine zBc rfl rfl rfl Tryz.underlying32 oM oM ?_|refine zBl rfl rfl rfl Tryz.underlying32 ?_|refine zBk rfl rfl rfl Tryz.underlying32 ?_
        refine aB ?_)
     | (refine rG 3 ?_
        refine xE2 ?_
        first|refine zAT zA rfl rfl rfl rfl rfl rfl rfl rfl rfl rfl oM oM ?_|refine zBj zA rfl rfl rfl rfl rfl rfl rfl rfl rfl rfl oM oM ?_
        refine vA ?_;refine aB ?_))
    refine⟨zC 8 [(2,.c (.ls 0 4 F))] [] [],[],Wk.mk [] rfl rfl rfl ⟨⟨_,rfl,LeA.c (zZ rfl rfl rfl (fun i hi=>absurd hi (Nat.not_lt_zero _)))⟩,trivial⟩ trivial,rfl,rfl,aR1⟩
 ·have h0:0<n:=Nat.pos_of_ne_zero h0
  refine zJ Tryz.func55 rfl rfl Tryz.ntmps55 rfl ?_
  repeat (first
   |refine vB [0,2] ?_
   | (refine rG 1 ?_
      refine vA ?_
      first|refine zBc rfl rfl rfl Tryz.underlying32 oM oM ?_|refine zBl rfl rfl rfl Tryz.underlying32 ?_|refine zBk rfl rfl rfl Tryz.underlying32 ?_
      refine aB ?_)
   | (refine rG 3 ?_
      refine xE2 ?_
      first|refine zAT zA rfl rfl rfl rfl rfl rfl rfl rfl rfl rfl oM oM ?_|refine zBj zA rfl rfl rfl rfl rfl rfl rfl rfl rfl rfl oM oM ?_
      refine vA ?_;refine aB ?_))
  refine⟨zC 8 [(2,.c (.ls n 4 F))] [] [],[],Wk.mk [] rfl rfl rfl ⟨⟨_,rfl,LeA.c (zZ rfl rfl rfl (fun i hi j hj=>⟨rfl,hF i hi j hj⟩))⟩,trivial⟩ trivial,rfl,rfl,aR1⟩
theorem zOD(n:Nat)(F:Nat→Nat→CV)(hF:∀k,k<n→∀j,j<3→zM (F k j)=true)(hn:n≤1000000):ACalls Tryz.prog 75 [.c (.ls n 3 F)] (.c (.ls n 3 F)):=by
 by_cases h0:n=0
 ·subst h0
  refine zJ Tryz.func75 rfl rfl Tryz.ntmps75 rfl ?_;refine zEc (t:=0) rfl fun A cap=> ?_
  refine AWp.weak (S':=zC 8 [(0,.c (.p (.slice A 0 cap)))] [] []) (Wk.mk [] rfl rfl rfl ⟨⟨_,rfl,.c (LeC.refl _ rfl)⟩,trivial⟩ trivial) ?_
  cases A with
  | none=>
    repeat (first
     |refine vB [0,2] ?_
     | (refine rG 1 ?_
        refine vA ?_
        first|refine zBc rfl rfl rfl Tryz.underlying31 oM oM ?_|refine zBl rfl rfl rfl Tryz.underlying31 ?_|refine zBk rfl rfl rfl Tryz.underlying31 ?_
        refine aB ?_)
     | (refine rG 3 ?_
        refine xE2 ?_
        first|refine zAT zA rfl rfl rfl rfl rfl rfl rfl rfl rfl rfl oM oM ?_|refine zBj zA rfl rfl rfl rfl rfl rfl rfl rfl rfl rfl oM oM ?_
        refine vA ?_;refine aB ?_))
    refine⟨zC 8 [(2,.c (.ls 0 3 F))] [] [],[],Wk.mk [] rfl rfl rfl ⟨⟨_,rfl,LeA.c (LeC.nils _ _)⟩,trivial⟩ trivial,rfl,rfl,aR1⟩
  | some ad=>
    repeat (first
     |refine vB [0,2] ?_
     | (refine rG 1 ?_
        refine vA ?_
        first|refine zBc rfl rfl rfl Tryz.underlying31 oM oM ?_|refine zBl rfl rfl rfl Tryz.underlying31 ?_|refine zBk rfl rfl rfl Tryz.underlying31 ?_
        refine aB ?_)
     | (refine rG 3 ?_
        refine xE2 ?_
        first|refine zAT zA rfl rfl rfl rfl rfl rfl rfl rfl rfl rfl oM oM ?_|refine zBj zA rfl rfl rfl rfl rfl rfl rfl rfl rfl rfl oM oM ?_
        refine vA ?_;refine aB ?_))
    refine⟨zC 8 [(2,.c (.ls 0 3 F))] [] [],[],Wk.mk [] rfl rfl rfl ⟨⟨_,rfl,LeA.c (zZ rfl rfl rfl (fun i hi=>absurd hi (Nat.not_lt_zero _)))⟩,trivial⟩ trivial,rfl,rfl,aR1⟩
 ·have h0:0<n:=Nat.pos_of_ne_zero h0
  refine zJ Tryz.func75 rfl rfl Tryz.ntmps75 rfl ?_
  repeat (first
   |refine vB [0,2] ?_
   | (refine rG 1 ?_
      refine vA ?_
      first|refine zBc rfl rfl rfl Tryz.underlying31 oM oM ?_|refine zBl rfl rfl rfl Tryz.underlying31 ?_|refine zBk rfl rfl rfl Tryz.underlying31 ?_
      refine aB ?_)
   | (refine rG 3 ?_
      refine xE2 ?_
      first|refine zAT zA rfl rfl rfl rfl rfl rfl rfl rfl rfl rfl oM oM ?_|refine zBj zA rfl rfl rfl rfl rfl rfl rfl rfl rfl rfl oM oM ?_
      refine vA ?_;refine aB ?_))
  refine⟨zC 8 [(2,.c (.ls n 3 F))] [] [],[],Wk.mk [] rfl rfl rfl ⟨⟨_,rfl,LeA.c (zZ rfl rfl rfl (fun i hi j hj=>⟨rfl,hF i hi j hj⟩))⟩,trivial⟩ trivial,rfl,rfl,aR1⟩
theorem zOC(n:Nat)(F:Nat→Nat→CV)(hF:∀k,k<n→∀j,j<1→zM (F k j)=true)(hn:n≤1000000):ACalls Tryz.prog 76 [.c (.ls n 1 F)] (.c (.ls n 1 F)):=by
 by_cases h0:n=0
 ·subst h0
  refine zJ Tryz.func76 rfl rfl Tryz.ntmps76 rfl ?_;refine zEc (t:=0) rfl fun A cap=> ?_
  refine AWp.weak (S':=zC 8 [(0,.c (.p (.slice A 0 cap)))] [] []) (Wk.mk [] rfl rfl rfl ⟨⟨_,rfl,.c (LeC.refl _ rfl)⟩,trivial⟩ trivial) ?_
  cases A with
  | none=>
    repeat (first
     |refine vB [0,2] ?_
     | (refine rG 1 ?_
        refine vA ?_
        first|refine zBc rfl rfl rfl Tryz.underlying56 oM oM ?_|refine zBl rfl rfl rfl Tryz.underlying56 ?_|refine zBk rfl rfl rfl Tryz.underlying56 ?_
        refine aB ?_)
     | (refine rG 3 ?_
        refine xE2 ?_
        first|refine zAT zA rfl rfl rfl rfl rfl rfl rfl rfl rfl rfl oM oM ?_|refine zBj zA rfl rfl rfl rfl rfl rfl rfl rfl rfl rfl oM oM ?_
        refine vA ?_;refine aB ?_))
    refine⟨zC 8 [(2,.c (.ls 0 1 F))] [] [],[],Wk.mk [] rfl rfl rfl ⟨⟨_,rfl,LeA.c (LeC.nils _ _)⟩,trivial⟩ trivial,rfl,rfl,aR1⟩
  | some ad=>
    repeat (first
     |refine vB [0,2] ?_
     | (refine rG 1 ?_
        refine vA ?_
        first|refine zBc rfl rfl rfl Tryz.underlying56 oM oM ?_|refine zBl rfl rfl rfl Tryz.underlying56 ?_|refine zBk rfl rfl rfl Tryz.underlying56 ?_
        refine aB ?_)
     | (refine rG 3 ?_
        refine xE2 ?_
        first|refine zAT zA rfl rfl rfl rfl rfl rfl rfl rfl rfl rfl oM oM ?_|refine zBj zA rfl rfl rfl rfl rfl rfl rfl rfl rfl rfl oM oM ?_
        refine vA ?_;refine aB ?_))
    refine⟨zC 8 [(2,.c (.ls 0 1 F))] [] [],[],Wk.mk [] rfl rfl rfl ⟨⟨_,rfl,LeA.c (zZ rfl rfl rfl (fun i hi=>absurd hi (Nat.not_lt_zero _)))⟩,trivial⟩ trivial,rfl,rfl,aR1⟩
 ·have h0:0<n:=Nat.pos_of_ne_zero h0
  refine zJ Tryz.func76 rfl rfl Tryz.ntmps76 rfl ?_
  repeat (first
   |refine vB [0,2] ?_
   | (refine rG 1 ?_
      refine vA ?_
      first|refine zBc rfl rfl rfl Tryz.underlying56 oM oM ?_|refine zBl rfl rfl rfl Tryz.underlying56 ?_|refine zBk rfl rfl rfl Tryz.underlying56 ?_
      refine aB ?_)
   | (refine rG 3 ?_
      refine xE2 ?_
      first|refine zAT zA rfl rfl rfl rfl rfl rfl rfl rfl rfl rfl oM oM ?_|refine zBj zA rfl rfl rfl rfl rfl rfl rfl rfl rfl rfl oM oM ?_
      refine vA ?_;refine aB ?_))
  refine⟨zC 8 [(2,.c (.ls n 1 F))] [] [],[],Wk.mk [] rfl rfl rfl ⟨⟨_,rfl,LeA.c (zZ rfl rfl rfl (fun i hi j hj=>⟨rfl,hF i hi j hj⟩))⟩,trivial⟩ trivial,rfl,rfl,aR1⟩
theorem zHQ(n:Nat)(F:Nat→Nat→CV)(hF:∀k,k<n→∀j,j<1→zM (F k j)=true)(hn:n≤1000000):ACalls Tryz.prog 30 [.c (.ls n 1 F)] (.c (.ls n 1 F)):=by
 by_cases h0:n=0
 ·subst h0
  refine zJ Tryz.func30 rfl rfl Tryz.ntmps30 rfl ?_;refine zEc (t:=0) rfl fun A cap=> ?_
  refine AWp.weak (S':=zC 8 [(0,.c (.p (.slice A 0 cap)))] [] []) (Wk.mk [] rfl rfl rfl ⟨⟨_,rfl,.c (LeC.refl _ rfl)⟩,trivial⟩ trivial) ?_
  cases A with
  | none=>
    repeat (first
     |refine vB [0,2] ?_
     | (refine rG 1 ?_
        refine vA ?_
        first|refine zBc rfl rfl rfl Tryz.underlying23 oM oM ?_|refine zBl rfl rfl rfl Tryz.underlying23 ?_|refine zBk rfl rfl rfl Tryz.underlying23 ?_
        refine aB ?_)
     | (refine rG 3 ?_
        refine xE2 ?_
        first|refine zAT zA rfl rfl rfl rfl rfl rfl rfl rfl rfl rfl oM oM ?_|refine zBj zA rfl rfl rfl rfl rfl rfl rfl rfl rfl rfl oM oM ?_
        refine vA ?_;refine aB ?_))
    refine⟨zC 8 [(2,.c (.ls 0 1 F))] [] [],[],Wk.mk [] rfl rfl rfl ⟨⟨_,rfl,LeA.c (LeC.nils _ _)⟩,trivial⟩ trivial,rfl,rfl,aR1⟩
  | some ad=>
    repeat (first
     |refine vB [0,2] ?_
     | (refine rG 1 ?_
        refine vA ?_
        first|refine zBc rfl rfl rfl Tryz.underlying23 oM oM ?_|refine zBl rfl rfl rfl Tryz.underlying23 ?_|refine zBk rfl rfl rfl Tryz.underlying23 ?_
        refine aB ?_)
     | (refine rG 3 ?_
        refine xE2 ?_
        first|refine zAT zA rfl rfl rfl rfl rfl rfl rfl rfl rfl rfl oM oM ?_|refine zBj zA rfl rfl rfl rfl rfl rfl rfl rfl rfl rfl oM oM ?_
        refine vA ?_;refine aB ?_))
    refine⟨zC 8 [(2,.c (.ls 0 1 F))] [] [],[],Wk.mk [] rfl rfl rfl ⟨⟨_,rfl,LeA.c (zZ rfl rfl rfl (fun i hi=>absurd hi (Nat.not_lt_zero _)))⟩,trivial⟩ trivial,rfl,rfl,aR1⟩
 ·have h0:0<n:=Nat.pos_of_ne_zero h0
  refine zJ Tryz.func30 rfl rfl Tryz.ntmps30 rfl ?_
  repeat (first
   |refine vB [0,2] ?_
   | (refine rG 1 ?_
      refine vA ?_
      first|refine zBc rfl rfl rfl Tryz.underlying23 oM oM ?_|refine zBl rfl rfl rfl Tryz.underlying23 ?_|refine zBk rfl rfl rfl Tryz.underlying23 ?_
      refine aB ?_)
   | (refine rG 3 ?_
      refine xE2 ?_
      first|refine zAT zA rfl rfl rfl rfl rfl rfl rfl rfl rfl rfl oM oM ?_|refine zBj zA rfl rfl rfl rfl rfl rfl rfl rfl rfl rfl oM oM ?_
      refine vA ?_;refine aB ?_))
  refine⟨zC 8 [(2,.c (.ls n 1 F))] [] [],[],Wk.mk [] rfl rfl rfl ⟨⟨_,rfl,LeA.c (zZ rfl rfl rfl (fun i hi j hj=>⟨rfl,hF i hi j hj⟩))⟩,trivial⟩ trivial,rfl,rfl,aR1⟩
theorem zOE(n:Nat)(F:Nat→Nat→CV)(hF:∀k,k<n→∀j,j<3→zM (F k j)=true)(h0:0<n)(hn:n≤1000000):zCg Tryz.prog 75 [.c (.ls n 3 F)] [] (.c (.ow 900)) [] [⟨true,n,3,58,F⟩]:=by
 refine zBw Tryz.func75 rfl rfl Tryz.ntmps75 rfl ?_
 repeat (first
  |refine vB [0,2] ?_
  | (refine rG 1 ?_
     refine vA ?_
     first|refine zBc rfl rfl rfl Tryz.underlying31 oM oM ?_|refine zBl rfl rfl rfl Tryz.underlying31 ?_|refine zBk rfl rfl rfl Tryz.underlying31 ?_
     refine aB ?_)
  | (refine rG 3 ?_
     refine xE2 ?_
     first|refine zAT zA rfl rfl rfl rfl rfl rfl rfl rfl rfl rfl oM oM ?_|refine zBj zA rfl rfl rfl rfl rfl rfl rfl rfl rfl rfl oM oM ?_
     refine vA ?_;refine aB ?_))
 refine⟨zC 8 [(2,.c (.ow 900))] [(900,⟨true,n,3,58,F⟩)] [900],[],_,[],[⟨true,n,3,58,F⟩],⟨rfl,rfl,rfl⟩,rfl,Wk.mk [(900,some 7)] rfl rfl rfl ?_ ?_,rfl,rfl,GRets.one (x:=.c _) (GRes.tmp rfl)⟩
 ·exact zB
 ·exact⟨.inr ⟨7,n,_,.inl rfl,rfl,rfl,fun i hi j hj=>LeC.refl _ (hF i hi j hj)⟩,trivial⟩
end Go.Proofs.YtbffmfeldkjkcaaGreat
end
