/- Parts of the proof: A01. -/
import Derived.Test.YtbffmfeldkjkcaaGreatG09
set_option linter.unusedSimpArgs false
set_option linter.unusedVariables false
set_option maxHeartbeats 0
set_option maxRecDepth 100000
section
namespace Go.Proofs.YtbffmfeldkjkcaaGreat
open Go.RowKit Go.Flow Go.AV
theorem zDb(n m:Int)(hm:0<m)(hM:m≤1000000):ACalls Tryz.prog 12 [.c (iC n),.c (iC m)] (.c (iC (n%m))):=
 zFc rfl fun O w vals h=>by
  obtain⟨x,y,rfl,h1,h2⟩:=zLa h
  cases zDk h1
  cases zDk h2
  exact(zOT n m hm hM w).mono fun e w' ⟨a,b⟩=>⟨a,b▸Ext.refl w⟩
abbrev zAV(N:Nat)(f:Nat→Int)(a:Nat):AB:=⟨false,1,2,98,lF [.ls N 1 (iF f),iC a]⟩
theorem zCR(N:Nat)(f:Nat→Int)(a:Nat)(m:Int)(ha:a≤N)(hN:N≤4611686018427387904)(hm:0<m)(hM:m≤1000000):
 HCalls Tryz.prog 44 [.c (.pt 1000 2 0 0),.c (iC m)] [(1000,zAV N f a)] (.c (iC (zBH N f a m))) [(1000,zAV N f (dat N a))]:=by
 by_cases hlt:a<N
 ·have e1:zBH N f a m=f a%m:=if_pos hlt
  have e2:dat N a=a+1:=if_pos hlt;rw[e1,e2];refine zDf Tryz.func44 rfl rfl Tryz.ntmps44 rfl rfl (fun p hp=>by cases hp with|head=>exact fun k j _ _=>zC0 rfl k j|tail _ h=>cases h) ?_
  repeat (first
   |refine vB [0,1,3] ?_
   |(refine AWp.draw (id:=4) zK ?_;refine xE9 ?_;refine zG (aP (k:=a) zA) ?_;refine xE2 ?_;refine aH rfl rfl rfl rfl Tryz.func12 rfl xC (zDb (f a) m hm hM) ?_;refine vA ?_;refine aB ⟨by kernel_rfl,?_⟩))
  refine⟨mkL 35 1 [(4,.c (iC (f a%m)))] [(1000,zAV N f (a+1))] [],[],zQ [] rfl rfl rfl rfl rfl ?_ ?_,rfl,rfl,aR1⟩
  ·exact zB
  ·exact zAf
 ·have e1:zBH N f a m=0:=if_neg hlt
  have e2:dat N a=a:=if_neg hlt;rw[e1,e2];refine zDf Tryz.func44 rfl rfl Tryz.ntmps44 rfl rfl (fun p hp=>by cases hp with|head=>exact fun k j _ _=>zC0 rfl k j|tail _ h=>cases h) ?_;refine vB [0,1,2] ?_
  refine⟨mkL 35 1 [(4,.c (iC 0))] [(1000,zAV N f a)] [],[],zQ [] rfl rfl rfl rfl rfl ?_ ?_,rfl,rfl,aR1⟩
  ·exact zB
  ·exact zAf
end Go.Proofs.YtbffmfeldkjkcaaGreat
end
