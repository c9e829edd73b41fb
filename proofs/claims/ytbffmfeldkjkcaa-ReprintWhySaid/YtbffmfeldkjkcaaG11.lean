/- Parts of the proof: A01. -/
import Derived.Test.YtbffmfeldkjkcaaG09
set_option linter.unusedSimpArgs false
set_option linter.unusedVariables false
set_option maxHeartbeats 0
set_option maxRecDepth 100000
section
namespace Go.Proofs.Ytbffmfeldkjkcaa
open Go.RowKit Go.Flow Go.AV
theorem zH5(n m:Int)(hm:0<m)(hM:m≤1000000):ACalls Try.prog 27 [.c (iC n),.c (iC m)] (.c (iC (n%m))):=
 zE0 rfl fun O w vals h=>by
  obtain⟨x,y,rfl,h1,h2⟩:=zIn h
  cases zDt h1
  cases zDt h2
  exact(zPm n m hm hM w).mono fun e w' ⟨a,b⟩=>⟨a,b▸Ext.refl w⟩
abbrev zAW(N:Nat)(f:Nat→Int)(a:Nat):AB:=⟨false,1,2,126,lF [.ls N 1 (iF f),iC a]⟩
theorem zCU(N:Nat)(f:Nat→Int)(a:Nat)(m:Int)(ha:a≤N)(hN:N≤4611686018427387904)(hm:0<m)(hM:m≤1000000):
 HCalls Try.prog 56 [.c (.pt 1000 2 0 0),.c (iC m)] [(1000,zAW N f a)] (.c (iC (zBK N f a m))) [(1000,zAW N f (dat N a))]:=by
 by_cases hlt:a<N
 ·have e1:zBK N f a m=f a%m:=if_pos hlt
  have e2:dat N a=a+1:=if_pos hlt;rw[e1,e2];refine zDl Try.func56 rfl rfl Try.ntmps56 rfl rfl (fun p hp=>by cases hp with|head=>exact fun k j _ _=>zC0 rfl k j|tail _ h=>cases h) ?_
  repeat (first
   |refine vB [0,1,3] ?_
   |(refine AWp.draw (id:=4) zL ?_;refine xE9 ?_;refine zG (aP (k:=a) zA) ?_;refine xE2 ?_;refine aH rfl rfl rfl rfl Try.func27 rfl xC (zH5 (f a) m hm hM) ?_;refine vA ?_;refine aB ⟨by kernel_rfl,?_⟩))
  refine⟨mkL 35 1 [(4,.c (iC (f a%m)))] [(1000,zAW N f (a+1))] [],[],zS [] rfl rfl rfl rfl rfl ?_ ?_,rfl,rfl,aR1⟩
  ·exact zC
  ·exact zAD
 ·have e1:zBK N f a m=0:=if_neg hlt
  have e2:dat N a=a:=if_neg hlt;rw[e1,e2];refine zDl Try.func56 rfl rfl Try.ntmps56 rfl rfl (fun p hp=>by cases hp with|head=>exact fun k j _ _=>zC0 rfl k j|tail _ h=>cases h) ?_;refine vB [0,1,2] ?_
  refine⟨mkL 35 1 [(4,.c (iC 0))] [(1000,zAW N f a)] [],[],zS [] rfl rfl rfl rfl rfl ?_ ?_,rfl,rfl,aR1⟩
  ·exact zC
  ·exact zAD
end Go.Proofs.Ytbffmfeldkjkcaa
end
