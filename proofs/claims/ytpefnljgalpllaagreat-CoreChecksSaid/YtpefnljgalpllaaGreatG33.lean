/- Parts of the proof: AFz, A28z. -/
import Derived.Test.YtpefnljgalpllaaGreatG32
set_option linter.unusedSimpArgs false
set_option linter.unusedVariables false
set_option maxHeartbeats 0
set_option maxRecDepth 100000
section
namespace Go.AV
open Go Go.RowKit Go.Flow
section
variable{P:Program}
def FzC(S:St)(rd:List Nat)(x y:CV):Prop:=
 (x=y∧zK y=true)∨∃(id n sz:Nat) (ty:TypeId) (F G:Nat→Nat→CV),x=.ow id∧y=.ls n sz G∧id∈rd∧S.h id=some ⟨true,n,sz,ty,F⟩∧∀k,k<n→∀j,j<sz→F k j=G k j∧zK (F k j)=true
section ops
variable{ops:Array Oper}{rest:List Oper}{acc:List (List Nat×List Nat)}{S:St}{Q:List (List Nat×List Nat)→St→Prop}{dst:Option Tmp}{ty:TypeId}{pos:String}{after:Array Edge}{guard:Option (Nat×Bool)}
end ops
end
end Go.AV
end
section
namespace Go.Proofs.YtpefnljgalpllaaGreat
open Go.RowKit Go.Flow Go.AV Go.Plain
theorem zQR{a b:List Int}(hl:a.length=b.length)(h:∀k,k<a.length→fI a k=fI b k):a=b:=by
 refine List.ext_getElem hl fun i h1 h2=> ?_
 have:=h i h1
 simpa[fI,List.getD_eq_getElem?_getD,h1,h2]using this
theorem zKV(a b:List Int)(ha:a.length≤4611686018427387904):ACalls Tryz.prog 12 [.c (lsI a),.c (lsI b)] (.c (bC (decide (a=b)))):=by
 obtain⟨v,hv⟩:∃v,decide (a=b)=v:=⟨_,rfl⟩
 rw[hv];refine zH Tryz.func12 rfl rfl Tryz.ntmps12 rfl ?_;by_cases hl:a.length=b.length
 ·have hl':((a.length:Nat):Int)=b.length:=by omega
  refine vB [0,1,3] ?_;refine AWp.round (fun k:Nat=>zC 26 [(0,.c (lsI a)),(1,.c (lsI b)),(5,.c (iC (k:Nat)))] [] []) (fun k=>k≤a.length∧∀i,i<k→fI a i=fI b i) (fun k=>a.length-k) 0 ⟨Nat.zero_le _,fun _ h=>absurd h (Nat.not_lt_zero _)⟩ ?_ (fun k hk=> ?_)
  ·refine Wk.mk [] rfl rfl rfl ?_ trivial
   exact zB
  obtain⟨hk,hok⟩:=hk
  by_cases hkl:k<a.length
  ·have hkl':(k:Int)<a.length:=by omega
   by_cases he:fI a k=fI b k
   · -- ax 2 ref02.SameInts
     repeat (first
      |refine vB [4,5] ?_
      |(refine AWp.draw (id:=6) zI ?_;refine xE2 ?_;(first|refine zG (aP (k:=k) zA) ?_|refine zM (zL (k:=k) zA) ?_);refine xE3 ?_;(first|refine zG (aP (k:=k) zA) ?_|refine zM (zL (k:=k) zA) ?_);refine xE2 ?_;refine aB ⟨by kernel_rfl,?_⟩))
     refine⟨k+1,⟨hkl,fun i hi=> ?_⟩,Wk.mk [] rfl rfl rfl ?_ trivial,by omega⟩
     ·by_cases ei:i=k
      ·rw[ei];exact he
      ·exact hok i xD
     ·exact zB
   ·obtain rfl:v=false:=by rw[←hv];exact decide_eq_false fun e=>he (by rw[e])
    repeat (first
     |refine vB [4,7] ?_
     |(refine AWp.draw (id:=6) zI ?_;refine xE2 ?_;(first|refine zG (aP (k:=k) zA) ?_|refine zM (zL (k:=k) zA) ?_);refine xE3 ?_;(first|refine zG (aP (k:=k) zA) ?_|refine zM (zL (k:=k) zA) ?_);refine xE2 ?_;refine aB ⟨by kernel_rfl,?_⟩))
    refine⟨zC 26 [(4,.c (bC false))] [] [],[],Wk.mk [] rfl rfl rfl ?_ trivial,rfl,rfl,aR1⟩
    exact zB
  ·have hkl':¬(k:Int)<a.length:=by omega
   obtain rfl:k=a.length:=by omega
   obtain rfl:v=true:=by rw[←hv];exact decide_eq_true (zQR hl hok)
   refine vB [4,8] ?_
   refine⟨zC 26 [(4,.c (bC true))] [] [],[],Wk.mk [] rfl rfl rfl ?_ trivial,rfl,rfl,aR1⟩
   exact zB
 ·have hl':¬((a.length:Nat):Int)=b.length:=by omega
  obtain rfl:v=false:=by rw[←hv];exact decide_eq_false fun e=>hl (by rw[e])
  refine vB [0,1,2] ?_
  refine⟨zC 26 [(4,.c (bC false))] [] [],[],Wk.mk [] rfl rfl rfl ?_ trivial,rfl,rfl,aR1⟩
  exact zB
end Go.Proofs.YtpefnljgalpllaaGreat
end
