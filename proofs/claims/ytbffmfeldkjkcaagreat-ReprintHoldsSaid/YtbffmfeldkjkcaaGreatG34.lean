/- Parts of the proof: AFz, A28z. -/
import Derived.Test.YtbffmfeldkjkcaaGreatG33
set_option linter.unusedSimpArgs false
set_option linter.unusedVariables false
set_option maxHeartbeats 0
section
namespace Go.AV
open Go Go.RowKit Go.Flow
section
variable{P:Program}
def FzC(S:St)(rd:List Nat)(x y:CV):Prop:=
 (x=y∧zM y=true)∨∃(id n sz:Nat) (ty:TypeId) (F G:Nat→Nat→CV),x=.ow id∧y=.ls n sz G∧id∈rd∧S.h id=some ⟨true,n,sz,ty,F⟩∧∀k,k<n→∀j,j<sz→F k j=G k j∧zM (F k j)=true
section ops
variable{ops:Array Oper}{rest:List Oper}{acc:List (List Nat×List Nat)}{S:St}{Q:List (List Nat×List Nat)→St→Prop}{dst:Option Tmp}{ty:TypeId}{pos:String}{after:Array Edge}{guard:Option (Nat×Bool)}
end ops
end
end Go.AV
end
section
namespace Go.Proofs.YtbffmfeldkjkcaaGreat
open Go.RowKit Go.Flow Go.AV Go.Plain
theorem zQh{a b:List Int}(hl:a.length=b.length)(h:∀k,k<a.length→fI a k=fI b k):a=b:=by
 refine List.ext_getElem hl fun i h1 h2=> ?_
 have:=h i h1
 simpa[fI,List.getD_eq_getElem?_getD,h1,h2]using this
end Go.Proofs.YtbffmfeldkjkcaaGreat
end
