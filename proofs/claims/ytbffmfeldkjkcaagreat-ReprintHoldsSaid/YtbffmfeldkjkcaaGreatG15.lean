/- Parts of the proof: ACv, A23t, A23v. -/
import Derived.Test.YtbffmfeldkjkcaaGreatG14
set_option linter.unusedSimpArgs false
set_option linter.unusedVariables false
set_option maxHeartbeats 0
section
namespace Go.AV
open Go Go.RowKit Go.Flow
section
variable{P:Program}
def Cv(x y:CV):Prop:=∀(σ:Nat→Option Value) (O:Nat→Prop) (w:World) (u:Value),RepC σ O w x u→RepC σ O w y u
theorem Cv.refl(x:CV):Cv x x:=fun _ _ _ _ h=>h
theorem zHR{n:Nat}{l:List CV}{G:Nat→Nat→CV}(h:(k:Nat)→k<n→sF l 1 k 0=G k 0):Cv (.ls n 1 (sF l 1)) (.ls n 1 G):=fun σ O w u hu=>by
 refine⟨hu.1,zEh (fun k hk j hj=> ?_) hu.2⟩
 obtain rfl:j=0:=by omega
 exact h k hk
theorem Cv.nil{sz:Nat}{F:Nat→Nat→CV}:Cv (.p (.slice none 0 0)) (.ls 0 sz F):=fun σ O w u hu=>by
 obtain rfl:u=.slice none 0 0:=hu.2;exact zMW
inductive CvV:V1→V1→Prop
 |c {x y:CV} (h:Cv x y):CvV (.c x) (.c y)
 |ag {l m:List CV} (h:LeL Cv l m):CvV (.ag l) (.ag m)
theorem CvV.rep{x y:V1}(h:CvV x y){σ:Nat→Option Value}{O:Nat→Prop}{w:World}{u:Value}(hu:RepV σ O w x u):RepV σ O w y u:=by
 cases h with
 |c h=>exact h _ _ _ _ hu
 | ag h=>
   obtain⟨vs,e,hv⟩:=hu
   exact⟨vs,e,h.get (fun _ _ _ h1 h2=>h1 _ _ _ _ h2) hv⟩
theorem CvL.rep:∀{l m:List V1},LeL CvV l m→∀{σ:Nat→Option Value} {O:Nat→Prop} {w:World} {us:List Value},RepL (RepV σ O w) l us→RepL (RepV σ O w) m us
 | [],[],_,_,_,_,[],_=>trivial
 |x::l,y::m,h,_,_,_,u::us,hu=>⟨h.1.rep hu.1,CvL.rep h.2 hu.2⟩
 | [],_::_,h,_,_,_,_,_=>h.elim
 |_::_,[],h,_,_,_,_,_=>h.elim
 | [],[],_,_,_,_,_::_,hu=>hu.elim
 |_::_,_::_,_,_,_,_,[],hu=>hu.elim
theorem ACalls.cv{f:FuncId}{args args':List V1}{r:AV}(h:ACalls P f args r)(hc:LeL CvV args' args):ACalls P f args' r:=h.conv fun _ _ _ _ hv=>CvL.rep hc hv
end
end Go.AV
end
section
namespace Go.Proofs.YtbffmfeldkjkcaaGreat
open Go.RowKit Go.Flow Go.AV Go.Plain
instance:DecidableEq Mc:=fun r s=>
 if h:r.dx=s.dx∧r.dy=s.dy∧r.lo=s.lo∧r.bl=s.bl then isTrue (by cases r;cases s;simp_all)else isFalse fun e=>h (by subst e;exact⟨rfl,rfl,rfl,rfl⟩)
def InvL(n:Nat)(px:Nat→Int)(kind:Int)(k:Nat)(L:List Int):Prop:=zJg n px (fun i=>L.getD i 0) kind L.length=true∧∀a∈L,a<(k:Int)
theorem InvL.nil{n:Nat}{px:Nat→Int}{kind:Int}{k:Nat}:InvL n px kind k []:=⟨mkAll_iff.2 fun i hi=>absurd hi (Nat.not_lt_zero _),fun a h=>by simp at h⟩
theorem InvL.up{n:Nat}{px:Nat→Int}{kind:Int}{k:Nat}{L:List Int}(h:InvL n px kind k L):InvL n px kind (k+1) L:=⟨h.1,fun a ha=>by have:=h.2 a ha;omega⟩
theorem InvL.snoc{n:Nat}{px:Nat→Int}{kind:Int}{k:Nat}{L:List Int}(h:InvL n px kind k L)(hk:k<n)(hp:px k=kind):InvL n px kind (k+1) (L++ [(k:Int)]):=by
 have hl:=mkAll_iff.1 h.1;have g1:∀i,i<L.length→(L++ [(k:Int)]).getD i 0=L.getD i 0:=fun i hi=>by rw[zGX,if_pos hi]
 have g2:(L++ [(k:Int)]).getD L.length 0=(k:Int):=by rw[zGX,if_neg (Nat.lt_irrefl _),Nat.sub_self];rfl
 refine⟨mkAll_iff.2 fun i hi=> ?_,fun a ha=> ?_⟩
 ·have hi':i<L.length+1:=by simpa using hi
  by_cases e:i<L.length
  ·obtain⟨q1,q2,q3,q4⟩:=hl i e
   unfold zER;dsimp only;rw[g1 i e]
   refine⟨q1,q2,fun h0=> ?_,q4⟩
   rw[g1 (i-1) xD];exact q3 h0
  ·obtain rfl:i=L.length:=by omega
   unfold zER;dsimp only;rw[g2]
   refine⟨by omega,by omega,fun h0=> ?_,by rw[Int.toNat_natCast];exact hp⟩
   rw[g1 _ xD];refine h.2 _ ?_;rw[List.getD_eq_getElem?_getD,List.getElem?_eq_getElem xD];exact List.getElem_mem _
 ·rcases List.mem_append.1 ha with ha|ha
  ·have:=h.2 a ha;omega
  ·obtain rfl:=List.mem_singleton.1 ha
   omega
end Go.Proofs.YtbffmfeldkjkcaaGreat
end
