/- Parts of the proof: BmHas, A24j, A24k. -/
import Derived.Test.YtbffmfeldkjkcaaGreatG15
set_option linter.unusedSimpArgs false
set_option linter.unusedVariables false
set_option maxHeartbeats 0
set_option maxRecDepth 100000
section
namespace Go.Proofs.YtbffmfeldkjkcaaGreat
open Go.RowKit Go.Flow Go.Plain
open Go.Proofs
attribute [local go_sem] zBu
attribute [local go_sem ↓] Go.wp_at_zero Go.wp_at_succ

theorem zQE(W H:Int)(A:Option Addr)(n c:Nat)(dot:Nat→Bool)(x y:Int)(w:World)(hok:chk W H n=0)(hA:zFj w A n dot):
 Calls Tryz.prog 118 #[bmp W H A n c,.agg #[.int .i64 x,.int .i64 y]] w fun e w'=>e=.returned (.bool (zAu W H dot x y))∧Ext w w':=by
 have hE:=Lib.hid (((Ext.refl w).alloc (.cells #[.int .i64 W,.int .i64 H,.slice A n c] 58)).alloc (.cells #[.int .i64 x,.int .i64 y] 180));have hk:=okB hok;clear hok;by_cases h1:0≤x
 ·by_cases h2:x<W
  ·by_cases h3:0≤y
   ·by_cases h4:y<H
    ·have hp0:0≤y*W:=Int.mul_nonneg h3 xD
     have hp1:y*W+W≤W*H:=by
      have:(y+1)*W≤H*W:=Int.mul_le_mul_of_nonneg_right xD xD;rw[Int.add_mul,Int.mul_comm H W]at this
      omega
     have hbd:=zFu ⟨hk.1,hk.2.1⟩ ⟨hk.2.2.1,hk.2.2.2.1⟩
     obtain⟨hk1,hk2,hk3,hk4,hk5⟩:=hk
     have hlt:y*W+x<n:=by omega
     have hub:n≤9216:=by omega
     have e0:zAu W H dot x y=dot (y*W+x).toNat:=by unfold zAu;rw[if_pos ⟨h1,h2,h3,h4⟩]
     rw[e0];clear hk5 hbd hp1 e0
     obtain⟨m,hm⟩:∃m:Nat,y*W+x=m:=⟨(y*W+x).toNat,by omega⟩
     have hmn:m<n:=by omega
     obtain⟨ad,rfl,hc⟩:=hA.ext hE.out m hmn
     have hw1:IntKind.i64.wrap (y*W)=y*W:=by rw[IntKind.wrap_i64];omega
     have hw2:IntKind.i64.wrap (y*W+x)=m:=by rw[IntKind.wrap_i64];omega
     have hmn':(m:Int)<n:=by omega
     have e1:(y*W+x).toNat=m:=by omega
     rw[e1];clear e1 hm hlt
     go_enter Tryz.func118,Tryz.ntmps118
     go_wp2_with fail
     go_ret
     exact⟨rfl,hE.out⟩
    ·have e0:zAu W H dot x y=false:=by unfold zAu;rw[if_neg xD]
     rw[e0];clear e0 hk
     go_enter Tryz.func118,Tryz.ntmps118
     go_wp2_with fail
     go_ret
     exact⟨rfl,hE.out⟩
   ·have e0:zAu W H dot x y=false:=by unfold zAu;rw[if_neg xD]
    rw[e0];clear e0 hk
    go_enter Tryz.func118,Tryz.ntmps118
    go_wp2_with fail
    go_ret
    exact⟨rfl,hE.out⟩
  ·have e0:zAu W H dot x y=false:=by unfold zAu;rw[if_neg xD]
   rw[e0];clear e0 hk
   go_enter Tryz.func118,Tryz.ntmps118
   go_wp2_with fail
   go_ret
   exact⟨rfl,hE.out⟩
 ·have e0:zAu W H dot x y=false:=by unfold zAu;rw[if_neg xD]
  rw[e0];clear e0 hk
  go_enter Tryz.func118,Tryz.ntmps118
  go_wp2_with fail
  go_ret
  exact⟨rfl,hE.out⟩
end Go.Proofs.YtbffmfeldkjkcaaGreat
end
section
namespace Go.Proofs.YtbffmfeldkjkcaaGreat
open Go.RowKit Go.Flow Go.AV Go.Plain
def zBv(a b:Bp):Prop:=chk a.W a.H a.n=0∧chk b.W b.H b.n=0∧a.W=b.W∧a.H=b.H
instance(a b:Bp):Decidable (zBv a b):=by unfold zBv;infer_instance
theorem zQD(W H:Int)(n:Nat)(dot:Nat→Bool)(x y:Int)(hok:chk W H n=0):ACalls Tryz.prog 118 [.ag (zAz W H n dot),.ag [iC x,iC y]] (.c (bC (zAu W H dot x y))):=
 zFc rfl fun O w vals h=>by
  obtain⟨b,p,rfl,h1,h2⟩:=zLa h
  obtain⟨A,c,rfl,-,hA⟩:=zF3 h1
  obtain⟨vs,rfl,hv⟩:=h2
  obtain⟨u,v,rfl,g1,g2⟩:∃u v,vs= [u,v]∧RepC (fun _=>none) O w (iC x) u∧RepC (fun _=>none) O w (iC y) v:=by
   match vs,hv with
   | [u,v],h=>exact⟨u,v,rfl,h.1,h.2.1⟩
   | [],h=>exact h.elim
   | [_],h=>exact h.2.elim
   |_::_::_::_,h=>exact h.2.2.elim
  cases zDk g1
  cases zDk g2
  exact zQE W H A n c dot x y w hok hA
theorem zLc(W H:Int)(n:Nat)(dot:Nat→Bool)(x y:Int)(hok:chk W H n=0):ACalls Tryz.prog 108 [.ag (zAz W H n dot),.c (iC x),.c (iC y)] (.c (bC (zAu W H dot x y))):=by
 have h1:=zFv W H n dot;rw[hok]at h1;have h2:=zQD W H n dot x y hok;refine zJ Tryz.func108 rfl rfl Tryz.ntmps108 rfl ?_
 repeat (first
  |refine vB [0] ?_
  | (refine rG 1 ?_
     refine vA ?_;refine xB Tryz.func51 h1 ?_;refine xE6 ?_;refine xB Tryz.func118 h2 ?_;refine xE2 ?_;refine aB ?_))
 refine⟨zC 17 [(6,.c (bC (zAu W H dot x y)))] [] [],[],Wk.mk [] rfl rfl rfl ?_ trivial,rfl,rfl,aR1⟩
 exact zB
theorem zPl(a b:Bp):ACalls Tryz.prog 92 [.ag (bpC a),.ag (bpC b)] (.c (bC (decide (zBv a b)))):=by
 have h1:=zFv a.W a.H a.n a.d;have h2:=zFv b.W b.H b.n b.d;by_cases c1:chk a.W a.H a.n=0
 ·by_cases c2:chk b.W b.H b.n=0
  ·by_cases c3:a.W=b.W
   ·by_cases c4:a.H=b.H
    ·rw [show decide (zBv a b)=true from decide_eq_true ⟨c1,c2,c3,c4⟩]
     refine zJ Tryz.func92 rfl rfl Tryz.ntmps92 rfl ?_
     repeat (first
      |refine vB [0] ?_
      | (refine rG 1 ?_
         refine vA ?_;refine xB Tryz.func51 h1 ?_;refine xE3 ?_;refine xB Tryz.func51 h2 ?_
         (iterate 17 refine vA ?_);refine aB ?_))
     refine⟨zC 27 [(4,.c (bC true))] [] [],[],Wk.mk [] rfl rfl rfl ?_ trivial,rfl,rfl,aR1⟩
     exact zB
    ·rw [show decide (zBv a b)=false from decide_eq_false fun h=>c4 h.2.2.2]
     refine zJ Tryz.func92 rfl rfl Tryz.ntmps92 rfl ?_
     repeat (first
      |refine vB [0] ?_
      | (refine rG 1 ?_
         refine vA ?_;refine xB Tryz.func51 h1 ?_;refine xE3 ?_;refine xB Tryz.func51 h2 ?_
         (iterate 17 refine vA ?_);refine aB ?_))
     refine⟨zC 27 [(4,.c (bC false))] [] [],[],Wk.mk [] rfl rfl rfl ?_ trivial,rfl,rfl,aR1⟩
     exact zB
   ·rw [show decide (zBv a b)=false from decide_eq_false fun h=>c3 h.2.2.1]
    refine zJ Tryz.func92 rfl rfl Tryz.ntmps92 rfl ?_
    repeat (first
     |refine vB [0] ?_
     | (refine rG 1 ?_
        refine vA ?_;refine xB Tryz.func51 h1 ?_;refine xE3 ?_;refine xB Tryz.func51 h2 ?_
        (iterate 17 refine vA ?_);refine aB ?_))
    refine⟨zC 27 [(4,.c (bC false))] [] [],[],Wk.mk [] rfl rfl rfl ?_ trivial,rfl,rfl,aR1⟩
    exact zB
  ·rw [show decide (zBv a b)=false from decide_eq_false fun h=>c2 h.2.1]
   refine zJ Tryz.func92 rfl rfl Tryz.ntmps92 rfl ?_
   repeat (first
    |refine vB [0] ?_
    | (refine rG 1 ?_
       refine vA ?_;refine xB Tryz.func51 h1 ?_;refine xE3 ?_;refine xB Tryz.func51 h2 ?_
       (iterate 17 refine vA ?_);refine aB ?_))
   refine⟨zC 27 [(4,.c (bC false))] [] [],[],Wk.mk [] rfl rfl rfl ?_ trivial,rfl,rfl,aR1⟩
   exact zB
 ·rw [show decide (zBv a b)=false from decide_eq_false fun h=>c1 h.1]
  refine zJ Tryz.func92 rfl rfl Tryz.ntmps92 rfl ?_
  repeat (first
   |refine vB [0] ?_
   | (refine rG 1 ?_
      refine vA ?_;refine xB Tryz.func51 h1 ?_
      (iterate 21 refine vA ?_);refine aB ?_))
  refine⟨zC 27 [(4,.c (bC false))] [] [],[],Wk.mk [] rfl rfl rfl ?_ trivial,rfl,rfl,aR1⟩
  exact zB
def alB(a b:Bp)(dx dy:Int)(j i:Nat):Bool:=zAu a.W a.H a.d i j && !zAu b.W b.H b.d ((i:Int)-dx) ((j:Int)-dy)
def onB(a b:Bp)(dx dy fr ti:Int)(j i:Nat):Bool:=zAu a.W a.H a.d i j && (decide ((i:Int)<fr)||decide (ti≤(i:Int))) && !zAu b.W b.H b.d ((i:Int)-dx) ((j:Int)-dy)
def zB5(a b:Bp)(dx dy fr ti:Int):Int:=zAi (fun j=>cnt (onB a b dx dy fr ti j) a.W.toNat) a.H.toNat
structure Cl where
 dx:Int
 dy:Int
 col:Int
 deriving DecidableEq
abbrev clC(c:Cl):List CV:= [iC c.dx,iC c.dy,iC c.col]
abbrev clZ:Cl:=⟨0,0,0⟩
def stN(w:Int)(x y:Bg):Int:=min (w+8) (max (zAk x).st (zAk y).st)
theorem zE3{w:Int}(x y:Bg)(h:0≤w):0≤stN w x y∧stN w x y≤16∧stN w x y≤w+8:=by
 have h1:=zB2 x;have h2:=zB2 y;unfold stN
 omega
def ovN(x y:Bg)(m n:Int):Int:=max (m-(zAk x).lo-(zAk y).bl) (n-(zAk y).lo-(zAk x).bl)
def xsV(a b:Bp)(x y:Bg)(c:Cl):Int:=
 ovN x y (zB5 a b c.dx c.dy c.col (c.col+stN a.W x y)) (zB5 b a (-c.dx) (-c.dy) (c.col-c.dx) (c.col-c.dx+stN a.W x y))
def alI(m:Nat)(d:Int×Int)(k:Nat):List Cl:=(List.range k).map fun (i:Nat)=>⟨d.1,d.2,(i:Int)-4⟩
def alM(w:Int)(x y:Bg):Nat:=(w+9-stN w x y).toNat
def alK(w:Int)(x y:Bg)(L:List (Int×Int)):List Cl:=L.flatMap fun d=>alI 0 d (alM w x y)
def alL(w:Int)(x y:Bg):List Cl:=alK w x y (shL (shN x y))
theorem zNR{m:Nat}{k:Nat}(hk:k<(shL m).length):(-(m:Int)≤((shL m).getD k mvZ).1∧((shL m).getD k mvZ).1≤m)∧-(m:Int)≤((shL m).getD k mvZ).2∧((shL m).getD k mvZ).2≤m:=by
 have:(shL m).getD k mvZ∈shL m:=by
  rw[List.getD_eq_getElem?_getD,List.getElem?_eq_getElem hk];exact List.getElem_mem hk
 generalize (shL m).getD k mvZ=p at this;unfold shL shS shM shJ at this
 simp only[List.mem_flatMap,List.mem_range]at this
 obtain⟨s,hs,i,hi,j,hj,hp⟩:=this
 split at hp
 ·obtain rfl:p=_:=by simpa using hp
  dsimp only
  omega
 ·simp at hp
end Go.Proofs.YtbffmfeldkjkcaaGreat
end
