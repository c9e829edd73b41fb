/- Parts of the proof: A29n, A29o. -/
import Derived.Test.YtbffmfeldkjkcaaHA30yr01
set_option linter.unusedSimpArgs false
set_option linter.unusedVariables false
set_option maxHeartbeats 0
set_option maxRecDepth 100000
section
namespace Go.Proofs.Ytbffmfeldkjkcaa
open Go.RowKit Go.Flow Go.AV Go.Plain
theorem zRK(a b:Bp)(ha:chk a.W a.H a.n=0)(dx dy fr ti:Int):cnt (fun k=>a.d k && zGc b dx dy fr ti ((k:Int)%a.W) ((k:Int)/a.W)) a.n=zCr a b dx dy fr ti:=by
 obtain⟨h0,h1,h2,h3,hn⟩:=okB ha
 obtain⟨W,hW⟩:=Int.eq_ofNat_of_zero_le h0
 obtain⟨H,hH⟩:=Int.eq_ofNat_of_zero_le h2
 have hn':a.n=H*W:=by
  rw[hW,hH,←Int.natCast_mul,Int.ofNat_inj]at hn;rw[hn,Nat.mul_comm]
 rw[hn',zL2];unfold zCr;rw[hW,hH,Int.toNat_natCast,Int.toNat_natCast];refine zDw fun j hj=>zG7 fun i hi=> ?_
 have e:((j*W+i:Nat):Int)=(i:Int)+(W:Int)*j:=by
  rw[Int.natCast_add,Int.natCast_mul,Int.mul_comm];exact Int.add_comm _ _
 rw[e,Int.add_mul_emod_self_left,Int.add_mul_ediv_left _ _ xD,Int.emod_eq_of_lt xD xD,Int.ediv_eq_zero_of_lt xD xD,Int.zero_add];unfold zGc onB;have hh:zAq a.W a.H a.d i j=a.d (j*W+i):=by
  unfold zAq;rw[hW,hH,if_pos xD]
  congr 1
 rw[hh,Bool.and_assoc]
abbrev zNy(b:Bp)(dx dy fr ti:Int)(i:Nat):CV:= [pl1 (iC fr),pl1 (iC ti),plB b,pl1 (iC dx),pl1 (iC dy)].getD i .any
theorem zNB(a b:Bp)(dx dy fr ti:Int)(ha:chk a.W a.H a.n=0)(hb:chk b.W b.H b.n=0)(hx:-1000≤dx∧dx≤1000)(hy:-1000≤dy∧dy≤1000):
 ACalls Try.prog 103 [.ag (bpC a),.ag (bpC b),.c (iC dx),.c (iC dy),.c (iC fr),.c (iC ti)] (.c (iC (zCr a b dx dy fr ti))):=by
 have hC:=zE9 b.W b.H b.n b.d;rw[hb]at hC
 obtain⟨h0,h1,h2,h3,-⟩:=okB ha
 have hcount:=zQr a ha 111 5 (zNy b dx dy fr ti) (fun i hi=>by
  obtain rfl|rfl|rfl|rfl|rfl:i=0∨i=1∨i=2∨i=3∨i=4:=by omega
  all_goals rfl) (zGc b dx dy fr ti) (enters_of Try.func111 xC rfl) (fun x y a1 a2 a3 a4=>zRJ b hb dx dy fr ti x y hx hy ⟨a1,by omega⟩ ⟨a3,by omega⟩)
 rw[zRK a b ha]at hcount;refine zK Try.func103 rfl rfl Try.ntmps103 rfl ?_
 repeat (first
  |refine vB [0] ?_
  | (refine rG 1 ?_
     refine vA ?_;refine xB Try.func63 hC ?_;refine vA ?_;refine aB ?_))
 refine AWp.text ?_;refine AText.split 2 ?_;refine vA ?_;refine qr5 zC9 ?_;refine aB ?_;refine AText.weak (S':=zD 20 [(17,.ag (bpC a)),(18,.c (.fi 111 5 (zNy b dx dy fr ti)))] [] []) (Wk.mk [] rfl rfl rfl ?_ trivial) ?_
 ·refine⟨⟨_,rfl,.ag (zM8 rfl)⟩,⟨_,rfl,.c (LeC.fnI _ 5 _ _ (fun i hi=> ?_) (fun i hi=> ?_))⟩,trivial⟩
  all_goals
   obtain rfl|rfl|rfl|rfl|rfl:i=0∨i=1∨i=2∨i=3∨i=4:=by omega
  ·exact⟨trivial,rfl⟩
  ·exact⟨trivial,rfl⟩
  ·exact⟨trivial,rfl⟩
  ·exact⟨trivial,rfl⟩
  ·exact⟨trivial,rfl⟩
  ·exact zBq rfl rfl rfl rfl
  ·exact zBq rfl rfl rfl rfl
  ·exact zBq rfl rfl rfl rfl
  ·exact zBq rfl rfl rfl rfl
  ·exact zBq rfl rfl rfl rfl
 refine AText.all ?_;refine xB Try.func110 hcount ?_;refine vA ?_;refine aB ?_;refine vB [] ?_
 refine⟨zD 20 [(12,.c (iC (zCr a b dx dy fr ti)))] [] [],[],Wk.mk [] rfl rfl rfl ?_ trivial,rfl,rfl,aR1⟩
 exact zC
theorem zG4(n m:Int):ACalls Try.prog 109 [.c (iC n),.c (iC m)] (.c (iC (zDo n m))):=by
 refine zK Try.func109 rfl rfl Try.ntmps109 rfl ?_;refine vB [0,1] ?_
 refine⟨zD 9 [(4,.c (iC (max 0 (min n m))))] [] [],[],Wk.mk [] rfl rfl rfl ?_ trivial,rfl,rfl,aR1⟩
 exact zC
theorem zL1(x:Bg):ACalls Try.prog 102 [.ag (bgC x)] (.ag (bgC (zAb x))):=by
 have h1:=zG4 x.lo 200;have h2:=zG4 x.bl 200;have h3:=zG4 x.sh 2;have h4:=zG4 x.st 16;refine zK Try.func102 rfl rfl Try.ntmps102 rfl ?_
 repeat (first
  |refine vB [0,1] ?_
  |(refine AWp.draw (id:=2) zL ?_;refine xE3 ?_;refine zBu rfl rfl rfl rfl rfl Try.func109 rfl xC (h1) ?_;refine xE3 ?_;refine zBu rfl rfl rfl rfl rfl Try.func109 rfl xC (h2) ?_;refine xE3 ?_;refine zBu rfl rfl rfl rfl rfl Try.func109 rfl xC (h3) ?_;refine xE3 ?_;refine zBu rfl rfl rfl rfl rfl Try.func109 rfl xC (h4) ?_;refine xE2 ?_;refine aB ⟨by kernel_rfl,?_⟩))
 refine⟨zD 21 [(2,.c (.pt 2 4 0 0))] [(2,⟨false,1,4,62,lF (bgC (zAb x))⟩)] [2],[(2,⟨false,1,4,62,lF (bgC (zAb x))⟩)],Wk.mk [(2,some 2)] rfl rfl rfl ?_ ?_,rfl,rfl,ARets.one (x:=.ag _) (ARes.box zA rfl rfl rfl rfl rfl rfl rfl)⟩
 ·exact zC
 ·exact zAD
def zD3(r:Rd)(a b:Bp)(x y:Bg)(c:Cl):Bool:=decide (zBy r a=0) && (decide (zBy r b=0) && isB (zAQ r a) (zAQ r b) x y c)
theorem zN7{r:Rd}{b:Bp}(h:zBy r b=0):chk (zAQ r b).W (zAQ r b).H (zAQ r b).n=0:=by
 rw[zN5 h];by_cases c:rdE r=0
 ·rw[zJK c]at h;exact h
 ·rw[zN6 c]at h;exact absurd h c
theorem zM3{a b:Bp}{x y:Bg}{c:Cl}(h:¬((c.dx,c.dy)∈shL (shN x y)∧-4≤c.col∧c.col≤a.W+4-stN a.W x y)):isB a b x y c=false:=by
 unfold isB;rw[decide_eq_false fun hc=>h ?_]
 ·rfl
 ·obtain⟨h1,i,h2,h3⟩:=mem_al.1 hc
  unfold alM at h2
  exact⟨h1,by omega,by omega⟩
theorem zRe{a b:Bp}{x y:Bg}{c:Cl}(h:(c.dx,c.dy)∈shL (shN x y)∧-4≤c.col∧c.col≤a.W+4-stN a.W x y):isB a b x y c=(decide (zCr a b c.dx c.dy c.col (c.col+stN a.W x y)≤(zAb x).lo+(zAb y).bl) && decide (zCr b a (-c.dx) (-c.dy) (c.col-c.dx) (c.col-c.dx+stN a.W x y)≤(zAb y).lo+(zAb x).bl)):=by
 unfold isB;rw[decide_eq_true (mem_al.2 ⟨h.1,(c.col+4).toNat,by unfold alM;omega,by omega⟩),Bool.true_and,Bool.eq_iff_iff,Bool.and_eq_true,decide_eq_true_eq,decide_eq_true_eq,decide_eq_true_eq]
 unfold xsV ovN
 omega
theorem zQ9(r:Rd)(a b:Bp)(x y:Bg)(c:Cl)(hr:-1000000≤r.bl∧r.bl≤1000000):
 ACalls Try.prog 82 [.ag (rdC r),.ag (bpC a),.ag (bpC b),.ag (bgC x),.ag (bgC y),.ag (clC c)] (.c (bC (zD3 r a b x y c))):=by
 have hSh:=zLi x y;have hln:(shL (shN x y)).length≤1000:=by
  have:=zJL (zGs x y).2;have h4:=(zGs x y).2;rw[this];exact Nat.le_trans (Nat.mul_le_mul (show 2*shN x y+1≤9 by omega) (show 2*shN x y+1≤9 by omega)) (by decide)
 have hCo:=zO9 (shL (shN x y)) (c.dx,c.dy) hln;have hA:=zGN r a hr;have hB:=zGN r b hr;have kAz:= @zN7 r a;have kBz:= @zN7 r b;unfold zD3;generalize zAQ r a=u at *;generalize zAQ r b=v at *;generalize zBy r a=e at *;generalize zBy r b=f at *;by_cases c1:e=0;rotate_left
 ·rw [decide_eq_false c1]
  refine zK Try.func82 rfl rfl Try.ntmps82 rfl ?_
  repeat (first
   |refine vB [0,3,4] ?_
   | (refine rG 1 ?_
      refine xE2 ?_;refine xB Try.func48 hA ?_;refine xE6 ?_;refine aB ?_)
   | (refine rG 2 ?_
      refine xE2 ?_;refine xB Try.func48 hB ?_;refine xE6 ?_;refine aB ?_))
  refine⟨zD 123 [(12,.c (bC false))] [] [],[],Wk.mk [] rfl rfl rfl ?_ trivial,rfl,rfl,aR1⟩
  exact zC
 by_cases c2:f=0;rotate_left
 ·rw [decide_eq_false c2,Bool.false_and,Bool.and_false]
  refine zK Try.func82 rfl rfl Try.ntmps82 rfl ?_
  repeat (first
   |refine vB [0,3,4] ?_
   | (refine rG 1 ?_
      refine xE2 ?_;refine xB Try.func48 hA ?_;refine xE6 ?_;refine aB ?_)
   | (refine rG 2 ?_
      refine xE2 ?_;refine xB Try.func48 hB ?_;refine xE6 ?_;refine aB ?_))
  refine⟨zD 123 [(12,.c (bC false))] [] [],[],Wk.mk [] rfl rfl rfl ?_ trivial,rfl,rfl,aR1⟩
  exact zC
 subst c1 c2;rw[decide_eq_true rfl,Bool.true_and,Bool.true_and];have hu:=kAz rfl;have hv:=kBz rfl;by_cases c3:(c.dx,c.dy)∈shL (shN x y);rotate_left
 ·rw [zM3 fun h=>c3 h.1]
  rw[decide_eq_false c3]at hCo;refine zK Try.func82 rfl rfl Try.ntmps82 rfl ?_
  repeat (first
   |refine vB [0,4] ?_
   | (refine rG 1 ?_
      refine xE2 ?_;refine xB Try.func48 hA ?_;refine xE6 ?_;refine aB ?_)
   | (refine rG 2 ?_
      refine xE2 ?_;refine xB Try.func48 hB ?_;refine xE6 ?_;refine aB ?_)
   |(refine AWp.draw (id:=3) zL ?_;refine xE9 ?_;refine xB Try.func76 hSh ?_;refine xE5 ?_;refine xB Try.func101 hCo ?_;refine xE2 ?_;refine aB ⟨by kernel_rfl,?_⟩))
  refine⟨zD 123 [(12,.c (bC false))] [] [],[],Wk.mk [] rfl rfl rfl ?_ trivial,rfl,rfl,aR1⟩
  exact zC
 rw[decide_eq_true c3]at hCo;have hd:=zSF c3;dsimp only at hd;have bx:=zCM x;have b_y:=zCM y;have hl1:=zL1 x;have hl2:=zL1 y;have hst:=zJP (w:=u.W) x y (okB hu).1;have huW:=okB hu
 obtain⟨t,ht⟩:∃t,stN u.W x y=t:=⟨_,rfl⟩
 rw[ht]at hst;have ht':min (u.W+8) (max (zAb x).st (zAb y).st)=t:=ht;by_cases c4:-4≤c.col∧c.col≤u.W+4-t;rotate_left
 ·rw[zM3 fun h=>c4 ⟨h.2.1,by rw[←ht];exact h.2.2⟩]
  by_cases c5:c.col < -4
  ·refine zK Try.func82 rfl rfl Try.ntmps82 rfl ?_
   repeat (first
    |refine vB [0,6,7,8] ?_
    | (refine rG 1 ?_
       refine xE2 ?_;refine xB Try.func48 hA ?_;refine xE6 ?_;refine aB ?_)
    | (refine rG 2 ?_
       refine xE2 ?_;refine xB Try.func48 hB ?_;refine xE6 ?_;refine aB ?_)
    |(refine AWp.draw (id:=3) zL ?_;refine xE9 ?_;refine xB Try.func76 hSh ?_;refine xE5 ?_;refine xB Try.func101 hCo ?_;refine xE2 ?_;refine aB ⟨by kernel_rfl,?_⟩)
    |(refine AWp.draw (id:=5) zL ?_;refine vA ?_;refine xB Try.func102 hl1 ?_;refine vA ?_;refine xB Try.func102 hl2 ?_;refine xE2 ?_;refine aB ⟨by kernel_rfl,?_⟩))
   refine⟨zD 123 [(12,.c (bC false))] [] [],[],Wk.mk [] rfl rfl rfl ?_ trivial,rfl,rfl,aR1⟩
   exact zC
  ·have c6:c.col>u.W - -4-min (u.W+8) (max (zAb x).st (zAb y).st):=by omega
   refine zK Try.func82 rfl rfl Try.ntmps82 rfl ?_
   repeat (first
    |refine vB [0,6,7,8] ?_
    | (refine rG 1 ?_
       refine xE2 ?_;refine xB Try.func48 hA ?_;refine xE6 ?_;refine aB ?_)
    | (refine rG 2 ?_
       refine xE2 ?_;refine xB Try.func48 hB ?_;refine xE6 ?_;refine aB ?_)
    |(refine AWp.draw (id:=3) zL ?_;refine xE9 ?_;refine xB Try.func76 hSh ?_;refine xE5 ?_;refine xB Try.func101 hCo ?_;refine xE2 ?_;refine aB ⟨by kernel_rfl,?_⟩)
    |(refine AWp.draw (id:=5) zL ?_;refine vA ?_;refine xB Try.func102 hl1 ?_;refine vA ?_;refine xB Try.func102 hl2 ?_;refine xE2 ?_;refine aB ⟨by kernel_rfl,?_⟩))
   refine⟨zD 123 [(12,.c (bC false))] [] [],[],Wk.mk [] rfl rfl rfl ?_ trivial,rfl,rfl,aR1⟩
   exact zC
 rw[zRe ⟨c3,c4.1,by rw[ht];exact c4.2⟩]
 have huv:=okB hu;have o1:=zNB u v c.dx c.dy c.col (c.col+t) hu hv xD xD;have o2:=zNB v u (-c.dx) (-c.dy) (c.col-c.dx) (c.col-c.dx+t) hv hu xD xD;have n1:=zNz u v c.dx c.dy c.col (c.col+t) hu;have n2:=zNz v u (-c.dx) (-c.dy) (c.col-c.dx) (c.col-c.dx+t) hv;rw[ht];generalize zCr u v c.dx c.dy c.col (c.col+t)=m1 at *;generalize zCr v u (-c.dx) (-c.dy) (c.col-c.dx) (c.col-c.dx+t)=m2 at *;have c5:¬c.col < -4:=by omega
 have c6:¬c.col>u.W - -4-min (u.W+8) (max (zAb x).st (zAb y).st):=by omega
 by_cases c7:m1≤(zAb x).lo+(zAb y).bl
 ·rw[decide_eq_true c7,Bool.true_and]
  by_cases c8:m2≤(zAb y).lo+(zAb x).bl
  ·rw [decide_eq_true c8]
   refine zK Try.func82 rfl rfl Try.ntmps82 rfl ?_
   repeat (first
    |refine vB [0,6,7,9] ?_
    | (refine rG 1 ?_
       refine xE2 ?_;refine xB Try.func48 hA ?_;refine xE6 ?_;refine aB ?_)
    | (refine rG 2 ?_
       refine xE2 ?_;refine xB Try.func48 hB ?_;refine xE6 ?_;refine aB ?_)
    |(refine AWp.draw (id:=3) zL ?_;refine xE9 ?_;refine xB Try.func76 hSh ?_;refine xE5 ?_;refine xB Try.func101 hCo ?_;refine xE2 ?_;refine aB ⟨by kernel_rfl,?_⟩)
    |(refine AWp.draw (id:=5) zL ?_;refine vA ?_;refine xB Try.func102 hl1 ?_;refine vA ?_;refine xB Try.func102 hl2 ?_;refine xE2 ?_;refine aB ⟨by kernel_rfl,?_⟩))
   refine AWp.weak (S':=zD 123 [(9,.c (.pt 9 4 0 0)),(10,.c (.pt 10 4 0 0)),(11,.c (.pt 11 3 0 0)),(13,.c (.pt 13 3 0 0)),(15,.c (.pt 15 3 0 0)),(17,.c (iC t)),(19,.c (iC (c.col-c.dx)))] [(9,⟨false,1,4,62,lF (bgC (zAb x))⟩),(10,⟨false,1,4,62,lF (bgC (zAb y))⟩),(11,⟨false,1,3,66,lF (clC c)⟩),(13,⟨false,1,3,60,lF (bpC u)⟩),(15,⟨false,1,3,60,lF (bpC v)⟩)] [9,10,11,13,15]) (Wk.mk [(9,some 9),(10,some 10),(11,some 11),(13,some 13),(15,some 15)] rfl rfl rfl ?_ ?_) ?_
   ·repeat (first|exact trivial|refine⟨⟨_,rfl,by first|exact LeA.c (LeC.int ht')|exact leT⟩,?_⟩)
   ·exact⟨hSm,hSm,hSm,hSm,hSm,trivial⟩
   repeat (first
    |refine vB [] ?_
    |(refine AWp.draw (id:=10) zL ?_;refine zFE ?_;refine xB Try.func103 o1 ?_;(iterate 19 refine vA ?_);refine xB Try.func103 o2 ?_;refine xE8 ?_;refine aB ⟨by kernel_rfl,?_⟩))
   refine⟨zD 123 [(12,.c (bC true))] [] [],[],Wk.mk [] rfl rfl rfl ?_ trivial,rfl,rfl,aR1⟩
   exact zC
  ·rw [decide_eq_false c8]
   refine zK Try.func82 rfl rfl Try.ntmps82 rfl ?_
   repeat (first
    |refine vB [0,6,7,9] ?_
    | (refine rG 1 ?_
       refine xE2 ?_;refine xB Try.func48 hA ?_;refine xE6 ?_;refine aB ?_)
    | (refine rG 2 ?_
       refine xE2 ?_;refine xB Try.func48 hB ?_;refine xE6 ?_;refine aB ?_)
    |(refine AWp.draw (id:=3) zL ?_;refine xE9 ?_;refine xB Try.func76 hSh ?_;refine xE5 ?_;refine xB Try.func101 hCo ?_;refine xE2 ?_;refine aB ⟨by kernel_rfl,?_⟩)
    |(refine AWp.draw (id:=5) zL ?_;refine vA ?_;refine xB Try.func102 hl1 ?_;refine vA ?_;refine xB Try.func102 hl2 ?_;refine xE2 ?_;refine aB ⟨by kernel_rfl,?_⟩))
   refine AWp.weak (S':=zD 123 [(9,.c (.pt 9 4 0 0)),(10,.c (.pt 10 4 0 0)),(11,.c (.pt 11 3 0 0)),(13,.c (.pt 13 3 0 0)),(15,.c (.pt 15 3 0 0)),(17,.c (iC t)),(19,.c (iC (c.col-c.dx)))] [(9,⟨false,1,4,62,lF (bgC (zAb x))⟩),(10,⟨false,1,4,62,lF (bgC (zAb y))⟩),(11,⟨false,1,3,66,lF (clC c)⟩),(13,⟨false,1,3,60,lF (bpC u)⟩),(15,⟨false,1,3,60,lF (bpC v)⟩)] [9,10,11,13,15]) (Wk.mk [(9,some 9),(10,some 10),(11,some 11),(13,some 13),(15,some 15)] rfl rfl rfl ?_ ?_) ?_
   ·repeat (first|exact trivial|refine⟨⟨_,rfl,by first|exact LeA.c (LeC.int ht')|exact leT⟩,?_⟩)
   ·exact⟨hSm,hSm,hSm,hSm,hSm,trivial⟩
   repeat (first
    |refine vB [] ?_
    |(refine AWp.draw (id:=10) zL ?_;refine zFE ?_;refine xB Try.func103 o1 ?_;(iterate 19 refine vA ?_);refine xB Try.func103 o2 ?_;refine xE8 ?_;refine aB ⟨by kernel_rfl,?_⟩))
   refine⟨zD 123 [(12,.c (bC false))] [] [],[],Wk.mk [] rfl rfl rfl ?_ trivial,rfl,rfl,aR1⟩
   exact zC
 ·rw [decide_eq_false c7,Bool.false_and]
  refine zK Try.func82 rfl rfl Try.ntmps82 rfl ?_
  repeat (first
   |refine vB [0,6,7,9] ?_
   | (refine rG 1 ?_
      refine xE2 ?_;refine xB Try.func48 hA ?_;refine xE6 ?_;refine aB ?_)
   | (refine rG 2 ?_
      refine xE2 ?_;refine xB Try.func48 hB ?_;refine xE6 ?_;refine aB ?_)
   |(refine AWp.draw (id:=3) zL ?_;refine xE9 ?_;refine xB Try.func76 hSh ?_;refine xE5 ?_;refine xB Try.func101 hCo ?_;refine xE2 ?_;refine aB ⟨by kernel_rfl,?_⟩)
   |(refine AWp.draw (id:=5) zL ?_;refine vA ?_;refine xB Try.func102 hl1 ?_;refine vA ?_;refine xB Try.func102 hl2 ?_;refine xE2 ?_;refine aB ⟨by kernel_rfl,?_⟩))
  refine AWp.weak (S':=zD 123 [(9,.c (.pt 9 4 0 0)),(10,.c (.pt 10 4 0 0)),(11,.c (.pt 11 3 0 0)),(13,.c (.pt 13 3 0 0)),(15,.c (.pt 15 3 0 0)),(17,.c (iC t)),(19,.c (iC (c.col-c.dx)))] [(9,⟨false,1,4,62,lF (bgC (zAb x))⟩),(10,⟨false,1,4,62,lF (bgC (zAb y))⟩),(11,⟨false,1,3,66,lF (clC c)⟩),(13,⟨false,1,3,60,lF (bpC u)⟩),(15,⟨false,1,3,60,lF (bpC v)⟩)] [9,10,11,13,15]) (Wk.mk [(9,some 9),(10,some 10),(11,some 11),(13,some 13),(15,some 15)] rfl rfl rfl ?_ ?_) ?_
  ·repeat (first|exact trivial|refine⟨⟨_,rfl,by first|exact LeA.c (LeC.int ht')|exact leT⟩,?_⟩)
  ·exact⟨hSm,hSm,hSm,hSm,hSm,trivial⟩
  repeat (first
   |refine vB [] ?_
   |(refine AWp.draw (id:=10) zL ?_;refine zFE ?_;refine xB Try.func103 o1 ?_;(iterate 28 refine vA ?_);refine aB ⟨by kernel_rfl,?_⟩))
  refine⟨zD 123 [(12,.c (bC false))] [] [],[],Wk.mk [] rfl rfl rfl ?_ trivial,rfl,rfl,aR1⟩
  exact zC
end Go.Proofs.Ytbffmfeldkjkcaa
end
