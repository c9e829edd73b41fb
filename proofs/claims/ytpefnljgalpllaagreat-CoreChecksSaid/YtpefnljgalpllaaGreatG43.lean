/- Parts of the proof: A24gp, A29m, A29n, A29o. -/
import Derived.Test.YtpefnljgalpllaaGreatG41
import Derived.Test.YtpefnljgalpllaaGreatG42
set_option linter.unusedSimpArgs false
set_option linter.unusedVariables false
set_option maxHeartbeats 0
set_option maxRecDepth 100000
section
namespace Go.Proofs.YtpefnljgalpllaaGreat
open Go.RowKit Go.Flow Go.AV Go.Plain
theorem zLQ(p:Nat→Bool)(W:Nat):∀H:Nat,cnt p (H*W)=zAd (fun j=>cnt (fun i=>p (j*W+i)) W) H
 |0=>by rw[Nat.zero_mul];rfl
 | H+1=>by
   rw[Nat.succ_mul];show zAd _ (H*W+W)=_;rw[zEI];show cnt p (H*W)+_=_;rw[zLQ p W H]
   rfl
end Go.Proofs.YtpefnljgalpllaaGreat
end
section
namespace Go.AV
open Go Go.RowKit Go.Flow
theorem ACalls.toOld{P:Program}{f:FuncId}{args:List V1}{v:Value}(h:ACalls P f args (.c (.p v)))(w:World)(vals:List Value)(hv:RepL (RepV (fun _=>none) (fun _=>False) w) args vals):Calls P f vals.toArray w fun e w'=>e=.returned v∧Ext w w':=by
 obtain⟨b0,hb,hX,hY,hF⟩:∃b0:zJ,b0.w=w∧b0.X=(fun _=>False)∧b0.Y=(fun _=>False)∧b0.fix=fun _=>none:=
  ⟨⟨w,fun _=>False,fun _=>False,fun _=>none,fun _ h=>h.elim,fun _ h=>h.elim,fun _ h=>h.elim,(fun _ _ h=>by cases h),fun _ _=>False,fun _ _ _=>True,none,fun _ _ h=>h,fun _ _ _ _ _ _ _ _=>trivial⟩,rfl,rfl,rfl,rfl⟩
 subst hb;have hout:∀b,¬out b0 b0.fix (zD []) b:=fun b hb=>by
  rcases hb with ⟨i,v,h1,_⟩|hb
  ·exact h1 rfl
  ·rw[hX]at hb;exact hb
 refine(h b0 vals ⟨fun i B hB=>(by cases hB),fun i j v1 v2 b hi=>absurd rfl hi,fun b ⟨i,v,h1,_⟩=>absurd rfl h1,fun i v hi=>(by rw[hF]at hi;cases hi),fun _ _ _=>by rw[hF]⟩ (fun i v hi=>by rw[hF]at hi;cases hi) (fun b hb=>by rw[hY]at hb;exact hb.elim) ?_).mono fun e w' ⟨u,h1,h2,_,h4⟩=>⟨?_,h4.ext (Ext.refl _) (fun b hb=>by rw[hY]at hb;exact hb.elim)⟩
 ·rw[hF]
  exact hv.mono fun x u hx=>hx.keep (Keep.of_ext (Ext.refl _)) (fun b hb=>(hout b (by rw[hF];exact hb)).elim) fun _ _ h=>h
 ·rw[h1]
  have:u=v:=h2.2;rw[this]
end Go.AV
namespace Go.Proofs.YtpefnljgalpllaaGreat
open Go.RowKit Go.Flow Go.AV Go.Plain
theorem zRd{W H:Int}{n k:Nat}(h:chk W H n=0)(hk:k<n):(0<W∧W≤96)∧(0≤(k:Int)%W∧(k:Int)%W<W)∧0≤(k:Int)/W∧(k:Int)/W<H:=by
 obtain⟨h1,h2,h3,h4,h5⟩:=okB h
 have hW:0<W:=by
  rcases Int.lt_or_eq_of_le h1 with h|h
  ·exact h
  ·subst h
   rw[Int.zero_mul]at h5
   omega
 refine⟨⟨hW,h2⟩,⟨Int.emod_nonneg _ xD,Int.emod_lt_of_pos _ hW⟩,Int.ediv_nonneg xD xD,?_⟩
 refine Int.ediv_lt_of_lt_mul hW ?_;rw[Int.mul_comm]
 omega
def zGJ(m:Nat)(C:Nat→CV):List V1:=(List.range m).map fun i=>V1.c (C i)
theorem zQB(a:Bp)(ha:chk a.W a.H a.n=0)(fv m:Nat)(C:Nat→CV)(hC:∀i,i<m→zK (C i)=true)(p:Int→Int→Bool)(he:∀args w,(callFunc fv args).run Tryz.prog w=.ok (.enter fv args) w)
 (hp:∀x y:Int,0≤x→x<a.W→0≤y→y<a.H→ACalls Tryz.prog fv (.ag [iC x,iC y]::zGJ m C) (.c (bC (p x y)))):
 ACalls Tryz.prog 98 [.ag (bpC a),.c (.fi fv m C)] (.c (iC (cnt (fun k=>a.d k && p ((k:Int)%a.W) ((k:Int)/a.W)) a.n))):=
 zEL rfl fun O w vals h=>by
  obtain⟨b,q,rfl,h1,h2⟩:=zIo h
  obtain⟨A,c,rfl,-,hA⟩:=zFd h1
  obtain⟨-,vs,rfl,f2,f3⟩:q.oneCell'=true∧RepI O w (.fi fv m C) q:=h2
  obtain⟨h0,h1',h2',h3',hn⟩:=okB ha
  obtain⟨Wn,hWn⟩:=Int.eq_ofNat_of_zero_le h0
  obtain⟨Hn,hHn⟩:=Int.eq_ofNat_of_zero_le h2'
  have ha':=ha;rw[hWn,hHn]at ha';show Calls _ _ #[bmp a.W a.H A a.n c,.func (.func fv) #[] vs.toArray] w _;rw[hWn,hHn];refine zQD Wn Hn A a.n c a.d ha' fv vs.toArray (fun k=>p ((k:Int)%Wn) ((k:Int)/Wn)) w hA he fun k hk w1 hE=> ?_
  have hkd:=zRd ha hk;rw[hWn,hHn]at hkd;have hc:=(hp ((k:Int)%Wn) ((k:Int)/Wn) hkd.2.1.1 (by rw[hWn];exact hkd.2.1.2) hkd.2.2.1 (by rw[hHn];exact hkd.2.2.2)).toOld w1 (zEm Wn k::vs) ⟨⟨[.int .i64 ((k:Int)%Wn),.int .i64 ((k:Int)/Wn)],rfl,⟨rfl,rfl⟩,⟨rfl,rfl⟩,trivial⟩,zA5 (by simp[zGJ,f2]) fun i x v q1 q2=> ?_⟩
  ·rw[show(#[zEm Wn k]++vs.toArray:Array Value)=(zEm Wn k::vs).toArray from Array.ext' (by simp)]
   exact hc
  ·have hi:i<m:=by have:=(List.getElem?_eq_some_iff.1 q1).1;simpa[zGJ]using this
   unfold zGJ at q1;rw[List.getElem?_map,List.getElem?_range hi]at q1
   cases q1
   obtain⟨v',e1,e2,e3⟩:=f3 i hi
   rw[q2]at e1
   cases e1
   exact zBp (hC i hi) e2 (e3.keep (Keep.of_ext hE) fun b hb=>hb.elim)
abbrev plB(b:Bp):CV:=.pl 1 3 (lF (bpC b)) 0 0
def zFU(b:Bp)(dx dy fr ti:Int)(x y:Int):Bool:=(decide (x<fr)||decide (ti≤x)) && !zAo b.W b.H b.d (x-dx) (y-dy)
theorem zRO(b:Bp)(hb:chk b.W b.H b.n=0)(dx dy fr ti x y:Int)(hx:-1000≤dx∧dx≤1000)(hy:-1000≤dy∧dy≤1000)(h1:0≤x∧x≤1000)(h2:0≤y∧y≤1000):
 ACalls Tryz.prog 99 [.ag [iC x,iC y],.c (pl1 (iC fr)),.c (pl1 (iC ti)),.c (plB b),.c (pl1 (iC dx)),.c (pl1 (iC dy))] (.c (bC (zFU b dx dy fr ti x y))):=by
 have hH:=zMG b.W b.H b.n b.d (x-dx) (y-dy) hb;unfold zFU;generalize zAo b.W b.H b.d (x-dx) (y-dy)=o at *;by_cases c1:x<fr
 ·rw[decide_eq_true c1]
  cases o
  all_goals
   refine zH Tryz.func99 rfl rfl Tryz.ntmps99 rfl ?_
   repeat (first
    |refine vB [0] ?_
    | (refine rG 1 ?_
       (iterate 21 refine vA ?_);refine xB Tryz.func100 hH ?_;refine xE3 ?_;refine aB ?_))
  ·refine⟨zC 32 [(7,.c (bC true))] [] [],[],Wk.mk [] rfl rfl rfl ?_ trivial,rfl,rfl,aR1⟩
   exact zB
  ·refine⟨zC 32 [(7,.c (bC false))] [] [],[],Wk.mk [] rfl rfl rfl ?_ trivial,rfl,rfl,aR1⟩
   exact zB
 ·rw [decide_eq_false c1]
  by_cases c2:ti≤x
  ·have c2':x≥ti:=c2
   rw[decide_eq_true c2]
   cases o
   all_goals
    refine zH Tryz.func99 rfl rfl Tryz.ntmps99 rfl ?_
    repeat (first
     |refine vB [0] ?_
     | (refine rG 1 ?_
        (iterate 21 refine vA ?_);refine xB Tryz.func100 hH ?_;refine xE3 ?_;refine aB ?_))
   ·refine⟨zC 32 [(7,.c (bC true))] [] [],[],Wk.mk [] rfl rfl rfl ?_ trivial,rfl,rfl,aR1⟩
    exact zB
   ·refine⟨zC 32 [(7,.c (bC false))] [] [],[],Wk.mk [] rfl rfl rfl ?_ trivial,rfl,rfl,aR1⟩
    exact zB
  ·have c2':¬x≥ti:=c2
   rw[decide_eq_false c2];refine zH Tryz.func99 rfl rfl Tryz.ntmps99 rfl ?_;refine vB [0,1] ?_
   refine⟨zC 32 [(7,.c (bC false))] [] [],[],Wk.mk [] rfl rfl rfl ?_ trivial,rfl,rfl,aR1⟩
   exact zB
end Go.Proofs.YtpefnljgalpllaaGreat
end
section
namespace Go.Proofs.YtpefnljgalpllaaGreat
open Go.RowKit Go.Flow Go.AV Go.Plain
theorem zRP(a b:Bp)(ha:chk a.W a.H a.n=0)(dx dy fr ti:Int):cnt (fun k=>a.d k && zFU b dx dy fr ti ((k:Int)%a.W) ((k:Int)/a.W)) a.n=zBd a b dx dy fr ti:=by
 obtain⟨h0,h1,h2,h3,hn⟩:=okB ha
 obtain⟨W,hW⟩:=Int.eq_ofNat_of_zero_le h0
 obtain⟨H,hH⟩:=Int.eq_ofNat_of_zero_le h2
 have hn':a.n=H*W:=by
  rw[hW,hH,←Int.natCast_mul,Int.ofNat_inj]at hn;rw[hn,Nat.mul_comm]
 rw[hn',zLQ];unfold zBd;rw[hW,hH,Int.toNat_natCast,Int.toNat_natCast];refine zC5 fun j hj=>zGQ fun i hi=> ?_
 have e:((j*W+i:Nat):Int)=(i:Int)+(W:Int)*j:=by
  rw[Int.natCast_add,Int.natCast_mul,Int.mul_comm];exact Int.add_comm _ _
 rw[e,Int.add_mul_emod_self_left,Int.add_mul_ediv_left _ _ xD,Int.emod_eq_of_lt xD xD,Int.ediv_eq_zero_of_lt xD xD,Int.zero_add];unfold zFU onB;have hh:zAo a.W a.H a.d i j=a.d (j*W+i):=by
  unfold zAo;rw[hW,hH,if_pos xD]
  congr 1
 rw[hh,Bool.and_assoc]
abbrev zNs(b:Bp)(dx dy fr ti:Int)(i:Nat):CV:= [pl1 (iC fr),pl1 (iC ti),plB b,pl1 (iC dx),pl1 (iC dy)].getD i .any
theorem zNv(a b:Bp)(dx dy fr ti:Int)(ha:chk a.W a.H a.n=0)(hb:chk b.W b.H b.n=0)(hx:-1000≤dx∧dx≤1000)(hy:-1000≤dy∧dy≤1000):
 ACalls Tryz.prog 80 [.ag (bpC a),.ag (bpC b),.c (iC dx),.c (iC dy),.c (iC fr),.c (iC ti)] (.c (iC (zBd a b dx dy fr ti))):=by
 have hC:=zEU b.W b.H b.n b.d;rw[hb]at hC
 obtain⟨h0,h1,h2,h3,-⟩:=okB ha
 have hcount:=zQB a ha 99 5 (zNs b dx dy fr ti) (fun i hi=>by
  obtain rfl|rfl|rfl|rfl|rfl:i=0∨i=1∨i=2∨i=3∨i=4:=by omega
  all_goals rfl) (zFU b dx dy fr ti) (enters_of Tryz.func99 xC rfl) (fun x y a1 a2 a3 a4=>zRO b hb dx dy fr ti x y hx hy ⟨a1,by omega⟩ ⟨a3,by omega⟩)
 rw[zRP a b ha]at hcount;refine zH Tryz.func80 rfl rfl Tryz.ntmps80 rfl ?_
 repeat (first
  |refine vB [0] ?_
  | (refine rG 1 ?_
     refine vA ?_;refine xB Tryz.func47 hC ?_;refine vA ?_;refine aB ?_))
 refine AWp.text ?_;refine AText.split 2 ?_;refine vA ?_;refine qr5 zCQ ?_;refine aB ?_;refine AText.weak (S':=zC 20 [(17,.ag (bpC a)),(18,.c (.fi 99 5 (zNs b dx dy fr ti)))] [] []) (Wk.mk [] rfl rfl rfl ?_ trivial) ?_
 ·refine⟨⟨_,rfl,.ag (zMV rfl)⟩,⟨_,rfl,.c (LeC.fnI _ 5 _ _ (fun i hi=> ?_) (fun i hi=> ?_))⟩,trivial⟩
  all_goals
   obtain rfl|rfl|rfl|rfl|rfl:i=0∨i=1∨i=2∨i=3∨i=4:=by omega
  ·exact⟨trivial,rfl⟩
  ·exact⟨trivial,rfl⟩
  ·exact⟨trivial,rfl⟩
  ·exact⟨trivial,rfl⟩
  ·exact⟨trivial,rfl⟩
  ·exact zBw rfl rfl rfl rfl
  ·exact zBw rfl rfl rfl rfl
  ·exact zBw rfl rfl rfl rfl
  ·exact zBw rfl rfl rfl rfl
  ·exact zBw rfl rfl rfl rfl
 refine AText.all ?_;refine xB Tryz.func98 hcount ?_;refine vA ?_;refine aB ?_;refine vB [] ?_
 refine⟨zC 20 [(12,.c (iC (zBd a b dx dy fr ti)))] [] [],[],Wk.mk [] rfl rfl rfl ?_ trivial,rfl,rfl,aR1⟩
 exact zB
theorem zGN(n m:Int):ACalls Tryz.prog 97 [.c (iC n),.c (iC m)] (.c (iC (zCM n m))):=by
 refine zH Tryz.func97 rfl rfl Tryz.ntmps97 rfl ?_;refine vB [0,1] ?_
 refine⟨zC 9 [(4,.c (iC (max 0 (min n m))))] [] [],[],Wk.mk [] rfl rfl rfl ?_ trivial,rfl,rfl,aR1⟩
 exact zB
theorem zLN(x:Bg):ACalls Tryz.prog 79 [.ag (bgC x)] (.ag (bgC (zO x))):=by
 have h1:=zGN x.lo 200;have h2:=zGN x.bl 200;have h3:=zGN x.sh 2;have h4:=zGN x.st 16;refine zH Tryz.func79 rfl rfl Tryz.ntmps79 rfl ?_
 repeat (first
  |refine vB [0,1] ?_
  |(refine AWp.draw (id:=2) zI ?_;refine xE3 ?_;refine zBv rfl rfl rfl rfl rfl Tryz.func97 rfl xC (h1) ?_;refine xE3 ?_;refine zBv rfl rfl rfl rfl rfl Tryz.func97 rfl xC (h2) ?_;refine xE3 ?_;refine zBv rfl rfl rfl rfl rfl Tryz.func97 rfl xC (h3) ?_;refine xE3 ?_;refine zBv rfl rfl rfl rfl rfl Tryz.func97 rfl xC (h4) ?_;refine xE2 ?_;refine aB ⟨by kernel_rfl,?_⟩))
 refine⟨zC 21 [(2,.c (.pt 2 4 0 0))] [(2,⟨false,1,4,33,lF (bgC (zO x))⟩)] [2],[(2,⟨false,1,4,33,lF (bgC (zO x))⟩)],Wk.mk [(2,some 2)] rfl rfl rfl ?_ ?_,rfl,rfl,ARets.one (x:=.ag _) (ARes.box zA rfl rfl rfl rfl rfl rfl rfl)⟩
 ·exact zB
 ·exact zAc
def zEq(r:Rd)(a b:Bp)(x y:Bg)(c:Cl):Bool:=decide (zAU r a=0) && (decide (zAU r b=0) && isB (zAK r a) (zAK r b) x y c)
theorem zHC{r:Rd}{b:Bp}(h:zAU r b=0):chk (zAK r b).W (zAK r b).H (zAK r b).n=0:=by
 rw[zJD h];by_cases c:rdE r=0
 ·rw[zF6 c]at h;exact h
 ·rw[zJE c]at h;exact absurd h c
theorem zHa{a b:Bp}{x y:Bg}{c:Cl}(h:¬((c.dx,c.dy)∈shL (shN x y)∧-4≤c.col∧c.col≤a.W+4-stN a.W x y)):isB a b x y c=false:=by
 unfold isB;rw[decide_eq_false fun hc=>h ?_]
 ·rfl
 ·obtain⟨h1,i,h2,h3⟩:=mem_al.1 hc
  unfold alM at h2
  exact⟨h1,by omega,by omega⟩
theorem zMR{a b:Bp}{x y:Bg}{c:Cl}(h:(c.dx,c.dy)∈shL (shN x y)∧-4≤c.col∧c.col≤a.W+4-stN a.W x y):isB a b x y c=(decide (zBd a b c.dx c.dy c.col (c.col+stN a.W x y)≤(zO x).lo+(zO y).bl) && decide (zBd b a (-c.dx) (-c.dy) (c.col-c.dx) (c.col-c.dx+stN a.W x y)≤(zO y).lo+(zO x).bl)):=by
 unfold isB;rw[decide_eq_true (mem_al.2 ⟨h.1,(c.col+4).toNat,by unfold alM;omega,by omega⟩),Bool.true_and,Bool.eq_iff_iff,Bool.and_eq_true,decide_eq_true_eq,decide_eq_true_eq,decide_eq_true_eq]
 unfold xsV ovN
 omega
theorem zRg(r:Rd)(a b:Bp)(x y:Bg)(c:Cl)(hr:-1000000≤r.bl∧r.bl≤1000000):
 ACalls Tryz.prog 65 [.ag (rdC r),.ag (bpC a),.ag (bpC b),.ag (bgC x),.ag (bgC y),.ag (clC c)] (.c (bC (zEq r a b x y c))):=by
 have hSh:=zKZ x y;have hln:(shL (shN x y)).length≤1000:=by
  have:=zF7 (zDF x y).2;have h4:=(zDF x y).2;rw[this];exact Nat.le_trans (Nat.mul_le_mul (show 2*shN x y+1≤9 by omega) (show 2*shN x y+1≤9 by omega)) (by decide)
 have hCo:=zO7 (shL (shN x y)) (c.dx,c.dy) hln;have hA:=zGw r a hr;have hB:=zGw r b hr;have kAz:= @zHC r a;have kBz:= @zHC r b;unfold zEq;generalize zAK r a=u at *;generalize zAK r b=v at *;generalize zAU r a=e at *;generalize zAU r b=f at *;by_cases c1:e=0;rotate_left
 ·rw [decide_eq_false c1]
  refine zH Tryz.func65 rfl rfl Tryz.ntmps65 rfl ?_
  repeat (first
   |refine vB [0,3,4] ?_
   | (refine rG 1 ?_
      refine xE2 ?_;refine xB Tryz.func73 hA ?_;refine xE6 ?_;refine aB ?_)
   | (refine rG 2 ?_
      refine xE2 ?_;refine xB Tryz.func73 hB ?_;refine xE6 ?_;refine aB ?_))
  refine⟨zC 123 [(12,.c (bC false))] [] [],[],Wk.mk [] rfl rfl rfl ?_ trivial,rfl,rfl,aR1⟩
  exact zB
 by_cases c2:f=0;rotate_left
 ·rw [decide_eq_false c2,Bool.false_and,Bool.and_false]
  refine zH Tryz.func65 rfl rfl Tryz.ntmps65 rfl ?_
  repeat (first
   |refine vB [0,3,4] ?_
   | (refine rG 1 ?_
      refine xE2 ?_;refine xB Tryz.func73 hA ?_;refine xE6 ?_;refine aB ?_)
   | (refine rG 2 ?_
      refine xE2 ?_;refine xB Tryz.func73 hB ?_;refine xE6 ?_;refine aB ?_))
  refine⟨zC 123 [(12,.c (bC false))] [] [],[],Wk.mk [] rfl rfl rfl ?_ trivial,rfl,rfl,aR1⟩
  exact zB
 subst c1 c2;rw[decide_eq_true rfl,Bool.true_and,Bool.true_and];have hu:=kAz rfl;have hv:=kBz rfl;by_cases c3:(c.dx,c.dy)∈shL (shN x y);rotate_left
 ·rw [zHa fun h=>c3 h.1]
  rw[decide_eq_false c3]at hCo;refine zH Tryz.func65 rfl rfl Tryz.ntmps65 rfl ?_
  repeat (first
   |refine vB [0,4] ?_
   | (refine rG 1 ?_
      refine xE2 ?_;refine xB Tryz.func73 hA ?_;refine xE6 ?_;refine aB ?_)
   | (refine rG 2 ?_
      refine xE2 ?_;refine xB Tryz.func73 hB ?_;refine xE6 ?_;refine aB ?_)
   |(refine AWp.draw (id:=3) zI ?_;refine xE9 ?_;refine xB Tryz.func78 hSh ?_;refine xE5 ?_;refine xB Tryz.func77 hCo ?_;refine xE2 ?_;refine aB ⟨by kernel_rfl,?_⟩))
  refine⟨zC 123 [(12,.c (bC false))] [] [],[],Wk.mk [] rfl rfl rfl ?_ trivial,rfl,rfl,aR1⟩
  exact zB
 rw[decide_eq_true c3]at hCo;have hd:=zSI c3;dsimp only at hd;have bx:=zBy x;have b_y:=zBy y;have hl1:=zLN x;have hl2:=zLN y;have hst:=zD2 (w:=u.W) x y (okB hu).1;have huW:=okB hu
 obtain⟨t,ht⟩:∃t,stN u.W x y=t:=⟨_,rfl⟩
 rw[ht]at hst;have ht':min (u.W+8) (max (zO x).st (zO y).st)=t:=ht;by_cases c4:-4≤c.col∧c.col≤u.W+4-t;rotate_left
 ·rw[zHa fun h=>c4 ⟨h.2.1,by rw[←ht];exact h.2.2⟩]
  by_cases c5:c.col < -4
  ·refine zH Tryz.func65 rfl rfl Tryz.ntmps65 rfl ?_
   repeat (first
    |refine vB [0,6,7,8] ?_
    | (refine rG 1 ?_
       refine xE2 ?_;refine xB Tryz.func73 hA ?_;refine xE6 ?_;refine aB ?_)
    | (refine rG 2 ?_
       refine xE2 ?_;refine xB Tryz.func73 hB ?_;refine xE6 ?_;refine aB ?_)
    |(refine AWp.draw (id:=3) zI ?_;refine xE9 ?_;refine xB Tryz.func78 hSh ?_;refine xE5 ?_;refine xB Tryz.func77 hCo ?_;refine xE2 ?_;refine aB ⟨by kernel_rfl,?_⟩)
    |(refine AWp.draw (id:=5) zI ?_;refine vA ?_;refine xB Tryz.func79 hl1 ?_;refine vA ?_;refine xB Tryz.func79 hl2 ?_;refine xE2 ?_;refine aB ⟨by kernel_rfl,?_⟩))
   refine⟨zC 123 [(12,.c (bC false))] [] [],[],Wk.mk [] rfl rfl rfl ?_ trivial,rfl,rfl,aR1⟩
   exact zB
  ·have c6:c.col>u.W - -4-min (u.W+8) (max (zO x).st (zO y).st):=by omega
   refine zH Tryz.func65 rfl rfl Tryz.ntmps65 rfl ?_
   repeat (first
    |refine vB [0,6,7,8] ?_
    | (refine rG 1 ?_
       refine xE2 ?_;refine xB Tryz.func73 hA ?_;refine xE6 ?_;refine aB ?_)
    | (refine rG 2 ?_
       refine xE2 ?_;refine xB Tryz.func73 hB ?_;refine xE6 ?_;refine aB ?_)
    |(refine AWp.draw (id:=3) zI ?_;refine xE9 ?_;refine xB Tryz.func78 hSh ?_;refine xE5 ?_;refine xB Tryz.func77 hCo ?_;refine xE2 ?_;refine aB ⟨by kernel_rfl,?_⟩)
    |(refine AWp.draw (id:=5) zI ?_;refine vA ?_;refine xB Tryz.func79 hl1 ?_;refine vA ?_;refine xB Tryz.func79 hl2 ?_;refine xE2 ?_;refine aB ⟨by kernel_rfl,?_⟩))
   refine⟨zC 123 [(12,.c (bC false))] [] [],[],Wk.mk [] rfl rfl rfl ?_ trivial,rfl,rfl,aR1⟩
   exact zB
 rw[zMR ⟨c3,c4.1,by rw[ht];exact c4.2⟩]
 have huv:=okB hu;have o1:=zNv u v c.dx c.dy c.col (c.col+t) hu hv xD xD;have o2:=zNv v u (-c.dx) (-c.dy) (c.col-c.dx) (c.col-c.dx+t) hv hu xD xD;have n1:=zE6 u v c.dx c.dy c.col (c.col+t) hu;have n2:=zE6 v u (-c.dx) (-c.dy) (c.col-c.dx) (c.col-c.dx+t) hv;rw[ht];generalize zBd u v c.dx c.dy c.col (c.col+t)=m1 at *;generalize zBd v u (-c.dx) (-c.dy) (c.col-c.dx) (c.col-c.dx+t)=m2 at *;have c5:¬c.col < -4:=by omega
 have c6:¬c.col>u.W - -4-min (u.W+8) (max (zO x).st (zO y).st):=by omega
 by_cases c7:m1≤(zO x).lo+(zO y).bl
 ·rw[decide_eq_true c7,Bool.true_and]
  by_cases c8:m2≤(zO y).lo+(zO x).bl
  ·rw [decide_eq_true c8]
   refine zH Tryz.func65 rfl rfl Tryz.ntmps65 rfl ?_
   repeat (first
    |refine vB [0,6,7,9] ?_
    | (refine rG 1 ?_
       refine xE2 ?_;refine xB Tryz.func73 hA ?_;refine xE6 ?_;refine aB ?_)
    | (refine rG 2 ?_
       refine xE2 ?_;refine xB Tryz.func73 hB ?_;refine xE6 ?_;refine aB ?_)
    |(refine AWp.draw (id:=3) zI ?_;refine xE9 ?_;refine xB Tryz.func78 hSh ?_;refine xE5 ?_;refine xB Tryz.func77 hCo ?_;refine xE2 ?_;refine aB ⟨by kernel_rfl,?_⟩)
    |(refine AWp.draw (id:=5) zI ?_;refine vA ?_;refine xB Tryz.func79 hl1 ?_;refine vA ?_;refine xB Tryz.func79 hl2 ?_;refine xE2 ?_;refine aB ⟨by kernel_rfl,?_⟩))
   refine AWp.weak (S':=zC 123 [(9,.c (.pt 9 4 0 0)),(10,.c (.pt 10 4 0 0)),(11,.c (.pt 11 3 0 0)),(13,.c (.pt 13 3 0 0)),(15,.c (.pt 15 3 0 0)),(17,.c (iC t)),(19,.c (iC (c.col-c.dx)))] [(9,⟨false,1,4,33,lF (bgC (zO x))⟩),(10,⟨false,1,4,33,lF (bgC (zO y))⟩),(11,⟨false,1,3,58,lF (clC c)⟩),(13,⟨false,1,3,53,lF (bpC u)⟩),(15,⟨false,1,3,53,lF (bpC v)⟩)] [9,10,11,13,15]) (Wk.mk [(9,some 9),(10,some 10),(11,some 11),(13,some 13),(15,some 15)] rfl rfl rfl ?_ ?_) ?_
   ·repeat (first|exact trivial|refine⟨⟨_,rfl,by first|exact LeA.c (LeC.int ht')|exact leT⟩,?_⟩)
   ·exact⟨hSm,hSm,hSm,hSm,hSm,trivial⟩
   repeat (first
    |refine vB [] ?_
    |(refine AWp.draw (id:=10) zI ?_;refine zDn ?_;refine xB Tryz.func80 o1 ?_;(iterate 19 refine vA ?_);refine xB Tryz.func80 o2 ?_;refine xE8 ?_;refine aB ⟨by kernel_rfl,?_⟩))
   refine⟨zC 123 [(12,.c (bC true))] [] [],[],Wk.mk [] rfl rfl rfl ?_ trivial,rfl,rfl,aR1⟩
   exact zB
  ·rw [decide_eq_false c8]
   refine zH Tryz.func65 rfl rfl Tryz.ntmps65 rfl ?_
   repeat (first
    |refine vB [0,6,7,9] ?_
    | (refine rG 1 ?_
       refine xE2 ?_;refine xB Tryz.func73 hA ?_;refine xE6 ?_;refine aB ?_)
    | (refine rG 2 ?_
       refine xE2 ?_;refine xB Tryz.func73 hB ?_;refine xE6 ?_;refine aB ?_)
    |(refine AWp.draw (id:=3) zI ?_;refine xE9 ?_;refine xB Tryz.func78 hSh ?_;refine xE5 ?_;refine xB Tryz.func77 hCo ?_;refine xE2 ?_;refine aB ⟨by kernel_rfl,?_⟩)
    |(refine AWp.draw (id:=5) zI ?_;refine vA ?_;refine xB Tryz.func79 hl1 ?_;refine vA ?_;refine xB Tryz.func79 hl2 ?_;refine xE2 ?_;refine aB ⟨by kernel_rfl,?_⟩))
   refine AWp.weak (S':=zC 123 [(9,.c (.pt 9 4 0 0)),(10,.c (.pt 10 4 0 0)),(11,.c (.pt 11 3 0 0)),(13,.c (.pt 13 3 0 0)),(15,.c (.pt 15 3 0 0)),(17,.c (iC t)),(19,.c (iC (c.col-c.dx)))] [(9,⟨false,1,4,33,lF (bgC (zO x))⟩),(10,⟨false,1,4,33,lF (bgC (zO y))⟩),(11,⟨false,1,3,58,lF (clC c)⟩),(13,⟨false,1,3,53,lF (bpC u)⟩),(15,⟨false,1,3,53,lF (bpC v)⟩)] [9,10,11,13,15]) (Wk.mk [(9,some 9),(10,some 10),(11,some 11),(13,some 13),(15,some 15)] rfl rfl rfl ?_ ?_) ?_
   ·repeat (first|exact trivial|refine⟨⟨_,rfl,by first|exact LeA.c (LeC.int ht')|exact leT⟩,?_⟩)
   ·exact⟨hSm,hSm,hSm,hSm,hSm,trivial⟩
   repeat (first
    |refine vB [] ?_
    |(refine AWp.draw (id:=10) zI ?_;refine zDn ?_;refine xB Tryz.func80 o1 ?_;(iterate 19 refine vA ?_);refine xB Tryz.func80 o2 ?_;refine xE8 ?_;refine aB ⟨by kernel_rfl,?_⟩))
   refine⟨zC 123 [(12,.c (bC false))] [] [],[],Wk.mk [] rfl rfl rfl ?_ trivial,rfl,rfl,aR1⟩
   exact zB
 ·rw [decide_eq_false c7,Bool.false_and]
  refine zH Tryz.func65 rfl rfl Tryz.ntmps65 rfl ?_
  repeat (first
   |refine vB [0,6,7,9] ?_
   | (refine rG 1 ?_
      refine xE2 ?_;refine xB Tryz.func73 hA ?_;refine xE6 ?_;refine aB ?_)
   | (refine rG 2 ?_
      refine xE2 ?_;refine xB Tryz.func73 hB ?_;refine xE6 ?_;refine aB ?_)
   |(refine AWp.draw (id:=3) zI ?_;refine xE9 ?_;refine xB Tryz.func78 hSh ?_;refine xE5 ?_;refine xB Tryz.func77 hCo ?_;refine xE2 ?_;refine aB ⟨by kernel_rfl,?_⟩)
   |(refine AWp.draw (id:=5) zI ?_;refine vA ?_;refine xB Tryz.func79 hl1 ?_;refine vA ?_;refine xB Tryz.func79 hl2 ?_;refine xE2 ?_;refine aB ⟨by kernel_rfl,?_⟩))
  refine AWp.weak (S':=zC 123 [(9,.c (.pt 9 4 0 0)),(10,.c (.pt 10 4 0 0)),(11,.c (.pt 11 3 0 0)),(13,.c (.pt 13 3 0 0)),(15,.c (.pt 15 3 0 0)),(17,.c (iC t)),(19,.c (iC (c.col-c.dx)))] [(9,⟨false,1,4,33,lF (bgC (zO x))⟩),(10,⟨false,1,4,33,lF (bgC (zO y))⟩),(11,⟨false,1,3,58,lF (clC c)⟩),(13,⟨false,1,3,53,lF (bpC u)⟩),(15,⟨false,1,3,53,lF (bpC v)⟩)] [9,10,11,13,15]) (Wk.mk [(9,some 9),(10,some 10),(11,some 11),(13,some 13),(15,some 15)] rfl rfl rfl ?_ ?_) ?_
  ·repeat (first|exact trivial|refine⟨⟨_,rfl,by first|exact LeA.c (LeC.int ht')|exact leT⟩,?_⟩)
  ·exact⟨hSm,hSm,hSm,hSm,hSm,trivial⟩
  repeat (first
   |refine vB [] ?_
   |(refine AWp.draw (id:=10) zI ?_;refine zDn ?_;refine xB Tryz.func80 o1 ?_;(iterate 28 refine vA ?_);refine aB ⟨by kernel_rfl,?_⟩))
  refine⟨zC 123 [(12,.c (bC false))] [] [],[],Wk.mk [] rfl rfl rfl ?_ trivial,rfl,rfl,aR1⟩
  exact zB
end Go.Proofs.YtpefnljgalpllaaGreat
end
