/- Parts of the proof: Sum, A23a, A23b, A23c, A23e, A23f, A23g, A23h, ImgFits, A23k. -/
import Derived.Test.YtpefnljgalpllaaGreatG06
import Derived.Test.YtpefnljgalpllaaGreatG11
import Derived.Test.YtpefnljgalpllaaGreatG12
set_option linter.unusedSimpArgs false
set_option linter.unusedVariables false
set_option maxHeartbeats 0
set_option maxRecDepth 100000
section
namespace Go.Plain
def zAd(f:Nat→Int):Nat→Int
 |0=>0
 |n+1=>zAd f n+f n
def cnt(p:Nat→Bool)(n:Nat):Int:=zAd (fun j=>if p j then 1 else 0) n

theorem zC5{f g:Nat→Int}:∀{n:Nat},(∀k,k<n→f k=g k)→zAd f n=zAd g n
 |0,_=>rfl
 |n+1,h=>by simp only[zAd];rw[zC5 (n:=n) fun k hk=>h k (by omega),h n (by omega)]
theorem zDG{f:Nat→Int}:∀{n:Nat},(∀k,k<n→0≤f k)→0≤zAd f n
 |0,_=>by simp[zAd]
 |n+1,h=>by have:=zDG (n:=n) fun k hk=>h k (by omega);have:=h n (by omega);simp only[zAd];omega
theorem zHK{f g:Nat→Int}:∀{n:Nat},(∀k,k<n→f k≤g k)→zAd f n≤zAd g n
 |0,_=>by simp[zAd]
 |n+1,h=>by have:=zHK (n:=n) fun k hk=>h k (by omega);have:=h n (by omega);simp only[zAd];omega
theorem zC6(c:Int):∀n:Nat,zAd (fun _=>c) n=n*c
 |0=>by simp[zAd]
 |n+1=>by simp only[zAd,zC6 c n];rw[Int.natCast_succ,Int.add_mul];omega
theorem zHJ(f g:Nat→Int):∀n:Nat,zAd (fun k=>f k+g k) n=zAd f n+zAd g n
 |0=>rfl
 |n+1=>by simp only[zAd,zHJ f g n];omega
theorem zJS(f g:Nat→Int):∀n:Nat,zAd (fun k=>f k-g k) n=zAd f n-zAd g n
 |0=>rfl
 |n+1=>by simp only[zAd,zJS f g n];omega
theorem zEI(f:Nat→Int)(a:Nat):∀b:Nat,zAd f (a+b)=zAd f a+zAd (fun k=>f (a+k)) b
 |0=>by simp[zAd]
 |b+1=>by rw[←Nat.add_assoc];simp only[zAd,zEI f a b];omega
theorem cnt_nonneg(p:Nat→Bool)(n:Nat):0≤cnt p n:=zDG fun k _=>by split<;>omega
theorem zCU(p:Nat→Bool)(n:Nat):cnt p n≤n:=by
 have:=zHK (f:=fun j=>if p j then 1 else 0) (g:=fun _=>1) (n:=n) fun k _=>by split<;>omega
 rw[zC6]at this;unfold cnt
 omega
theorem zGS(p:Nat→Bool):cnt p 0=0:=rfl
theorem zDd(p:Nat→Bool)(n:Nat):cnt p (n+1)=cnt p n+if p n then 1 else 0:=rfl
theorem zGQ{p q:Nat→Bool}{n:Nat}(h:∀k,k<n→p k=q k):cnt p n=cnt q n:=zC5 fun k hk=>by rw[h k hk]
end Go.Plain
end
section
namespace Go.Proofs.YtpefnljgalpllaaGreat
open Go.RowKit Go.Flow Go.AV Go.Plain
structure Bg where
 lo:Int
 bl:Int
 sh:Int
 st:Int
 deriving DecidableEq
abbrev bgC(x:Bg):List CV:= [iC x.lo,iC x.bl,iC x.sh,iC x.st]
abbrev bgZ:Bg:=⟨0,0,0,0⟩
abbrev zCM(n m:Int):Int:=max 0 (min n m)
def zO(x:Bg):Bg:=⟨zCM x.lo 200,zCM x.bl 200,zCM x.sh 2,zCM x.st 16⟩
theorem zRq{x:Bg}(h:x=zO x):(0≤x.lo∧x.lo≤200)∧(0≤x.bl∧x.bl≤200)∧(0≤x.sh∧x.sh≤2)∧0≤x.st∧x.st≤16:=by
 have e1:=congrArg Bg.lo h;have e2:=congrArg Bg.bl h;have e3:=congrArg Bg.sh h;have e4:=congrArg Bg.st h
 simp only[zO,zCM]at e1 e2 e3 e4
 omega
theorem zI6(x:Bg):zO (zO x)=zO x:=by
 simp only[zO,zCM,Bg.mk.injEq]
 omega
abbrev zBk(n:Nat)(px:Nat→Int):AB:=⟨true,n,1,3,iF px⟩
def zE5(n:Nat)(px:Nat→Int)(l:Nat→Int)(kind:Int)(k:Nat):Prop:=0≤l k∧l k<n∧(0<k→l (k-1)<l k)∧px (l k).toNat=kind
instance(n:Nat)(px l:Nat→Int)(kind:Int)(k:Nat):Decidable (zE5 n px l kind k):=by unfold zE5;infer_instance
def zJf(n:Nat)(px:Nat→Int)(l:Nat→Int)(kind:Int)(N:Nat):Bool:=(List.range N).all fun k=>decide (zE5 n px l kind k)
theorem mkAll_iff{n N:Nat}{px l:Nat→Int}{kind:Int}:zJf n px l kind N=true↔∀k,k<N→zE5 n px l kind k:=by
 unfold zJf;rw[List.all_eq_true]
 simp only[List.mem_range,decide_eq_true_eq]
theorem zO3(n:Nat)(f:Nat→Int)(h0:0<n)(hn:n≤1000000):zER Tryz.prog 51 [.c (.ls n 1 (iF f))] (fun id=>.c (.ow id)) (zBk n f):=by
 refine zRT Tryz.func51 rfl rfl Tryz.ntmps51 rfl ?_
 repeat (first
  |refine vB [0,2] ?_
  | (refine rG 1 ?_
     refine vA ?_;refine zBP rfl rfl rfl Tryz.underlying35 oM oM ?_;refine aB ?_)
  | (refine rG 3 ?_
     refine xE2 ?_;refine xA ?_;refine vA ?_;refine aB ?_))
 refine⟨zC 8 [(2,.c (.ow 7))] [(7,zBk n f)] [7],Wk.mk [(7,some 7)] rfl rfl rfl ?_ ?_,2,7,rfl,rfl,rfl,rfl,fun _ _ _ _=>rfl⟩
 ·exact zB
 ·exact zAc
theorem zEU(W H:Int)(n:Nat)(dot:Nat→Bool):ACalls Tryz.prog 47 [.ag (zAz W H n dot)] (.c (iC (chk W H n))):=
 zEL rfl fun O w vals h=>by
  obtain⟨x,rfl,h1⟩:=zA8 h
  obtain⟨A,c,rfl,-,hA⟩:=zFd h1
  exact zKK W H A n c w
theorem zE8(W H:Int)(n:Nat)(dot:Nat→Bool):ACalls Tryz.prog 44 [.ag (zAz W H n dot)] (.c (iC (chk W H n))):=
 zEL rfl fun O w vals h=>by
  obtain⟨x,rfl,h1⟩:=zA8 h
  obtain⟨A,c,rfl,-,hA⟩:=zFd h1
  exact zD9 W H A n c w
theorem zGp(W H:Int)(n:Nat)(dot:Nat→Bool)(x y:Int)(hok:chk W H n=0):ACalls Tryz.prog 45 [.ag (zAz W H n dot),.c (iC x),.c (iC y)] (.c (bC (zAo W H dot x y))):=
 zEL rfl fun O w vals h=>by
  obtain⟨b,x1,y1,rfl,h1,h2,h3⟩:=zP5 h
  obtain⟨A,c,rfl,-,hA⟩:=zFd h1
  cases zDk h2
  cases zDk h3
  exact zKP W H A n c dot x y w hok hA
structure Bp where
 W:Int
 H:Int
 n:Nat
 d:Nat→Bool
abbrev bpC(b:Bp):List CV:=zAz b.W b.H b.n b.d
end Go.Proofs.YtpefnljgalpllaaGreat
end
section
namespace Go.Proofs.YtpefnljgalpllaaGreat
open Go.RowKit Go.Flow Go.Plain
open Go.Proofs
attribute [local go_sem] zBm
attribute [local go_sem ↓] Go.wp_at_zero Go.wp_at_succ

def zQe(a b:Int)(f g:Nat→Int)(k:Nat):Bool:=f k==a && g k==b
end Go.Proofs.YtpefnljgalpllaaGreat
end
section
namespace Go.Proofs.YtpefnljgalpllaaGreat
open Go.RowKit Go.Flow Go.AV Go.Plain
structure Ip where
 W:Int
 H:Int
 n:Nat
 f:Nat→Int
abbrev bpF(b:Bp)(dx dy:Int):Nat→Int:=zR4 b.W b.H b.d dx dy
def zGX(x:Ip)(b:Bp)(dx dy:Int):Prop:=zR3 b.W b.H b.n dx dy=0∧zQu x.W x.H x.n x.f=0∧x.W=b.W+4∧x.H=b.H+4
instance(x:Ip)(b:Bp)(dx dy:Int):Decidable (zGX x b dx dy):=by unfold zGX;infer_instance
def zMo(x:Ip)(b:Bp)(dx dy:Int)(i j:Int):Int:=if zGX x b dx dy then cnt (zQe i j x.f (bpF b dx dy)) x.n else 0
end Go.Proofs.YtpefnljgalpllaaGreat
end
