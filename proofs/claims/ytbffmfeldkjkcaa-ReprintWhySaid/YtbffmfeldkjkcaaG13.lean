/- Parts of the proof: Sum, A23a, A23b, A23c, A23e, A23f, A23g, A23h, ImgFits, A23k. -/
import Derived.Test.YtbffmfeldkjkcaaG11
import Derived.Test.YtbffmfeldkjkcaaG12
set_option linter.unusedSimpArgs false
set_option linter.unusedVariables false
set_option maxHeartbeats 0
set_option maxRecDepth 100000
section
namespace Go.Plain
def zAl(f:Nat→Int):Nat→Int
 |0=>0
 |n+1=>zAl f n+f n
def cnt(p:Nat→Bool)(n:Nat):Int:=zAl (fun j=>if p j then 1 else 0) n

theorem zDw{f g:Nat→Int}:∀{n:Nat},(∀k,k<n→f k=g k)→zAl f n=zAl g n
 |0,_=>rfl
 |n+1,h=>by simp only[zAl];rw[zDw (n:=n) fun k hk=>h k (by omega),h n (by omega)]
theorem zEW{f:Nat→Int}:∀{n:Nat},(∀k,k<n→0≤f k)→0≤zAl f n
 |0,_=>by simp[zAl]
 |n+1,h=>by have:=zEW (n:=n) fun k hk=>h k (by omega);have:=h n (by omega);simp only[zAl];omega
theorem zJW{f g:Nat→Int}:∀{n:Nat},(∀k,k<n→f k≤g k)→zAl f n≤zAl g n
 |0,_=>by simp[zAl]
 |n+1,h=>by have:=zJW (n:=n) fun k hk=>h k (by omega);have:=h n (by omega);simp only[zAl];omega
theorem zEj(c:Int):∀n:Nat,zAl (fun _=>c) n=n*c
 |0=>by simp[zAl]
 |n+1=>by simp only[zAl,zEj c n];rw[Int.natCast_succ,Int.add_mul];omega
theorem zJV(f g:Nat→Int):∀n:Nat,zAl (fun k=>f k+g k) n=zAl f n+zAl g n
 |0=>rfl
 |n+1=>by simp only[zAl,zJV f g n];omega
theorem zJX(f g:Nat→Int):∀n:Nat,zAl (fun k=>f k-g k) n=zAl f n-zAl g n
 |0=>rfl
 |n+1=>by simp only[zAl,zJX f g n];omega
theorem zFv(f:Nat→Int)(a:Nat):∀b:Nat,zAl f (a+b)=zAl f a+zAl (fun k=>f (a+k)) b
 |0=>by simp[zAl]
 |b+1=>by rw[←Nat.add_assoc];simp only[zAl,zFv f a b];omega
theorem cnt_nonneg(p:Nat→Bool)(n:Nat):0≤cnt p n:=zEW fun k _=>by split<;>omega
theorem zEC(p:Nat→Bool)(n:Nat):cnt p n≤n:=by
 have:=zJW (f:=fun j=>if p j then 1 else 0) (g:=fun _=>1) (n:=n) fun k _=>by split<;>omega
 rw[zEj]at this;unfold cnt
 omega
theorem zIF(p:Nat→Bool):cnt p 0=0:=rfl
theorem zDC(p:Nat→Bool)(n:Nat):cnt p (n+1)=cnt p n+if p n then 1 else 0:=rfl
theorem zG7{p q:Nat→Bool}{n:Nat}(h:∀k,k<n→p k=q k):cnt p n=cnt q n:=zDw fun k hk=>by rw[h k hk]
end Go.Plain
end
section
namespace Go.Proofs.Ytbffmfeldkjkcaa
open Go.RowKit Go.Flow Go.AV Go.Plain
structure Bg where
 lo:Int
 bl:Int
 sh:Int
 st:Int
 deriving DecidableEq
abbrev bgC(x:Bg):List CV:= [iC x.lo,iC x.bl,iC x.sh,iC x.st]
abbrev bgZ:Bg:=⟨0,0,0,0⟩
abbrev zDo(n m:Int):Int:=max 0 (min n m)
def zAb(x:Bg):Bg:=⟨zDo x.lo 200,zDo x.bl 200,zDo x.sh 2,zDo x.st 16⟩
theorem zRj{x:Bg}(h:x=zAb x):(0≤x.lo∧x.lo≤200)∧(0≤x.bl∧x.bl≤200)∧(0≤x.sh∧x.sh≤2)∧0≤x.st∧x.st≤16:=by
 have e1:=congrArg Bg.lo h;have e2:=congrArg Bg.bl h;have e3:=congrArg Bg.sh h;have e4:=congrArg Bg.st h
 simp only[zAb,zDo]at e1 e2 e3 e4
 omega
theorem zRk(x:Bg):zAb (zAb x)=zAb x:=by
 simp only[zAb,zDo,Bg.mk.injEq]
 omega
abbrev zAa(n:Nat)(px:Nat→Int):AB:=⟨true,n,1,3,iF px⟩
def zFk(n:Nat)(px:Nat→Int)(l:Nat→Int)(kind:Int)(k:Nat):Prop:=0≤l k∧l k<n∧(0<k→l (k-1)<l k)∧px (l k).toNat=kind
instance(n:Nat)(px l:Nat→Int)(kind:Int)(k:Nat):Decidable (zFk n px l kind k):=by unfold zFk;infer_instance
def zJn(n:Nat)(px:Nat→Int)(l:Nat→Int)(kind:Int)(N:Nat):Bool:=(List.range N).all fun k=>decide (zFk n px l kind k)
theorem mkAll_iff{n N:Nat}{px l:Nat→Int}{kind:Int}:zJn n px l kind N=true↔∀k,k<N→zFk n px l kind k:=by
 unfold zJn;rw[List.all_eq_true]
 simp only[List.mem_range,decide_eq_true_eq]
theorem zO6(n:Nat)(f:Nat→Int)(h0:0<n)(hn:n≤1000000):zE4 Try.prog 43 [.c (.ls n 1 (iF f))] (fun id=>.c (.ow id)) (zAa n f):=by
 refine zRR Try.func43 rfl rfl Try.ntmps43 rfl ?_
 repeat (first
  |refine vB [0,2] ?_
  | (refine rG 1 ?_
     refine vA ?_;refine zBc rfl rfl rfl Try.underlying23 oM oM ?_;refine aB ?_)
  | (refine rG 3 ?_
     refine xE2 ?_;refine xA ?_;refine vA ?_;refine aB ?_))
 refine⟨zD 8 [(2,.c (.ow 7))] [(7,zAa n f)] [7],Wk.mk [(7,some 7)] rfl rfl rfl ?_ ?_,2,7,rfl,rfl,rfl,rfl,fun _ _ _ _=>rfl⟩
 ·exact zC
 ·exact zAD
theorem zE9(W H:Int)(n:Nat)(dot:Nat→Bool):ACalls Try.prog 63 [.ag (zAT W H n dot)] (.c (iC (chk W H n))):=
 zE0 rfl fun O w vals h=>by
  obtain⟨x,rfl,h1⟩:=zBe h
  obtain⟨A,c,rfl,-,hA⟩:=zFr h1
  exact zKS W H A n c w
theorem zR8(W H:Int)(n:Nat)(dot:Nat→Bool):ACalls Try.prog 69 [.ag (zAT W H n dot)] (.c (iC (chk W H n))):=
 zE0 rfl fun O w vals h=>by
  obtain⟨x,rfl,h1⟩:=zBe h
  obtain⟨A,c,rfl,-,hA⟩:=zFr h1
  exact zEr W H A n c w
theorem zK5(W H:Int)(n:Nat)(dot:Nat→Bool)(x y:Int)(hok:chk W H n=0):ACalls Try.prog 86 [.ag (zAT W H n dot),.c (iC x),.c (iC y)] (.c (bC (zAq W H dot x y))):=
 zE0 rfl fun O w vals h=>by
  obtain⟨b,x1,y1,rfl,h1,h2,h3⟩:=zPT h
  obtain⟨A,c,rfl,-,hA⟩:=zFr h1
  cases zDt h2
  cases zDt h3
  exact zK6 W H A n c dot x y w hok hA
structure Bp where
 W:Int
 H:Int
 n:Nat
 d:Nat→Bool
abbrev bpC(b:Bp):List CV:=zAT b.W b.H b.n b.d
end Go.Proofs.Ytbffmfeldkjkcaa
end
section
namespace Go.Proofs.Ytbffmfeldkjkcaa
open Go.RowKit Go.Flow Go.Plain
open Go.Proofs
attribute [local go_sem] zBf
attribute [local go_sem ↓] Go.wp_at_zero Go.wp_at_succ

def zP0(a b:Int)(f g:Nat→Int)(k:Nat):Bool:=f k==a && g k==b
end Go.Proofs.Ytbffmfeldkjkcaa
end
section
namespace Go.Proofs.Ytbffmfeldkjkcaa
open Go.RowKit Go.Flow Go.AV Go.Plain
structure Ip where
 W:Int
 H:Int
 n:Nat
 f:Nat→Int
abbrev bpF(b:Bp)(dx dy:Int):Nat→Int:=zR3 b.W b.H b.d dx dy
def zHa(x:Ip)(b:Bp)(dx dy:Int):Prop:=zR2 b.W b.H b.n dx dy=0∧zQg x.W x.H x.n x.f=0∧x.W=b.W+4∧x.H=b.H+4
instance(x:Ip)(b:Bp)(dx dy:Int):Decidable (zHa x b dx dy):=by unfold zHa;infer_instance
def zMx(x:Ip)(b:Bp)(dx dy:Int)(i j:Int):Int:=if zHa x b dx dy then cnt (zP0 i j x.f (bpF b dx dy)) x.n else 0
end Go.Proofs.Ytbffmfeldkjkcaa
end
