/- Parts of the proof: Sum, A23a, A23b, A23c, A23e, A23f, A23g, A23h, ImgFits, A23k. -/
import Derived.Test.YtbffmfeldkjkcaaGreatG11
import Derived.Test.YtbffmfeldkjkcaaGreatG12
set_option linter.unusedSimpArgs false
set_option linter.unusedVariables false
set_option maxHeartbeats 0
set_option maxRecDepth 100000
section
namespace Go.Plain
def zAi(f:Nat→Int):Nat→Int
 |0=>0
 |n+1=>zAi f n+f n
def cnt(p:Nat→Bool)(n:Nat):Int:=zAi (fun j=>if p j then 1 else 0) n

theorem zDo{f g:Nat→Int}:∀{n:Nat},(∀k,k<n→f k=g k)→zAi f n=zAi g n
 |0,_=>rfl
 |n+1,h=>by simp only[zAi];rw[zDo (n:=n) fun k hk=>h k (by omega),h n (by omega)]
theorem zDE{f:Nat→Int}:∀{n:Nat},(∀k,k<n→0≤f k)→0≤zAi f n
 |0,_=>by simp[zAi]
 |n+1,h=>by have:=zDE (n:=n) fun k hk=>h k (by omega);have:=h n (by omega);simp only[zAi];omega
theorem zHw{f g:Nat→Int}:∀{n:Nat},(∀k,k<n→f k≤g k)→zAi f n≤zAi g n
 |0,_=>by simp[zAi]
 |n+1,h=>by have:=zHw (n:=n) fun k hk=>h k (by omega);have:=h n (by omega);simp only[zAi];omega
theorem zC6(c:Int):∀n:Nat,zAi (fun _=>c) n=n*c
 |0=>by simp[zAi]
 |n+1=>by simp only[zAi,zC6 c n];rw[Int.natCast_succ,Int.add_mul];omega
theorem zHv(f g:Nat→Int):∀n:Nat,zAi (fun k=>f k+g k) n=zAi f n+zAi g n
 |0=>rfl
 |n+1=>by simp only[zAi,zHv f g n];omega
theorem zJI(f g:Nat→Int):∀n:Nat,zAi (fun k=>f k-g k) n=zAi f n-zAi g n
 |0=>rfl
 |n+1=>by simp only[zAi,zJI f g n];omega
theorem zE4(f:Nat→Int)(a:Nat):∀b:Nat,zAi f (a+b)=zAi f a+zAi (fun k=>f (a+k)) b
 |0=>by simp[zAi]
 |b+1=>by rw[←Nat.add_assoc];simp only[zAi,zE4 f a b];omega
theorem cnt_nonneg(p:Nat→Bool)(n:Nat):0≤cnt p n:=zDE fun k _=>by split<;>omega
theorem zCT(p:Nat→Bool)(n:Nat):cnt p n≤n:=by
 have:=zHw (f:=fun j=>if p j then 1 else 0) (g:=fun _=>1) (n:=n) fun k _=>by split<;>omega
 rw[zC6]at this;unfold cnt
 omega
theorem zGN(p:Nat→Bool):cnt p 0=0:=rfl
theorem zDv(p:Nat→Bool)(n:Nat):cnt p (n+1)=cnt p n+if p n then 1 else 0:=rfl
theorem zIv{p q:Nat→Bool}{n:Nat}(h:∀k,k<n→p k=q k):cnt p n=cnt q n:=zDo fun k hk=>by rw[h k hk]
end Go.Plain
end
section
namespace Go.Proofs.YtbffmfeldkjkcaaGreat
open Go.RowKit Go.Flow Go.AV Go.Plain
structure Bg where
 lo:Int
 bl:Int
 sh:Int
 st:Int
 deriving DecidableEq
abbrev bgC(x:Bg):List CV:= [iC x.lo,iC x.bl,iC x.sh,iC x.st]
abbrev bgZ:Bg:=⟨0,0,0,0⟩
abbrev zC1(n m:Int):Int:=max 0 (min n m)
def zAk(x:Bg):Bg:=⟨zC1 x.lo 200,zC1 x.bl 200,zC1 x.sh 2,zC1 x.st 16⟩
theorem zQT{x:Bg}(h:x=zAk x):(0≤x.lo∧x.lo≤200)∧(0≤x.bl∧x.bl≤200)∧(0≤x.sh∧x.sh≤2)∧0≤x.st∧x.st≤16:=by
 have e1:=congrArg Bg.lo h;have e2:=congrArg Bg.bl h;have e3:=congrArg Bg.sh h;have e4:=congrArg Bg.st h
 simp only[zAk,zC1]at e1 e2 e3 e4
 omega
theorem zI6(x:Bg):zAk (zAk x)=zAk x:=by
 simp only[zAk,zC1,Bg.mk.injEq]
 omega
abbrev zAc(n:Nat)(px:Nat→Int):AB:=⟨true,n,1,3,iF px⟩
def zER(n:Nat)(px:Nat→Int)(l:Nat→Int)(kind:Int)(k:Nat):Prop:=0≤l k∧l k<n∧(0<k→l (k-1)<l k)∧px (l k).toNat=kind
instance(n:Nat)(px l:Nat→Int)(kind:Int)(k:Nat):Decidable (zER n px l kind k):=by unfold zER;infer_instance
def zJg(n:Nat)(px:Nat→Int)(l:Nat→Int)(kind:Int)(N:Nat):Bool:=(List.range N).all fun k=>decide (zER n px l kind k)
theorem mkAll_iff{n N:Nat}{px l:Nat→Int}{kind:Int}:zJg n px l kind N=true↔∀k,k<N→zER n px l kind k:=by
 unfold zJg;rw[List.all_eq_true]
 simp only[List.mem_range,decide_eq_true_eq]
theorem zOF(n:Nat)(f:Nat→Int)(h0:0<n)(hn:n≤1000000):zEI Tryz.prog 30 [.c (.ls n 1 (iF f))] (fun id=>.c (.ow id)) (zAc n f):=by
 refine zRn Tryz.func30 rfl rfl Tryz.ntmps30 rfl ?_
 repeat (first
  |refine vB [0,2] ?_
  | (refine rG 1 ?_
     refine vA ?_;refine zBc rfl rfl rfl Tryz.underlying23 oM oM ?_;refine aB ?_)
  | (refine rG 3 ?_
     refine xE2 ?_;refine xA ?_;refine vA ?_;refine aB ?_))
 refine⟨zC 8 [(2,.c (.ow 7))] [(7,zAc n f)] [7],Wk.mk [(7,some 7)] rfl rfl rfl ?_ ?_,2,7,rfl,rfl,rfl,rfl,fun _ _ _ _=>rfl⟩
 ·exact zB
 ·exact zAf
theorem zFv(W H:Int)(n:Nat)(dot:Nat→Bool):ACalls Tryz.prog 51 [.ag (zAz W H n dot)] (.c (iC (chk W H n))):=
 zFc rfl fun O w vals h=>by
  obtain⟨x,rfl,h1⟩:=zBd h
  obtain⟨A,c,rfl,-,hA⟩:=zF3 h1
  exact zOB W H A n c w
theorem zEV(W H:Int)(n:Nat)(dot:Nat→Bool):ACalls Tryz.prog 61 [.ag (zAz W H n dot)] (.c (iC (chk W H n))):=
 zFc rfl fun O w vals h=>by
  obtain⟨x,rfl,h1⟩:=zBd h
  obtain⟨A,c,rfl,-,hA⟩:=zF3 h1
  exact zEf W H A n c w
theorem zGt(W H:Int)(n:Nat)(dot:Nat→Bool)(x y:Int)(hok:chk W H n=0):ACalls Tryz.prog 73 [.ag (zAz W H n dot),.c (iC x),.c (iC y)] (.c (bC (zAu W H dot x y))):=
 zFc rfl fun O w vals h=>by
  obtain⟨b,x1,y1,rfl,h1,h2,h3⟩:=zPA h
  obtain⟨A,c,rfl,-,hA⟩:=zF3 h1
  cases zDk h2
  cases zDk h3
  exact zKG W H A n c dot x y w hok hA
structure Bp where
 W:Int
 H:Int
 n:Nat
 d:Nat→Bool
abbrev bpC(b:Bp):List CV:=zAz b.W b.H b.n b.d
end Go.Proofs.YtbffmfeldkjkcaaGreat
end
section
namespace Go.Proofs.YtbffmfeldkjkcaaGreat
open Go.RowKit Go.Flow Go.Plain
open Go.Proofs
attribute [local go_sem] zBu
attribute [local go_sem ↓] Go.wp_at_zero Go.wp_at_succ

def zPJ(a b:Int)(f g:Nat→Int)(k:Nat):Bool:=f k==a && g k==b
end Go.Proofs.YtbffmfeldkjkcaaGreat
end
section
namespace Go.Proofs.YtbffmfeldkjkcaaGreat
open Go.RowKit Go.Flow Go.AV Go.Plain
structure Ip where
 W:Int
 H:Int
 n:Nat
 f:Nat→Int
abbrev bpF(b:Bp)(dx dy:Int):Nat→Int:=zRx b.W b.H b.d dx dy
def zGS(x:Ip)(b:Bp)(dx dy:Int):Prop:=zRw b.W b.H b.n dx dy=0∧zPV x.W x.H x.n x.f=0∧x.W=b.W+4∧x.H=b.H+4
instance(x:Ip)(b:Bp)(dx dy:Int):Decidable (zGS x b dx dy):=by unfold zGS;infer_instance
def zMc(x:Ip)(b:Bp)(dx dy:Int)(i j:Int):Int:=if zGS x b dx dy then cnt (zPJ i j x.f (bpF b dx dy)) x.n else 0
end Go.Proofs.YtbffmfeldkjkcaaGreat
end
