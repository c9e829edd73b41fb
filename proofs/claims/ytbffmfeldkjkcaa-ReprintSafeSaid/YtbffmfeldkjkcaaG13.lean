/- Parts of the proof: Sum, A23a, A23b, A23c, A23e, A23f, A23g, A23h, ImgFits, A23k. -/
import Derived.Test.YtbffmfeldkjkcaaG11
import Derived.Test.YtbffmfeldkjkcaaG12
set_option linter.unusedSimpArgs false
set_option linter.unusedVariables false
set_option maxHeartbeats 0
section
namespace Go.Plain
def sumTo(f:Nat→Int):Nat→Int
 |0=>0
 |n+1=>sumTo f n+f n
def cnt(p:Nat→Bool)(n:Nat):Int:=sumTo (fun j=>if p j then 1 else 0) n

theorem sumTo_congr{f g:Nat→Int}:∀{n:Nat},(∀k,k<n→f k=g k)→sumTo f n=sumTo g n
 |0,_=>rfl
 |n+1,h=>by simp only[sumTo];rw[sumTo_congr (n:=n) fun k hk=>h k (by omega),h n (by omega)]
theorem sumTo_nonneg{f:Nat→Int}:∀{n:Nat},(∀k,k<n→0≤f k)→0≤sumTo f n
 |0,_=>by simp[sumTo]
 |n+1,h=>by have:=sumTo_nonneg (n:=n) fun k hk=>h k (by omega);have:=h n (by omega);simp only[sumTo];omega
theorem sumTo_le{f g:Nat→Int}:∀{n:Nat},(∀k,k<n→f k≤g k)→sumTo f n≤sumTo g n
 |0,_=>by simp[sumTo]
 |n+1,h=>by have:=sumTo_le (n:=n) fun k hk=>h k (by omega);have:=h n (by omega);simp only[sumTo];omega
theorem sumTo_const(c:Int):∀n:Nat,sumTo (fun _=>c) n=n*c
 |0=>by simp[sumTo]
 |n+1=>by simp only[sumTo,sumTo_const c n];rw[Int.natCast_succ,Int.add_mul];omega
theorem sumTo_add(f g:Nat→Int):∀n:Nat,sumTo (fun k=>f k+g k) n=sumTo f n+sumTo g n
 |0=>rfl
 |n+1=>by simp only[sumTo,sumTo_add f g n];omega
theorem sumTo_sub(f g:Nat→Int):∀n:Nat,sumTo (fun k=>f k-g k) n=sumTo f n-sumTo g n
 |0=>rfl
 |n+1=>by simp only[sumTo,sumTo_sub f g n];omega
theorem sumTo_split(f:Nat→Int)(a:Nat):∀b:Nat,sumTo f (a+b)=sumTo f a+sumTo (fun k=>f (a+k)) b
 |0=>by simp[sumTo]
 |b+1=>by rw[←Nat.add_assoc];simp only[sumTo,sumTo_split f a b];omega
theorem cnt_nonneg(p:Nat→Bool)(n:Nat):0≤cnt p n:=sumTo_nonneg fun k _=>by split<;>omega
theorem cnt_le(p:Nat→Bool)(n:Nat):cnt p n≤n:=by
 have:=sumTo_le (f:=fun j=>if p j then 1 else 0) (g:=fun _=>1) (n:=n) fun k _=>by split<;>omega
 rw[sumTo_const]at this
 unfold cnt
 omega
theorem cnt_zero(p:Nat→Bool):cnt p 0=0:=rfl
theorem cnt_succ(p:Nat→Bool)(n:Nat):cnt p (n+1)=cnt p n+if p n then 1 else 0:=rfl
theorem cnt_congr{p q:Nat→Bool}{n:Nat}(h:∀k,k<n→p k=q k):cnt p n=cnt q n:=sumTo_congr fun k hk=>by rw[h k hk]
end Go.Plain
end
section
namespace Go.Proofs.Ytbffmfeldkjkcaa
open Go.RowKit Go.Flow Go.AV Go.Plain
structure Bg where
 lo:Int
 bl:Int
 sh:Int
 st:Int
 deriving DecidableEq
abbrev bgC(x:Bg):List CV:= [iC x.lo,iC x.bl,iC x.sh,iC x.st]
abbrev bgZ:Bg:=⟨0,0,0,0⟩
abbrev lim1(n m:Int):Int:=max 0 (min n m)
def lim4(x:Bg):Bg:=⟨lim1 x.lo 200,lim1 x.bl 200,lim1 x.sh 2,lim1 x.st 16⟩
theorem lim_bd{x:Bg}(h:x=lim4 x):(0≤x.lo∧x.lo≤200)∧(0≤x.bl∧x.bl≤200)∧(0≤x.sh∧x.sh≤2)∧0≤x.st∧x.st≤16:=by
 have e1:=congrArg Bg.lo h
 have e2:=congrArg Bg.bl h
 have e3:=congrArg Bg.sh h
 have e4:=congrArg Bg.st h
 simp only[lim4,lim1]at e1 e2 e3 e4
 omega
theorem lim_idem(x:Bg):lim4 (lim4 x)=lim4 x:=by
 simp only[lim4,lim1,Bg.mk.injEq]
 omega
abbrev rowI(n:Nat)(px:Nat→Int):AB:=⟨true,n,1,3,iF px⟩
def mkOk(n:Nat)(px:Nat→Int)(l:Nat→Int)(kind:Int)(k:Nat):Prop:=0≤l k∧l k<n∧(0<k→l (k-1)<l k)∧px (l k).toNat=kind
instance(n:Nat)(px l:Nat→Int)(kind:Int)(k:Nat):Decidable (mkOk n px l kind k):=by unfold mkOk;infer_instance
def mkAll(n:Nat)(px:Nat→Int)(l:Nat→Int)(kind:Int)(N:Nat):Bool:=(List.range N).all fun k=>decide (mkOk n px l kind k)
theorem mkAll_iff{n N:Nat}{px l:Nat→Int}{kind:Int}:mkAll n px l kind N=true↔∀k,k<N→mkOk n px l kind k:=by
 unfold mkAll
 rw[List.all_eq_true]
 simp only[List.mem_range,decide_eq_true_eq]
set_option maxRecDepth 100000 in
theorem Clone_T(n:Nat)(f:Nat→Int)(h0:0<n)(hn:n≤1000000):OTCalls Try.prog 43 [.c (.ls n 1 (iF f))] (fun id=>.c (.ow id)) (rowI n f):=by
 refine otcalls_at Try.func43 rfl rfl Try.ntmps43 rfl ?_
 repeat (first
  |refine vB [0,2] ?_
  | (refine rG 1 ?_
     refine vA ?_
     refine AList.nilLs rfl rfl rfl Try.underlying23 oM oM ?_
     refine aB ?_)
  | (refine rG 3 ?_
     (iterate 2 refine vA ?_)
     first|refine AList.appL0 tyOk rfl rfl rfl rfl rfl rfl rfl rfl rfl rfl oM oM ?_|refine AList.appL tyOk rfl rfl rfl rfl rfl rfl rfl rfl rfl rfl oM oM ?_|refine AList.appN tyOk rfl rfl rfl rfl rfl rfl rfl rfl rfl oM oM ?_|refine AList.appO tyOk rfl rfl rfl rfl rfl rfl rfl rfl rfl rfl rfl oM oM ?_|refine AList.appE tyOk rfl rfl rfl rfl rfl rfl rfl rfl rfl rfl oM oM ?_
     refine vA ?_
     refine aB ?_))
 refine⟨mkSt 8 [(2,.c (.ow 7))] [(7,rowI n f)] [7],Wk.mk [(7,some 7)] rfl rfl rfl ?_ ?_,2,7,rfl,rfl,rfl,rfl,fun _ _ _ _=>rfl⟩
 ·exact allT
 ·exact allH
theorem bCheck_A(W H:Int)(n:Nat)(dot:Nat→Bool):ACalls Try.prog 63 [.ag (bmpV W H n dot)] (.c (iC (chk W H n))):=
 ACalls.old rfl fun O w vals h=>by
  obtain⟨x,rfl,h1⟩:=args1 h
  obtain⟨A,c,rfl,-,hA⟩:=rep_bmp h1
  exact Check2_any W H A n c w
theorem rbCheck_A(W H:Int)(n:Nat)(dot:Nat→Bool):ACalls Try.prog 69 [.ag (bmpV W H n dot)] (.c (iC (chk W H n))):=
 ACalls.old rfl fun O w vals h=>by
  obtain⟨x,rfl,h1⟩:=args1 h
  obtain⟨A,c,rfl,-,hA⟩:=rep_bmp h1
  exact Check_any W H A n c w
theorem Get_A(W H:Int)(n:Nat)(dot:Nat→Bool)(x y:Int)(hok:chk W H n=0):ACalls Try.prog 86 [.ag (bmpV W H n dot),.c (iC x),.c (iC y)] (.c (bC (hasB W H dot x y))):=
 ACalls.old rfl fun O w vals h=>by
  obtain⟨b,x1,y1,rfl,h1,h2,h3⟩:=args3 h
  obtain⟨A,c,rfl,-,hA⟩:=rep_bmp h1
  cases rep_c h2
  cases rep_c h3
  exact Get_any W H A n c dot x y w hok hA
structure Bp where
 W:Int
 H:Int
 n:Nat
 d:Nat→Bool
abbrev bpC(b:Bp):List CV:=bmpV b.W b.H b.n b.d
end Go.Proofs.Ytbffmfeldkjkcaa
end
section
namespace Go.Proofs.Ytbffmfeldkjkcaa
open Go.RowKit Go.Flow Go.Plain
open Go.Proofs
attribute [local go_sem] block_add
attribute [local go_sem ↓] Go.wp_at_zero Go.wp_at_succ

def bothB(a b:Int)(f g:Nat→Int)(k:Nat):Bool:=f k==a && g k==b
end Go.Proofs.Ytbffmfeldkjkcaa
end
section
namespace Go.Proofs.Ytbffmfeldkjkcaa
open Go.RowKit Go.Flow Go.AV Go.Plain
structure Ip where
 W:Int
 H:Int
 n:Nat
 f:Nat→Int
abbrev bpF(b:Bp)(dx dy:Int):Nat→Int:=putF b.W b.H b.d dx dy
def fitOk(x:Ip)(b:Bp)(dx dy:Int):Prop:=putE b.W b.H b.n dx dy=0∧chkI x.W x.H x.n x.f=0∧x.W=b.W+4∧x.H=b.H+4
instance(x:Ip)(b:Bp)(dx dy:Int):Decidable (fitOk x b dx dy):=by unfold fitOk;infer_instance
def fitN(x:Ip)(b:Bp)(dx dy:Int)(i j:Int):Int:=if fitOk x b dx dy then cnt (bothB i j x.f (bpF b dx dy)) x.n else 0
end Go.Proofs.Ytbffmfeldkjkcaa
end
