/- Parts of the proof: AMade, AMd, A24x. -/
import Derived.Test.YtbffmfeldkjkcaaG19
import Derived.Test.YtbffmfeldkjkcaaG18
set_option linter.unusedSimpArgs false
set_option linter.unusedVariables false
set_option maxHeartbeats 0
set_option maxRecDepth 100000
section
namespace Go.Proofs.Ytbffmfeldkjkcaa
open Go.RowKit Go.Flow Go.AV Go.Plain
theorem zPZ{σ:Nat→Option Value}{O:Nat→Prop}{w:World}{W H:Int}{n c base:Nat}{A:Option Addr}{f:Nat→Bool}(hb:∀b,O b→b<base)(hc:n≤c)(h:Mine w base A 4 n (fun k=>.bool (f k))):RepV σ O w (.ag (zAT W H n f)) (bmp W H A n c):=
 ⟨[_,_,_],rfl,⟨rfl,rfl⟩,⟨rfl,rfl⟩,zRt (fun _=>rfl) (fun _ _=>rfl) hb hc h,trivial⟩
abbrev zC3(n:Nat)(f:Nat→Bool):AB:=⟨true,n,1,4,bF f⟩
theorem zOf(n:Int)(h:0≤n∧n≤96):ACalls Try.prog 85 [.c (iC n)] (.c (bC true)):=by
 have h1:=h.1;have h2:=h.2;refine zK Try.func85 rfl rfl Try.ntmps85 rfl ?_;refine vB [0,1] ?_
 refine⟨zD 9 [(2,.c (bC true))] [] [],[],Wk.mk [] rfl rfl rfl ?_ trivial,rfl,rfl,aR1⟩
 exact zC
theorem zFN(W H:Int)(n:Nat)(hW:0≤W∧W≤96)(hH:0≤H∧H≤96)(hn:W*H=n)(hn2:n≤10000):zE4 Try.prog 58 [.c (iC W),.c (iC H)] (fun id=>.tu [.ag ([iC W,iC H]++ .ow id:: []),.c (iC 0)]) (zC3 n fun _=>false):=by
 have h1:=zOf W hW;have h2:=zOf H hH;refine zRQ zA Try.func58 rfl rfl Try.ntmps58 rfl rfl ?_
 repeat (first
  |refine vB [0] ?_
  | (refine rG 1 ?_
     refine vA ?_;refine xB Try.func85 h1 ?_;refine xE3 ?_;refine xB Try.func85 h2 ?_;refine xE2 ?_;refine aB ?_)
  | (refine rG 3 ?_
     refine xE5 ?_;refine zEc (zDP (n:=n) zA) ?_;refine xE3 ?_;refine aB ?_))
 refine⟨zD 22 [(4,.c (.pt 4 3 0 0)),(5,.c (iC 0))] [(4,⟨false,1,3,60,lF [iC W,iC H,.ow 20]⟩),(20,zC3 n fun _=>false)] [4,20],Wk.mk [(4,some 4),(20,some 20)] rfl rfl rfl ?_ ?_,4,60,4,3,60,_,20,_,5,rfl,rfl,rfl,rfl,rfl,rfl,rfl,rfl,rfl,rfl,fun _ _ _ _=>rfl⟩
 ·exact zC
 ·exact⟨HeapOk.box rfl rfl ⟨LeC.int rfl,LeC.int rfl,LeC.ow _ _ rfl,trivial⟩ rfl,HeapOk.row rfl rfl rfl (fun i _=>zY ⟨rfl,rfl⟩),trivial⟩
def pjK(W:Nat)(on:Bool)(i y:Nat)(d:Nat→Bool):Nat→Nat→Bool
 |0=>d
 |m+1=>fun p=>if p=(y+m)*W+i then on else pjK W on i y d m p
def piK(W mj:Nat)(on:Bool)(x y:Nat)(d:Nat→Bool):Nat→Nat→Bool
 |0=>d
 |m+1=>pjK W on (x+m) y (piK W mj on x y d m) mj
def mdX(N:Nat)(f:Nat→Int)(W:Nat)(a:Nat):Nat:=(zBK N f a W).toNat
def zJj(N:Nat)(f:Nat→Int)(a:Nat):Bool:=decide (0<zBK N f a 4)
def zJk(N:Nat)(f:Nat→Int)(W H:Nat)(s:Nat×(Nat→Bool)):Nat×(Nat→Bool):=
 (dat N (dat N (dat N (dat N s.1))),piK W (min H (mdX N f H (dat N s.1)+mdX N f 16 (dat N (dat N s.1))/4+1)-mdX N f H (dat N s.1)) (zJj N f (dat N (dat N (dat N s.1)))) (mdX N f W s.1) (mdX N f H (dat N s.1)) s.2 (min W (mdX N f W s.1+mdX N f 16 (dat N (dat N s.1))%4+1)-mdX N f W s.1))
def mdF(N:Nat)(f:Nat→Int)(W H:Nat):Nat→Nat×(Nat→Bool)→Nat→Bool
 |0,s=>s.2
 |k+1,s=>if s.1<N∧0<W*H then mdF N f W H k (zJk N f W H s)else s.2
def mdW(N:Nat)(f:Nat→Int):Nat:=mdX N f 17 0
def mdH(N:Nat)(f:Nat→Int):Nat:=mdX N f 13 (dat N 0)
def mdV(N:Nat)(f:Nat→Int):Bp:=⟨mdW N f,mdH N f,mdW N f*mdH N f,mdF N f (mdW N f) (mdH N f) 12 (dat N (dat N 0),fun _=>false)⟩
theorem zEM(N:Nat)(f:Nat→Int)(m a:Nat)(hm:0<m):mdX N f m a<m∧((mdX N f m a:Nat):Int)=zBK N f a m:=by
 have:=zIN N f a m xD;unfold mdX
 omega
theorem zPk(N:Nat)(f:Nat→Int)(hN:N≤4611686018427387904):ACalls Try.prog 28 [.c (.ls N 1 (iF f))] (.ag (bpC (mdV N f))):=by
 unfold mdV
 obtain⟨hW,hWe⟩:=zEM N f 17 0 xD
 obtain⟨hH,hHe⟩:=zEM N f 13 (dat N 0) xD
 obtain⟨W,hWd⟩:∃W,mdW N f=W:=⟨_,rfl⟩
 obtain⟨H,hHd⟩:∃H,mdH N f=H:=⟨_,rfl⟩
 rw[show mdX N f 17 0=W from hWd]at hW hWe;rw[show mdX N f 13 (dat N 0)=H from hHd]at hH hHe;rw[hWd,hHd];clear hWd hHd;have hd1:=zDg (N:=N) (Nat.zero_le N);have n1:=zCU N f 0 17 (Nat.zero_le N) hN xD xD;have n2:=zCU N f (dat N 0) 13 hd1 hN xD xD;have hd2:=zDg (N:=N) hd1;rw[show zBK N f 0 17=((W:Nat):Int)from hWe.symm]at n1;rw[show zBK N f (dat N 0) 13=((H:Nat):Int)from hHe.symm]at n2;have hWH:W*H≤16*12:=Nat.mul_le_mul xD xD;have hNew:=zFN W H (W*H) xD xD (by simp) xD
 obtain⟨a0,ha0⟩:∃a,dat N (dat N 0)=a:=⟨_,rfl⟩
 rw[ha0]at n2 hd2⊢
 obtain⟨fin,hfin⟩:∃d,mdF N f W H 12 (a0,fun _=>false)=d:=⟨_,rfl⟩
 rw[hfin];refine zK Try.func28 rfl rfl Try.ntmps28 rfl ?_
 repeat (first
  |refine vB [0,1,3] ?_
  | (refine rG 2 ?_
     refine vA ?_;refine zAB [15] [zAW N f 0] [zAW N f (dat N 0)] rfl rfl rfl Try.func56 rfl xC (LendOk.box rfl rfl rfl trivial) rfl (LendImm.box rfl trivial) (n1) ?_;refine vA ?_;refine zAB [15] [zAW N f (dat N 0)] [zAW N f a0] rfl rfl rfl Try.func56 rfl xC (LendOk.box rfl rfl rfl trivial) rfl (LendImm.box rfl trivial) (n2) ?_;refine zFG rfl rfl rfl rfl rfl Try.func58 rfl xC (hNew) (fun _ _ _ _=>rfl) ?_;refine xE6 ?_;refine aB ?_))
 refine AWp.round (fun s:Nat×Nat×(Nat→Bool)=>zD 97 [(0,.c (.ls N 1 (iF f))),(2,.c (.pt 2 3 0 0)),(3,.c (.pt 15 2 0 0)),(4,.c (.pt 4 3 0 0)),(6,.c (iC s.1))] [(2,⟨false,1,3,60,lF [iC 0,iC 0,.p (.slice none 0 0)]⟩),(15,zAW N f s.2.1),(4,⟨false,1,3,60,lF [iC W,iC H,.ow 60]⟩),(60,zC3 (W*H) s.2.2)] [2,15,4,60])
  (fun s=>s.1≤12∧s.2.1≤N∧mdF N f W H (12-s.1) s.2=fin) (fun s=>12-s.1) (0,a0,fun _=>false) ⟨Nat.zero_le _,hd2,hfin⟩ ?_ (fun s hs=> ?_)
 ·refine Wk.mk [(2,some 2),(15,some 15),(4,some 4),(60,some 21)] rfl rfl rfl ?_ ?_
  ·exact zC
  ·exact⟨hSm,hSm,HeapOk.box rfl rfl ⟨LeC.int rfl,LeC.int rfl,LeC.ow _ _ rfl,trivial⟩ rfl,HeapOk.row rfl rfl rfl (fun i _=>zY ⟨rfl,rfl⟩),trivial⟩
 ·obtain ⟨k,a,d⟩:=s
  obtain⟨hk,ha,hfk⟩:=hs
  dsimp only at hk ha hfk;dsimp only;by_cases hend:k<12∧a<N∧0<W*H
  ·obtain ⟨h12,haN,hpos⟩:=hend
   have hW0:0<W:=Nat.pos_of_ne_zero fun h=>by rw[h,Nat.zero_mul]at hpos;omega
   have hH0:0<H:=Nat.pos_of_ne_zero fun h=>by rw[h,Nat.mul_zero]at hpos;omega
   rw[show 12-k=(12-(k+1))+1 by omega]at hfk;have hfk2:mdF N f W H (12-(k+1)) (zJk N f W H (a,d))=fin:=by
    rw[←hfk];show _=if a<N∧0<W*H then _ else _
    rw[if_pos ⟨haN,hpos⟩]
   clear hfk;have e1:=zDg (N:=N) ha;have e2:=zDg (N:=N) e1;have e3:=zDg (N:=N) e2;have e4:=zDg (N:=N) e3;have m1:=zCU N f a W ha hN xD xD;have m2:=zCU N f (dat N a) H e1 hN xD xD;have m3:=zCU N f (dat N (dat N a)) 16 e2 hN xD xD;have m4:=zCU N f (dat N (dat N (dat N a))) 4 e3 hN xD xD
   obtain⟨x0,x1⟩:=zEM N f W a hW0
   obtain⟨y0,y1⟩:=zEM N f H (dat N a) hH0
   obtain⟨s0,s1⟩:=zEM N f 16 (dat N (dat N a)) xD
   unfold zJk at hfk2;dsimp only at hfk2;rw[←x1]at m1;rw[←y1]at m2;rw[show zBK N f (dat N (dat N a)) 16=((mdX N f 16 (dat N (dat N a)):Nat):Int)from s1.symm]at m3;have hob:=zIN N f (dat N (dat N (dat N a))) 4 xD;clear x1 y1 s1;generalize mdX N f W a=x at *;generalize mdX N f H (dat N a)=y at *;generalize mdX N f 16 (dat N (dat N a))=sz at *
   obtain⟨ov,hov⟩:∃v,zBK N f (dat N (dat N (dat N a))) 4=v:=⟨_,rfl⟩
   have hon:zJj N f (dat N (dat N (dat N a)))=decide (0<ov):=by unfold zJj;rw[hov]
   rw[hon]at hfk2;rw[hov]at m4 hob;clear hon hov
   obtain⟨on,hone⟩:∃b,decide (0<ov)=b:=⟨_,rfl⟩
   rw[hone]at hfk2
   obtain⟨mi,hmi⟩:∃m,min W (x+sz%4+1)-x=m:=⟨_,rfl⟩
   obtain⟨mj,hmj⟩:∃m,min H (y+sz/4+1)-y=m:=⟨_,rfl⟩
   rw[hmi,hmj]at hfk2
   obtain⟨a1,ha1⟩:∃a1,dat N a=a1:=⟨_,rfl⟩
   rw[ha1]at m1 m2 m3 m4 e1 e2 e3 e4 hfk2
   obtain⟨a2,ha2⟩:∃a2,dat N a1=a2:=⟨_,rfl⟩
   rw[ha2]at m2 m3 m4 e2 e3 e4 hfk2
   obtain⟨a3,ha3⟩:∃a3,dat N a2=a3:=⟨_,rfl⟩
   rw[ha3]at m3 m4 e3 e4 hfk2
   obtain⟨a4,ha4⟩:∃a4,dat N a3=a4:=⟨_,rfl⟩
   rw[ha4]at m4 e4 hfk2
   repeat (first
    |refine vB [4] ?_
    | (refine rG 6 ?_
       refine xE3 ?_;refine zAB [15] [zAW N f a] [zAW N f a1] rfl rfl rfl Try.func56 rfl xC (LendOk.box rfl rfl rfl trivial) rfl (LendImm.box rfl trivial) (m1) ?_;refine vA ?_;refine aB ?_)
    | (refine rG 7 ?_
       refine xE3 ?_;refine zAB [15] [zAW N f a1] [zAW N f a2] rfl rfl rfl Try.func56 rfl xC (LendOk.box rfl rfl rfl trivial) rfl (LendImm.box rfl trivial) (m2) ?_;refine vA ?_;refine aB ?_)
    | (refine rG 8 ?_
       refine vA ?_;refine zAB [15] [zAW N f a2] [zAW N f a3] rfl rfl rfl Try.func56 rfl xC (LendOk.box rfl rfl rfl trivial) rfl (LendImm.box rfl trivial) (m3) ?_;refine vA ?_;refine aB ?_)
    | (refine rG 9 ?_
       refine vA ?_;refine zAB [15] [zAW N f a3] [zAW N f a4] rfl rfl rfl Try.func56 rfl xC (LendOk.box rfl rfl rfl trivial) rfl (LendImm.box rfl trivial) (m4) ?_;refine xE2 ?_;refine aB ?_))
   refine AWp.weak (S':=(zD 97 [(0,.c (.ls N 1 (iF f))),(2,.c (.pt 2 3 0 0)),(3,.c (.pt 15 2 0 0)),(4,.c (.pt 4 3 0 0)),(6,.c (iC k)),(7,.c (iC x)),(8,.c (iC y)),(9,.c (iC sz)),(10,.c (bC (decide (0<ov))))] [(2,⟨false,1,3,60,lF [iC 0,iC 0,.p (.slice none 0 0)]⟩),(15,zAW N f a4),(4,⟨false,1,3,60,lF [iC W,iC H,.ow 60]⟩),(60,zC3 (W*H) (d))] [2,15,4,60])) (Wk.mk [(2,some 2),(15,some 15),(4,some 4),(60,some 60)] rfl rfl rfl ?_ ?_) ?_
   ·exact zC
   ·exact⟨hSm,hSm,HeapOk.box rfl rfl ⟨LeC.int rfl,LeC.int rfl,LeC.ow _ _ rfl,trivial⟩ rfl,HeapOk.row rfl rfl rfl (fun i _=>zY ⟨rfl,rfl⟩),trivial⟩
   rw[hone];refine vB [10] ?_;refine AWp.round (fun m:Nat=>(zD 97 [(0,.c (.ls N 1 (iF f))),(2,.c (.pt 2 3 0 0)),(3,.c (.pt 15 2 0 0)),(4,.c (.pt 4 3 0 0)),(6,.c (iC k)),(7,.c (iC x)),(8,.c (iC y)),(9,.c (iC sz)),(10,.c (bC on)),(11,.c (iC ((x+m:Nat):Int)))] [(2,⟨false,1,3,60,lF [iC 0,iC 0,.p (.slice none 0 0)]⟩),(15,zAW N f a4),(4,⟨false,1,3,60,lF [iC W,iC H,.ow 60]⟩),(60,zC3 (W*H) (piK W mj on x y d m))] [2,15,4,60])) (fun m=>m≤mi) (fun m=>mi-m) 0 (Nat.zero_le _) ?_ (fun m hm=> ?_)
   ·refine Wk.mk [(2,some 2),(15,some 15),(4,some 4),(60,some 60)] rfl rfl rfl ?_ ?_
    ·exact zC
    ·exact⟨hSm,hSm,HeapOk.box rfl rfl ⟨LeC.int rfl,LeC.int rfl,LeC.ow _ _ rfl,trivial⟩ rfl,HeapOk.row rfl rfl rfl (fun i _=>zY ⟨rfl,rfl⟩),trivial⟩
   ·by_cases hlt:m<mi
    ·have hi1:x+m<W:=by omega
     have hi2:x+m≤x+sz%4:=by omega
     obtain⟨d1,hd1'⟩:∃d1,piK W mj on x y d m=d1:=⟨_,rfl⟩
     have hnx:piK W mj on x y d (m+1)=pjK W on (x+m) y d1 mj:=by rw[←hd1'];rfl
     rw[hd1'];refine vB [11,13] ?_;refine AWp.round (fun q:Nat=>(zD 97 [(0,.c (.ls N 1 (iF f))),(2,.c (.pt 2 3 0 0)),(3,.c (.pt 15 2 0 0)),(4,.c (.pt 4 3 0 0)),(6,.c (iC k)),(7,.c (iC x)),(8,.c (iC y)),(9,.c (iC sz)),(10,.c (bC on)),(11,.c (iC ((x+m:Nat):Int))),(12,.c (iC ((y+q:Nat):Int)))] [(2,⟨false,1,3,60,lF [iC 0,iC 0,.p (.slice none 0 0)]⟩),(15,zAW N f a4),(4,⟨false,1,3,60,lF [iC W,iC H,.ow 60]⟩),(60,zC3 (W*H) (pjK W on (x+m) y d1 q))] [2,15,4,60])) (fun q=>q≤mj) (fun q=>mj-q) 0 (Nat.zero_le _) ?_ (fun q hq=> ?_)
     ·refine Wk.mk [(2,some 2),(15,some 15),(4,some 4),(60,some 60)] rfl rfl rfl ?_ ?_
      ·exact zC
      ·exact⟨hSm,hSm,HeapOk.box rfl rfl ⟨LeC.int rfl,LeC.int rfl,LeC.ow _ _ rfl,trivial⟩ rfl,HeapOk.row rfl rfl rfl (fun i _=>zY ⟨rfl,rfl⟩),trivial⟩
     ·by_cases hql:q<mj
      ·have hj1:y+q<H:=by omega
       have hj2:y+q≤y+sz/4:=by omega
       obtain⟨d2,hd2'⟩:∃d2,pjK W on (x+m) y d1 q=d2:=⟨_,rfl⟩
       have hst:pjK W on (x+m) y d1 (q+1)=fun p=>if p=(y+q)*W+(x+m)then on else d2 p:=by rw[←hd2'];rfl
       have hpl:(y+q)*W+W≤W*H:=by
        have:=Nat.mul_le_mul_right W (show y+q+1≤H by omega);rw[Nat.succ_mul,Nat.mul_comm H]at this;exact this
       obtain⟨j,hj⟩:∃j,y+q=j:=⟨_,rfl⟩
       obtain⟨i,hi⟩:∃i,x+m=i:=⟨_,rfl⟩
       rw[hj]at hj1 hj2 hst hpl;rw[hi]at hi1 hst;rw[hd2',hj,hi]
       obtain⟨p,hp⟩:∃p,j*W=p:=⟨_,rfl⟩
       have hpi:(j:Int)*(W:Int)=(p:Int):=by rw[←hp];simp
       rw[hp]at hst hpl
       repeat (first
        |refine vB [14,15] ?_
        | (refine rG 16 ?_
           refine xE9 ?_;refine zJ (zH (k:=p+i) zA) ?_;refine vA ?_;refine aB ?_))
       refine⟨q+1,hql,Wk.mk [(2,some 2),(15,some 15),(4,some 4),(60,some 60)] rfl rfl rfl ?_ ?_,by omega⟩
       ·exact zC
       ·rw[hst]
        exact⟨hSm,hSm,HeapOk.box rfl rfl ⟨LeC.int rfl,LeC.int rfl,LeC.ow _ _ rfl,trivial⟩ rfl,HeapOk.row rfl rfl rfl (zGr (fun r=>if r=p+i then on else d2 r) (if_pos rfl) (fun r h=>if_neg h)),trivial⟩
      ·obtain rfl:q=mj:=by omega
       by_cases hj1:y+q<H
       ·have hj2:¬y+q≤y+sz/4:=by omega
        refine vB [12,14] ?_
        refine⟨m+1,hlt,Wk.mk [(2,some 2),(15,some 15),(4,some 4),(60,some 60)] rfl rfl rfl ?_ ?_,by omega⟩
        ·exact zC
        ·rw[hnx]
         exact⟨hSm,hSm,HeapOk.box rfl rfl ⟨LeC.int rfl,LeC.int rfl,LeC.ow _ _ rfl,trivial⟩ rfl,HeapOk.row rfl rfl rfl (fun i _=>zY ⟨rfl,rfl⟩),trivial⟩
       ·refine vB [12,14] ?_
        refine⟨m+1,hlt,Wk.mk [(2,some 2),(15,some 15),(4,some 4),(60,some 60)] rfl rfl rfl ?_ ?_,by omega⟩
        ·exact zC
        ·rw[hnx]
         exact⟨hSm,hSm,HeapOk.box rfl rfl ⟨LeC.int rfl,LeC.int rfl,LeC.ow _ _ rfl,trivial⟩ rfl,HeapOk.row rfl rfl rfl (fun i _=>zY ⟨rfl,rfl⟩),trivial⟩
    ·obtain rfl:m=mi:=by omega
     by_cases hj1:x+m<W
     ·have hj2:¬x+m≤x+sz%4:=by omega
      refine vB [5,11] ?_
      refine⟨(k+1,a4,piK W mj on x y d m),⟨by dsimp only;omega,e4,hfk2⟩,Wk.mk [(2,some 2),(15,some 15),(4,some 4),(60,some 60)] rfl rfl rfl ?_ ?_,by dsimp only;omega⟩
      ·exact zC
      ·exact⟨hSm,hSm,HeapOk.box rfl rfl ⟨LeC.int rfl,LeC.int rfl,LeC.ow _ _ rfl,trivial⟩ rfl,HeapOk.row rfl rfl rfl (fun i _=>zY ⟨rfl,rfl⟩),trivial⟩
     ·refine vB [5,11] ?_
      refine⟨(k+1,a4,piK W mj on x y d m),⟨by dsimp only;omega,e4,hfk2⟩,Wk.mk [(2,some 2),(15,some 15),(4,some 4),(60,some 60)] rfl rfl rfl ?_ ?_,by dsimp only;omega⟩
      ·exact zC
      ·exact⟨hSm,hSm,HeapOk.box rfl rfl ⟨LeC.int rfl,LeC.int rfl,LeC.ow _ _ rfl,trivial⟩ rfl,HeapOk.row rfl rfl rfl (fun i _=>zY ⟨rfl,rfl⟩),trivial⟩
  ·obtain rfl:fin=d:=by
    rw[←hfk];by_cases h12:k=12
    ·rw[h12];rfl
    ·rw[show 12-k=(12-(k+1))+1 by omega]
     show(if a<N∧0<W*H then _ else _)=d
     rw[if_neg (fun h=>hend ⟨by omega,h⟩)]
   by_cases h12:k<12
   ·by_cases haN:a<N
    ·have hz:¬0<W*H:=fun h=>hend ⟨h12,haN,h⟩
     refine vB [4,17] ?_
     refine⟨zD 97 [(2,.c (.pt 2 3 0 0))] [(2,⟨false,1,3,60,lF (bpC ⟨W,H,W*H,fin⟩)⟩)] [2],[(2,⟨false,1,3,60,lF (bpC ⟨W,H,W*H,fin⟩)⟩)],Wk.mk [(2,some 2)] rfl rfl rfl ?_ ?_,rfl,rfl,ARets.one (x:=.ag _) (ARes.box zA rfl rfl rfl rfl rfl rfl rfl)⟩
     ·exact zC
     ·exact⟨HeapOk.box rfl rfl ⟨LeC.int rfl,LeC.int rfl,zAp rfl rfl rfl (fun i _=>zY ⟨rfl,rfl⟩),trivial⟩ rfl,trivial⟩
    ·refine vB [4,17] ?_
     refine⟨zD 97 [(2,.c (.pt 2 3 0 0))] [(2,⟨false,1,3,60,lF (bpC ⟨W,H,W*H,fin⟩)⟩)] [2],[(2,⟨false,1,3,60,lF (bpC ⟨W,H,W*H,fin⟩)⟩)],Wk.mk [(2,some 2)] rfl rfl rfl ?_ ?_,rfl,rfl,ARets.one (x:=.ag _) (ARes.box zA rfl rfl rfl rfl rfl rfl rfl)⟩
     ·exact zC
     ·exact⟨HeapOk.box rfl rfl ⟨LeC.int rfl,LeC.int rfl,zAp rfl rfl rfl (fun i _=>zY ⟨rfl,rfl⟩),trivial⟩ rfl,trivial⟩
   ·refine vB [4,17] ?_
    refine⟨zD 97 [(2,.c (.pt 2 3 0 0))] [(2,⟨false,1,3,60,lF (bpC ⟨W,H,W*H,fin⟩)⟩)] [2],[(2,⟨false,1,3,60,lF (bpC ⟨W,H,W*H,fin⟩)⟩)],Wk.mk [(2,some 2)] rfl rfl rfl ?_ ?_,rfl,rfl,ARets.one (x:=.ag _) (ARes.box zA rfl rfl rfl rfl rfl rfl rfl)⟩
    ·exact zC
    ·exact⟨HeapOk.box rfl rfl ⟨LeC.int rfl,LeC.int rfl,zAp rfl rfl rfl (fun i _=>zY ⟨rfl,rfl⟩),trivial⟩ rfl,trivial⟩
def paB(ch:Nat→Int)(m k:Nat):Bool:=if k<m then decide (ch k=35)else false
theorem zH8(s:ByteArray)(n N:Nat)(ch:Nat→Int)(hs:s.size=N)(hN:N=n+1)(hn:1≤n∧n≤96)(hc:∀k,k<N→∃b,s[k]?=some b∧((b.toNat:Nat):Int)=ch k)(hcn:ch n=10)(hck:∀k,k<n→ch k=35∨ch k=46):
 ACalls Try.prog 55 [.c (.p (.string s))] (.tu [.ag (zAT n 1 n (paB ch n)),.c (bC true)]):=by
 have hmod:(N:Int)%((n:Int)+1)=0:=by rw[hN,Int.natCast_add];exact Int.emod_self
 have hdiv:(N:Int)/((n:Int)+1)=1:=by rw[hN,Int.natCast_add];exact Int.ediv_self xD
 have hNew:=zFN n 1 n xD xD xD xD;rw[←hdiv]at hNew;refine zK Try.func55 rfl rfl Try.ntmps55 rfl ?_;refine vB [0,1] ?_;refine AWp.round (fun k:Nat=>zD 108 [(0,.c (.p (.string s))),(2,.c (.pt 2 3 0 0)),(4,.c (iC k))] [(2,⟨false,1,3,60,lF [iC 0,iC 0,.p (.slice none 0 0)]⟩)] [2])
  (fun k=>k≤n) (fun k=>n-k) 0 (Nat.zero_le _) ?_ (fun k hk=> ?_)
 ·refine Wk.mk [(2,some 2)] rfl rfl rfl ?_ ?_
  ·exact zC
  ·exact zAD
 ·obtain ⟨b,hb1,hb2⟩:=hc k xD
  by_cases hkn:k<n
  ·have hch:=hck k hkn
   repeat (first
    |refine vB [3] ?_
    | (refine rG 2 ?_
       refine xE2 ?_;refine zDO (N) (by first|rfl|assumption) Try.underlying9 rfl rfl rfl ?_;refine xE4 ?_
       first|refine qr2 aG ?_|refine zDy (k) _ (ch k) (hb1) (hb2) Try.underlying9 rfl rfl rfl rfl ?_
       refine xE2 ?_;refine aB ?_))
   refine⟨k+1,hkn,Wk.mk [(2,some 2)] rfl rfl rfl ?_ ?_,by omega⟩
   ·exact zC
   ·exact zAD
  ·obtain rfl:k=n:=by omega
   repeat (first
    |refine vB [7] ?_
    | (refine rG 2 ?_
       refine xE2 ?_;refine zDO (N) (by first|rfl|assumption) Try.underlying9 rfl rfl rfl ?_;refine xE4 ?_
       first|refine qr2 aG ?_|refine zDy (k) _ (ch k) (hb1) (hb2) Try.underlying9 rfl rfl rfl rfl ?_
       refine xE2 ?_;refine aB ?_)
    | (refine rG 4 ?_
       refine xE8 ?_
       first|refine qr2 aG ?_|refine zDO (N) (by first|rfl|assumption) Try.underlying9 rfl rfl rfl ?_
       refine xE2 ?_
       first|refine qr2 aG ?_|refine zDr AList.rem ?_|refine zKN rfl rfl rfl rfl xD ?_
       refine xE4 ?_
       first|refine qr2 aG ?_|refine zDO (N) (by first|rfl|assumption) Try.underlying9 rfl rfl rfl ?_
       refine xE2 ?_
       first|refine qr2 aG ?_|refine zEb AList.quo ?_|refine zEb zHV ?_
       refine xE2 ?_;refine aB ?_)
    | (refine rG 6 ?_
       refine xE2 ?_;refine zDO (N) (by first|rfl|assumption) Try.underlying9 rfl rfl rfl ?_;refine xE2 ?_
       first|refine zEb AList.quo ?_|refine zEb zHV ?_
       refine zFG rfl rfl rfl rfl rfl Try.func58 rfl xC (hNew) (fun _ _ _ _=>rfl) ?_;refine xE6 ?_;refine aB ?_))
   refine AWp.round (fun i:Nat=>zD 108 [(0,.c (.p (.string s))),(2,.c (.pt 2 3 0 0)),(4,.c (iC k)),(5,.c (.pt 5 3 0 0)),(7,.c (iC i))] [(2,⟨false,1,3,60,lF [iC 0,iC 0,.p (.slice none 0 0)]⟩),(5,⟨false,1,3,60,lF [iC k,iC 1,.ow 60]⟩),(60,zC3 k (paB ch i))] [2,5,60])
    (fun i=>i≤N) (fun i=>N-i) 0 (Nat.zero_le _) ?_ (fun i hi=> ?_)
   ·refine Wk.mk [(2,some 2),(5,some 5),(60,some 52)] rfl rfl rfl ?_ ?_
    ·exact zC
    ·exact⟨hSm,HeapOk.box rfl rfl ⟨LeC.int rfl,LeC.int hdiv,LeC.ow _ _ rfl,trivial⟩ rfl,HeapOk.row rfl rfl rfl (fun i _=>zY ⟨rfl,rfl⟩),trivial⟩
   ·by_cases hiN:i<N
    ·obtain ⟨b2,hd1,hd2⟩:=hc i hiN
     have hm:(i:Int)%((k:Int)+1)=i:=Int.emod_eq_of_lt xD xD;have hd:(i:Int)/((k:Int)+1)=0:=Int.ediv_eq_zero_of_lt xD xD
     repeat (first
      |refine vB [] ?_
      | (refine rG 8 ?_
         refine xE2 ?_;refine zDO (N) (by first|rfl|assumption) Try.underlying9 rfl rfl rfl ?_;refine vA ?_;refine aB ?_)
      | (refine rG 10 ?_
         refine xE3 ?_
         first|refine zDr AList.rem ?_|refine zKN rfl rfl rfl rfl xD ?_
         refine vA ?_;refine aB ?_)
      |(refine AWp.draw (id:=11) zL ?_;refine xE6 ?_;(first|refine zEb AList.quo ?_|refine zEb zHV ?_);refine xE2 ?_;refine aB ⟨by kernel_rfl,?_⟩))
     refine AWp.weak (S':=zD 108 [(0,.c (.p (.string s))),(2,.c (.pt 2 3 0 0)),(4,.c (iC k)),(5,.c (.pt 5 3 0 0)),(7,.c (iC i)),(8,.c (iC i)),(9,.c (iC 0))] [(2,⟨false,1,3,60,lF [iC 0,iC 0,.p (.slice none 0 0)]⟩),(5,⟨false,1,3,60,lF [iC k,iC 1,.ow 60]⟩),(60,zC3 k (paB ch i))] [2,5,60]) (Wk.mk [(2,some 2),(5,some 5),(60,some 60)] rfl rfl rfl ?_ ?_) ?_
     ·exact zC
     ·exact⟨hSm,HeapOk.box rfl rfl ⟨LeC.int rfl,LeC.int rfl,LeC.ow _ _ rfl,trivial⟩ rfl,HeapOk.row rfl rfl rfl (fun i _=>zY ⟨rfl,rfl⟩),trivial⟩
     ·by_cases hik:i<k
      ·have hch:=hck i hik
       have hnx:∀v:Bool,decide (ch i=35)=v→∀p,p<k→∀j,j<1→zAv (bF (paB ch i)) i 0 1 [bC v] p j=bF (paB ch (i+1)) p j∧zM (zAv (bF (paB ch i)) i 0 1 [bC v] p j)=true:=fun v hv=>zGr (paB ch (i+1)) (by unfold paB;rw[if_pos (Nat.lt_succ_self i),hv]) (fun p hp=>by
        unfold paB;by_cases h:p<i
        ·rw[if_pos h,if_pos xD]
        ·rw[if_neg h,if_neg xD])
       by_cases h35:ch i=35
       ·have hnx1:=hnx true (decide_eq_true h35)
        repeat (first
         |refine vB [9,12] ?_
         | (refine rG 15 ?_
            refine xE2 ?_;refine zDy (i) _ (ch i) (hd1) (hd2) Try.underlying9 rfl rfl rfl rfl ?_;refine xE4 ?_
            first|refine qr2 aG ?_|refine zDy (i) _ (ch i) (hd1) (hd2) Try.underlying9 rfl rfl rfl rfl ?_
            refine xE2 ?_;refine aB ?_)
         |(refine AWp.draw (id:=17) zL ?_;refine xE9 ?_;refine zDy (i) _ (ch i) (hd1) (hd2) Try.underlying9 rfl rfl rfl rfl ?_;refine vA ?_;(first|refine zG (aP (k:=i) zA) ?_|refine zJ (zH (k:=i) zA) ?_);refine vA ?_;refine aB ⟨by kernel_rfl,?_⟩))
        refine⟨i+1,hiN,Wk.mk [(2,some 2),(5,some 5),(60,some 60)] rfl rfl rfl ?_ ?_,by omega⟩
        ·exact zC
        ·exact⟨hSm,HeapOk.box rfl rfl ⟨LeC.int rfl,LeC.int rfl,LeC.ow _ _ rfl,trivial⟩ rfl,HeapOk.row rfl rfl rfl hnx1,trivial⟩
       ·have hnx1:=hnx false (decide_eq_false h35)
        have h46:ch i=46:=by omega
        repeat (first
         |refine vB [9,12] ?_
         | (refine rG 15 ?_
            refine xE2 ?_;refine zDy (i) _ (ch i) (hd1) (hd2) Try.underlying9 rfl rfl rfl rfl ?_;refine xE4 ?_
            first|refine qr2 aG ?_|refine zDy (i) _ (ch i) (hd1) (hd2) Try.underlying9 rfl rfl rfl rfl ?_
            refine xE2 ?_;refine aB ?_)
         |(refine AWp.draw (id:=17) zL ?_;refine xE9 ?_;refine zDy (i) _ (ch i) (hd1) (hd2) Try.underlying9 rfl rfl rfl rfl ?_;refine vA ?_;(first|refine zG (aP (k:=i) zA) ?_|refine zJ (zH (k:=i) zA) ?_);refine vA ?_;refine aB ⟨by kernel_rfl,?_⟩))
        refine⟨i+1,hiN,Wk.mk [(2,some 2),(5,some 5),(60,some 60)] rfl rfl rfl ?_ ?_,by omega⟩
        ·exact zC
        ·exact⟨hSm,HeapOk.box rfl rfl ⟨LeC.int rfl,LeC.int rfl,LeC.ow _ _ rfl,trivial⟩ rfl,HeapOk.row rfl rfl rfl hnx1,trivial⟩
      ·obtain rfl:i=k:=by omega
       repeat (first
        |refine vB [9] ?_
        | (refine rG 12 ?_
           refine xE2 ?_
           first|refine zR5 aK ?_|refine zR4 aJ ?_|refine aK rfl rfl rfl rfl rfl (by simp only[zBr,eq_self,decide_true]) ?_|refine qr5 aW ?_
           refine aB ?_)
        | (refine rG 13 ?_
           refine xE2 ?_;refine zDy (i) _ (ch i) (hd1) (hd2) Try.underlying9 rfl rfl rfl rfl ?_;refine vA ?_;refine aB ?_))
       refine⟨i+1,by omega,Wk.mk [(2,some 2),(5,some 5),(60,some 60)] rfl rfl rfl ?_ ?_,by omega⟩
       ·exact zC
       ·refine⟨hSm,HeapOk.box rfl rfl ⟨LeC.int rfl,LeC.int rfl,LeC.ow _ _ rfl,trivial⟩ rfl,HeapOk.row rfl rfl rfl (fun p hp=>zY ⟨congrArg bC ?_,rfl⟩),trivial⟩
        unfold paB;rw[if_pos hp,if_pos xD]
    ·obtain rfl:i=N:=by omega
     repeat (first
      |refine vB [] ?_
      | (refine rG 8 ?_
         refine xE2 ?_;refine zDO (i) (by first|rfl|assumption) Try.underlying9 rfl rfl rfl ?_;refine vA ?_;refine aB ?_)
      | (refine rG 18 ?_
         refine xE2 ?_;refine zDO (i) (by first|rfl|assumption) Try.underlying9 rfl rfl rfl ?_;refine xE3 ?_;refine aB ?_))
     refine⟨zD 108 [(2,.c (.pt 2 3 0 0)),(3,.c (bC true))] [(2,⟨false,1,3,60,lF (zAT k 1 k (paB ch k))⟩)] [2],[(2,⟨false,1,3,60,lF (zAT k 1 k (paB ch k))⟩)],Wk.mk [(2,some 2)] rfl rfl rfl ?_ ?_,rfl,rfl,ARets.two (x:=.ag _) (y:=.c _) (ARes.box zA rfl rfl rfl rfl rfl rfl rfl) (ARes.tmp rfl rfl)⟩
     ·exact zC
     ·refine⟨HeapOk.box rfl rfl ⟨LeC.int rfl,LeC.int rfl,zAp rfl rfl rfl (fun p hp=>zY ⟨congrArg bC ?_,rfl⟩),trivial⟩ rfl,trivial⟩
      unfold paB;rw[if_pos hp,if_pos xD]
end Go.Proofs.Ytbffmfeldkjkcaa
end
