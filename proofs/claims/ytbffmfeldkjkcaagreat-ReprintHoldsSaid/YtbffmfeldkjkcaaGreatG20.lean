/- Parts of the proof: AMade, AMd, A24x. -/
import Derived.Test.YtbffmfeldkjkcaaGreatG19
import Derived.Test.YtbffmfeldkjkcaaGreatG18
set_option linter.unusedSimpArgs false
set_option linter.unusedVariables false
set_option maxHeartbeats 0
set_option maxRecDepth 100000
section
namespace Go.Proofs.YtbffmfeldkjkcaaGreat
open Go.RowKit Go.Flow Go.AV Go.Plain
theorem zPI{σ:Nat→Option Value}{O:Nat→Prop}{w:World}{W H:Int}{n c base:Nat}{A:Option Addr}{f:Nat→Bool}(hb:∀b,O b→b<base)(hc:n≤c)(h:Mine w base A 4 n (fun k=>.bool (f k))):RepV σ O w (.ag (zAz W H n f)) (bmp W H A n c):=
 ⟨[_,_,_],rfl,⟨rfl,rfl⟩,⟨rfl,rfl⟩,zQ3 (fun _=>rfl) (fun _ _=>rfl) hb hc h,trivial⟩
abbrev zCz(n:Nat)(f:Nat→Bool):AB:=⟨true,n,1,4,bF f⟩
theorem zNS(n:Int)(h:0≤n∧n≤96):ACalls Tryz.prog 72 [.c (iC n)] (.c (bC true)):=by
 have h1:=h.1;have h2:=h.2;refine zJ Tryz.func72 rfl rfl Tryz.ntmps72 rfl ?_;refine vB [0,1] ?_
 refine⟨zC 9 [(2,.c (bC true))] [] [],[],Wk.mk [] rfl rfl rfl ?_ trivial,rfl,rfl,aR1⟩
 exact zB
theorem zFn(W H:Int)(n:Nat)(hW:0≤W∧W≤96)(hH:0≤H∧H≤96)(hn:W*H=n)(hn2:n≤10000):zEI Tryz.prog 46 [.c (iC W),.c (iC H)] (fun id=>.tu [.ag ([iC W,iC H]++ .ow id:: []),.c (iC 0)]) (zCz n fun _=>false):=by
 have h1:=zNS W hW;have h2:=zNS H hH;refine zRm zA Tryz.func46 rfl rfl Tryz.ntmps46 rfl rfl ?_
 repeat (first
  |refine vB [0] ?_
  | (refine rG 1 ?_
     refine vA ?_;refine xB Tryz.func72 h1 ?_;refine xE3 ?_;refine xB Tryz.func72 h2 ?_;refine xE2 ?_;refine aB ?_)
  | (refine rG 3 ?_
     refine xE5 ?_;refine zC5 (zCN (n:=n) zA) ?_;refine xE3 ?_;refine aB ?_))
 refine⟨zC 22 [(4,.c (.pt 4 3 0 0)),(5,.c (iC 0))] [(4,⟨false,1,3,58,lF [iC W,iC H,.ow 20]⟩),(20,zCz n fun _=>false)] [4,20],Wk.mk [(4,some 4),(20,some 20)] rfl rfl rfl ?_ ?_,4,58,4,3,58,_,20,_,5,rfl,rfl,rfl,rfl,rfl,rfl,rfl,rfl,rfl,rfl,fun _ _ _ _=>rfl⟩
 ·exact zB
 ·exact⟨HeapOk.box rfl rfl ⟨LeC.int rfl,LeC.int rfl,LeC.ow _ _ rfl,trivial⟩ rfl,HeapOk.row rfl rfl rfl (fun i _=>zAa ⟨rfl,rfl⟩),trivial⟩
def pjK(W:Nat)(on:Bool)(i y:Nat)(d:Nat→Bool):Nat→Nat→Bool
 |0=>d
 |m+1=>fun p=>if p=(y+m)*W+i then on else pjK W on i y d m p
def piK(W mj:Nat)(on:Bool)(x y:Nat)(d:Nat→Bool):Nat→Nat→Bool
 |0=>d
 |m+1=>pjK W on (x+m) y (piK W mj on x y d m) mj
def mdX(N:Nat)(f:Nat→Int)(W:Nat)(a:Nat):Nat:=(zBH N f a W).toNat
def zJa(N:Nat)(f:Nat→Int)(a:Nat):Bool:=decide (0<zBH N f a 4)
def zJb(N:Nat)(f:Nat→Int)(W H:Nat)(s:Nat×(Nat→Bool)):Nat×(Nat→Bool):=
 (dat N (dat N (dat N (dat N s.1))),piK W (min H (mdX N f H (dat N s.1)+mdX N f 16 (dat N (dat N s.1))/4+1)-mdX N f H (dat N s.1)) (zJa N f (dat N (dat N (dat N s.1)))) (mdX N f W s.1) (mdX N f H (dat N s.1)) s.2 (min W (mdX N f W s.1+mdX N f 16 (dat N (dat N s.1))%4+1)-mdX N f W s.1))
def mdF(N:Nat)(f:Nat→Int)(W H:Nat):Nat→Nat×(Nat→Bool)→Nat→Bool
 |0,s=>s.2
 |k+1,s=>if s.1<N∧0<W*H then mdF N f W H k (zJb N f W H s)else s.2
def mdW(N:Nat)(f:Nat→Int):Nat:=mdX N f 17 0
def mdH(N:Nat)(f:Nat→Int):Nat:=mdX N f 13 (dat N 0)
def mdV(N:Nat)(f:Nat→Int):Bp:=⟨mdW N f,mdH N f,mdW N f*mdH N f,mdF N f (mdW N f) (mdH N f) 12 (dat N (dat N 0),fun _=>false)⟩
theorem zEw(N:Nat)(f:Nat→Int)(m a:Nat)(hm:0<m):mdX N f m a<m∧((mdX N f m a:Nat):Int)=zBH N f a m:=by
 have:=zID N f a m xD;unfold mdX
 omega
theorem zKL(N:Nat)(f:Nat→Int)(hN:N≤4611686018427387904):ACalls Tryz.prog 23 [.c (.ls N 1 (iF f))] (.ag (bpC (mdV N f))):=by
 unfold mdV
 obtain⟨hW,hWe⟩:=zEw N f 17 0 xD
 obtain⟨hH,hHe⟩:=zEw N f 13 (dat N 0) xD
 obtain⟨W,hWd⟩:∃W,mdW N f=W:=⟨_,rfl⟩
 obtain⟨H,hHd⟩:∃H,mdH N f=H:=⟨_,rfl⟩
 rw[show mdX N f 17 0=W from hWd]at hW hWe;rw[show mdX N f 13 (dat N 0)=H from hHd]at hH hHe;rw[hWd,hHd];clear hWd hHd;have hd1:=zDd (N:=N) (Nat.zero_le N);have n1:=zCR N f 0 17 (Nat.zero_le N) hN xD xD;have n2:=zCR N f (dat N 0) 13 hd1 hN xD xD;have hd2:=zDd (N:=N) hd1;rw[show zBH N f 0 17=((W:Nat):Int)from hWe.symm]at n1;rw[show zBH N f (dat N 0) 13=((H:Nat):Int)from hHe.symm]at n2;have hWH:W*H≤16*12:=Nat.mul_le_mul xD xD;have hNew:=zFn W H (W*H) xD xD (by simp) xD
 obtain⟨a0,ha0⟩:∃a,dat N (dat N 0)=a:=⟨_,rfl⟩
 rw[ha0]at n2 hd2⊢
 obtain⟨fin,hfin⟩:∃d,mdF N f W H 12 (a0,fun _=>false)=d:=⟨_,rfl⟩
 rw[hfin];refine zJ Tryz.func23 rfl rfl Tryz.ntmps23 rfl ?_
 repeat (first
  |refine vB [0,1,3] ?_
  | (refine rG 2 ?_
     refine vA ?_;refine zAG [15] [zAV N f 0] [zAV N f (dat N 0)] rfl rfl rfl Tryz.func44 rfl xC (LendOk.box rfl rfl rfl trivial) rfl (LendImm.box rfl trivial) (n1) ?_;refine vA ?_;refine zAG [15] [zAV N f (dat N 0)] [zAV N f a0] rfl rfl rfl Tryz.func44 rfl xC (LendOk.box rfl rfl rfl trivial) rfl (LendImm.box rfl trivial) (n2) ?_;refine zFf rfl rfl rfl rfl rfl Tryz.func46 rfl xC (hNew) (fun _ _ _ _=>rfl) ?_;refine xE6 ?_;refine aB ?_))
 refine AWp.round (fun s:Nat×Nat×(Nat→Bool)=>zC 97 [(0,.c (.ls N 1 (iF f))),(2,.c (.pt 2 3 0 0)),(3,.c (.pt 15 2 0 0)),(4,.c (.pt 4 3 0 0)),(6,.c (iC s.1))] [(2,⟨false,1,3,58,lF [iC 0,iC 0,.p (.slice none 0 0)]⟩),(15,zAV N f s.2.1),(4,⟨false,1,3,58,lF [iC W,iC H,.ow 60]⟩),(60,zCz (W*H) s.2.2)] [2,15,4,60])
  (fun s=>s.1≤12∧s.2.1≤N∧mdF N f W H (12-s.1) s.2=fin) (fun s=>12-s.1) (0,a0,fun _=>false) ⟨Nat.zero_le _,hd2,hfin⟩ ?_ (fun s hs=> ?_)
 ·refine Wk.mk [(2,some 2),(15,some 15),(4,some 4),(60,some 21)] rfl rfl rfl ?_ ?_
  ·exact zB
  ·exact⟨hSm,hSm,HeapOk.box rfl rfl ⟨LeC.int rfl,LeC.int rfl,LeC.ow _ _ rfl,trivial⟩ rfl,HeapOk.row rfl rfl rfl (fun i _=>zAa ⟨rfl,rfl⟩),trivial⟩
 ·obtain ⟨k,a,d⟩:=s
  obtain⟨hk,ha,hfk⟩:=hs
  dsimp only at hk ha hfk;dsimp only;by_cases hend:k<12∧a<N∧0<W*H
  ·obtain ⟨h12,haN,hpos⟩:=hend
   have hW0:0<W:=Nat.pos_of_ne_zero fun h=>by rw[h,Nat.zero_mul]at hpos;omega
   have hH0:0<H:=Nat.pos_of_ne_zero fun h=>by rw[h,Nat.mul_zero]at hpos;omega
   rw[show 12-k=(12-(k+1))+1 by omega]at hfk;have hfk2:mdF N f W H (12-(k+1)) (zJb N f W H (a,d))=fin:=by
    rw[←hfk];show _=if a<N∧0<W*H then _ else _
    rw[if_pos ⟨haN,hpos⟩]
   clear hfk;have e1:=zDd (N:=N) ha;have e2:=zDd (N:=N) e1;have e3:=zDd (N:=N) e2;have e4:=zDd (N:=N) e3;have m1:=zCR N f a W ha hN xD xD;have m2:=zCR N f (dat N a) H e1 hN xD xD;have m3:=zCR N f (dat N (dat N a)) 16 e2 hN xD xD;have m4:=zCR N f (dat N (dat N (dat N a))) 4 e3 hN xD xD
   obtain⟨x0,x1⟩:=zEw N f W a hW0
   obtain⟨y0,y1⟩:=zEw N f H (dat N a) hH0
   obtain⟨s0,s1⟩:=zEw N f 16 (dat N (dat N a)) xD
   unfold zJb at hfk2;dsimp only at hfk2;rw[←x1]at m1;rw[←y1]at m2;rw[show zBH N f (dat N (dat N a)) 16=((mdX N f 16 (dat N (dat N a)):Nat):Int)from s1.symm]at m3;have hob:=zID N f (dat N (dat N (dat N a))) 4 xD;clear x1 y1 s1;generalize mdX N f W a=x at *;generalize mdX N f H (dat N a)=y at *;generalize mdX N f 16 (dat N (dat N a))=sz at *
   obtain⟨ov,hov⟩:∃v,zBH N f (dat N (dat N (dat N a))) 4=v:=⟨_,rfl⟩
   have hon:zJa N f (dat N (dat N (dat N a)))=decide (0<ov):=by unfold zJa;rw[hov]
   rw[hon]at hfk2;rw[hov]at m4 hob;clear hon hov
   obtain⟨on,hone⟩:∃b,decide (0<ov)=b:=⟨_,rfl⟩
   rw[hone]at hfk2
   obtain⟨mi,hmi⟩:∃m,min W (x+sz%4+1)-x=m:=⟨_,rfl⟩
   obtain⟨mj,hmj⟩:∃m,min H (y+sz/4+1)-y=m:=⟨_,rfl⟩
   rw[hmi,hmj]at hfk2
   obtain⟨a1,ha1⟩:∃a1,dat N a=a1:=⟨_,rfl⟩
   rw[ha1]at m1 m2 m3 m4 e1 e2 e3 e4 hfk2
   obtain⟨a2,ha2⟩:∃a2,dat N a1=a2:=⟨_,rfl⟩
   rw[ha2]at m2 m3 m4 e2 e3 e4 hfk2
   obtain⟨a3,ha3⟩:∃a3,dat N a2=a3:=⟨_,rfl⟩
   rw[ha3]at m3 m4 e3 e4 hfk2
   obtain⟨a4,ha4⟩:∃a4,dat N a3=a4:=⟨_,rfl⟩
   rw[ha4]at m4 e4 hfk2
   repeat (first
    |refine vB [4] ?_
    | (refine rG 6 ?_
       refine xE3 ?_;refine zAG [15] [zAV N f a] [zAV N f a1] rfl rfl rfl Tryz.func44 rfl xC (LendOk.box rfl rfl rfl trivial) rfl (LendImm.box rfl trivial) (m1) ?_;refine vA ?_;refine aB ?_)
    | (refine rG 7 ?_
       refine xE3 ?_;refine zAG [15] [zAV N f a1] [zAV N f a2] rfl rfl rfl Tryz.func44 rfl xC (LendOk.box rfl rfl rfl trivial) rfl (LendImm.box rfl trivial) (m2) ?_;refine vA ?_;refine aB ?_)
    | (refine rG 8 ?_
       refine vA ?_;refine zAG [15] [zAV N f a2] [zAV N f a3] rfl rfl rfl Tryz.func44 rfl xC (LendOk.box rfl rfl rfl trivial) rfl (LendImm.box rfl trivial) (m3) ?_;refine vA ?_;refine aB ?_)
    | (refine rG 9 ?_
       refine vA ?_;refine zAG [15] [zAV N f a3] [zAV N f a4] rfl rfl rfl Tryz.func44 rfl xC (LendOk.box rfl rfl rfl trivial) rfl (LendImm.box rfl trivial) (m4) ?_;refine xE2 ?_;refine aB ?_))
   refine AWp.weak (S':=(zC 97 [(0,.c (.ls N 1 (iF f))),(2,.c (.pt 2 3 0 0)),(3,.c (.pt 15 2 0 0)),(4,.c (.pt 4 3 0 0)),(6,.c (iC k)),(7,.c (iC x)),(8,.c (iC y)),(9,.c (iC sz)),(10,.c (bC (decide (0<ov))))] [(2,⟨false,1,3,58,lF [iC 0,iC 0,.p (.slice none 0 0)]⟩),(15,zAV N f a4),(4,⟨false,1,3,58,lF [iC W,iC H,.ow 60]⟩),(60,zCz (W*H) (d))] [2,15,4,60])) (Wk.mk [(2,some 2),(15,some 15),(4,some 4),(60,some 60)] rfl rfl rfl ?_ ?_) ?_
   ·exact zB
   ·exact⟨hSm,hSm,HeapOk.box rfl rfl ⟨LeC.int rfl,LeC.int rfl,LeC.ow _ _ rfl,trivial⟩ rfl,HeapOk.row rfl rfl rfl (fun i _=>zAa ⟨rfl,rfl⟩),trivial⟩
   rw[hone];refine vB [10] ?_;refine AWp.round (fun m:Nat=>(zC 97 [(0,.c (.ls N 1 (iF f))),(2,.c (.pt 2 3 0 0)),(3,.c (.pt 15 2 0 0)),(4,.c (.pt 4 3 0 0)),(6,.c (iC k)),(7,.c (iC x)),(8,.c (iC y)),(9,.c (iC sz)),(10,.c (bC on)),(11,.c (iC ((x+m:Nat):Int)))] [(2,⟨false,1,3,58,lF [iC 0,iC 0,.p (.slice none 0 0)]⟩),(15,zAV N f a4),(4,⟨false,1,3,58,lF [iC W,iC H,.ow 60]⟩),(60,zCz (W*H) (piK W mj on x y d m))] [2,15,4,60])) (fun m=>m≤mi) (fun m=>mi-m) 0 (Nat.zero_le _) ?_ (fun m hm=> ?_)
   ·refine Wk.mk [(2,some 2),(15,some 15),(4,some 4),(60,some 60)] rfl rfl rfl ?_ ?_
    ·exact zB
    ·exact⟨hSm,hSm,HeapOk.box rfl rfl ⟨LeC.int rfl,LeC.int rfl,LeC.ow _ _ rfl,trivial⟩ rfl,HeapOk.row rfl rfl rfl (fun i _=>zAa ⟨rfl,rfl⟩),trivial⟩
   ·by_cases hlt:m<mi
    ·have hi1:x+m<W:=by omega
     have hi2:x+m≤x+sz%4:=by omega
     obtain⟨d1,hd1'⟩:∃d1,piK W mj on x y d m=d1:=⟨_,rfl⟩
     have hnx:piK W mj on x y d (m+1)=pjK W on (x+m) y d1 mj:=by rw[←hd1'];rfl
     rw[hd1'];refine vB [11,13] ?_;refine AWp.round (fun q:Nat=>(zC 97 [(0,.c (.ls N 1 (iF f))),(2,.c (.pt 2 3 0 0)),(3,.c (.pt 15 2 0 0)),(4,.c (.pt 4 3 0 0)),(6,.c (iC k)),(7,.c (iC x)),(8,.c (iC y)),(9,.c (iC sz)),(10,.c (bC on)),(11,.c (iC ((x+m:Nat):Int))),(12,.c (iC ((y+q:Nat):Int)))] [(2,⟨false,1,3,58,lF [iC 0,iC 0,.p (.slice none 0 0)]⟩),(15,zAV N f a4),(4,⟨false,1,3,58,lF [iC W,iC H,.ow 60]⟩),(60,zCz (W*H) (pjK W on (x+m) y d1 q))] [2,15,4,60])) (fun q=>q≤mj) (fun q=>mj-q) 0 (Nat.zero_le _) ?_ (fun q hq=> ?_)
     ·refine Wk.mk [(2,some 2),(15,some 15),(4,some 4),(60,some 60)] rfl rfl rfl ?_ ?_
      ·exact zB
      ·exact⟨hSm,hSm,HeapOk.box rfl rfl ⟨LeC.int rfl,LeC.int rfl,LeC.ow _ _ rfl,trivial⟩ rfl,HeapOk.row rfl rfl rfl (fun i _=>zAa ⟨rfl,rfl⟩),trivial⟩
     ·by_cases hql:q<mj
      ·have hj1:y+q<H:=by omega
       have hj2:y+q≤y+sz/4:=by omega
       obtain⟨d2,hd2'⟩:∃d2,pjK W on (x+m) y d1 q=d2:=⟨_,rfl⟩
       have hst:pjK W on (x+m) y d1 (q+1)=fun p=>if p=(y+q)*W+(x+m)then on else d2 p:=by rw[←hd2'];rfl
       have hpl:(y+q)*W+W≤W*H:=by
        have:=Nat.mul_le_mul_right W (show y+q+1≤H by omega);rw[Nat.succ_mul,Nat.mul_comm H]at this;exact this
       obtain⟨j,hj⟩:∃j,y+q=j:=⟨_,rfl⟩
       obtain⟨i,hi⟩:∃i,x+m=i:=⟨_,rfl⟩
       rw[hj]at hj1 hj2 hst hpl;rw[hi]at hi1 hst;rw[hd2',hj,hi]
       obtain⟨p,hp⟩:∃p,j*W=p:=⟨_,rfl⟩
       have hpi:(j:Int)*(W:Int)=(p:Int):=by rw[←hp];simp
       rw[hp]at hst hpl
       repeat (first
        |refine vB [14,15] ?_
        | (refine rG 16 ?_
           refine xE9 ?_;refine zI (zH (k:=p+i) zA) ?_;refine vA ?_;refine aB ?_))
       refine⟨q+1,hql,Wk.mk [(2,some 2),(15,some 15),(4,some 4),(60,some 60)] rfl rfl rfl ?_ ?_,by omega⟩
       ·exact zB
       ·rw[hst]
        exact⟨hSm,hSm,HeapOk.box rfl rfl ⟨LeC.int rfl,LeC.int rfl,LeC.ow _ _ rfl,trivial⟩ rfl,HeapOk.row rfl rfl rfl (zGb (fun r=>if r=p+i then on else d2 r) (if_pos rfl) (fun r h=>if_neg h)),trivial⟩
      ·obtain rfl:q=mj:=by omega
       by_cases hj1:y+q<H
       ·have hj2:¬y+q≤y+sz/4:=by omega
        refine vB [12,14] ?_
        refine⟨m+1,hlt,Wk.mk [(2,some 2),(15,some 15),(4,some 4),(60,some 60)] rfl rfl rfl ?_ ?_,by omega⟩
        ·exact zB
        ·rw[hnx]
         exact⟨hSm,hSm,HeapOk.box rfl rfl ⟨LeC.int rfl,LeC.int rfl,LeC.ow _ _ rfl,trivial⟩ rfl,HeapOk.row rfl rfl rfl (fun i _=>zAa ⟨rfl,rfl⟩),trivial⟩
       ·refine vB [12,14] ?_
        refine⟨m+1,hlt,Wk.mk [(2,some 2),(15,some 15),(4,some 4),(60,some 60)] rfl rfl rfl ?_ ?_,by omega⟩
        ·exact zB
        ·rw[hnx]
         exact⟨hSm,hSm,HeapOk.box rfl rfl ⟨LeC.int rfl,LeC.int rfl,LeC.ow _ _ rfl,trivial⟩ rfl,HeapOk.row rfl rfl rfl (fun i _=>zAa ⟨rfl,rfl⟩),trivial⟩
    ·obtain rfl:m=mi:=by omega
     by_cases hj1:x+m<W
     ·have hj2:¬x+m≤x+sz%4:=by omega
      refine vB [5,11] ?_
      refine⟨(k+1,a4,piK W mj on x y d m),⟨by dsimp only;omega,e4,hfk2⟩,Wk.mk [(2,some 2),(15,some 15),(4,some 4),(60,some 60)] rfl rfl rfl ?_ ?_,by dsimp only;omega⟩
      ·exact zB
      ·exact⟨hSm,hSm,HeapOk.box rfl rfl ⟨LeC.int rfl,LeC.int rfl,LeC.ow _ _ rfl,trivial⟩ rfl,HeapOk.row rfl rfl rfl (fun i _=>zAa ⟨rfl,rfl⟩),trivial⟩
     ·refine vB [5,11] ?_
      refine⟨(k+1,a4,piK W mj on x y d m),⟨by dsimp only;omega,e4,hfk2⟩,Wk.mk [(2,some 2),(15,some 15),(4,some 4),(60,some 60)] rfl rfl rfl ?_ ?_,by dsimp only;omega⟩
      ·exact zB
      ·exact⟨hSm,hSm,HeapOk.box rfl rfl ⟨LeC.int rfl,LeC.int rfl,LeC.ow _ _ rfl,trivial⟩ rfl,HeapOk.row rfl rfl rfl (fun i _=>zAa ⟨rfl,rfl⟩),trivial⟩
  ·obtain rfl:fin=d:=by
    rw[←hfk];by_cases h12:k=12
    ·rw[h12];rfl
    ·rw[show 12-k=(12-(k+1))+1 by omega]
     show(if a<N∧0<W*H then _ else _)=d
     rw[if_neg (fun h=>hend ⟨by omega,h⟩)]
   by_cases h12:k<12
   ·by_cases haN:a<N
    ·have hz:¬0<W*H:=fun h=>hend ⟨h12,haN,h⟩
     refine vB [4,17] ?_
     refine⟨zC 97 [(2,.c (.pt 2 3 0 0))] [(2,⟨false,1,3,58,lF (bpC ⟨W,H,W*H,fin⟩)⟩)] [2],[(2,⟨false,1,3,58,lF (bpC ⟨W,H,W*H,fin⟩)⟩)],Wk.mk [(2,some 2)] rfl rfl rfl ?_ ?_,rfl,rfl,ARets.one (x:=.ag _) (ARes.box zA rfl rfl rfl rfl rfl rfl rfl)⟩
     ·exact zB
     ·exact⟨HeapOk.box rfl rfl ⟨LeC.int rfl,LeC.int rfl,zZ rfl rfl rfl (fun i _=>zAa ⟨rfl,rfl⟩),trivial⟩ rfl,trivial⟩
    ·refine vB [4,17] ?_
     refine⟨zC 97 [(2,.c (.pt 2 3 0 0))] [(2,⟨false,1,3,58,lF (bpC ⟨W,H,W*H,fin⟩)⟩)] [2],[(2,⟨false,1,3,58,lF (bpC ⟨W,H,W*H,fin⟩)⟩)],Wk.mk [(2,some 2)] rfl rfl rfl ?_ ?_,rfl,rfl,ARets.one (x:=.ag _) (ARes.box zA rfl rfl rfl rfl rfl rfl rfl)⟩
     ·exact zB
     ·exact⟨HeapOk.box rfl rfl ⟨LeC.int rfl,LeC.int rfl,zZ rfl rfl rfl (fun i _=>zAa ⟨rfl,rfl⟩),trivial⟩ rfl,trivial⟩
   ·refine vB [4,17] ?_
    refine⟨zC 97 [(2,.c (.pt 2 3 0 0))] [(2,⟨false,1,3,58,lF (bpC ⟨W,H,W*H,fin⟩)⟩)] [2],[(2,⟨false,1,3,58,lF (bpC ⟨W,H,W*H,fin⟩)⟩)],Wk.mk [(2,some 2)] rfl rfl rfl ?_ ?_,rfl,rfl,ARets.one (x:=.ag _) (ARes.box zA rfl rfl rfl rfl rfl rfl rfl)⟩
    ·exact zB
    ·exact⟨HeapOk.box rfl rfl ⟨LeC.int rfl,LeC.int rfl,zZ rfl rfl rfl (fun i _=>zAa ⟨rfl,rfl⟩),trivial⟩ rfl,trivial⟩
def paB(ch:Nat→Int)(m k:Nat):Bool:=if k<m then decide (ch k=35)else false
theorem zHZ(s:ByteArray)(n N:Nat)(ch:Nat→Int)(hs:s.size=N)(hN:N=n+1)(hn:1≤n∧n≤96)(hc:∀k,k<N→∃b,s[k]?=some b∧((b.toNat:Nat):Int)=ch k)(hcn:ch n=10)(hck:∀k,k<n→ch k=35∨ch k=46):
 ACalls Tryz.prog 43 [.c (.p (.string s))] (.tu [.ag (zAz n 1 n (paB ch n)),.c (bC true)]):=by
 have hmod:(N:Int)%((n:Int)+1)=0:=by rw[hN,Int.natCast_add];exact Int.emod_self
 have hdiv:(N:Int)/((n:Int)+1)=1:=by rw[hN,Int.natCast_add];exact Int.ediv_self xD
 have hNew:=zFn n 1 n xD xD xD xD;rw[←hdiv]at hNew;refine zJ Tryz.func43 rfl rfl Tryz.ntmps43 rfl ?_;refine vB [0,1] ?_;refine AWp.round (fun k:Nat=>zC 108 [(0,.c (.p (.string s))),(2,.c (.pt 2 3 0 0)),(4,.c (iC k))] [(2,⟨false,1,3,58,lF [iC 0,iC 0,.p (.slice none 0 0)]⟩)] [2])
  (fun k=>k≤n) (fun k=>n-k) 0 (Nat.zero_le _) ?_ (fun k hk=> ?_)
 ·refine Wk.mk [(2,some 2)] rfl rfl rfl ?_ ?_
  ·exact zB
  ·exact zAf
 ·obtain ⟨b,hb1,hb2⟩:=hc k xD
  by_cases hkn:k<n
  ·have hch:=hck k hkn
   repeat (first
    |refine vB [3] ?_
    | (refine rG 2 ?_
       refine xE2 ?_;refine zDF (N) (by first|rfl|assumption) Tryz.underlying9 rfl rfl rfl ?_;refine xE4 ?_
       first|refine qr2 aG ?_|refine zDq (k) _ (ch k) (hb1) (hb2) Tryz.underlying9 rfl rfl rfl rfl ?_
       refine xE2 ?_;refine aB ?_))
   refine⟨k+1,hkn,Wk.mk [(2,some 2)] rfl rfl rfl ?_ ?_,by omega⟩
   ·exact zB
   ·exact zAf
  ·obtain rfl:k=n:=by omega
   repeat (first
    |refine vB [7] ?_
    | (refine rG 2 ?_
       refine xE2 ?_;refine zDF (N) (by first|rfl|assumption) Tryz.underlying9 rfl rfl rfl ?_;refine xE4 ?_
       first|refine qr2 aG ?_|refine zDq (k) _ (ch k) (hb1) (hb2) Tryz.underlying9 rfl rfl rfl rfl ?_
       refine xE2 ?_;refine aB ?_)
    | (refine rG 4 ?_
       refine xE8 ?_
       first|refine qr2 aG ?_|refine zDF (N) (by first|rfl|assumption) Tryz.underlying9 rfl rfl rfl ?_
       refine xE2 ?_
       first|refine qr2 aG ?_|refine zCy AList.rem ?_|refine zKr rfl rfl rfl rfl xD ?_
       refine xE4 ?_
       first|refine qr2 aG ?_|refine zDF (N) (by first|rfl|assumption) Tryz.underlying9 rfl rfl rfl ?_
       refine xE2 ?_
       first|refine qr2 aG ?_|refine zDY AList.quo ?_|refine zDY zHK ?_
       refine xE2 ?_;refine aB ?_)
    | (refine rG 6 ?_
       refine xE2 ?_;refine zDF (N) (by first|rfl|assumption) Tryz.underlying9 rfl rfl rfl ?_;refine xE2 ?_
       first|refine zDY AList.quo ?_|refine zDY zHK ?_
       refine zFf rfl rfl rfl rfl rfl Tryz.func46 rfl xC (hNew) (fun _ _ _ _=>rfl) ?_;refine xE6 ?_;refine aB ?_))
   refine AWp.round (fun i:Nat=>zC 108 [(0,.c (.p (.string s))),(2,.c (.pt 2 3 0 0)),(4,.c (iC k)),(5,.c (.pt 5 3 0 0)),(7,.c (iC i))] [(2,⟨false,1,3,58,lF [iC 0,iC 0,.p (.slice none 0 0)]⟩),(5,⟨false,1,3,58,lF [iC k,iC 1,.ow 60]⟩),(60,zCz k (paB ch i))] [2,5,60])
    (fun i=>i≤N) (fun i=>N-i) 0 (Nat.zero_le _) ?_ (fun i hi=> ?_)
   ·refine Wk.mk [(2,some 2),(5,some 5),(60,some 52)] rfl rfl rfl ?_ ?_
    ·exact zB
    ·exact⟨hSm,HeapOk.box rfl rfl ⟨LeC.int rfl,LeC.int hdiv,LeC.ow _ _ rfl,trivial⟩ rfl,HeapOk.row rfl rfl rfl (fun i _=>zAa ⟨rfl,rfl⟩),trivial⟩
   ·by_cases hiN:i<N
    ·obtain ⟨b2,hd1,hd2⟩:=hc i hiN
     have hm:(i:Int)%((k:Int)+1)=i:=Int.emod_eq_of_lt xD xD;have hd:(i:Int)/((k:Int)+1)=0:=Int.ediv_eq_zero_of_lt xD xD
     repeat (first
      |refine vB [] ?_
      | (refine rG 8 ?_
         refine xE2 ?_;refine zDF (N) (by first|rfl|assumption) Tryz.underlying9 rfl rfl rfl ?_;refine vA ?_;refine aB ?_)
      | (refine rG 10 ?_
         refine xE3 ?_
         first|refine zCy AList.rem ?_|refine zKr rfl rfl rfl rfl xD ?_
         refine vA ?_;refine aB ?_)
      |(refine AWp.draw (id:=11) zK ?_;refine xE6 ?_;(first|refine zDY AList.quo ?_|refine zDY zHK ?_);refine xE2 ?_;refine aB ⟨by kernel_rfl,?_⟩))
     refine AWp.weak (S':=zC 108 [(0,.c (.p (.string s))),(2,.c (.pt 2 3 0 0)),(4,.c (iC k)),(5,.c (.pt 5 3 0 0)),(7,.c (iC i)),(8,.c (iC i)),(9,.c (iC 0))] [(2,⟨false,1,3,58,lF [iC 0,iC 0,.p (.slice none 0 0)]⟩),(5,⟨false,1,3,58,lF [iC k,iC 1,.ow 60]⟩),(60,zCz k (paB ch i))] [2,5,60]) (Wk.mk [(2,some 2),(5,some 5),(60,some 60)] rfl rfl rfl ?_ ?_) ?_
     ·exact zB
     ·exact⟨hSm,HeapOk.box rfl rfl ⟨LeC.int rfl,LeC.int rfl,LeC.ow _ _ rfl,trivial⟩ rfl,HeapOk.row rfl rfl rfl (fun i _=>zAa ⟨rfl,rfl⟩),trivial⟩
     ·by_cases hik:i<k
      ·have hch:=hck i hik
       have hnx:∀v:Bool,decide (ch i=35)=v→∀p,p<k→∀j,j<1→zAw (bF (paB ch i)) i 0 1 [bC v] p j=bF (paB ch (i+1)) p j∧zM (zAw (bF (paB ch i)) i 0 1 [bC v] p j)=true:=fun v hv=>zGb (paB ch (i+1)) (by unfold paB;rw[if_pos (Nat.lt_succ_self i),hv]) (fun p hp=>by
        unfold paB;by_cases h:p<i
        ·rw[if_pos h,if_pos xD]
        ·rw[if_neg h,if_neg xD])
       by_cases h35:ch i=35
       ·have hnx1:=hnx true (decide_eq_true h35)
        repeat (first
         |refine vB [9,12] ?_
         | (refine rG 15 ?_
            refine xE2 ?_;refine zDq (i) _ (ch i) (hd1) (hd2) Tryz.underlying9 rfl rfl rfl rfl ?_;refine xE4 ?_
            first|refine qr2 aG ?_|refine zDq (i) _ (ch i) (hd1) (hd2) Tryz.underlying9 rfl rfl rfl rfl ?_
            refine xE2 ?_;refine aB ?_)
         |(refine AWp.draw (id:=17) zK ?_;refine xE9 ?_;refine zDq (i) _ (ch i) (hd1) (hd2) Tryz.underlying9 rfl rfl rfl rfl ?_;refine vA ?_;(first|refine zG (aP (k:=i) zA) ?_|refine zI (zH (k:=i) zA) ?_);refine vA ?_;refine aB ⟨by kernel_rfl,?_⟩))
        refine⟨i+1,hiN,Wk.mk [(2,some 2),(5,some 5),(60,some 60)] rfl rfl rfl ?_ ?_,by omega⟩
        ·exact zB
        ·exact⟨hSm,HeapOk.box rfl rfl ⟨LeC.int rfl,LeC.int rfl,LeC.ow _ _ rfl,trivial⟩ rfl,HeapOk.row rfl rfl rfl hnx1,trivial⟩
       ·have hnx1:=hnx false (decide_eq_false h35)
        have h46:ch i=46:=by omega
        repeat (first
         |refine vB [9,12] ?_
         | (refine rG 15 ?_
            refine xE2 ?_;refine zDq (i) _ (ch i) (hd1) (hd2) Tryz.underlying9 rfl rfl rfl rfl ?_;refine xE4 ?_
            first|refine qr2 aG ?_|refine zDq (i) _ (ch i) (hd1) (hd2) Tryz.underlying9 rfl rfl rfl rfl ?_
            refine xE2 ?_;refine aB ?_)
         |(refine AWp.draw (id:=17) zK ?_;refine xE9 ?_;refine zDq (i) _ (ch i) (hd1) (hd2) Tryz.underlying9 rfl rfl rfl rfl ?_;refine vA ?_;(first|refine zG (aP (k:=i) zA) ?_|refine zI (zH (k:=i) zA) ?_);refine vA ?_;refine aB ⟨by kernel_rfl,?_⟩))
        refine⟨i+1,hiN,Wk.mk [(2,some 2),(5,some 5),(60,some 60)] rfl rfl rfl ?_ ?_,by omega⟩
        ·exact zB
        ·exact⟨hSm,HeapOk.box rfl rfl ⟨LeC.int rfl,LeC.int rfl,LeC.ow _ _ rfl,trivial⟩ rfl,HeapOk.row rfl rfl rfl hnx1,trivial⟩
      ·obtain rfl:i=k:=by omega
       repeat (first
        |refine vB [9] ?_
        | (refine rG 12 ?_
           refine xE2 ?_
           first|refine zRz aK ?_|refine zRy aJ ?_|refine aK rfl rfl rfl rfl rfl (by simp only[zBs,eq_self,decide_true]) ?_|refine qr5 aW ?_
           refine aB ?_)
        | (refine rG 13 ?_
           refine xE2 ?_;refine zDq (i) _ (ch i) (hd1) (hd2) Tryz.underlying9 rfl rfl rfl rfl ?_;refine vA ?_;refine aB ?_))
       refine⟨i+1,by omega,Wk.mk [(2,some 2),(5,some 5),(60,some 60)] rfl rfl rfl ?_ ?_,by omega⟩
       ·exact zB
       ·refine⟨hSm,HeapOk.box rfl rfl ⟨LeC.int rfl,LeC.int rfl,LeC.ow _ _ rfl,trivial⟩ rfl,HeapOk.row rfl rfl rfl (fun p hp=>zAa ⟨congrArg bC ?_,rfl⟩),trivial⟩
        unfold paB;rw[if_pos hp,if_pos xD]
    ·obtain rfl:i=N:=by omega
     repeat (first
      |refine vB [] ?_
      | (refine rG 8 ?_
         refine xE2 ?_;refine zDF (i) (by first|rfl|assumption) Tryz.underlying9 rfl rfl rfl ?_;refine vA ?_;refine aB ?_)
      | (refine rG 18 ?_
         refine xE2 ?_;refine zDF (i) (by first|rfl|assumption) Tryz.underlying9 rfl rfl rfl ?_;refine xE3 ?_;refine aB ?_))
     refine⟨zC 108 [(2,.c (.pt 2 3 0 0)),(3,.c (bC true))] [(2,⟨false,1,3,58,lF (zAz k 1 k (paB ch k))⟩)] [2],[(2,⟨false,1,3,58,lF (zAz k 1 k (paB ch k))⟩)],Wk.mk [(2,some 2)] rfl rfl rfl ?_ ?_,rfl,rfl,ARets.two (x:=.ag _) (y:=.c _) (ARes.box zA rfl rfl rfl rfl rfl rfl rfl) (ARes.tmp rfl rfl)⟩
     ·exact zB
     ·refine⟨HeapOk.box rfl rfl ⟨LeC.int rfl,LeC.int rfl,zZ rfl rfl rfl (fun p hp=>zAa ⟨congrArg bC ?_,rfl⟩),trivial⟩ rfl,trivial⟩
      unfold paB;rw[if_pos hp,if_pos xD]
end Go.Proofs.YtbffmfeldkjkcaaGreat
end
