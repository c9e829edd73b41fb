/- Parts of the proof: A28p, A28a, A28b, A28c, A28f, A28g, A28t, A28i, A28j, A28u, A28zf. -/
import Derived.Test.YtbffmfeldkjkcaaGreatHA30zfr02
import Derived.Test.YtbffmfeldkjkcaaGreatG28
import Derived.Test.YtbffmfeldkjkcaaGreatG30
set_option linter.unusedSimpArgs false
set_option linter.unusedVariables false
set_option maxHeartbeats 0
set_option maxRecDepth 100000
section
namespace Go.Proofs.YtbffmfeldkjkcaaGreat
open Go.RowKit Go.Flow Go.AV Go.Plain
theorem zP0(q:Nat→Nat→Bool)(W H:Nat):zAi (fun j=>cnt (q j) W) H=zAi (fun i=>cnt (fun j=>q j i) H) W:=by
 unfold cnt;exact zNW _ W H
def arP(W H:Nat)(d:Nat→Bool)(x y bl:Int)(i:Nat):Int:=zAi (fun i=>cnt (fun j=>arB W d x y bl j i) H) i
def arC(W:Nat)(d:Nat→Bool)(x y bl:Int)(i j:Nat):Int:=cnt (fun j=>arB W d x y bl j i) j
theorem zGF{W:Nat}{d:Nat→Bool}{x y bl:Int}{j i:Nat}(h:(j:Int)<y-bl∨y+bl<j∨(i:Int)<x-bl∨x+bl<i):arB W d x y bl j i=false:=by
 unfold arB
 rcases h with h|h|h|h
 ·rw[decide_eq_false (show ¬y-bl≤(j:Int) by omega)];simp
 ·rw[decide_eq_false (show ¬(j:Int)≤y+bl by omega)];simp
 ·rw[decide_eq_false (show ¬x-bl≤(i:Int) by omega)];simp
 ·rw[decide_eq_false (show ¬(i:Int)≤x+bl by omega)];simp
theorem zPu{W:Nat}{d:Nat→Bool}{x y bl:Int}{j i:Nat}(h1:y-bl≤j)(h2:(j:Int)≤y+bl)(h3:x-bl≤i)(h4:(i:Int)≤x+bl):arB W d x y bl j i=d (j*W+i):=by
 unfold arB;rw[decide_eq_true h1,decide_eq_true h2,decide_eq_true h3,decide_eq_true h4]
 rfl
theorem zGO{p:Nat→Bool}{n:Nat}(h:∀k,k<n→p k=false):cnt p n=0:=by
 unfold cnt;rw[zDo (g:=fun _=>0) fun k hk=>by rw[h k hk];rfl,zC6]
 omega
theorem zPz{W H:Nat}{d:Nat→Bool}{x y bl:Int}{i:Nat}(h:i=0∨(i:Int)≤x-bl):arP W H d x y bl i=0:=by
 rcases h with rfl|h
 ·rfl
 ·exact zJL fun k hk=>zGO fun j _=>zGF (.inr (.inr (.inl xD)))
theorem zPw{W:Nat}{d:Nat→Bool}{x y bl:Int}{i j:Nat}(h:j=0∨(j:Int)≤y-bl):arC W d x y bl i j=0:=by
 rcases h with rfl|h
 ·rfl
 ·exact zGO fun k hk=>zGF (.inl xD)
theorem zK9{W H:Nat}{d:Nat→Bool}{x y bl:Int}{i:Nat}(hi:i≤W)(h:i=W∨x+bl<i):arP W H d x y bl i=arN W H d x y bl:=by
 have e:arN W H d x y bl=arP W H d x y bl W:=zP0 _ W H;rw[e]
 rcases h with rfl|h
 ·rfl
 ·obtain⟨a,rfl⟩:∃a,W=i+a:=⟨W-i,by omega⟩
  unfold arP;rw[zE4 _ i a,zJL (n:=a) fun k hk=>zGO fun j _=>zGF (.inr (.inr (.inr xD)))]
  omega
theorem zK8{W H:Nat}{d:Nat→Bool}{x y bl:Int}{i j:Nat}(hj:j≤H)(h:j=H∨y+bl<j):arP W H d x y bl i+arC W d x y bl i j=arP W H d x y bl (i+1):=by
 have e:arP W H d x y bl (i+1)=arP W H d x y bl i+arC W d x y bl i H:=rfl;rw[e]
 rcases h with rfl|h
 ·rfl
 ·obtain⟨a,rfl⟩:∃a,H=j+a:=⟨H-j,by omega⟩
  unfold arC;rw[zGM _ j a,zGO (n:=a) fun k hk=>zGF (.inr (.inl xD))]
  omega
theorem zPy{W H:Nat}{d:Nat→Bool}{x y bl:Int}(i:Nat):0≤arP W H d x y bl i∧arP W H d x y bl i≤i*H:=by
 refine⟨zDE fun k _=>cnt_nonneg _ _,?_⟩
 have:=zHw (f:=fun i=>cnt (fun j=>arB W d x y bl j i) H) (g:=fun _=>(H:Int)) (n:=i) fun k _=>zCT _ _
 rw[zC6]at this;exact this
theorem zPv{W:Nat}{d:Nat→Bool}{x y bl:Int}(i j:Nat):0≤arC W d x y bl i j∧arC W d x y bl i j≤j:=⟨cnt_nonneg _ _,zCT _ _⟩
theorem zPx{W:Nat}{d:Nat→Bool}{x y bl:Int}{i j:Nat}(h1:y-bl≤j)(h2:(j:Int)≤y+bl)(h3:x-bl≤i)(h4:(i:Int)≤x+bl):arC W d x y bl i (j+1)=arC W d x y bl i j+if d (j*W+i)then 1 else 0:=by
 rw[←zPu (W:=W) (d:=d) h1 h2 h3 h4]
 rfl
theorem zPQ{W H j i n:Nat}(hn:n=W*H)(hi:i<W)(hj:j<H):j*W+i<n:=by
 have:=Nat.mul_le_mul_right W (show j+1≤H by omega);rw[Nat.succ_mul,Nat.mul_comm H]at this
 omega
theorem zOZ(bl sh:Int)(hb:-1000000≤bl∧bl≤1000000):ACalls Tryz.prog 59 [.ag [iC bl,iC sh]] (.c (iC (rdE ⟨bl,sh⟩))):=by
 by_cases c1:bl<0
 ·rw[zEW (by dsimp only;omega)]
  refine zJ Tryz.func59 rfl rfl Tryz.ntmps59 rfl ?_;refine vB [0,1,2] ?_
  refine⟨zC 26 [(2,.c (iC 3))] [] [],[],Wk.mk [] rfl rfl rfl ?_ trivial,rfl,rfl,aR1⟩
  exact zB
 ·by_cases c2:2<bl
  ·rw[zEW (by dsimp only;omega)]
   refine zJ Tryz.func59 rfl rfl Tryz.ntmps59 rfl ?_;refine vB [0,1,2] ?_
   refine⟨zC 26 [(2,.c (iC 3))] [] [],[],Wk.mk [] rfl rfl rfl ?_ trivial,rfl,rfl,aR1⟩
   exact zB
  ·by_cases c3:sh<1
   ·rw[zEW (by dsimp only;omega)]
    refine zJ Tryz.func59 rfl rfl Tryz.ntmps59 rfl ?_;refine vB [0,1,2] ?_
    refine⟨zC 26 [(2,.c (iC 3))] [] [],[],Wk.mk [] rfl rfl rfl ?_ trivial,rfl,rfl,aR1⟩
    exact zB
   ·have c4:0≤(2*bl+1)*(2*bl+1)∧(2*bl+1)*(2*bl+1)≤25:=by
     obtain rfl|rfl|rfl:bl=0∨bl=1∨bl=2:=by omega
     all_goals omega
    have hE:rdE ⟨bl,sh⟩=if (2*bl+1)*(2*bl+1)<sh then 3 else 0:=by
     unfold rdE;dsimp only;by_cases h:(2*bl+1)*(2*bl+1)<sh
     ·rw[if_pos h,if_pos xD]
     ·rw[if_neg h,if_neg xD]
    rw[hE];by_cases h:(2*bl+1)*(2*bl+1)<sh
    ·rw[if_pos h]
     refine zJ Tryz.func59 rfl rfl Tryz.ntmps59 rfl ?_
     repeat (first
      |refine vB [0,2] ?_
      |(refine AWp.draw (id:=1) zK ?_;(iterate 17 refine vA ?_);refine aH rfl rfl rfl rfl Tryz.func71 rfl xC (zGc bl sh hb) ?_;refine vA ?_;refine aH rfl rfl rfl rfl Tryz.func71 rfl xC (zGc bl sh hb) ?_;refine xE3 ?_;refine aB ⟨by kernel_rfl,?_⟩))
     refine⟨zC 26 [(2,.c (iC 3))] [] [],[],Wk.mk [] rfl rfl rfl ?_ trivial,rfl,rfl,aR1⟩
     exact zB
    ·rw[if_neg h]
     refine zJ Tryz.func59 rfl rfl Tryz.ntmps59 rfl ?_
     repeat (first
      |refine vB [0,3] ?_
      |(refine AWp.draw (id:=1) zK ?_;(iterate 17 refine vA ?_);refine aH rfl rfl rfl rfl Tryz.func71 rfl xC (zGc bl sh hb) ?_;refine vA ?_;refine aH rfl rfl rfl rfl Tryz.func71 rfl xC (zGc bl sh hb) ?_;refine xE3 ?_;refine aB ⟨by kernel_rfl,?_⟩))
     refine⟨zC 26 [(2,.c (iC 0))] [] [],[],Wk.mk [] rfl rfl rfl ?_ trivial,rfl,rfl,aR1⟩
     exact zB
theorem zKP(r:Rd)(hb:-1000000≤r.bl∧r.bl≤1000000):ACalls Tryz.prog 59 [.ag (rdC r)] (.c (iC (rdE r))):=zOZ r.bl r.sh hb
theorem zPC(W H n:Nat)(d:Nat→Bool)(x y bl:Int)(hW:W≤96)(hH:H≤96)(hn:n=W*H)(hx:0≤x∧x<W)(hy:0≤y∧y<H)(hb:0≤bl∧bl≤2):
 ACalls Tryz.prog 96 [.ag (zAz W H n d),.c (iC x),.c (iC y),.c (iC bl)] (.c (iC (arN W H d x y bl))):=by
 have hxm:x-bl≤1000:=by omega
 obtain⟨i0,hi0⟩:∃i0:Nat,max 0 (x-bl)=(i0:Int):=⟨(max 0 (x-bl)).toNat,by omega⟩
 obtain⟨j0,hj0⟩:∃j0:Nat,max 0 (y-bl)=(j0:Int):=⟨(max 0 (y-bl)).toNat,by omega⟩
 refine zJ Tryz.func96 rfl rfl Tryz.ntmps96 rfl ?_;refine vB [0,1,2] ?_;refine AWp.round (fun i:Nat=>
  zC 59 [(1,.c (iC x)),(2,.c (iC y)),(3,.c (iC bl)),(4,.c (.pt 4 3 0 0)),(9,.c (iC (arP W H d x y bl i))),(10,.c (iC (i:Nat)))] [(4,⟨false,1,3,58,lF (zAz W H n d)⟩)] [4]
  ) (fun i=>i0≤i∧i≤W) (fun i=>W-i) i0 ⟨Nat.le_refl _,by omega⟩ ?_ (fun i hi=> ?_)
 ·refine Wk.mk [(4,some 4)] rfl rfl rfl ?_ ?_
  ·rw[zPz xD]
   exact zB
  ·exact zAf
 ·obtain ⟨hi1,hi2⟩:=hi
  have hPb:=zPy (W:=W) (H:=H) (d:=d) (x:=x) (y:=y) (bl:=bl) i;by_cases c1:(i:Int)≤x+bl
  ·by_cases c2:i<W
   ·have c2' :(i:Int)<W:=by omega
    have hPi:arP W H d x y bl i≤10000:=by
     have:=Nat.mul_le_mul (show i≤96 by omega) hH;have e:((i*H:Nat):Int)=(i:Int)*H:=by simp
     omega
    obtain⟨P,hP⟩:∃P,arP W H d x y bl i=P:=⟨_,rfl⟩
    rw[hP]at hPb hPi;rw[hP];refine vB [3,5] ?_;refine AWp.round (fun j:Nat=>
     zC 59 [(1,.c (iC x)),(2,.c (iC y)),(3,.c (iC bl)),(4,.c (.pt 4 3 0 0)),(9,.c (iC (P+arC W d x y bl i j))),(10,.c (iC (i:Nat))),(11,.c (iC (j:Nat)))] [(4,⟨false,1,3,58,lF (zAz W H n d)⟩)] [4]
     ) (fun j=>j0≤j∧j≤H) (fun j=>H-j) j0 ⟨Nat.le_refl _,by omega⟩ ?_ (fun j hj=> ?_)
    ·refine Wk.mk [(4,some 4)] rfl rfl rfl ?_ ?_
     ·rw[zPw xD]
      exact zB
     ·exact zAf
    ·obtain ⟨hj1,hj2⟩:=hj
     have hCb:=zPv (W:=W) (d:=d) (x:=x) (y:=y) (bl:=bl) i j;by_cases c3:(j:Int)≤y+bl
     ·by_cases c4:j<H
      ·have c4':(j:Int)<H:=by omega
       have hlt:=zPQ hn c2 c4;have hk:(j:Int)*W+i=((j*W+i:Nat):Int):=by simp
       have hjw:0≤(j:Int)*W∧(j:Int)*W≤10000:=by
        have:=Nat.mul_le_mul (show j≤96 by omega) hW;have e:((j*W:Nat):Int)=(j:Int)*W:=by simp
        omega
       have hsu:=zPx (W:=W) (d:=d) (x:=x) (y:=y) (bl:=bl) (i:=i) (j:=j) xD c3 xD c1
       obtain⟨C,hC⟩:∃C,arC W d x y bl i j=C:=⟨_,rfl⟩
       rw[hC]at hCb hsu;rw[hC]
       cases hd:d (j*W+i)with
       | true=>
         rw[hd]at hsu
         replace hsu:arC W d x y bl i (j+1)=C+1:=hsu
         repeat (first
          |refine vB [6,7,9] ?_
          | (refine rG 8 ?_
             refine xE8 ?_;refine zG (aP (k:=j*W+i) zA) ?_;refine vA ?_;refine aB ?_))
         refine⟨j+1,⟨by omega,by omega⟩,Wk.mk [(4,some 4)] rfl rfl rfl ?_ ?_,by omega⟩
         ·rw[hsu]
          exact zB
         ·exact zAf
       | false=>
         rw[hd]at hsu
         replace hsu:arC W d x y bl i (j+1)=C+0:=hsu
         repeat (first
          |refine vB [6,7] ?_
          | (refine rG 8 ?_
             refine xE8 ?_;refine zG (aP (k:=j*W+i) zA) ?_;refine vA ?_;refine aB ?_))
         refine⟨j+1,⟨by omega,by omega⟩,Wk.mk [(4,some 4)] rfl rfl rfl ?_ ?_,by omega⟩
         ·rw[hsu]
          exact zB
         ·exact zAf
      ·have c4':¬(j:Int)<H:=by omega
       have hend:=zK8 (W:=W) (H:=H) (d:=d) (x:=x) (y:=y) (bl:=bl) (i:=i) hj2 (.inl xD);rw[hP]at hend;refine vB [4,6] ?_
       refine⟨i+1,⟨by omega,by omega⟩,Wk.mk [(4,some 4)] rfl rfl rfl ?_ ?_,by omega⟩
       ·rw[←hend]
        exact zB
       ·exact zAf
     ·have hend:=zK8 (W:=W) (H:=H) (d:=d) (x:=x) (y:=y) (bl:=bl) (i:=i) hj2 (.inr xD)
      rw[hP]at hend;refine vB [4,6] ?_
      refine⟨i+1,⟨by omega,by omega⟩,Wk.mk [(4,some 4)] rfl rfl rfl ?_ ?_,by omega⟩
      ·rw[←hend]
       exact zB
      ·exact zAf
   ·have c2':¬(i:Int)<W:=by omega
    have hend:=zK9 (W:=W) (H:=H) (d:=d) (x:=x) (y:=y) (bl:=bl) hi2 (.inl xD);rw[←hend];refine vB [3,10] ?_
    refine⟨zC 59 [(8,.c (iC (arP W H d x y bl i)))] [] [],[],Wk.mk [] rfl rfl rfl ?_ trivial,rfl,rfl,aR1⟩
    exact zB
  ·have hend:=zK9 (W:=W) (H:=H) (d:=d) (x:=x) (y:=y) (bl:=bl) hi2 (.inr xD)
   rw[←hend];refine vB [3,10] ?_
   refine⟨zC 59 [(8,.c (iC (arP W H d x y bl i)))] [] [],[],Wk.mk [] rfl rfl rfl ?_ trivial,rfl,rfl,aR1⟩
   exact zB
theorem zKR(r:Rd)(b:Bp)(hb:-1000000≤r.bl∧r.bl≤1000000):ACalls Tryz.prog 88 [.ag (rdC r),.ag (bpC b)] (.tu [.ag (bpC (zBa r b)),.c (iC (zBi r b))]):=by
 have h1:=zKP r hb;have h2:=zEV b.W b.H b.n b.d;by_cases c1:rdE r=0
 ·rw [c1]at h1
  by_cases c2:chk b.W b.H b.n=0
  ·have hE:zBi r b=0:=(zHr c1).trans c2
   rw[zNG hE,hE];rw[c2]at h2
   obtain⟨hw0,hw1,hh0,hh1,hn⟩:=okB c2
   obtain⟨g1,g2,g3,g4⟩:=zNi c1
   obtain⟨W,hW⟩:=Int.eq_ofNat_of_zero_le hw0
   obtain⟨H,hH⟩:=Int.eq_ofNat_of_zero_le hh0
   obtain⟨bW,bH,n,d⟩:=b
   dsimp only at hW hH hn hw0 hw1 hh0 hh1 h2⊢;subst hW hH;rw[show Int.toNat (W:Int)=W from rfl,show Int.toNat (H:Int)=H from rfl]
   replace hn:n=W*H:=by
    have:((n:Nat):Int)=((W*H:Nat):Int):=by rw[Int.natCast_mul];exact hn
    omega
   have hA:∀x y:Nat,x<W→y<H→ACalls Tryz.prog 96 [.ag (zAz W H n d),.c (iC x),.c (iC y),.c (iC r.bl)] (.c (iC (arN W H d x y r.bl))):=fun x y hx hy=>zPC W H n d x y r.bl xD xD hn xD xD xD
   refine zJ Tryz.func88 rfl rfl Tryz.ntmps88 rfl ?_
   repeat (first
    |refine vB [0,2,5,7,8] ?_
    | (refine rG 1 ?_
       refine vA ?_;refine xB Tryz.func59 h1 ?_;refine vA ?_;refine aB ?_)
    | (refine rG 4 ?_
       refine vA ?_;refine xB Tryz.func61 h2 ?_;refine vA ?_;refine aB ?_))
   refine AWp.round (fun y:Nat=>
    zC 55 [(2,.c (.pt 2 2 0 0)),(3,.c (.pt 3 3 0 0)),(4,.c (.pt 4 3 0 0)),(8,.c (.pt 8 3 0 0)),(9,.c (iC (y:Nat)))] [(2,⟨false,1,2,73,lF (rdC r)⟩),(3,⟨false,1,3,58,lF (zAz W H n d)⟩),(4,⟨false,1,3,58,lF (bpC bpZ)⟩),(8,⟨false,1,3,58,lF [iC W,iC H,.ow 20]⟩),(20,zCz (y*W) (zCm W H d r))] [2,3,4,8,20]
    ) (fun y=>y≤H) (fun y=>H-y) 0 (Nat.zero_le _) ?_ (fun y hy=> ?_)
   ·refine Wk.mk [(2,some 2),(3,some 3),(4,some 4),(8,some 8),(20,none)] rfl rfl rfl ?_ ?_
    ·exact zB
    ·exact⟨hSm,hSm,(by first|exact hSm|exact HeapOk.box rfl rfl ⟨LeC.int rfl,LeC.int rfl,LeC.nils _ _,trivial⟩ rfl),HeapOk.box rfl rfl ⟨LeC.int rfl,LeC.int rfl,(LeC.nil _ rfl),trivial⟩ rfl,HeapOk.nil rfl (Nat.zero_mul W),trivial⟩
   ·by_cases hyl:y<H
    ·have hyl':(y:Int)<H:=by omega
     have hbd:y*W+W≤n:=by
      have:=Nat.mul_le_mul_right W (show y+1≤H by omega);rw[Nat.succ_mul,Nat.mul_comm H]at this
      omega
     have hn2:n≤9216:=by
      have:=Nat.mul_le_mul (show W≤96 by omega) (show H≤96 by omega)
      omega
     refine vB [9,11] ?_;refine AWp.round (fun x:Nat=>
      zC 55 [(2,.c (.pt 2 2 0 0)),(3,.c (.pt 3 3 0 0)),(4,.c (.pt 4 3 0 0)),(8,.c (.pt 8 3 0 0)),(9,.c (iC (y:Nat))),(10,.c (iC (x:Nat)))] [(2,⟨false,1,2,73,lF (rdC r)⟩),(3,⟨false,1,3,58,lF (zAz W H n d)⟩),(4,⟨false,1,3,58,lF (bpC bpZ)⟩),(8,⟨false,1,3,58,lF [iC W,iC H,.ow 20]⟩),(20,zCz (y*W+x) (zCm W H d r))] [2,3,4,8,20]
      ) (fun x=>x≤W) (fun x=>W-x) 0 (Nat.zero_le _) ?_ (fun x hx=> ?_)
     ·refine Wk.mk [(2,some 2),(3,some 3),(4,some 4),(8,some 8),(20,some 20)] rfl rfl rfl ?_ ?_
      ·exact zB
      ·exact⟨hSm,hSm,(by first|exact hSm|exact HeapOk.box rfl rfl ⟨LeC.int rfl,LeC.int rfl,LeC.nils _ _,trivial⟩ rfl),HeapOk.box rfl rfl ⟨LeC.int rfl,LeC.int rfl,(LeC.ow _ _ rfl),trivial⟩ rfl,HeapOk.row rfl rfl (Nat.add_zero _) (fun i _ j _=>⟨rfl,rfl⟩),trivial⟩
     ·by_cases hxl:x<W
      ·have hxl':(x:Int)<W:=by omega
       have hAr:=hA x y hxl hyl;have hsd:zCm W H d r (y*W+x)=decide (r.sh≤arN W H d x y r.bl):=by
        unfold zCm;rw[Nat.add_comm,Nat.add_mul_mod_self_right,Nat.mod_eq_of_lt hxl,Nat.add_mul_div_right _ _ (by omega:0<W),Nat.div_eq_of_lt hxl,Nat.zero_add]
       repeat (first
        |refine vB [12,13] ?_
        |(refine AWp.draw (id:=14) zK ?_;refine xE7 ?_;refine xB Tryz.func96 hAr ?_;refine xE4 ?_;refine zBb zA rfl rfl rfl rfl rfl rfl rfl rfl rfl rfl oM oM ?_;refine xE2 ?_;refine aB ⟨by kernel_rfl,?_⟩))
       refine⟨x+1,hxl,Wk.mk [(2,some 2),(3,some 3),(4,some 4),(8,some 8),(20,some 52)] rfl rfl rfl ?_ ?_,by omega⟩
       ·exact zB
       ·exact⟨hSm,hSm,(by first|exact hSm|exact HeapOk.box rfl rfl ⟨LeC.int rfl,LeC.int rfl,LeC.nils _ _,trivial⟩ rfl),HeapOk.box rfl rfl ⟨LeC.int rfl,LeC.int rfl,(LeC.ow _ _ rfl),trivial⟩ rfl,HeapOk.row rfl rfl rfl (zFt (n:=y*W+x) (G:=bF (zCm W H d r)) (fun i _=>zAa rfl) (zAa (congrArg bC hsd.symm)) (fun _ _=>zAa rfl)),trivial⟩
      ·have hxl':¬(x:Int)<W:=by omega
       obtain rfl:x=W:=by omega
       refine vB [10,12] ?_
       refine⟨y+1,hyl,Wk.mk [(2,some 2),(3,some 3),(4,some 4),(8,some 8),(20,some 20)] rfl rfl rfl ?_ ?_,by omega⟩
       ·exact zB
       ·exact⟨hSm,hSm,(by first|exact hSm|exact HeapOk.box rfl rfl ⟨LeC.int rfl,LeC.int rfl,LeC.nils _ _,trivial⟩ rfl),HeapOk.box rfl rfl ⟨LeC.int rfl,LeC.int rfl,(LeC.ow _ _ rfl),trivial⟩ rfl,HeapOk.row rfl rfl (Nat.succ_mul y x) (fun i _ j _=>⟨rfl,rfl⟩),trivial⟩
    ·have hyl':¬(y:Int)<H:=by omega
     obtain rfl:y=H:=by omega
     have hyn:y*W=n:=by rw[hn,Nat.mul_comm]
     refine vB [9,15] ?_
     refine⟨zC 55 [(4,.c (.pt 4 3 0 0)),(5,.c (iC 0))] [(4,⟨false,1,3,58,lF (zAz W y n (zCm W y d r))⟩)] [4],[(4,⟨false,1,3,58,lF (zAz W y n (zCm W y d r))⟩)],Wk.mk [(4,some 4)] rfl rfl rfl ?_ ?_,rfl,rfl,ARets.two (x:=.ag _) (y:=.c _) (ARes.box zA rfl rfl rfl rfl rfl rfl rfl) (ARes.tmp rfl rfl)⟩
     ·exact zB
     ·exact⟨HeapOk.box rfl rfl ⟨LeC.int rfl,LeC.int rfl,zZ rfl rfl hyn.symm (fun i _ j _=>⟨rfl,rfl⟩),trivial⟩ rfl,trivial⟩
  ·have hE:zBi r b=chk b.W b.H b.n:=zHr c1
   rw[zHq (by rw[hE];exact c2),hE]
   generalize chk b.W b.H b.n=e at *;refine zJ Tryz.func88 rfl rfl Tryz.ntmps88 rfl ?_
   repeat (first
    |refine vB [0,2,5,6] ?_
    | (refine rG 1 ?_
       refine vA ?_;refine xB Tryz.func59 h1 ?_;refine vA ?_;refine aB ?_)
    | (refine rG 4 ?_
       refine vA ?_;refine xB Tryz.func61 h2 ?_;refine vA ?_;refine aB ?_))
   refine⟨zC 55 [(4,.c (.pt 4 3 0 0)),(5,.c (iC (e)))] [(4,⟨false,1,3,58,lF (bpC (bpZ))⟩)] [4],[(4,⟨false,1,3,58,lF (bpC (bpZ))⟩)],Wk.mk [(4,some 4)] rfl rfl rfl ?_ ?_,rfl,rfl,ARets.two (x:=.ag _) (y:=.c _) (ARes.box zA rfl rfl rfl rfl rfl rfl rfl) (ARes.tmp rfl rfl)⟩
   ·exact zB
   ·exact⟨HeapOk.box rfl rfl ⟨LeC.int rfl,LeC.int rfl,LeC.nils _ _,trivial⟩ rfl,trivial⟩
 ·have hE:zBi r b=rdE r:=zNH c1
  rw[zHq (by rw[hE];exact c1),hE]
  generalize rdE r=e at *;refine zJ Tryz.func88 rfl rfl Tryz.ntmps88 rfl ?_
  repeat (first
   |refine vB [0,2,3] ?_
   | (refine rG 1 ?_
      refine vA ?_;refine xB Tryz.func59 h1 ?_;refine vA ?_;refine aB ?_))
  refine⟨zC 55 [(4,.c (.pt 4 3 0 0)),(5,.c (iC (e)))] [(4,⟨false,1,3,58,lF (bpC (bpZ))⟩)] [4],[(4,⟨false,1,3,58,lF (bpC (bpZ))⟩)],Wk.mk [(4,some 4)] rfl rfl rfl ?_ ?_,rfl,rfl,ARets.two (x:=.ag _) (y:=.c _) (ARes.box zA rfl rfl rfl rfl rfl rfl rfl) (ARes.tmp rfl rfl)⟩
  ·exact zB
  ·exact⟨HeapOk.box rfl rfl ⟨LeC.int rfl,LeC.int rfl,LeC.nils _ _,trivial⟩ rfl,trivial⟩
theorem zNe(p:Pb)(a b:Bp)(x y:Bg)(hl:p.R.length≤1000000)(hR:zEg p.R):ACalls Tryz.prog 83 [.ag (pbC p),.ag (bpC a),.ag (bpC b),.ag (bgC x),.ag (bgC y)]
 (.tu [.c (iC (zBO p.R a b x y).1),.ag (clC (zBO p.R a b x y).2.1),.c (bC (zBO p.R a b x y).2.2)]):=by
 unfold zBO;have hRd:=zNn p hl;have hRo:=zNk hR
 obtain⟨L,hL⟩:∃L,rdL p.R=L:=⟨_,rfl⟩
 have hLl:L.length≤1000000:=by
  rw[←hL];unfold rdL;split
  ·simp
  ·exact hl
 have hR0:p.R.length=0→L= [⟨0,1⟩]:=fun h=>by rw[←hL];exact if_pos (List.eq_nil_of_length_eq_zero h)
 have hR1:¬p.R.length=0→L=p.R:=fun h=>by rw[←hL];exact if_neg fun e=>h (by rw[e];rfl)
 rw[hL]at hRd hRo⊢
 obtain⟨n,hn⟩:∃n,L.length=n:=⟨_,rfl⟩
 rw[hn]at hLl;refine zJ Tryz.func83 rfl rfl Tryz.ntmps83 rfl ?_;refine vB [0,1,2] ?_;refine AWp.cut (
  zC 70 [(5,.c (.pt 5 5 0 0)),(6,.c (.pt 6 3 0 0)),(7,.c (.pt 7 3 0 0)),(8,.c (.pt 8 4 0 0)),(9,.c (.pt 9 4 0 0)),(11,.c (.pt 11 3 0 0)),(10,.c (iC 0)),(12,.c (bC false)),(13,.c (lsR L))] [(5,⟨false,1,5,34,lF (pbC p)⟩),(6,⟨false,1,3,58,lF (bpC a)⟩),(7,⟨false,1,3,58,lF (bpC b)⟩),(8,⟨false,1,4,61,lF (bgC x)⟩),(9,⟨false,1,4,61,lF (bgC y)⟩),(11,⟨false,1,3,66,lF (clC clZ)⟩)] [5,6,7,8,9,11]
  ) ?_ (fun S1 hw1=>AWp.weak hw1 ?_)
 ·clear hRd
  by_cases h0:p.R.length=0
  ·have h0':((p.R.length:Nat):Int)=0:=by omega
   have hL1:=hR0 h0;clear hL;subst hL1;refine vB [3] ?_
   refine⟨rfl,Wk.mk [(5,some 5),(6,some 6),(7,some 7),(8,some 8),(9,some 9),(11,some 11)] rfl rfl rfl ?_ ?_⟩
   ·repeat (first|exact trivial|refine⟨⟨_,rfl,by first|exact LeA.c (zCO rfl zNh)|exact leT⟩,?_⟩)
   ·exact zAf
  ·have h0':¬((p.R.length:Nat):Int)=0:=by omega
   have hL1:=hR1 h0;clear hL;subst hL1;refine vB [] ?_
   refine⟨rfl,Wk.mk [(5,some 5),(6,some 6),(7,some 7),(8,some 8),(9,some 9),(11,some 11)] rfl rfl rfl ?_ ?_⟩
   ·exact zB
   ·exact zAf
 refine vB [4] ?_;refine AWp.round (fun k:Nat=>
  zC 70 [(5,.c (.pt 5 5 0 0)),(6,.c (.pt 6 3 0 0)),(7,.c (.pt 7 3 0 0)),(8,.c (.pt 8 4 0 0)),(9,.c (.pt 9 4 0 0)),(11,.c (.pt 11 3 0 0)),(10,.c (iC 0)),(12,.c (bC false)),(13,.c (lsR L)),(14,.c (iC (k:Nat)))] [(5,⟨false,1,5,34,lF (pbC p)⟩),(6,⟨false,1,3,58,lF (bpC a)⟩),(7,⟨false,1,3,58,lF (bpC b)⟩),(8,⟨false,1,4,61,lF (bgC x)⟩),(9,⟨false,1,4,61,lF (bgC y)⟩),(11,⟨false,1,3,66,lF (clC clZ)⟩)] [5,6,7,8,9,11]
  ) (fun k=>k≤n∧∀i,i<k→rcB (L.getD i rdZ) a b x y=false) (fun k=>n-k) 0 ⟨Nat.zero_le _,fun i hi=>absurd hi (Nat.not_lt_zero _)⟩ ?_ (fun k hk=> ?_)
 ·refine Wk.mk [(5,some 5),(6,some 6),(7,some 7),(8,some 8),(9,some 9),(11,some 11)] rfl rfl rfl ?_ ?_
  ·exact zB
  ·exact zAf
 ·obtain⟨hk,hno⟩:=hk
  by_cases hkn:k<n
  ·have hkn':(k:Int)<n:=by omega
   have hb:=hRo _ (zAB (L:=L) (k:=k) (z:=rdZ) xD);have s1:=zKR (L.getD k rdZ) a hb;have s2:=zKR (L.getD k rdZ) b hb;have hC:=zRB (zBa (L.getD k rdZ) a) (zBa (L.getD k rdZ) b) x y;have hrB:rcB (L.getD k rdZ) a b x y=(decide (zBi (L.getD k rdZ) a=0) && (decide (zBi (L.getD k rdZ) b=0) && (zCF (zBa (L.getD k rdZ) a) (zBa (L.getD k rdZ) b) x y).2)):=rfl;have hrC:rcC (L.getD k rdZ) a b x y=(zCF (zBa (L.getD k rdZ) a) (zBa (L.getD k rdZ) b) x y).1:=rfl;have go:rcB (L.getD k rdZ) a b x y=false→k+1≤n∧∀i,i<k+1→rcB (L.getD i rdZ) a b x y=false:=fun h=>⟨hkn,fun i hi=>by
    by_cases e:i=k
    ·rw[e];exact h
    ·exact hno i xD⟩
   have hit:rcB (L.getD k rdZ) a b x y=true→zDu a b x y L 0=(k,rcC (L.getD k rdZ) a b x y,true):=fun h=>by
    rw[zIq xD hno h,Nat.zero_add]
   generalize zBa (L.getD k rdZ) a=u at *;generalize zBa (L.getD k rdZ) b=v at *;generalize zBi (L.getD k rdZ) a=e1 at *;generalize zBi (L.getD k rdZ) b=e2 at *;by_cases c1:e1=0
   ·by_cases c2:e2=0
    ·rw [decide_eq_true c1,decide_eq_true c2,Bool.true_and,Bool.true_and]at hrB
     subst c1 c2;rw[←hrB,←hrC]at hC
     cases hc:rcB (L.getD k rdZ) a b x y with
     | true=>
       rw[hc]at hC;rw[hit hc]
       repeat (first
        |refine vB [5,9,11,12] ?_
        |(refine AWp.draw (id:=7) zK ?_;refine xE2 ?_;refine zG (aP (k:=k) zA) ?_;refine xE2 ?_;refine xB Tryz.func88 s1 ?_;refine xE6 ?_;refine aB ⟨by kernel_rfl,?_⟩)
        |(refine AWp.draw (id:=8) zK ?_;refine xE2 ?_;refine zG (aP (k:=k) zA) ?_;refine xE2 ?_;refine xB Tryz.func88 s2 ?_;refine xE6 ?_;refine aB ⟨by kernel_rfl,?_⟩)
        | (refine rG 10 ?_
           refine xE4 ?_;refine xB Tryz.func89 hC ?_;refine xE6 ?_;refine aB ?_))
       refine⟨zC 70 [(10,.c (iC (k))),(11,.c (.pt 11 3 0 0)),(12,.c (bC true))] [(11,⟨false,1,3,66,lF (clC (rcC (L.getD k rdZ) a b x y))⟩)] [11],[(11,⟨false,1,3,66,lF (clC (rcC (L.getD k rdZ) a b x y))⟩)],Wk.mk [(11,some 11)] rfl rfl rfl ?_ ?_,rfl,rfl,ARets.three (x:=.c _) (y:=.ag _) (z:=.c _) (ARes.tmp rfl rfl) (ARes.box zA rfl rfl rfl rfl rfl rfl rfl) (ARes.tmp rfl rfl)⟩
       ·exact zB
       ·exact zAf
     | false=>
       rw[hc]at hC
       repeat (first
        |refine vB [5,6,9,11] ?_
        |(refine AWp.draw (id:=7) zK ?_;refine xE2 ?_;refine zG (aP (k:=k) zA) ?_;refine xE2 ?_;refine xB Tryz.func88 s1 ?_;refine xE6 ?_;refine aB ⟨by kernel_rfl,?_⟩)
        |(refine AWp.draw (id:=8) zK ?_;refine xE2 ?_;refine zG (aP (k:=k) zA) ?_;refine xE2 ?_;refine xB Tryz.func88 s2 ?_;refine xE6 ?_;refine aB ⟨by kernel_rfl,?_⟩)
        | (refine rG 10 ?_
           refine xE4 ?_;refine xB Tryz.func89 hC ?_;refine xE6 ?_;refine aB ?_))
       refine⟨k+1,go hc,Wk.mk [(5,some 5),(6,some 6),(7,some 7),(8,some 8),(9,some 9),(11,some 11)] rfl rfl rfl ?_ ?_,by omega⟩
       ·exact zB
       ·exact zAf
    ·have hc:rcB (L.getD k rdZ) a b x y=false:=by rw[hrB,decide_eq_false c2,Bool.false_and,Bool.and_false]
     repeat (first
      |refine vB [5,6,9] ?_
      |(refine AWp.draw (id:=7) zK ?_;refine xE2 ?_;refine zG (aP (k:=k) zA) ?_;refine xE2 ?_;refine xB Tryz.func88 s1 ?_;refine xE6 ?_;refine aB ⟨by kernel_rfl,?_⟩)
      |(refine AWp.draw (id:=8) zK ?_;refine xE2 ?_;refine zG (aP (k:=k) zA) ?_;refine xE2 ?_;refine xB Tryz.func88 s2 ?_;refine xE6 ?_;refine aB ⟨by kernel_rfl,?_⟩))
     refine⟨k+1,go hc,Wk.mk [(5,some 5),(6,some 6),(7,some 7),(8,some 8),(9,some 9),(11,some 11)] rfl rfl rfl ?_ ?_,by omega⟩
     ·exact zB
     ·exact zAf
   ·have hc:rcB (L.getD k rdZ) a b x y=false:=by rw[hrB,decide_eq_false c1,Bool.false_and]
    repeat (first
     |refine vB [5,6,9] ?_
     |(refine AWp.draw (id:=7) zK ?_;refine xE2 ?_;refine zG (aP (k:=k) zA) ?_;refine xE2 ?_;refine xB Tryz.func88 s1 ?_;refine xE6 ?_;refine aB ⟨by kernel_rfl,?_⟩)
     |(refine AWp.draw (id:=8) zK ?_;refine xE2 ?_;refine zG (aP (k:=k) zA) ?_;refine xE2 ?_;refine xB Tryz.func88 s2 ?_;refine xE6 ?_;refine aB ⟨by kernel_rfl,?_⟩))
    refine⟨k+1,go hc,Wk.mk [(5,some 5),(6,some 6),(7,some 7),(8,some 8),(9,some 9),(11,some 11)] rfl rfl rfl ?_ ?_,by omega⟩
    ·exact zB
    ·exact zAf
  ·have hkn':¬(k:Int)<n:=by omega
   obtain rfl:k=n:=by omega
   rw[zIr (by rw[hn];exact hno)]
   refine vB [5,13] ?_
   refine⟨zC 70 [(10,.c (iC (0))),(11,.c (.pt 11 3 0 0)),(12,.c (bC false))] [(11,⟨false,1,3,66,lF (clC (clZ))⟩)] [11],[(11,⟨false,1,3,66,lF (clC (clZ))⟩)],Wk.mk [(11,some 11)] rfl rfl rfl ?_ ?_,rfl,rfl,ARets.three (x:=.c _) (y:=.ag _) (z:=.c _) (ARes.tmp rfl rfl) (ARes.box zA rfl rfl rfl rfl rfl rfl rfl) (ARes.tmp rfl rfl)⟩
   ·exact zB
   ·exact zAf
theorem zJn{C:List (List Bp)}(h:∀i,i<C.length→(C.getD i []).length≤200):∀i,i≤C.length→(zBt C i).length≤200*i
 |0,_=>by simp[zBt]
 | i+1,hi=>by
   rw[zHf xD,List.length_append];have:=zJn h i xD;have:=h i xD
   omega
theorem zI1(p:Pb)(n c:Nat):zBZ p n c=(p.C.getD n []).getD c bpZ:=by
 unfold zBZ;rw[if_neg xD,Int.toNat_natCast,Int.toNat_natCast]
theorem zI2(p:Pb)(n:Nat)(c:Int):zB0 p n c=p.O.getD n bgZ:=by
 unfold zB0;rw[if_neg xD,Int.toNat_natCast]
theorem zQQ(p:Pb)(c:Nat):zBZ p (-1) c=p.F.getD c bpZ:=by
 unfold zBZ;rw[if_pos (by decide),Int.toNat_natCast]
theorem zQR(p:Pb)(c:Nat):zB0 p (-1) c=p.T.getD c bgZ:=by
 unfold zB0;rw[if_pos (by decide),Int.toNat_natCast]
theorem PkOk.nat{p:Pb}{n:Nat}{c:Int}(h:PkOk p n c):∃k:Nat,c=k∧n<p.C.length∧k<(p.C.getD n []).length:=by
 rcases h with ⟨h,_⟩|⟨i,k,h1,h2,h3,_,h4⟩
 ·omega
 ·obtain rfl:i=n:=by omega
  exact⟨k,h2,h3,h4⟩
theorem zRN(p:Pb)(hp:p.fit)(n:Nat)(f:Nat→Int)(h:∀k,k<n+1→PkOk p k (f k)):ACalls Tryz.prog 70 [.ag (pbC p),.c (.ls (n+1) 1 (iF f))] (.c (bC (zAW p n f (f n)))):=by
 obtain⟨c,hc,hnC,hcL⟩:=(h n xD).nat
 have hno:= @zFK p n f (f n);have hyes:= @freeV_iff p n f (f n)
 obtain⟨V,hV⟩:∃V,zAW p n f (f n)=V:=⟨_,rfl⟩
 rw[hV]at hno hyes⊢;rw[hc]at hno hyes
 obtain⟨L,hL⟩:∃L,p.C.getD n []=L:=⟨_,rfl⟩
 rw[hL]at hcL;have hcF:chF p.C n 0=lsB L:=by rw[←hL]
 have hLl:L.length≤32:=by rw[←hL];exact hp.l _ (zAB hnC)
 have hC1:=fun k:Nat=>zNe p (L.getD c bpZ) (p.F.getD k bpZ) (p.O.getD n bgZ) (p.T.getD k bgZ) hp.ok.lR hp.ok.rd
 have hC2:=fun k j:Nat=>zNe p (L.getD c bpZ) ((p.C.getD k []).getD j bpZ) (p.O.getD n bgZ) (p.O.getD k bgZ) hp.ok.lR hp.ok.rd
 have e1:∀k:Nat,(zBO p.R (L.getD c bpZ) (p.F.getD k bpZ) (p.O.getD n bgZ) (p.T.getD k bgZ)).2.2=pkV p n c (-1) k:=fun k=>by unfold pkV;rw[zI1,zI2,zQQ,zQR,hL]
 have e2:∀k j:Nat,(zBO p.R (L.getD c bpZ) ((p.C.getD k []).getD j bpZ) (p.O.getD n bgZ) (p.O.getD k bgZ)).2.2=pkV p n c k j:=fun k j=>by unfold pkV;rw[zI1,zI2,zI1,zI2,hL]
 obtain⟨-,hT,hO,lC,lF',hl⟩:=hp
 refine zJ Tryz.func70 rfl rfl Tryz.ntmps70 rfl ?_
 repeat (first
  |refine vB [0,1,3] ?_
  |(refine AWp.draw (id:=2) zK ?_;refine xE3 ?_;refine zG (aP (k:=n) zA) ?_;refine zY zA (hcF) rfl rfl rfl rfl rfl oM ?_;refine xE2 ?_;refine zG (aP (k:=n) zA) ?_;refine vA ?_;refine zG (aP (k:=c) zA) ?_;refine xE3 ?_;refine aB ⟨by kernel_rfl,?_⟩))
 refine AWp.round (fun k:Nat=>
  zC 93 [(1,.c (.ls (n+1) 1 (iF f))),(2,.c (.pt 2 5 0 0)),(5,.c (iC n)),(6,.c (.pt 6 3 0 0)),(7,.c (iC (k:Nat)))] [(2,⟨false,1,5,34,lF (pbC p)⟩),(6,⟨false,1,3,58,lF (bpC (L.getD c bpZ))⟩)] [2,6]
  ) (fun k=>k≤p.F.length∧∀j,j<k→pkV p n c (-1) j=false) (fun k=>p.F.length-k) 0 ⟨Nat.zero_le _,fun _ h=>absurd h (Nat.not_lt_zero _)⟩ ?_ (fun k hk=> ?_)
 ·refine Wk.mk [(2,some 2),(6,some 6)] rfl rfl rfl ?_ ?_
  ·exact zB
  ·exact zAf
 obtain⟨hk,hok⟩:=hk
 by_cases hkl:k<p.F.length
 ·have hkl':(k:Int)<p.F.length:=by omega
  have hct:=hC1 k;have hct2:=e1 k;generalize zBO p.R (L.getD c bpZ) (p.F.getD k bpZ) (p.O.getD n bgZ) (p.T.getD k bgZ)=o at hct hct2
  obtain⟨o1,o2,o3⟩:=o
  dsimp only at hct hct2
  cases o3 with
  | true=>
    obtain rfl:=hno fun h=>by rw[h.1 k hkl]at hct2;cases hct2
    repeat (first
     |refine vB [4,7,8] ?_
     |(refine AWp.draw (id:=6) zK ?_;refine xE5 ?_;refine zG (aP (k:=k) zA) ?_;refine xE4 ?_;refine zG (aP (k:=n) zA) ?_;refine xE4 ?_;refine zG (aP (k:=k) zA) ?_;refine vA ?_;refine xB Tryz.func83 hct ?_;refine xE8 ?_;refine aB ⟨by kernel_rfl,?_⟩))
    refine⟨zC 93 [(4,.c (bC false))] [] [],[],Wk.mk [] rfl rfl rfl ?_ trivial,rfl,rfl,aR1⟩
    exact zB
  | false=>
    repeat (first
     |refine vB [4,5,7] ?_
     |(refine AWp.draw (id:=6) zK ?_;refine xE5 ?_;refine zG (aP (k:=k) zA) ?_;refine xE4 ?_;refine zG (aP (k:=n) zA) ?_;refine xE4 ?_;refine zG (aP (k:=k) zA) ?_;refine vA ?_;refine xB Tryz.func83 hct ?_;refine xE8 ?_;refine aB ⟨by kernel_rfl,?_⟩))
    refine⟨k+1,⟨hkl,fun j hj=> ?_⟩,Wk.mk [(2,some 2),(6,some 6)] rfl rfl rfl ?_ ?_,by omega⟩
    ·by_cases ej:j=k
     ·rw[ej];exact hct2.symm
     ·exact hok j xD
    ·exact zB
    ·exact zAf
 have hkl':¬(k:Int)<p.F.length:=by omega
 obtain rfl:k=p.F.length:=by omega
 refine vB [4,9] ?_;refine AWp.round (fun k:Nat=>
  zC 93 [(1,.c (.ls (n+1) 1 (iF f))),(2,.c (.pt 2 5 0 0)),(5,.c (iC n)),(6,.c (.pt 6 3 0 0)),(11,.c (iC (k:Nat)))] [(2,⟨false,1,5,34,lF (pbC p)⟩),(6,⟨false,1,3,58,lF (bpC (L.getD c bpZ))⟩)] [2,6]
  ) (fun k=>k≤n∧∀j,j<k→pkV p n c j (f j)=false) (fun k=>n-k) 0 ⟨Nat.zero_le _,fun _ h=>absurd h (Nat.not_lt_zero _)⟩ ?_ (fun k hk=> ?_)
 ·refine Wk.mk [(2,some 2),(6,some 6)] rfl rfl rfl ?_ ?_
  ·exact zB
  ·exact zAf
 obtain⟨hk,hok2⟩:=hk
 by_cases hkl:k<n
 ·have hkl2:(k:Int)<n:=by omega
  obtain⟨d,hd,hkC,hdL⟩:=(h k xD).nat
  have hct:=hC2 k d;have hct2:=e2 k d
  obtain⟨M,hM⟩:∃M,p.C.getD k []=M:=⟨_,rfl⟩
  rw[hM]at hct hct2 hdL;have hcM:chF p.C k 0=lsB M:=by rw[←hM]
  have hMl:M.length≤32:=by rw[←hM];exact hl _ (zAB hkC)
  generalize zBO p.R (L.getD c bpZ) (M.getD d bpZ) (p.O.getD n bgZ) (p.O.getD k bgZ)=o at hct hct2
  obtain⟨o1,o2,o3⟩:=o
  dsimp only at hct hct2;rw[←hd]at hct2
  cases o3 with
  | true=>
    obtain rfl:=hno fun h=>by rw[h.2 k hkl]at hct2;cases hct2
    repeat (first
     |refine vB [10,13,14] ?_
     |(refine AWp.draw (id:=12) zK ?_;refine xE5 ?_;refine zG (aP (k:=k) zA) ?_;refine zY zA (hcM) rfl rfl rfl rfl rfl oM ?_;refine xE2 ?_;refine zG (aP (k:=k) zA) ?_;refine vA ?_;refine zG (aP (k:=d) zA) ?_;refine xE4 ?_;refine zG (aP (k:=n) zA) ?_;refine xE4 ?_;refine zG (aP (k:=k) zA) ?_;refine vA ?_;refine xB Tryz.func83 hct ?_;refine xE8 ?_;refine aB ⟨by kernel_rfl,?_⟩))
    refine⟨zC 93 [(4,.c (bC false))] [] [],[],Wk.mk [] rfl rfl rfl ?_ trivial,rfl,rfl,aR1⟩
    exact zB
  | false=>
    repeat (first
     |refine vB [10,11,13] ?_
     |(refine AWp.draw (id:=12) zK ?_;refine xE5 ?_;refine zG (aP (k:=k) zA) ?_;refine zY zA (hcM) rfl rfl rfl rfl rfl oM ?_;refine xE2 ?_;refine zG (aP (k:=k) zA) ?_;refine vA ?_;refine zG (aP (k:=d) zA) ?_;refine xE4 ?_;refine zG (aP (k:=n) zA) ?_;refine xE4 ?_;refine zG (aP (k:=k) zA) ?_;refine vA ?_;refine xB Tryz.func83 hct ?_;refine xE8 ?_;refine aB ⟨by kernel_rfl,?_⟩))
    refine⟨k+1,⟨hkl,fun j hj=> ?_⟩,Wk.mk [(2,some 2),(6,some 6)] rfl rfl rfl ?_ ?_,by omega⟩
    ·by_cases ej:j=k
     ·rw[ej];exact hct2.symm
     ·exact hok2 j xD
    ·exact zB
    ·exact zAf
 have hkl2:¬(k:Int)<n:=by omega
 obtain rfl:n=k:=by omega
 obtain rfl:V=true:=hyes.2 ⟨hok,hok2⟩;refine vB [10,15] ?_
 refine⟨zC 93 [(4,.c (bC true))] [] [],[],Wk.mk [] rfl rfl rfl ?_ trivial,rfl,rfl,aR1⟩
 exact zB
theorem zNx{α:Type}{c:α→List CV}{z:α}(A B:List α)(sz:Nat)(hc:∀x,(c x).all zM=true):∀i,i<A.length+B.length→∀j,j<sz→zAj (zS c z A) A.length (zS c z B) i j=zS c z (A++B) i j∧zM (zAj (zS c z A) A.length (zS c z B) i j)=true:=fun i hi j _=>by
 have:zAj (zS c z A) A.length (zS c z B) i j=zS c z (A++B) i j:=by
  unfold zAj zS;have e:∀k,(A++B).getD k z=(A++B)[k]?.getD z:=fun k=>List.getD_eq_getElem?_getD
  rw[e];by_cases h:i<A.length
  ·rw[show Nat.blt i A.length=true from Nat.blt_eq.mpr h,List.getElem?_append_left h,←List.getD_eq_getElem?_getD]
   rfl
  ·rw[show Nat.blt i A.length=false from Bool.eq_false_iff.2 fun h'=>h (Nat.blt_eq.mp h'),List.getElem?_append_right xD,←List.getD_eq_getElem?_getD]
   rfl
 rw[this]
 exact⟨rfl,zL hc _ i j⟩
theorem zPF(p:Pb)(hC:p.C.length≤200)(hF:p.F.length≤200)(hl:∀i,i<p.C.length→(p.C.getD i []).length≤200):ACalls Tryz.prog 60 [.ag (pbC p)] (.c (lsB (zCq p))):=by
 have hpl:=zJn hl;refine zJ Tryz.func60 rfl rfl Tryz.ntmps60 rfl ?_;refine vB [0,1,2] ?_;refine AWp.round (fun i:Nat=>zC 23 [(1,.c (.pt 1 5 0 0)),(3,.c (.ow 20)),(4,.c (iC i))] [(1,⟨false,1,5,34,lF (pbC p)⟩),(20,bpB (zBt p.C i))] [1,20])
  (fun i=>i≤p.C.length) (fun i=>p.C.length-i) 0 (Nat.zero_le _) ?_ (fun i hi=> ?_)
 ·refine Wk.mk [(1,some 1),(20,none)] rfl rfl rfl ?_ ?_
  ·exact zB
  ·exact zAf
 ·by_cases hil:i<p.C.length
  ·have hil':(i:Int)<p.C.length:=by omega
   have hsu:=zHf hil;have h1:=hpl i hi;have h2:=hl i hil
   obtain⟨L,hL⟩:∃L,p.C.getD i []=L:=⟨_,rfl⟩
   rw[hL]at hsu h2;have hcF:chF p.C i 0=lsB L:=by rw[←hL]
   obtain⟨P,hP⟩:∃P,zBt p.C i=P:=⟨_,rfl⟩
   rw[hP]at hsu h1;rw[hP];have hlen:(zBt p.C (i+1)).length=P.length+L.length:=by rw[hsu,List.length_append]
   repeat (first
    |refine vB [3,4] ?_
    | (refine rG 5 ?_
       refine xE4 ?_;refine zG (aP (k:=i) zA) ?_;refine zY zA (hcF) rfl rfl rfl rfl rfl oM ?_;refine zBb zA rfl rfl rfl rfl rfl rfl rfl rfl rfl rfl oM oM ?_;refine vA ?_;refine aB ?_))
   refine⟨i+1,hil,Wk.mk [(1,some 1),(20,some 18)] rfl rfl rfl ?_ ?_,by omega⟩
   ·exact zB
   ·refine⟨hSm,HeapOk.row rfl rfl hlen ?_,trivial⟩
    rw[hsu];exact zNx P L 3 zAm
  ·have hil':¬(i:Int)<p.C.length:=by omega
   obtain rfl:i=p.C.length:=by omega
   have h1:=hpl _ (Nat.le_refl _);rw[zJm]at h1⊢;have hlen:(zCq p).length=p.C.flatten.length+p.F.length:=List.length_append
   repeat (first
    |refine vB [3] ?_
    | (refine rG 6 ?_
       refine xE3 ?_;refine zBb zA rfl rfl rfl rfl rfl rfl rfl rfl rfl rfl oM oM ?_;refine vA ?_;refine aB ?_))
   refine⟨zC 23 [(2,.c (lsB (zCq p)))] [] [],[],Wk.mk [] rfl rfl rfl ?_ trivial,rfl,rfl,aR1⟩
   exact⟨⟨_,rfl,.c (zZ rfl rfl hlen (zNx p.C.flatten p.F 3 zAm))⟩,trivial⟩
theorem zHk(p:Pb)(hp:p.ok):ACalls Tryz.prog 31 [.ag (pbC p)] (.c (iC (zAr p))):=by
 obtain⟨hrd,lR,lC,lF',lO,lT,lc⟩:=hp
 by_cases c1:4<p.R.length
 ·rw[zFA (.inl c1)]
  have c1':((p.R.length:Nat):Int)>4:=by omega
  refine zJ Tryz.func31 rfl rfl Tryz.ntmps31 rfl ?_;refine vB [0,1,2] ?_
  refine⟨zC 109 [(2,.c (iC 2))] [] [],[],Wk.mk [] rfl rfl rfl ?_ trivial,rfl,rfl,aR1⟩
  exact zB
 have c1':¬((p.R.length:Nat):Int)>4:=by omega
 by_cases c2:200<p.C.length
 ·rw[zFA (.inr (.inl c2))]
  have c2':((p.C.length:Nat):Int)>200:=by omega
  refine zJ Tryz.func31 rfl rfl Tryz.ntmps31 rfl ?_;refine vB [0,1,2] ?_
  refine⟨zC 109 [(2,.c (iC 2))] [] [],[],Wk.mk [] rfl rfl rfl ?_ trivial,rfl,rfl,aR1⟩
  exact zB
 have c2':¬((p.C.length:Nat):Int)>200:=by omega
 by_cases c2b:200<p.F.length
 ·rw[zFA (.inr (.inr c2b))]
  have c2':((p.F.length:Nat):Int)>200:=by omega
  refine zJ Tryz.func31 rfl rfl Tryz.ntmps31 rfl ?_;refine vB [0,1,2] ?_
  refine⟨zC 109 [(2,.c (iC 2))] [] [],[],Wk.mk [] rfl rfl rfl ?_ trivial,rfl,rfl,aR1⟩
  exact zB
 have c2b':¬((p.F.length:Nat):Int)>200:=by omega
 have hM:¬(4<p.R.length∨200<p.C.length∨200<p.F.length):=by omega
 have hlong:= @zLE p
 obtain⟨e,he⟩:∃e,zAr p=e:=⟨_,rfl⟩
 rw[he];refine zJ Tryz.func31 rfl rfl Tryz.ntmps31 rfl ?_;refine vB [0,1,3] ?_;refine AWp.round (fun i:Nat=>
  zC 109 [(1,.c (.pt 1 5 0 0)),(3,.c (iC (i:Nat)))] [(1,⟨false,1,5,34,lF (pbC p)⟩)] [1]
  ) (fun i=>i≤p.C.length∧∀i',i'<i→¬32<(p.C.getD i' []).length) (fun i=>p.C.length-i) 0 ⟨Nat.zero_le _,fun _ h=>absurd h (Nat.not_lt_zero _)⟩ ?_ (fun i hi=> ?_)
 ·refine Wk.mk [(1,some 1)] rfl rfl rfl ?_ ?_
  ·exact zB
  ·exact zAf
 obtain⟨hi,hno⟩:=hi
 by_cases hil:i<p.C.length
 ·have hil':(i:Int)<p.C.length:=by omega
  by_cases h32:32<(p.C.getD i []).length
  ·have h32':(((p.C.getD i []).length:Nat):Int)>32:=by omega
   rw[hlong hM hil h32]at he;subst he
   repeat (first
    |refine vB [4,7] ?_
    | (refine rG 6 ?_
       refine xE3 ?_;refine zG (aP (k:=i) zA) ?_;refine xE3 ?_;refine aB ?_))
   refine⟨zC 109 [(2,.c (iC 2))] [] [],[],Wk.mk [] rfl rfl rfl ?_ trivial,rfl,rfl,aR1⟩
   exact zB
  ·have h32':¬(((p.C.getD i []).length:Nat):Int)>32:=by omega
   repeat (first
    |refine vB [4,5] ?_
    | (refine rG 6 ?_
       refine xE3 ?_;refine zG (aP (k:=i) zA) ?_;refine xE3 ?_;refine aB ?_))
   refine⟨i+1,⟨hil,fun i' hi'=> ?_⟩,Wk.mk [(1,some 1)] rfl rfl rfl ?_ ?_,by omega⟩
   ·by_cases e:i'=i
    ·rw[e];exact h32
    ·exact hno i' xD
   ·exact zB
   ·exact zAf
 have hil':¬(i:Int)<p.C.length:=by omega
 obtain rfl:i=p.C.length:=by omega
 have hrdk:= @zLF p;refine vB [4,8] ?_;refine AWp.round (fun k:Nat=>
  zC 109 [(1,.c (.pt 1 5 0 0)),(4,.c (iC (k:Nat)))] [(1,⟨false,1,5,34,lF (pbC p)⟩)] [1]
  ) (fun k=>k≤p.R.length∧∀i,i<k→rdE (p.R.getD i rdZ)=0) (fun k=>p.R.length-k) 0 ⟨Nat.zero_le _,fun _ h=>absurd h (Nat.not_lt_zero _)⟩ ?_ (fun k hk=> ?_)
 ·refine Wk.mk [(1,some 1)] rfl rfl rfl ?_ ?_
  ·exact zB
  ·exact zAf
 obtain⟨hk,hok⟩:=hk
 by_cases hkl:k<p.R.length
 ·have hkl':(k:Int)<p.R.length:=by omega
  have hc:=zKP (p.R.getD k rdZ) (hrd _ (zAB hkl));have hrdk':=fun h=>hrdk hM hno hkl hok h
  generalize hg:rdE (p.R.getD k rdZ)=v at *;by_cases hv:v=0
  ·subst hv
   repeat (first
    |refine vB [9,10,12] ?_
    | (refine rG 11 ?_
       refine xE3 ?_;refine zG (aP (k:=k) zA) ?_;refine vA ?_;refine xB Tryz.func59 hc ?_;refine vA ?_;refine aB ?_))
   refine⟨k+1,⟨hkl,fun i hi=> ?_⟩,Wk.mk [(1,some 1)] rfl rfl rfl ?_ ?_,by omega⟩
   ·by_cases e:i=k
    ·rw[e];exact hg
    ·exact hok i xD
   ·exact zB
   ·exact zAf
  ·rw [hrdk' hv]at he
   subst he
   repeat (first
    |refine vB [9,12,13] ?_
    | (refine rG 11 ?_
       refine xE3 ?_;refine zG (aP (k:=k) zA) ?_;refine vA ?_;refine xB Tryz.func59 hc ?_;refine vA ?_;refine aB ?_))
   refine⟨zC 109 [(2,.c (iC v))] [] [],[],Wk.mk [] rfl rfl rfl ?_ trivial,rfl,rfl,aR1⟩
   exact zB
 have hkl':¬(k:Int)<p.R.length:=by omega
 obtain rfl:k=p.R.length:=by omega
 by_cases c3:p.O.length=p.C.length∧p.T.length=p.F.length
 ·have c3a:((p.O.length:Nat):Int)=p.C.length:=by omega
  have c3b:((p.T.length:Nat):Int)=p.F.length:=by omega
  rw[zIp hM hno hok c3]at he;have hB:=zPF p xD xD (fun i hi=>by have:=hno i hi;omega)
  have hBl:(zCq p).length≤100000:=by
   have h1:(zCq p).length=p.C.flatten.length+p.F.length:=List.length_append;have h2:=zJn (C:=p.C) (fun i hi=>by have:=hno i hi;omega) _ (Nat.le_refl _)
   rw[zJm]at h2
   omega
  generalize zCq p=L at *;have hb:= @zLz L;have hs:= @zLA L
  repeat (first
   |refine vB [9,14,17] ?_
   | (refine rG 16 ?_
      refine vA ?_;refine xB Tryz.func60 hB ?_;refine vA ?_;refine aB ?_))
  refine AWp.round (fun k:Nat=>zC 109 [(6,.c (lsB L)),(7,.c (iC k))] [] [])
   (fun k=>k≤L.length∧GoodL L k) (fun k=>L.length-k) 0 ⟨Nat.zero_le _,fun _ h=>absurd h (Nat.not_lt_zero _)⟩ ?_ (fun k hk=> ?_)
  ·refine Wk.mk [] rfl rfl rfl ?_ trivial
   exact zB
  obtain⟨hk,hg⟩:=hk
  by_cases hkl:k<L.length
  ·have hkl':(k:Int)<L.length:=by omega
   have h0:0<L.length:=by omega
   have hC:=zEV (L.getD k bpZ).W (L.getD k bpZ).H (L.getD k bpZ).n (L.getD k bpZ).d;by_cases e1:chk (L.getD k bpZ).W (L.getD k bpZ).H (L.getD k bpZ).n=0
   ·rw [e1]at hC
    by_cases e2:(L.getD k bpZ).W=(L.getD 0 bpZ).W∧(L.getD k bpZ).H=(L.getD 0 bpZ).H
    ·have hgs:=zKI hg e1 e2
     obtain⟨e2a,e2b⟩:=e2
     repeat (first
      |refine vB [18,19,21] ?_
      | (refine rG 20 ?_
         refine xE2 ?_;refine zG (aP (k:=k) zA) ?_;refine vA ?_;refine xB Tryz.func61 hC ?_;refine vA ?_;refine aB ?_)
      |(refine AWp.draw (id:=23) zK ?_;refine xE2 ?_;refine zG (aP (k:=k) zA) ?_;refine xE3 ?_;refine zG (aP (k:=0) zA) ?_;refine xE6 ?_;refine zG (aP (k:=k) zA) ?_;refine xE3 ?_;refine zG (aP (k:=0) zA) ?_;refine xE4 ?_;refine aB ⟨by kernel_rfl,?_⟩))
     refine⟨k+1,⟨hkl,hgs⟩,Wk.mk [] rfl rfl rfl ?_ trivial,by omega⟩
     exact zB
    ·rw[hs hkl hg e1 e2]at he
     subst he;by_cases e2a:(L.getD k bpZ).W=(L.getD 0 bpZ).W
     ·have e2b:¬(L.getD k bpZ).H=(L.getD 0 bpZ).H:=fun h=>e2 ⟨e2a,h⟩
      repeat (first
       |refine vB [18,21,24] ?_
       | (refine rG 20 ?_
          refine xE2 ?_;refine zG (aP (k:=k) zA) ?_;refine vA ?_;refine xB Tryz.func61 hC ?_;refine vA ?_;refine aB ?_)
       |(refine AWp.draw (id:=23) zK ?_;refine xE2 ?_;refine zG (aP (k:=k) zA) ?_;refine xE3 ?_;refine zG (aP (k:=0) zA) ?_;refine xE6 ?_;refine zG (aP (k:=k) zA) ?_;refine xE3 ?_;refine zG (aP (k:=0) zA) ?_;refine xE4 ?_;refine aB ⟨by kernel_rfl,?_⟩))
      refine⟨zC 109 [(2,.c (iC 13))] [] [],[],Wk.mk [] rfl rfl rfl ?_ trivial,rfl,rfl,aR1⟩
      exact zB
     ·repeat (first
       |refine vB [18,21,24] ?_
       | (refine rG 20 ?_
          refine xE2 ?_;refine zG (aP (k:=k) zA) ?_;refine vA ?_;refine xB Tryz.func61 hC ?_;refine vA ?_;refine aB ?_)
       |(refine AWp.draw (id:=23) zK ?_;refine xE2 ?_;refine zG (aP (k:=k) zA) ?_;refine xE3 ?_;refine zG (aP (k:=0) zA) ?_;refine zS2 ?_;refine aB ⟨by kernel_rfl,?_⟩))
      refine⟨zC 109 [(2,.c (iC 13))] [] [],[],Wk.mk [] rfl rfl rfl ?_ trivial,rfl,rfl,aR1⟩
      exact zB
   ·rw [hb hkl hg e1]at he
    rw[he]at hC e1
    repeat (first
     |refine vB [18,21,22] ?_
     | (refine rG 20 ?_
        refine xE2 ?_;refine zG (aP (k:=k) zA) ?_;refine vA ?_;refine xB Tryz.func61 hC ?_;refine vA ?_;refine aB ?_))
    refine⟨zC 109 [(2,.c (iC e))] [] [],[],Wk.mk [] rfl rfl rfl ?_ trivial,rfl,rfl,aR1⟩
    exact zB
  ·have hkl':¬(k:Int)<L.length:=by omega
   obtain rfl:k=L.length:=by omega
   rw[zIo hg]at he;subst he;refine vB [18,25] ?_
   refine⟨zC 109 [(2,.c (iC 0))] [] [],[],Wk.mk [] rfl rfl rfl ?_ trivial,rfl,rfl,aR1⟩
   exact zB
 ·rw[zLD hM hno hok c3]at he
  subst he;by_cases c3a:p.O.length=p.C.length
  ·have c3a':((p.O.length:Nat):Int)=p.C.length:=by omega
   have c3b:¬((p.T.length:Nat):Int)=p.F.length:=by omega
   refine vB [9,14,15] ?_
   refine⟨zC 109 [(2,.c (iC 1))] [] [],[],Wk.mk [] rfl rfl rfl ?_ trivial,rfl,rfl,aR1⟩
   exact zB
  ·have c3a':¬((p.O.length:Nat):Int)=p.C.length:=by omega
   refine vB [9,14,15] ?_
   refine⟨zC 109 [(2,.c (iC 1))] [] [],[],Wk.mk [] rfl rfl rfl ?_ trivial,rfl,rfl,aR1⟩
   exact zB
theorem zQm{p:Pb}{n:Nat}{f g:Nat→Int}{c:Int}(h:∀k,k<n→f k=g k):zAW p n f c=zAW p n g c:=by
 unfold zAW
 congr 1
 rw[Bool.eq_iff_iff,List.all_eq_true,List.all_eq_true]
 constructor
 ·intro h1 k hk
  rw[←h k (List.mem_range.1 hk)];exact h1 k hk
 ·intro h1 k hk
  rw[h k (List.mem_range.1 hk)];exact h1 k hk
abbrev rsB(p:Pb)(st:Int):AB:=⟨false,1,6,122,lF (pbC p++ [iC st])⟩
theorem zMJ{S:St}{all:List Nat}{p:Pb}{i1:Nat}{st:Int}{F:Nat→Nat→CV}(h1:S.h i1=some ⟨false,1,6,122,F⟩)(hF:zAD (F 0) 0 6=pbC p++ [iC st]):LendOk2 S all [i1] [rsB p st]:=
 LendOk2.box h1 (by
  rw[hF]
  exact⟨.imm rfl,.imm rfl,.imm rfl,.imm rfl,.imm rfl,.imm rfl,trivial⟩) rfl trivial
theorem zLf{ids ni:List Nat}{p:Pb}{st:Int}:BackB ids ni [rsB p st] [rsB p st]:=BackB.same (fun k hk j hj=>by
 obtain rfl:k=0:=Nat.lt_one_iff.mp hk;have hj:j<6:=hj;have:j=0∨j=1∨j=2∨j=3∨j=4∨j=5:=by omega
 rcases this with rfl|rfl|rfl|rfl|rfl|rfl<;>rfl) trivial
theorem zNu(p:Pb)(hp:p.fit):∀(m:Nat) (ch:List Int) (n:Nat) (st:Int),n=ch.length→n+m=p.C.length→ChOk p ch→(0≤st∧st≤20000)→
 zCg Tryz.prog 63 [.c (.pt 1000 6 0 0),.c (.ls n 1 (iF (fI ch)))] [rsB p st] (.tu [.c (lsI (zAI p m ch st).1),.c (iC (zAI p m ch st).2.1)]) [rsB p (zAI p m ch st).2.2] []
 | 0,ch,n,st,hn,hm,hch,hst=>by
   have hlen:(n:Int)=p.C.length:=by omega
   obtain⟨V,hV⟩:∃V,zAI p 0 ch st=V:=⟨_,rfl⟩
   rw[hV]
   replace hV:(ch,(0:Int),st)=V:=hV
   subst hV;refine zBw Tryz.func63 rfl rfl Tryz.ntmps63 rfl ?_;refine vB [0,1,2,3] ?_;subst hn
   refine⟨mkL 70 1 [(4,.c (lsI (ch))),(5,.c (iC (0)))] [(1000,rsB p (st))] [],[],_,[rsB p (st)],[],⟨rfl,rfl,rfl⟩,rfl,zQ [] rfl rfl rfl rfl rfl ?_ ?_,rfl,rfl,GRets.two (x:=.c _) (y:=.c _) (GRes.tmp rfl) (GRes.tmp rfl)⟩
   ·exact zB
   ·exact⟨HeapOk.lent rfl rfl rfl rfl,trivial⟩
 | m + 1,ch,n,st,hn,hm,hch,hst=>by
   have hlt:n<p.C.length:=by omega
   have hlt':¬(n:Int)=p.C.length:=by omega
   have hnn:ch.length=n:=hn.symm;have hsn:=fun c:Int=>zDt ch c
   rw[hnn]at hsn
   obtain⟨L,hL⟩:∃L,p.C.getD n []=L:=⟨_,rfl⟩
   have hLl:L.length≤32:=by rw[←hL];exact hp.l _ (zAB hlt)
   have hcF:chF p.C n 0=lsB L:=by rw[←hL]
   have hcl:=hp.c;have hpk:=fun c (h:c<L.length)=>hp.pk hlt (c:=c) (by rw[hL];exact h)
   have hfree:∀c:Int,PkOk p n c→ACalls Tryz.prog 70 [.ag (pbC p),.c (.ls (n+1) 1 (iF (fI (ch++ [c]))))] (.c (bC (zAW p n (fI ch) c))):=fun c h1=>by
    have h2:=zRN p hp n (fI (ch++ [c])) (fun k hk=>(hch.snoc (by rw[hnn];exact h1)) k (by rw[List.length_append];simp;omega))
    have e1:fI (ch++ [c]) n=c:=by rw[←hnn];exact zIJ ch c
    rw[e1,zQm (g:=fI ch) fun k hk=>zIL ch c k xD]at h2;exact h2
   have hih:=fun st c hst (h1:PkOk p n c)=>zNu p hp m (ch++ [c]) (n+1) st (by rw[List.length_append,hnn];rfl) xD (hch.snoc (by rw[hnn];exact h1)) hst
   obtain⟨V,hV⟩:∃V,zAI p (m+1) ch st=V:=⟨_,rfl⟩
   rw[hV]
   replace hV:zBK (zAI p m) p ch L.length 0 st=V:=by rw[←hL,←hnn];exact hV
   refine zBw Tryz.func63 rfl rfl Tryz.ntmps63 rfl ?_;refine vB [0,1,2,4] ?_;refine AWp.round (fun s:Nat×Int=>
    mkL 70 1 [(0,.c (.pt 1000 6 0 0)),(1,.c (.ls n 1 (iF (fI ch)))),(6,.c (iC n)),(7,.c (iC s.1))] [(1000,rsB p s.2)] []
    ) (fun s=>s.1≤L.length∧(0≤s.2∧s.2≤20000)∧zBK (zAI p m) p ch (L.length-s.1) s.1 s.2=V) (fun s=>L.length-s.1) (0,st) ⟨Nat.zero_le _,hst,hV⟩ ?_ (fun s hs=> ?_)
   ·refine zQ [] rfl rfl rfl rfl rfl ?_ ?_
    ·repeat (first|exact trivial|refine⟨⟨_,rfl,by first|exact LeA.c (LeC.ptB _ _ _ _ rfl)|exact leT⟩,?_⟩)
    ·exact⟨HeapOk.lent rfl rfl rfl rfl,trivial⟩
   obtain⟨c,st1⟩:=s
   obtain⟨hc,hst1,hinv⟩:=hs
   dsimp only at hc hst1 hinv⊢;by_cases hcl:c<L.length
   ·have hcl':(c:Int)<L.length:=by omega
    obtain⟨r,hr⟩:∃r,L.length-c=r+1:=⟨L.length-c-1,by omega⟩
    have hr':L.length-(c+1)=r:=by omega
    rw[hr]at hinv;by_cases hov:20000<st1+1
    ·have hov':st1+1>20000:=hov
     rw[zGi hov]at hinv;subst hinv
     repeat (first
      |refine vB [7,8,9] ?_
      | (refine rG 5 ?_
         refine xE7 ?_;refine zG (aP (k:=n) zA) ?_;refine zY zA (hcF) rfl rfl rfl rfl rfl oM ?_;refine xE2 ?_;refine aB ?_))
     refine⟨mkL 70 1 [(4,.c (lsI ([]))),(5,.c (iC (61)))] [(1000,rsB p (st1+1))] [],[],_,[rsB p (st1+1)],[],⟨rfl,rfl,rfl⟩,rfl,zQ [] rfl rfl rfl rfl rfl ?_ ?_,rfl,rfl,GRets.two (x:=.c _) (y:=.c _) (GRes.tmp rfl) (GRes.tmp rfl)⟩
     ·exact zB
     ·exact⟨HeapOk.lent rfl rfl rfl rfl,trivial⟩
    ·have hov':¬st1+1>20000:=hov
     have hfr:=hfree (c:Int) (hpk c hcl)
     obtain⟨f,hf⟩:∃f,zAW p n (fI ch) c=f:=⟨_,rfl⟩
     rw[hf]at hfr;rw[←hnn]at hf
     repeat (first
      |refine vB [7,8] ?_
      | (refine rG 5 ?_
         refine xE7 ?_;refine zG (aP (k:=n) zA) ?_;refine zY zA (hcF) rfl rfl rfl rfl rfl oM ?_;refine xE2 ?_;refine aB ?_)
      | (refine rG 10 ?_
         refine xE2 ?_;refine zAT zA rfl rfl rfl rfl rfl rfl rfl rfl rfl rfl oM oM ?_;refine xE2 ?_;refine zBb zA rfl rfl rfl rfl rfl rfl rfl rfl rfl rfl oM oM ?_;refine vA ?_;refine aB ?_))
     refine AWp.weak (S':=
      mkL 70 1 [(0,.c (.pt 1000 6 0 0)),(1,.c (.ls n 1 (iF (fI ch)))),(6,.c (iC n)),(7,.c (iC c)),(8,.c (.ls (n+1) 1 (iF (fI (ch++ [(c:Int)])))))] [(1000,rsB p (st1+1))] []
      ) (zQ [] rfl rfl rfl rfl rfl ?_ ?_) ?_
     ·repeat (first|exact trivial|refine⟨⟨_,rfl,by first|exact LeA.c (LeC.ptB _ _ _ _ rfl)|exact LeA.c (zZ rfl rfl rfl (hsn _))|exact leT⟩,?_⟩)
     ·exact⟨HeapOk.lent rfl rfl rfl rfl,trivial⟩
     cases f with
     | false=>
       rw[zGj hov hf]at hinv
       repeat (first
        |refine vB [6] ?_
        | (refine rG 11 ?_
           refine xE5 ?_;refine xB Tryz.func70 hfr ?_;refine vA ?_;refine aB ?_))
       refine⟨(c+1,st1+1),⟨hcl,⟨by dsimp only;omega,by dsimp only;omega⟩,by dsimp only;rw[hr'];exact hinv⟩,zQ [] rfl rfl rfl rfl rfl ?_ ?_,by dsimp only;omega⟩
       ·repeat (first|exact trivial|refine⟨⟨_,rfl,by first|exact LeA.c (LeC.ptB _ _ _ _ rfl)|exact leT⟩,?_⟩)
       ·exact⟨HeapOk.lent rfl rfl rfl rfl,trivial⟩
     | true=>
       have hgo:=hih (st1+1) (c:Int) ⟨by omega,by omega⟩ (hpk c hcl);have hso:=zGV (p:=p) m (ch++ [(c:Int)]) (st1+1) ⟨by omega,by omega⟩;have hto:=zGh (rec:=zAI p m) (r:=r) hov hf;have htg:=zGg (rec:=zAI p m) (r:=r) hov hf;generalize zAI p m (ch++ [(c:Int)]) (st1+1)=o at hgo hso hto htg
       obtain⟨ol,oe,os⟩:=o
       dsimp only at hgo hto htg
       obtain⟨hso1,hso2⟩:=hso
       dsimp only at hso1 hso2
       repeat (first
        |refine vB [] ?_
        | (refine rG 11 ?_
           refine xE5 ?_;refine xB Tryz.func70 hfr ?_;refine vA ?_;refine aB ?_)
        | (refine rG 12 ?_
           refine xE2 ?_;refine AList.callG [1000] [] [rsB p (st1+1)] [rsB p os] [] [rsB p os] [] rfl rfl FnV.func rfl Tryz.func63 rfl xC (zMJ rfl rfl) rfl (zFx (lsI ol) (iC oe) rfl rfl) (zLf) (trivial) (hgo) ?_;refine xE5 ?_;refine aB ?_))
       by_cases he:oe=60
       ·rw[htg he]at hinv
        have hos:=hso2 he;refine vB [6,13] ?_
        refine⟨(c+1,os),⟨hcl,⟨hso1,hos⟩,by dsimp only;rw[hr'];exact hinv⟩,zQ [] rfl rfl rfl rfl rfl ?_ ?_,by dsimp only;omega⟩
        ·repeat (first|exact trivial|refine⟨⟨_,rfl,by first|exact LeA.c (LeC.ptB _ _ _ _ rfl)|exact leT⟩,?_⟩)
        ·exact⟨HeapOk.lent rfl rfl rfl rfl,trivial⟩
       ·rw[hto he]at hinv
        subst hinv;refine vB [13,14] ?_
        refine⟨mkL 70 1 [(4,.c (lsI (ol))),(5,.c (iC (oe)))] [(1000,rsB p (os))] [],[],_,[rsB p (os)],[],⟨rfl,rfl,rfl⟩,rfl,zQ [] rfl rfl rfl rfl rfl ?_ ?_,rfl,rfl,GRets.two (x:=.c _) (y:=.c _) (GRes.tmp rfl) (GRes.tmp rfl)⟩
        ·exact zB
        ·exact⟨HeapOk.lent rfl rfl rfl rfl,trivial⟩
   ·have hcl':¬(c:Int)<L.length:=by omega
    obtain rfl:c=L.length:=by omega
    rw[Nat.sub_self]at hinv
    replace hinv:([],60,st1)=V:=hinv
    subst hinv
    repeat (first
     |refine vB [15] ?_
     | (refine rG 5 ?_
        refine xE7 ?_;refine zG (aP (k:=n) zA) ?_;refine zY zA (hcF) rfl rfl rfl rfl rfl oM ?_;refine xE2 ?_;refine aB ?_))
    refine⟨mkL 70 1 [(4,.c (lsI ([]))),(5,.c (iC (60)))] [(1000,rsB p (st1))] [],[],_,[rsB p (st1)],[],⟨rfl,rfl,rfl⟩,rfl,zQ [] rfl rfl rfl rfl rfl ?_ ?_,rfl,rfl,GRets.two (x:=.c _) (y:=.c _) (GRes.tmp rfl) (GRes.tmp rfl)⟩
    ·exact zB
    ·exact⟨HeapOk.lent rfl rfl rfl rfl,trivial⟩
theorem zTH(p:Pb)(hp:p.ok)(n:Nat)(f:Nat→Int)(hn:n≤1000000):ACalls Tryz.prog 42 [.ag (pbC p),.c (.ls n 1 (iF f))] (.c (bC (zEO p n f))):=by
 have hC:=zHk p hp;have hno:= @zQH p n f;have lC:=hp.lC
 obtain⟨e,he⟩:∃e,zAr p=e:=⟨_,rfl⟩
 rw[he]at hC hno;by_cases h0:e=0
 ·subst h0
  have hfit:=zCE hp he;by_cases hl:n=p.C.length
  ·have hl':(n:Int)=p.C.length:=by omega
   obtain⟨V,hV⟩:∃V,zEO p n f=V:=⟨_,rfl⟩
   rw[hV]at hno⊢;have hyes:= @holdsV_iff p n f;rw[hV,he]at hyes;refine zJ Tryz.func42 rfl rfl Tryz.ntmps42 rfl ?_
   repeat (first
    |refine vB [0,3] ?_
    | (refine rG 1 ?_
       refine vA ?_;refine xB Tryz.func31 hC ?_;refine xE9 ?_;refine aB ?_))
   refine AWp.round (fun k:Nat=>
    zC 48 [(1,.c (.ls n 1 (iF f))),(2,.c (.pt 2 5 0 0)),(5,.c (iC (k:Nat)))] [(2,⟨false,1,5,34,lF (pbC p)⟩)] [2]
    ) (fun k=>k≤n∧∀j,j<k→zED p f j=true) (fun k=>n-k) 0 ⟨Nat.zero_le _,fun _ h=>absurd h (Nat.not_lt_zero _)⟩ ?_ (fun k hk=> ?_)
   ·refine Wk.mk [(2,some 2)] rfl rfl rfl ?_ ?_
    ·exact zB
    ·exact zAf
   obtain⟨hk,hok⟩:=hk
   by_cases hkl:k<n
   ·have hkl':(k:Int)<n:=by omega
    obtain⟨L,hL⟩:∃L,p.C.getD k []=L:=⟨_,rfl⟩
    have hcF:chF p.C k 0=lsB L:=by rw[←hL]
    have hLl:L.length≤32:=by rw[←hL];exact hfit.l _ (zAB xD)
    have hst:= @stepOk_iff p f k;rw[hL]at hst;by_cases c1:f k<0
    ·obtain rfl:=hno fun h=>absurd (hst.1 (h.2 k hkl)).1.1 xD
     repeat (first
      |refine vB [4,7] ?_
      |(refine AWp.draw (id:=6) zK ?_;refine xE2 ?_;refine zG (aP (k:=k) zA) ?_;refine zS2 ?_;refine aB ⟨by kernel_rfl,?_⟩))
     refine⟨zC 48 [(4,.c (bC false))] [] [],[],Wk.mk [] rfl rfl rfl ?_ trivial,rfl,rfl,aR1⟩
     exact zB
    by_cases c2:f k≥L.length
    ·obtain rfl:=hno fun h=>absurd (hst.1 (h.2 k hkl)).1.2 xD
     repeat (first
      |refine vB [4,7] ?_
      |(refine AWp.draw (id:=6) zK ?_;refine xE2 ?_;refine zG (aP (k:=k) zA) ?_;refine xE5 ?_;refine zG (aP (k:=k) zA) ?_;refine xE4 ?_;refine zG (aP (k:=k) zA) ?_;refine zY zA (hcF) rfl rfl rfl rfl rfl oM ?_;refine xE3 ?_;refine aB ⟨by kernel_rfl,?_⟩))
     refine⟨zC 48 [(4,.c (bC false))] [] [],[],Wk.mk [] rfl rfl rfl ?_ trivial,rfl,rfl,aR1⟩
     exact zB
    have hpk:=PkOk.of hfit (k:=k) (c:=f k) xD (by rw[hL];omega)
    have hfr:=zRN p hfit k (fun i=>f (0+i)) (fun i hi=>by
     rw[Nat.zero_add];by_cases ei:i=k
     ·rw[ei];exact hpk
     ·exact PkOk.of hfit xD (stepOk_iff.1 (hok i xD)).1)
    rw[show zAW p k (fun i=>f (0+i)) (f (0+k))=zAW p k f (f k) by rw[show(fun i=>f (0+i))=f from funext fun i=>by rw[Nat.zero_add],Nat.zero_add]]at hfr
    cases hf:zAW p k f (f k)with
    | false=>
      rw[hf]at hfr;obtain rfl:=hno fun h=>by have:=(hst.1 (h.2 k hkl)).2;rw[hf]at this;cases this
      repeat (first
       |refine vB [4,9] ?_
       |(refine AWp.draw (id:=6) zK ?_;refine xE2 ?_;refine zG (aP (k:=k) zA) ?_;refine xE5 ?_;refine zG (aP (k:=k) zA) ?_;refine xE4 ?_;refine zG (aP (k:=k) zA) ?_;refine zY zA (hcF) rfl rfl rfl rfl rfl oM ?_;refine xE3 ?_;refine aB ⟨by kernel_rfl,?_⟩)
       |(refine AWp.draw (id:=8) zK ?_;refine xE4 ?_;refine AList.cut (l:=0) (h:=(k+1)) zA rfl rfl rfl rfl rfl rfl rfl rfl ⟨_,_,rfl,by first|rfl|omega⟩ xD xD ?_;refine xB Tryz.func70 hfr ?_;refine vA ?_;refine aB ⟨by kernel_rfl,?_⟩))
      refine⟨zC 48 [(4,.c (bC false))] [] [],[],Wk.mk [] rfl rfl rfl ?_ trivial,rfl,rfl,aR1⟩
      exact zB
    | true=>
      rw[hf]at hfr
      repeat (first
       |refine vB [4,5] ?_
       |(refine AWp.draw (id:=6) zK ?_;refine xE2 ?_;refine zG (aP (k:=k) zA) ?_;refine xE5 ?_;refine zG (aP (k:=k) zA) ?_;refine xE4 ?_;refine zG (aP (k:=k) zA) ?_;refine zY zA (hcF) rfl rfl rfl rfl rfl oM ?_;refine xE3 ?_;refine aB ⟨by kernel_rfl,?_⟩)
       |(refine AWp.draw (id:=8) zK ?_;refine xE4 ?_;refine AList.cut (l:=0) (h:=(k+1)) zA rfl rfl rfl rfl rfl rfl rfl rfl ⟨_,_,rfl,by first|rfl|omega⟩ xD xD ?_;refine xB Tryz.func70 hfr ?_;refine vA ?_;refine aB ⟨by kernel_rfl,?_⟩))
      refine⟨k+1,⟨hkl,fun j hj=> ?_⟩,Wk.mk [(2,some 2)] rfl rfl rfl ?_ ?_,by omega⟩
      ·by_cases ej:j=k
       ·rw[ej];exact hst.2 ⟨⟨by omega,by omega⟩,hf⟩
       ·exact hok j xD
      ·exact zB
      ·exact zAf
   have hkl':¬(k:Int)<n:=by omega
   obtain rfl:n=k:=by omega
   obtain rfl:V=true:=hyes.2 ⟨⟨rfl,hl⟩,hok⟩;refine vB [4,10] ?_
   refine⟨zC 48 [(4,.c (bC true))] [] [],[],Wk.mk [] rfl rfl rfl ?_ trivial,rfl,rfl,aR1⟩
   exact zB
  ·have hl':¬(n:Int)=p.C.length:=by omega
   rw[hno fun h=>hl h.1.2];refine zJ Tryz.func42 rfl rfl Tryz.ntmps42 rfl ?_
   repeat (first
    |refine vB [0,2] ?_
    | (refine rG 1 ?_
       refine vA ?_;refine xB Tryz.func31 hC ?_;refine xE9 ?_;refine aB ?_))
   refine⟨zC 48 [(4,.c (bC false))] [] [],[],Wk.mk [] rfl rfl rfl ?_ trivial,rfl,rfl,aR1⟩
   exact zB
 ·rw [hno fun h=>h0 h.1.1]
  refine zJ Tryz.func42 rfl rfl Tryz.ntmps42 rfl ?_
  repeat (first
   |refine vB [0,2] ?_
   | (refine rG 1 ?_
      refine vA ?_;refine xB Tryz.func31 hC ?_;refine xE9 ?_;refine aB ?_))
  refine⟨zC 48 [(4,.c (bC false))] [] [],[],Wk.mk [] rfl rfl rfl ?_ trivial,rfl,rfl,aR1⟩
  exact zB
theorem zRE(p:Pb)(hp:p.ok):ACalls Tryz.prog 34 [.ag (pbC p)] (.tu [.c (lsI (zAZ p).1),.c (iC (zAZ p).2)]):=by
 have hC:=zHk p hp;unfold zAZ
 obtain⟨e,he⟩:∃e,zAr p=e:=⟨_,rfl⟩
 rw[he]at hC⊢;by_cases h0:e=0
 ·subst h0
  have hfit:=zCE hp he;have hfr:=(zNu p hfit p.C.length [] 0 0 rfl xD (fun k hk=>absurd hk (Nat.not_lt_zero _)) ⟨by decide,by decide⟩).cv (args':= [.c (.pt 1000 6 0 0),.c (.p (.slice none 0 0))]) ⟨.c (Cv.refl _),.c Cv.nil,trivial⟩;rw[if_pos rfl];generalize zAI p p.C.length [] 0=o at *
  obtain⟨ol,oe,os⟩:=o
  refine zJ Tryz.func34 rfl rfl Tryz.ntmps34 rfl ?_
  repeat (first
   |refine vB [0,2,4] ?_
   | (refine rG 1 ?_
      refine vA ?_;refine xB Tryz.func31 hC ?_;refine vA ?_;refine aB ?_)
   | (refine rG 5 ?_
      refine vA ?_;refine AList.callG [13] [] [rsB p 0] [rsB p os] [] [rsB p os] [] rfl rfl FnV.func rfl Tryz.func63 rfl xC (zMJ rfl rfl) rfl (zFx (lsI ol) (iC oe) rfl rfl) (zLf) (trivial) (hfr) ?_;refine xE4 ?_;refine aB ?_))
  refine⟨zC 18 [(2,.c (lsI (ol))),(3,.c (iC (oe)))] [] [],[],Wk.mk [] rfl rfl rfl ?_ trivial,rfl,rfl,ARets.two (x:=.c _) (y:=.c _) (ARes.tmp rfl rfl) (ARes.tmp rfl rfl)⟩
  exact zB
 ·rw [if_neg h0]
  refine zJ Tryz.func34 rfl rfl Tryz.ntmps34 rfl ?_
  repeat (first
   |refine vB [0,2,3] ?_
   | (refine rG 1 ?_
      refine vA ?_;refine xB Tryz.func31 hC ?_;refine vA ?_;refine aB ?_))
  refine⟨zC 18 [(2,.c (lsI ([]))),(3,.c (iC (e)))] [] [],[],Wk.mk [] rfl rfl rfl ?_ trivial,rfl,rfl,ARets.two (x:=.c _) (y:=.c _) (ARes.tmp rfl rfl) (ARes.tmp rfl rfl)⟩
  exact zB
def zS5:List Nat→Nat
 | []=>1
 |L::Ls=>L*zS5 Ls
def zS6:List Nat→List Int→Int
 |L::Ls,d::ds=>d*(zS5 Ls:Int)+zS6 Ls ds
 |_,_=>0
abbrev zS7(p:Pb)(k:Nat):List Nat:=(p.C.drop k).map List.length
def InR:List Nat→List Int→Prop
 |L::Ls,d::ds=>(0≤d∧d<L)∧InR Ls ds
 | [],[]=>True
 |_,_=>False
theorem zTc:∀{Ls:List Nat} {e:List Int},InR Ls e→0≤zS6 Ls e∧zS6 Ls e<zS5 Ls
 | [],[],_=>⟨Int.le_refl _,by decide⟩
 | L::Ls,d::ds,h=>by
   obtain⟨⟨h1,h2⟩,h3⟩:=h
   obtain⟨i1,i2⟩:=zTc h3
   have e1:=Int.mul_nonneg h1 (Int.natCast_nonneg (zS5 Ls));have e2:(d+1)*(zS5 Ls:Int)≤(L:Int)*(zS5 Ls:Int):=Int.mul_le_mul_of_nonneg_right xD (Int.natCast_nonneg _);rw[Int.add_mul,Int.one_mul]at e2;have e3:((zS5 (L::Ls):Nat):Int)=(L:Int)*(zS5 Ls:Int):=by simp[zS5]
   show 0≤d*(zS5 Ls:Int)+zS6 Ls ds∧d*(zS5 Ls:Int)+zS6 Ls ds<_;rw[e3]
   omega
 | [],_::_,h=>h.elim
 |_::_,[],h=>h.elim
theorem zTF{L:Nat}{Ls:List Nat}{c d:Int}{e f:List Int}(h:c<d)(he:InR Ls e)(hf:InR Ls f):zS6 (L::Ls) (c::e)<zS6 (L::Ls) (d::f):=by
 have h1:=(zTc he).2;have h2:=(zTc hf).1;have e2:(c+1)*(zS5 Ls:Int)≤d*(zS5 Ls:Int):=Int.mul_le_mul_of_nonneg_right xD (Int.natCast_nonneg _);rw[Int.add_mul,Int.one_mul]at e2;show c*(zS5 Ls:Int)+zS6 Ls e<d*(zS5 Ls:Int)+zS6 Ls f
 omega
theorem zTl{p:Pb}{k:Nat}(h:k<p.C.length):zS7 p k=(p.C.getD k []).length::zS7 p (k+1):=by
 unfold zS7;rw[List.drop_eq_getElem_cons h,List.map_cons,List.getD_eq_getElem?_getD,List.getElem?_eq_getElem h]
 rfl
theorem zTb{p:Pb}:∀{e ch:List Int},ch.length+e.length=p.C.length→GoodC p (ch++e)→InR (zS7 p ch.length) e
 | [],ch,hl,_=>by
   have:zS7 p ch.length= []:=by
    unfold zS7;rw[List.drop_eq_nil_of_le (by simp at hl;omega)]
    rfl
   rw[this]
   trivial
 | c::e,ch,hl,h=>by
   rw[List.length_cons]at hl;rw[zTl xD]
   refine⟨h.head.1,?_⟩
   have:=zTb (p:=p) (e:=e) (ch:=ch++ [c]) (by rw[List.length_append,List.length_singleton];omega) (by rw[List.append_assoc];exact h)
   rwa [List.length_append,List.length_singleton]at this
def zS8(p:Pb)(m:Nat)(ch:List Int)(o:FR):Prop:=
 (o.2.1=0∧∃e0,o.1=ch++e0∧e0.length=m∧GoodC p (ch++e0)∧∀e,e.length=m→GoodC p (ch++e)→zS6 (zS7 p ch.length) e0≤zS6 (zS7 p ch.length) e)∨
 (o.2.1=60∧o.1= []∧∀e,e.length=m→¬GoodC p (ch++e))
def stT:Nat→Int
 |0=>0
 |m+1=>4*(1+stT m)
theorem zTf:∀m,0≤stT m
 |0=>Int.le_refl _
 |m+1=>by have:=zTf m;show 0≤4*(1+stT m);omega
theorem zTg{p:Pb}{ch:List Int}{m:Nat}{rec:List Int→Int→FR}{L:Nat}(hm:ch.length+(m+1)=p.C.length)(hL:(p.C.getD ch.length []).length=L)(T:Int)(hT:0≤T)
 (hr:∀(c:Nat) st,0≤st→st+T≤20000→c<L→zAW p ch.length (fI ch) c=true→zS8 p m (ch++ [(c:Int)]) (rec (ch++ [(c:Int)]) st)∧st≤(rec (ch++ [(c:Int)]) st).2.2∧(rec (ch++ [(c:Int)]) st).2.2≤st+T):
 ∀(r c:Nat) (st:Int),c+r=L→0≤st→st+r*(1+T)≤20000→(∀(d:Int) e,d<c→e.length=m→¬GoodC p (ch++d::e))→zS8 p (m+1) ch (zBK rec p ch r c st)∧st≤(zBK rec p ch r c st).2.2∧(zBK rec p ch r c st).2.2≤st+r*(1+T)
 | 0,c,st,hc,h0,hst,hno=>by
   refine⟨.inr ⟨rfl,rfl,fun e he hg=> ?_⟩,Int.le_refl _,by simp[zBK]⟩
   obtain⟨d,e,rfl⟩:∃d e',e=d::e':=by cases e with|nil=>cases he|cons d e=>exact⟨d,e,rfl⟩
   have:=hg.head.1;rw[hL]at this;exact hno d e xD (by simpa using he) hg
 | r + 1,c,st,hc,h0,hst,hno=>by
   have hrT:0≤(r:Int)*(1+T):=Int.mul_nonneg (Int.natCast_nonneg r) xD;have hsp:((r+1:Nat):Int)*(1+T)=(r:Int)*(1+T)+(1+T):=by rw[Int.natCast_add,Int.add_mul];simp
   rw[hsp]at hst⊢;have hov:¬20000<st+1:=by omega
   cases hf:zAW p ch.length (fI ch) c with
   | false=>
     rw[zGj hov hf];have hno':∀(d:Int) e,d<((c+1:Nat):Int)→e.length=m→¬GoodC p (ch++d::e):=fun d e hd he hg=>by
      by_cases hdc:d=c
      ·have:=hg.head.2
       rw[hdc,hf]at this
       cases this
      ·exact hno d e xD he hg
     obtain⟨i1,i2,i3⟩:=zTg hm hL T hT hr r (c+1) (st+1) xD xD xD hno'
     exact⟨i1,by omega,by omega⟩
   | true=>
     obtain⟨g1,g2,g3⟩:=hr c (st+1) xD xD xD hf
     rcases g1 with ⟨k1,e0,k2,k3,k4,k5⟩|⟨k1,k2,k3⟩
     ·rw[zGh hov hf (by rw[k1];decide)]
      refine⟨.inl ⟨k1,(c:Int)::e0,by rw[k2,List.append_assoc];rfl,by simp[k3],by rw[List.append_assoc]at k4;exact k4,fun e he hg=> ?_⟩,by omega,by omega⟩
      obtain⟨d,e,rfl⟩:∃d e',e=d::e':=by cases e with|nil=>cases he|cons d e=>exact⟨d,e,rfl⟩
      have he':e.length=m:=by simpa using he
      have hdc:¬d<c:=fun h=>hno d e h he' hg
      have l1:(ch++ [(c:Int)]).length=ch.length+1:=by simp
      rw[zTl xD];by_cases hd:d=c
      ·subst hd
       have:=k5 e he' (by rw[List.append_assoc];exact hg)
       rw[l1]at this
       show(c:Int)*_+_≤(c:Int)*_+_
       omega
      ·have r1:=zTb (p:=p) (e:=e0) (by rw[l1];omega) k4
       have r2:=zTb (p:=p) (e:=e) (ch:=ch++ [d]) (by simp;omega) (by rw[List.append_assoc];exact hg)
       rw[l1]at r1;rw[show(ch++ [d]).length=ch.length+1 by simp]at r2;exact Int.le_of_lt (zTF xD r1 r2)
     ·rw[zGg hov hf k1]
      have hno':∀(d:Int) e,d<((c+1:Nat):Int)→e.length=m→¬GoodC p (ch++d::e):=fun d e hd he hg=>by
       by_cases hdc:d=c
       ·exact k3 e he (by rw[List.append_assoc,←hdc];exact hg)
       ·exact hno d e xD he hg
      obtain⟨i1,i2,i3⟩:=zTg hm hL T hT hr r (c+1) (rec (ch++ [(c:Int)]) (st+1)).2.2 xD xD xD hno'
      exact⟨i1,by omega,by omega⟩
theorem zTk{p:Pb}(hl:∀l∈p.C,l.length≤4):∀(m:Nat) (ch:List Int) (st:Int),ch.length+m=p.C.length→GoodC p ch→0≤st→st+stT m≤20000→zS8 p m ch (zAI p m ch st)∧st≤(zAI p m ch st).2.2∧(zAI p m ch st).2.2≤st+stT m
 |0,ch,st,hm,hg,h0,hst=>⟨.inl ⟨rfl,[],by simp[zAI],rfl,by simpa using hg,fun e he _=>by
    obtain rfl:=List.eq_nil_of_length_eq_zero he;exact Int.le_refl _⟩,Int.le_refl _,by simp[zAI,stT]⟩
 | m +1,ch,st,hm,hg,h0,hst=>by
   have hlt:ch.length<p.C.length:=by omega
   have hL3:=hl _ (zAB (z:= []) hlt);have hT:=zTf m;have hst':stT (m+1)=4*(1+stT m):=rfl;have hle:((p.C.getD ch.length []).length:Int)*(1+stT m)≤4*(1+stT m):=Int.mul_le_mul_of_nonneg_right xD xD;have hrec:∀(c:Nat) (st:Int),0≤st→st+stT m≤20000→c<(p.C.getD ch.length []).length→zAW p ch.length (fI ch) c=true→zS8 p m (ch++ [(c:Int)]) (zAI p m (ch++ [(c:Int)]) st)∧st≤(zAI p m (ch++ [(c:Int)]) st).2.2∧(zAI p m (ch++ [(c:Int)]) st).2.2≤st+stT m:=fun c st h0 hst hc hf=>by
    refine zTk hl m (ch++ [(c:Int)]) st (by simp;omega) (fun k hk=> ?_) h0 hst
    rw[List.length_append,List.length_singleton]at hk;by_cases e:k=ch.length
    ·subst e
     rw[stepOk_iff,zIJ,zQn (zIL ch c)]
     exact⟨⟨by omega,by omega⟩,hf⟩
    ·have:=stepOk_iff.1 (hg k xD)
     rw[stepOk_iff,zIL ch c k xD,zQn fun j hj=>zIL ch c j xD];exact this
   obtain⟨i1,i2,i3⟩:=zTg (rec:=zAI p m) (m:=m) (L:=(p.C.getD ch.length []).length) hm rfl (stT m) hT hrec (p.C.getD ch.length []).length 0 st xD h0 xD (fun d e hd _ h=>by have:=h.head.1.1;omega)
   exact⟨i1,i2,by show _≤st+stT (m+1);unfold zAI;omega⟩
end Go.Proofs.YtbffmfeldkjkcaaGreat
end
