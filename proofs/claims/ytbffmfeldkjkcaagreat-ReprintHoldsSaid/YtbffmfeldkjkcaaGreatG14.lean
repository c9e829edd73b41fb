/- Parts of the proof: Made, A23l, A23n, A23o, A23y, A24i, A23q, A23s. -/
import Derived.Test.YtbffmfeldkjkcaaGreatG13
import Derived.Test.YtbffmfeldkjkcaaGreatG10
set_option linter.unusedSimpArgs false
set_option linter.unusedVariables false
set_option maxHeartbeats 0
set_option maxRecDepth 100000
section
namespace Go.Proofs.YtbffmfeldkjkcaaGreat
open Go.RowKit Go.Flow
open Go.Proofs
attribute [local go_sem] zBu

structure MI(w:World)(gr gd go g:Nat)(A:Option Addr)(N c:Nat)(W H:Int)(n at_:Nat)(wr:World):Prop where
 res:Blk wr gr 58 #[.int .i64 0,.int .i64 0,.slice none 0 0]
 draw:Blk wr gd 98 #[.slice A N c,.int .i64 (at_:Int)]
 out:Blk wr go 58 #[.int .i64 W,.int .i64 H,.slice (some ⟨g,0,none⟩) n n]
 own:∃F:Nat→Bool,Flow.Own wr g 4 n (fun k=>.bool (F k))
 ext:Ext w wr
 le:at_≤N

section
variable{w wr w':World}{gr gd go g:Nat}{A:Option Addr}{N c:Nat}{W H:Int}{n at_:Nat}
theorem zDd{N at_:Nat}(h:at_≤N):dat N at_≤N:=by unfold dat;split<;>omega
theorem MI.next(h:MI w gr gd go g A N c W H n at_ wr)(h1:w.heap.size≤gr)(h2:gr<gd)(h3:gd<g)(h4:g<go){b:Nat}(hb:b≤N)
 (hB:Blk w' gd 98 #[.slice A N c,.int .i64 (b:Int)]) (hO:Only wr w' gd):MI w gr gd go g A N c W H n b w':=
 ⟨hO.blk h.res xD,hB,hO.blk h.out xD,let ⟨F,hF⟩:=h.own;⟨F,hO.own hF xD⟩,hO.ext h.ext xD,hb⟩
theorem MI.set_(h:MI w gr gd go g A N c W H n at_ wr)(h1:w.heap.size≤gr)(h2:gr<gd)(h3:gd<g)(h4:g<go)(i:Nat)(b:Bool):MI w gr gd go g A N c W H n at_ (wr.setCell ⟨g,i,none⟩ (.bool b)):=by
 obtain⟨F,hF⟩:=h.own
 refine⟨h.res.far ?_ _,h.draw.far ?_ _,h.out.far ?_ _,⟨fun k=>if k=i then b else F k,(hF.set_ i (.bool b)).congr fun k _=> ?_⟩,h.ext.setCell ?_ _,h.le⟩<;>try (simp;omega)
 by_cases e:k=i<;>simp[upd,e]
end

theorem zID(N:Nat)(f:Nat→Int)(at_:Nat)(m:Int)(hm:0<m):0≤zBH N f at_ m∧zBH N f at_ m<m:=by
 unfold zBH
 split
 ·exact⟨Int.emod_nonneg _ xD,Int.emod_lt_of_pos _ hm⟩
 ·omega
end Go.Proofs.YtbffmfeldkjkcaaGreat
end
section
namespace Go.Proofs.YtbffmfeldkjkcaaGreat
open Go.RowKit Go.Flow Go.AV Go.Plain
def bgN(N:Nat)(f:Nat→Int):Bg:=⟨zBH N f 0 5,zBH N f (dat N 0) 4,zBH N f (dat N (dat N 0)) 2,zBH N f (dat N (dat N (dat N 0))) 4⟩
theorem zOA(N:Nat)(f:Nat→Int)(hN:N≤4611686018427387904):ACalls Tryz.prog 49 [.c (.ls N 1 (iF f))] (.ag (bgC (bgN N f))):=by
 have h1:=zDd (N:=N) (Nat.zero_le N);have h2:=zDd (N:=N) h1;have h3:=zDd (N:=N) h2;have n1:=zCR N f 0 5 (Nat.zero_le N) hN xD xD;have n2:=zCR N f (dat N 0) 4 h1 hN xD xD;have n3:=zCR N f (dat N (dat N 0)) 2 h2 hN xD xD;have n4:=zCR N f (dat N (dat N (dat N 0))) 4 h3 hN xD xD;refine zJ Tryz.func49 rfl rfl Tryz.ntmps49 rfl ?_
 repeat (first
  |refine vB [0,1] ?_
  | (refine rG 2 ?_
     refine vA ?_;refine zAG [6] [zAV N f 0] [zAV N f (dat N 0)] rfl rfl rfl Tryz.func44 rfl xC (LendOk.box rfl rfl rfl trivial) rfl (LendImm.box rfl trivial) (n1) ?_;refine vA ?_;refine zAG [6] [zAV N f (dat N 0)] [zAV N f (dat N (dat N 0))] rfl rfl rfl Tryz.func44 rfl xC (LendOk.box rfl rfl rfl trivial) rfl (LendImm.box rfl trivial) (n2) ?_;refine vA ?_;refine zAG [6] [zAV N f (dat N (dat N 0))] [zAV N f (dat N (dat N (dat N 0)))] rfl rfl rfl Tryz.func44 rfl xC (LendOk.box rfl rfl rfl trivial) rfl (LendImm.box rfl trivial) (n3) ?_;refine vA ?_;refine zAG [6] [zAV N f (dat N (dat N (dat N 0)))] [zAV N f (dat N (dat N (dat N (dat N 0))))] rfl rfl rfl Tryz.func44 rfl xC (LendOk.box rfl rfl rfl trivial) rfl (LendImm.box rfl trivial) (n4) ?_;refine xE2 ?_;refine aB ?_))
 refine⟨zC 16 [(2,.c (.pt 2 4 0 0))] [(2,⟨false,1,4,61,lF (bgC (bgN N f))⟩)] [2],[(2,⟨false,1,4,61,lF (bgC (bgN N f))⟩)],Wk.mk [(2,some 2)] rfl rfl rfl ?_ ?_,rfl,rfl,ARets.one (x:=.ag _) (ARes.box zA rfl rfl rfl rfl rfl rfl rfl)⟩
 ·exact zB
 ·exact zAf
abbrev mvC(p:Int×Int):List CV:= [iC p.1,iC p.2]
abbrev mvZ:Int×Int:=(0,0)
theorem zMU(p:Int×Int):(mvC p).all zM=true:=rfl
def shB(m s i j:Nat):Bool:=decide (max ((j:Int)-m) (-((j:Int)-m))+max ((i:Int)-m) (-((i:Int)-m))=(s:Int))
def shJ(m s i k:Nat):List (Int×Int):=(List.range k).flatMap fun j=>if shB m s i j then [((j:Int)-m,(i:Int)-m)]else []
def shM(m s k:Nat):List (Int×Int):=(List.range k).flatMap fun i=>shJ m s i (2*m+1)
def shS(m k:Nat):List (Int×Int):=(List.range k).flatMap fun s=>shM m s (2*m+1)
theorem zGU{α:Type}(f:Nat→List α)(k:Nat):(List.range (k+1)).flatMap f=(List.range k).flatMap f++f k:=by
 rw[List.range_succ,List.flatMap_append]
 simp
def shL(m:Nat):List (Int×Int):=shS m (2*m+1)
structure Mc where
 dx:Int
 dy:Int
 lo:Int
 bl:Int
def exB(x:Ip)(b:Bp)(y:Bg)(p:Int×Int):Bool:=decide (zGS x b p.1 p.2∧zMc x b p.1 p.2 0 1≤y.lo∧zMc x b p.1 p.2 1 0≤y.bl)
theorem cnt_nonneg(q:Nat→Bool)(n:Nat):0≤cnt q n:=zDE fun k _=>by split<;>omega
theorem zB2(y:Bg):(0≤(zAk y).lo∧(zAk y).lo≤200)∧(0≤(zAk y).bl∧(zAk y).bl≤200)∧(0≤(zAk y).sh∧(zAk y).sh≤2)∧0≤(zAk y).st∧(zAk y).st≤16:=zQT (zI6 y).symm
end Go.Proofs.YtbffmfeldkjkcaaGreat
end
section
namespace Go.Proofs.YtbffmfeldkjkcaaGreat
open Go.RowKit Go.Flow Go.AV Go.Plain Go.AV.Srt
def zEx(m i k:Nat):List (Int×Int):=(List.range k).map fun (j:Nat)=>((j:Int)-m,(i:Int)-m)
def zCv(m k:Nat):List (Int×Int):=(List.range k).flatMap fun i=>zEx m i (2*m+1)
theorem zQ7(m i k:Nat):zEx m i (k+1)=zEx m i k++ [((k:Int)-m,(i:Int)-m)]:=by
 unfold zEx;rw[List.range_succ,List.map_append]
 rfl
theorem zSe{m:Nat}(hm:m≤4):zD4 moZ zV (zCv m (2*m+1))=shL m:=by
 obtain h|h|h|h|h:m=0∨m=1∨m=2∨m=3∨m=4:=by omega
 all_goals
  subst h
  decide +kernel
theorem zQ5{m:Nat}(hm:m≤4):(zCv m (2*m+1)).length≤81∧0<(zCv m (2*m+1)).length:=by
 obtain h|h|h|h|h:m=0∨m=1∨m=2∨m=3∨m=4:=by omega
 all_goals
  subst h
  exact⟨by decide +kernel,by decide +kernel⟩
theorem zHs{m:Nat}(hm:m≤4):(shL m).length=(2*m+1)*(2*m+1):=by
 obtain h|h|h|h|h:m=0∨m=1∨m=2∨m=3∨m=4:=by omega
 all_goals
  subst h
  decide +kernel
theorem zQ6{m:Nat}(hm:m≤4):Oks (zCv m (2*m+1)):=fun k=>by
 by_cases hk:k<(zCv m (2*m+1)).length
 ·have:(zCv m (2*m+1)).getD k moZ∈zCv m (2*m+1):=by
   rw[List.getD_eq_getElem?_getD,List.getElem?_eq_getElem hk];exact List.getElem_mem hk
  generalize (zCv m (2*m+1)).getD k moZ=p at this;unfold zCv zEx at this
  simp only[List.mem_flatMap,List.mem_map,List.mem_range]at this
  obtain⟨i,hi,j,hj,rfl⟩:=this
  refine⟨⟨?_,?_⟩,?_,?_⟩<;>dsimp only<;>omega
 ·rw[List.getD_eq_getElem?_getD,List.getElem?_eq_none xD]
  exact zEy
def shN(x y:Bg):Nat:=((zAk x).sh+(zAk y).sh).toNat
theorem zE1(x y:Bg):((shN x y:Nat):Int)=(zAk x).sh+(zAk y).sh∧shN x y≤4:=by
 have h1:=zB2 x;have h2:=zB2 y;unfold shN
 omega
theorem zPm(n:Int)(l h:Int):ACalls Tryz.prog 102 [.c (iC n),.c (iC l),.c (iC h)] (.c (iC (max l (min h n)))):=by
 refine zJ Tryz.func102 rfl rfl Tryz.ntmps102 rfl ?_;refine vB [0,1] ?_
 refine⟨zC 12 [(6,.c (iC (max l (min h n))))] [] [],[],Wk.mk [] rfl rfl rfl ?_ trivial,rfl,rfl,aR1⟩
 exact zB
theorem zGC(n m:Int):ACalls Tryz.prog 102 [.c (iC n),.c (iC 0),.c (iC m)] (.c (iC (zC1 n m))):=by
 have h:=zPm n 0 m;rw[show max 0 (min m n)=zC1 n m by unfold zC1;omega]at h
 exact h
theorem zGD(x:Bg):ACalls Tryz.prog 93 [.ag (bgC x)] (.ag (bgC (zAk x))):=by
 refine zJ Tryz.func93 rfl rfl Tryz.ntmps93 rfl ?_
 repeat (first
  |refine vB [0] ?_
  |(refine AWp.draw (id:=1) zK ?_;refine xE2 ?_;refine aH rfl rfl rfl rfl Tryz.func102 rfl xC (zGC _ _) ?_;refine xE2 ?_;refine aH rfl rfl rfl rfl Tryz.func102 rfl xC (zGC _ _) ?_;refine xE2 ?_;refine aH rfl rfl rfl rfl Tryz.func102 rfl xC (zGC _ _) ?_;refine xE2 ?_;refine aH rfl rfl rfl rfl Tryz.func102 rfl xC (zGC _ _) ?_;refine xE2 ?_;refine aB ⟨by kernel_rfl,?_⟩))
 refine⟨zC 16 [(2,.c (.pt 2 4 0 0))] [(2,⟨false,1,4,61,lF (bgC (zAk x))⟩)] [2],[(2,⟨false,1,4,61,lF (bgC (zAk x))⟩)],Wk.mk [(2,some 2)] rfl rfl rfl ?_ ?_,rfl,rfl,ARets.one (x:=.ag _) (ARes.box zA rfl rfl rfl rfl rfl rfl rfl)⟩
 ·exact zB
 ·exact zAf
theorem zPd(x y:Bg):ACalls Tryz.prog 94 [.ag (bgC x),.ag (bgC y)] (.c (.ls (shL (shN x y)).length 2 (zS mvC mvZ (shL (shN x y))))):=by
 obtain⟨e,hm⟩:=zE1 x y
 have h1:=zGD x;have h2:=zGD y;have b1:=zB2 x;have b2:=zB2 y;generalize shN x y=m at *;have hsum:(zAk x).sh+(zAk y).sh=(m:Int):=e.symm;refine zJ Tryz.func94 rfl rfl Tryz.ntmps94 rfl ?_
 repeat (first
  |refine vB [0,2,3,4,5,6,7,8,11] ?_
  |(refine AWp.draw (id:=1) zK ?_;refine vA ?_;(first|refine xB Tryz.func93 h1 ?_|refine xB Tryz.func93 h2 ?_);refine zEG zA rfl rfl rfl Tryz.underlying61 rfl rfl rfl rfl ?_;refine vA ?_;(first|refine xB Tryz.func93 h1 ?_|refine xB Tryz.func93 h2 ?_);refine zEG zA rfl rfl rfl Tryz.underlying61 rfl rfl rfl rfl ?_;refine xE2 ?_;refine aB ⟨by kernel_rfl,?_⟩)
  | (refine rG 9 ?_
     refine xE5 ?_;refine xA ?_;refine vA ?_;refine aB ?_))
 refine AWp.round (fun t:Nat×List (Int×Int)=>zC 39 [(5,.c (iC m)),(6,.c (.ow 20)),(7,.c (iC ((t.1:Int)-m)))] [(20,mvB t.2)] [20])
  (fun t=>t.1≤2*m+1∧t.2=zCv m t.1∧t.2.length=(2*m+1)*t.1) (fun t=>2*m+1-t.1) (0,[]) ⟨Nat.zero_le _,rfl,rfl⟩ ?_ (fun t ht=> ?_)
 ·refine Wk.mk [(20,none)] rfl rfl rfl ?_ ?_
  ·rw[←hsum]
   exact zB
  ·exact zAf
 ·obtain ⟨i,L⟩:=t
  obtain⟨hi,hL,hl⟩:=ht
  dsimp only at hi hL hl;dsimp only;by_cases hlti:i<2*m+1
  · -- ax 6 apart.Shifts
    repeat (first
     |refine vB [0,2,3,4,5,6,7,8,11] ?_
     | (refine rG 9 ?_
        refine xE5 ?_;refine xA ?_;refine vA ?_;refine aB ?_))
    refine AWp.round (fun t:Nat×List (Int×Int)=>zC 39 [(5,.c (iC m)),(6,.c (.ow 20)),(7,.c (iC ((i:Int)-m))),(8,.c (iC ((t.1:Int)-m)))] [(20,mvB t.2)] [20])
     (fun t=>t.1≤2*m+1∧t.2=zCv m i++zEx m i t.1∧t.2.length=(2*m+1)*i+t.1) (fun t=>2*m+1-t.1) (0,L) ⟨Nat.zero_le _,by rw[hL];exact(List.append_nil _).symm,hl⟩ ?_ (fun t ht=> ?_)
    ·refine Wk.mk [(20,some 20)] rfl rfl rfl ?_ ?_
     ·exact zB
     ·exact zAf
    ·obtain⟨j,L2⟩:=t
     obtain⟨hj,hL2,hl2⟩:=ht
     dsimp only at hj hL2 hl2;dsimp only;by_cases hltj:j<2*m+1
     ·have hlen:(L2++ [((j:Int)-m,(i:Int)-m)]).length=L2.length+1:=by simp
      have hb:(2*m+1)*i≤81:=by
       have:=Nat.mul_le_mul (show 2*m+1≤9 by omega) (show i≤9 by omega)
       omega
      repeat (first
       |refine vB [0,2,3,4,5,6,7,8,11] ?_
       | (refine rG 9 ?_
          refine xE5 ?_;refine xA ?_;refine vA ?_;refine aB ?_))
      refine⟨(j+1,L2++ [((j:Int)-m,(i:Int)-m)]),⟨by dsimp only;omega,by rw[hL2,zQ7,List.append_assoc],by rw[hlen];dsimp only;omega⟩,Wk.mk [(20,some 35)] rfl rfl rfl ?_ ?_,by dsimp only;omega⟩
      ·exact zB
      ·exact⟨HeapOk.row rfl rfl hlen (zBh L2 ((j:Int)-m,(i:Int)-m) zMU rfl),trivial⟩
     ·obtain rfl:j=2*m+1:=by omega
      have hsu:zCv m (i+1)=zCv m i++zEx m i (2*m+1):=zGU _ _
      repeat (first
       |refine vB [0,2,3,4,5,6,7,8,11] ?_
       | (refine rG 9 ?_
          refine xE5 ?_;refine xA ?_;refine vA ?_;refine aB ?_))
      refine⟨(i+1,L2),⟨by dsimp only;omega,by rw[hL2,hsu],by dsimp only;rw[hl2,Nat.mul_succ]⟩,Wk.mk [(20,some 20)] rfl rfl rfl ?_ ?_,by dsimp only;omega⟩
      ·exact zB
      ·exact zAf
  ·obtain rfl:i=2*m+1:=by omega
   obtain⟨g1,g2⟩:=zQ5 hm
   have hO:=zQ6 hm;rw[←hL]at g1 g2 hO;have hS:=zPa L (fun _=>CV.any) g2 xD hO;have hst:zD4 moZ zV L=shL m:=by rw[hL];exact zSe hm
   have hslen:(shL m).length=L.length:=by rw[zHs hm,hl]
   rw[hst]at hS
   repeat (first
    |refine vB [4] ?_
    | (refine rG 10 ?_
       refine vA ?_;refine zAG [20] [mvB L] [mvB (shL m)] rfl rfl rfl Tryz.func103 rfl xC (LendOk.row rfl g2 (fun i _ j _=>⟨rfl,zL zAh _ i j⟩) trivial) rfl (LendImm.row (fun i _ j _=>zL zAh _ i j) trivial) (hS) ?_;refine aB ?_))
   refine AWp.weak (S':=zC 39 [(6,.c (.ls (shL m).length 2 (zS mvC mvZ (shL m))))] [] []) (Wk.mk [] rfl rfl rfl ?_ trivial) ?_
   ·exact zB
   repeat (first
    |refine vB [0,2,3,4,5,6,7,8,11] ?_
    | (refine rG 9 ?_
       refine xE5 ?_;refine xA ?_;refine vA ?_;refine aB ?_))
   refine⟨zC 39 [(4,.c (.ls (shL m).length 2 (zS mvC mvZ (shL m))))] [] [],[],Wk.mk [] rfl rfl rfl ?_ trivial,rfl,rfl,aR1⟩
   exact zB
end Go.Proofs.YtbffmfeldkjkcaaGreat
end
section
namespace Go.Proofs.YtbffmfeldkjkcaaGreat
open Go.RowKit Go.Flow Go.AV Go.Plain
theorem zQy{N i:Nat}{stop:Bool}(h:zAs N stop i=false):stop=true∧i+1=N:=by
 unfold zAs at h;rw[Bool.not_eq_false',Bool.and_eq_true]at h
 exact⟨h.1,Nat.eq_of_beq_eq_true h.2⟩
theorem zMo{N i:Nat}{stop:Bool}(h:zAs N stop i=true):stop=true→i+1≠N:=fun hs e=>by
 unfold zAs at h;rw[hs,e,show Nat.beq N N=true from Nat.beq_refl N]at h
 cases h
theorem zMb(p:Nat→Bool):∀n:Nat,(∀i,i<n→p i=false)∨∃k,k<n∧p k=true∧∀i,i<k→p i=false
 |0=>.inl fun i hi=>absurd hi (Nat.not_lt_zero _)
 | n+1=>by
   rcases zMb p n with h|⟨k,h1,h2,h3⟩
   ·cases hp:p n with
    |true=>exact .inr ⟨n,by omega,hp,h⟩
    |false=>exact .inl fun i hi=>if e:i=n then by rw[e];exact hp else h i xD
   ·exact .inr ⟨k,by omega,h2,h3⟩
end Go.Proofs.YtbffmfeldkjkcaaGreat
end
