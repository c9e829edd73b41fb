/- Parts of the proof: A28i, A28v, A28w, A28x, A28ro. -/
import Derived.Test.YtbffmfeldkjkcaaGreatG27
import Derived.Test.YtbffmfeldkjkcaaGreatG22
set_option linter.unusedSimpArgs false
set_option linter.unusedVariables false
set_option maxHeartbeats 0
set_option maxRecDepth 100000
section
namespace Go.Proofs.YtbffmfeldkjkcaaGreat
open Go.RowKit Go.Flow Go.AV Go.Plain
abbrev bpB(L:List Bp):AB:=⟨true,L.length,3,58,zS bpC bpZ L⟩
def zDz(bl sh:Int):Rd:=⟨bl%3,1+sh%((2*(bl%3)+1)*(2*(bl%3)+1))⟩
theorem zQ1(bl sh:Int):ACalls Tryz.prog 45 [.c (iC bl),.c (iC sh)] (.ag (rdC (zDz bl sh))):=by
 unfold zDz;have hM:=zDb bl 3 xD xD;have h0:=Int.emod_nonneg bl (show(3:Int)≠0 by omega);have h3:=Int.emod_lt_of_pos bl (show(0:Int)<3 by omega);generalize bl%3=c at *;have hS:=zGc c 0 xD;have hpos:0<(2*c+1)*(2*c+1)∧(2*c+1)*(2*c+1)≤25:=by
  have:c=0∨c=1∨c=2:=by omega
  rcases this with rfl|rfl|rfl<;>decide
 have hM2:=zDb sh ((2*c+1)*(2*c+1)) xD xD;have h4:=Int.emod_nonneg sh (show(2*c+1)*(2*c+1)≠0 by omega);have h5:=Int.emod_lt_of_pos sh (show(0:Int)<(2*c+1)*(2*c+1) by omega);generalize hs:2*c+1=s at *;generalize sh%(s*s)=v at *;refine zJ Tryz.func45 rfl rfl Tryz.ntmps45 rfl ?_
 repeat (first
  |refine vB [0,3] ?_
  | (refine rG 1 ?_
     refine vA ?_;refine xB Tryz.func12 hM ?_;refine xE3 ?_;refine aB ?_)
  |(refine AWp.draw (id:=2) zK ?_;refine xE2 ?_;refine xB Tryz.func71 hS ?_;refine vA ?_;refine xB Tryz.func71 hS ?_;refine vA ?_;refine xB Tryz.func12 hM2 ?_;refine xE3 ?_;refine aB ⟨by kernel_rfl,?_⟩))
 refine⟨zC 19 [(4,.c (.pt 4 2 0 0))] [(4,⟨false,1,2,73,lF (rdC ⟨c,1+v⟩)⟩)] [4],[(4,⟨false,1,2,73,lF (rdC ⟨c,1+v⟩)⟩)],Wk.mk [(4,some 4)] rfl rfl rfl ?_ ?_,rfl,rfl,ARets.one (x:=.ag _) (ARes.box zA rfl rfl rfl rfl rfl rfl rfl)⟩
 ·exact zB
 ·exact zAf
def zEA(d:Nat→Bool)(W H:Int)(e:Nat→Bool)(p:Nat):Bool:=zAu 6 5 d ((p%6:Nat):Int) ((p/6:Nat):Int)||zAu W H e (((p%6:Nat):Int)-0) (((p/6:Nat):Int)-0)
def zDi(d:Nat→Bool)(W H:Int)(e:Nat→Bool)(k p:Nat):Bool:=if p<k then zEA d W H e p else false
theorem zRp{d:Nat→Bool}{W H:Int}{e:Nat→Bool}{i j:Nat}(hi:i<6):zDi d W H e (j*6+i+1) (j*6+i)=(zAu 6 5 d i j||zAu W H e ((i:Int)-0) ((j:Int)-0)):=by
 unfold zDi zEA;rw[if_pos xD,show(j*6+i)%6=i by omega,show(j*6+i)/6=j by omega]
theorem zM9{d:Nat→Bool}{W H:Int}{e:Nat→Bool}{k p:Nat}(h:¬p=k):zDi d W H e (k+1) p=zDi d W H e k p:=by
 unfold zDi;by_cases h1:p<k
 ·rw[if_pos h1,if_pos xD]
 ·rw[if_neg h1,if_neg xD]
theorem zOX(d:Nat→Bool)(W H:Int)(n:Nat)(e:Nat→Bool)(hb:chk W H n=0):ACalls Tryz.prog 48 [.ag (zAz 6 5 30 d),.ag (zAz W H n e),.c (iC 0),.c (iC 0)] (.ag (zAz 6 5 30 (zEA d W H e))):=by
 have hN:=zFn 6 5 30 xD xD rfl xD;have ha:chk 6 5 30=0:=by decide
 have hC:=zEV 6 5 30 d;rw[ha]at hC;refine zJ Tryz.func48 rfl rfl Tryz.ntmps48 rfl ?_
 repeat (first
  |refine vB [0,4] ?_
  | (refine rG 1 ?_
     refine xE4 ?_;refine zFf rfl rfl rfl rfl rfl Tryz.func46 rfl xC (hN) (fun _ _ _ _=>rfl) ?_;refine xE6 ?_;refine aB ?_)
  | (refine rG 2 ?_
     refine xE4 ?_;refine xB Tryz.func61 hC ?_;refine xE2 ?_;refine aB ?_))
 refine AWp.round (fun j:Nat=>
  zC 65 [(4,.c (.pt 4 3 0 0)),(5,.c (.pt 5 3 0 0)),(8,.c (.pt 8 3 0 0)),(9,.c (.pt 9 3 0 0)),(2,.c (iC 0)),(3,.c (iC 0)),(11,.c (iC (j:Nat)))] [(4,⟨false,1,3,58,lF (zAz 6 5 30 d)⟩),(5,⟨false,1,3,58,lF (zAz W H n e)⟩),(8,⟨false,1,3,58,lF [iC 0,iC 0,.p (.slice none 0 0)]⟩),(9,⟨false,1,3,58,lF [iC 6,iC 5,.ow 20]⟩),(20,zCz 30 (zDi d W H e (j*6)))] [4,5,8,9,20]
  ) (fun j=>j≤5) (fun j=>5-j) 0 (Nat.zero_le _) ?_ (fun j hj=> ?_)
 ·refine Wk.mk [(4,some 4),(5,some 5),(8,some 8),(9,some 9),(20,some 18)] rfl rfl rfl ?_ ?_
  ·exact zB
  ·exact⟨hSm,hSm,hSm,HeapOk.box rfl rfl ⟨LeC.int rfl,LeC.int rfl,LeC.ow _ _ rfl,trivial⟩ rfl,HeapOk.row rfl rfl rfl (fun i _=>zAa ⟨rfl,rfl⟩),trivial⟩
 by_cases hjl:j<5
 ·have hjl':(j:Int)<5:=by omega
  refine vB [5,7] ?_;refine AWp.round (fun i:Nat=>
   zC 65 [(4,.c (.pt 4 3 0 0)),(5,.c (.pt 5 3 0 0)),(8,.c (.pt 8 3 0 0)),(9,.c (.pt 9 3 0 0)),(2,.c (iC 0)),(3,.c (iC 0)),(11,.c (iC j)),(12,.c (iC (i:Nat)))] [(4,⟨false,1,3,58,lF (zAz 6 5 30 d)⟩),(5,⟨false,1,3,58,lF (zAz W H n e)⟩),(8,⟨false,1,3,58,lF [iC 0,iC 0,.p (.slice none 0 0)]⟩),(9,⟨false,1,3,58,lF [iC 6,iC 5,.ow 20]⟩),(20,zCz 30 (zDi d W H e (j*6+i)))] [4,5,8,9,20]
   ) (fun i=>i≤6) (fun i=>6-i) 0 (Nat.zero_le _) ?_ (fun i hi=> ?_)
  ·refine Wk.mk [(4,some 4),(5,some 5),(8,some 8),(9,some 9),(20,some 20)] rfl rfl rfl ?_ ?_
   ·exact zB
   ·exact⟨hSm,hSm,hSm,HeapOk.box rfl rfl ⟨LeC.int rfl,LeC.int rfl,LeC.ow _ _ rfl,trivial⟩ rfl,HeapOk.row rfl rfl rfl (fun i _=>zAa ⟨rfl,rfl⟩),trivial⟩
  by_cases hil:i<6
  ·have hil':(i:Int)<6:=by omega
   have g1:=zGt 6 5 30 d i j ha;have g2:=zGt W H n e ((i:Int)-0) ((j:Int)-0) hb;have hnew:=zRp (d:=d) (W:=W) (H:=H) (e:=e) (j:=j) hil;have hlt:j*6+i<30:=by omega
   cases h1:zAu 6 5 d i j with
   | true=>
     rw[h1]at g1 hnew
     repeat (first
      |refine vB [8,9] ?_
      |(refine AWp.draw (id:=10) zK ?_;refine zCn ?_;refine xB Tryz.func73 g1 ?_;refine zB4 ?_;refine zI (zH (k:=j*6+i) zA) ?_;refine vA ?_;refine aB ⟨by kernel_rfl,?_⟩))
     refine⟨i+1,hil,Wk.mk [(4,some 4),(5,some 5),(8,some 8),(9,some 9),(20,some 20)] rfl rfl rfl ?_ ?_,by omega⟩
     ·exact zB
     ·exact⟨hSm,hSm,hSm,HeapOk.box rfl rfl ⟨LeC.int rfl,LeC.int rfl,LeC.ow _ _ rfl,trivial⟩ rfl,HeapOk.row rfl rfl rfl (zGb (e:=true) (zDi d W H e (j*6+i+1)) (by rw[hnew];rfl) (fun k hk=>zM9 hk)),trivial⟩
   | false=>
     rw[h1]at g1 hnew;generalize zAu W H e ((i:Int)-0) ((j:Int)-0)=v at g2 hnew
     repeat (first
      |refine vB [8,9] ?_
      |(refine AWp.draw (id:=10) zK ?_;refine zCn ?_;refine xB Tryz.func73 g1 ?_;refine xE8 ?_;refine xB Tryz.func73 g2 ?_;refine vA ?_;refine zI (zH (k:=j*6+i) zA) ?_;refine vA ?_;refine aB ⟨by kernel_rfl,?_⟩))
     refine⟨i+1,hil,Wk.mk [(4,some 4),(5,some 5),(8,some 8),(9,some 9),(20,some 20)] rfl rfl rfl ?_ ?_,by omega⟩
     ·exact zB
     ·exact⟨hSm,hSm,hSm,HeapOk.box rfl rfl ⟨LeC.int rfl,LeC.int rfl,LeC.ow _ _ rfl,trivial⟩ rfl,HeapOk.row rfl rfl rfl (zGb (e:=v) (zDi d W H e (j*6+i+1)) (by rw[hnew];rfl) (fun k hk=>zM9 hk)),trivial⟩
  ·have hil':¬(i:Int)<6:=by omega
   obtain rfl:i=6:=by omega
   refine vB [6,8] ?_
   refine⟨j+1,hjl,Wk.mk [(4,some 4),(5,some 5),(8,some 8),(9,some 9),(20,some 20)] rfl rfl rfl ?_ ?_,by omega⟩
   ·exact zB
   ·exact⟨hSm,hSm,hSm,HeapOk.box rfl rfl ⟨LeC.int rfl,LeC.int rfl,LeC.ow _ _ rfl,trivial⟩ rfl,HeapOk.row rfl rfl rfl (fun i _=>zAa ⟨by rw[show(j+1)*6=j*6+6 by omega],rfl⟩),trivial⟩
 ·have hjl':¬(j:Int)<5:=by omega
  obtain rfl:j=5:=by omega
  refine vB [5,11] ?_
  refine⟨zC 65 [(8,.c (.pt 8 3 0 0))] [(8,⟨false,1,3,58,lF (zAz 6 5 30 (zEA d W H e))⟩)] [8],[(8,⟨false,1,3,58,lF (zAz 6 5 30 (zEA d W H e))⟩)],Wk.mk [(8,some 8)] rfl rfl rfl ?_ ?_,rfl,rfl,ARets.one (x:=.ag _) (ARes.box zA rfl rfl rfl rfl rfl rfl rfl)⟩
  ·exact zB
  ·exact⟨HeapOk.box rfl rfl ⟨LeC.int rfl,LeC.int rfl,zZ rfl rfl rfl (fun i hi=>zAa ⟨by show bC _=bC _;unfold zDi;rw[if_pos xD],rfl⟩),trivial⟩ rfl,trivial⟩
section
variable(ll:List (List Int))
abbrev lsL:CV:=.ls ll.length 1 (fun k _=>lsI (ll.getD k []))
def l0:List Int:=ll.getD 0 []
def nxA(a:Nat):Nat:=dat (l0 ll).length a
def dvA(a:Nat)(m:Int):Int:=zBH (l0 ll).length (fI (l0 ll)) a m
theorem zDN(a:Nat)(m:Int)(h:0<m):0≤dvA ll a m∧dvA ll a m<m:=zID _ _ _ _ h
theorem zBE{a:Nat}(h:a≤(l0 ll).length):nxA ll a≤(l0 ll).length:=zDd h
def zAC:Nat→Nat×List Rd
 |0=>(nxA ll 0,[])
 |k+1=>(nxA ll (nxA ll (zAC k).1),(zAC k).2++ [zDz (dvA ll (zAC k).1 2) (dvA ll (nxA ll (zAC k).1) 4)])
theorem zJs:∀k,(zAC ll k).2.length=k
 |0=>rfl
 |k+1=>by simp[zAC,zJs k]
theorem zJr:∀k,(zAC ll k).1≤(l0 ll).length
 |0=>zBE ll (Nat.zero_le _)
 |k+1=>zBE ll (zBE ll (zJr k))
def rdN:Nat:=(dvA ll 0 3).toNat
def g16(f:Nat→Int)(k:Nat):Int:=if k=0 then 16 else if k=1 then 12 else f (k-2)
abbrev mkN(l:List Int):Nat:=2+l.length
def mdD(at_:Nat):Nat→Bool:=if at_<ll.length then zDj (mdW (mkN (ll.getD at_ [])) (g16 (fI (ll.getD at_ [])))) (mdH (mkN (ll.getD at_ [])) (g16 (fI (ll.getD at_ [])))) (mdF (mkN (ll.getD at_ [])) (g16 (fI (ll.getD at_ []))) (mdW (mkN (ll.getD at_ [])) (g16 (fI (ll.getD at_ [])))) (mdH (mkN (ll.getD at_ [])) (g16 (fI (ll.getD at_ [])))) 12 (dat (mkN (ll.getD at_ [])) (dat (mkN (ll.getD at_ [])) 0),fun _=>false)) 0 0 6 else fun _=>false
structure Mi8 where
 a:Nat
 at_:Nat
 base:Bp
 chs:List Bp
abbrev zAY(d:Nat→Bool):Bp:=⟨6,5,30,d⟩
def miD(s:Mi8):Nat→Bool:=if dvA ll s.a 3=0 then zEA (mdD ll s.at_) s.base.W s.base.H s.base.d else mdD ll s.at_
def zFR(s:Mi8):Mi8:=⟨nxA ll s.a,s.at_+1,if s.chs= []then zAY (miD ll s)else s.base,s.chs++ [zAY (miD ll s)]⟩
def zCI:Nat→Mi8→Mi8
 |0,s=>s
 |k+1,s=>zFR ll (zCI k s)
structure Mo8 where
 a:Nat
 at_:Nat
 base:Bp
 C:List (List Bp)
 O:List Bg
 F:List Bp
 T:List Bg
def zHz(x:Int):Nat:= [2,1,2,3,3,0].getD x.toNat 0
def zLn(a:Nat)(k:Nat):Int:= [dvA ll a 3,dvA ll (nxA ll a) 3,dvA ll (nxA ll (nxA ll a)) 4/3,dvA ll (nxA ll (nxA ll (nxA ll a))) 3].getD k 0
def zDK(a:Nat):Bg:=bgN 4 (zLn ll a)
def zEv(b:Bool)(s:Mo8):Nat:=if b=true then zHz (dvA ll s.a 6)else 1
def zCl(b:Bool)(s:Mo8):Nat:=if b=true then nxA ll s.a else s.a
def moI(b:Bool)(s:Mo8):Mi8:=zCI ll (zEv ll b s) ⟨zCl ll b s,s.at_,s.base,[]⟩
def zHb(b:Bool)(s:Mo8):Mo8:=
 if b=true then ⟨nxA ll (nxA ll (nxA ll (nxA ll (moI ll b s).a))),(moI ll b s).at_,(moI ll b s).base,s.C++ [(moI ll b s).chs],s.O++ [zDK ll (moI ll b s).a],s.F,s.T⟩
 else ⟨nxA ll (nxA ll (nxA ll (nxA ll (moI ll b s).a))),(moI ll b s).at_,(moI ll b s).base,s.C,s.O,s.F++ [(moI ll b s).chs.getD 0 bpZ],s.T++ [zDK ll (moI ll b s).a]⟩
def zAP:Nat:=(dvA ll (zAC ll (rdN ll)).1 4).toNat
def zA0:Nat:=(dvA ll (nxA ll (zAC ll (rdN ll)).1) 3).toNat
def zBy:Nat→Mo8
 |0=>⟨nxA ll (nxA ll (zAC ll (rdN ll)).1),1,⟨0,0,0,fun _=>false⟩,[],[],[],[]⟩
 |k+1=>zHb ll (decide (k<zAP ll)) (zBy k)
def zCH:Pb:=⟨(zAC ll (rdN ll)).2,(zBy ll (zAP ll+zA0 ll)).C,(zBy ll (zAP ll+zA0 ll)).F,(zBy ll (zAP ll+zA0 ll)).O,(zBy ll (zAP ll+zA0 ll)).T⟩
theorem zSp(x:Int):zHz x≤3:=by
 unfold zHz;generalize x.toNat=n
 match n with
 |0=>decide
 |1=>decide
 |2=>decide
 |3=>decide
 |4=>decide
 |5=>decide
 |n+6=>simp
theorem zMM(b:Bool)(s:Mo8):zEv ll b s≤3:=by
 unfold zEv
 split
 ·exact zSp _
 ·decide
def zFm(a0:Nat)(k:Nat)(s:Mi8):Prop:=s.a≤(l0 ll).length∧s.at_=a0+k∧chk s.base.W s.base.H s.base.n=0∧s.chs.length=k∧∀b∈s.chs,∃d,b=zAY d
theorem zQ2{a0 k:Nat}{s:Mi8}(h:zFm ll a0 k s):zFm ll a0 (k+1) (zFR ll s):=by
 obtain⟨h1,h2,h3,h4,h5⟩:=h
 refine⟨zBE ll h1,by show s.at_+1=_;omega,?_,by simp[zFR,h4],fun b hb=> ?_⟩
 ·unfold zFR
  dsimp only
  split
  ·exact(by decide:chk 6 5 30=0)
  ·exact h3
 ·rcases List.mem_append.1 (show b∈s.chs++ [zAY (miD ll s)]from hb)with h|h
  ·exact h5 b h
  ·exact⟨_,List.mem_singleton.1 h⟩
theorem zJf{a0:Nat}{s:Mi8}(h:zFm ll a0 0 s):∀k,zFm ll a0 k (zCI ll k s)
 |0=>h
 |k+1=>zQ2 ll (zJf h k)
structure zGw(k:Nat)(s:Mo8):Prop where
 a:s.a≤(l0 ll).length
 at_:s.at_≤1+3*k
 base:chk s.base.W s.base.H s.base.n=0
 C:s.C.length≤k
 F:s.F.length≤k
 O:s.O.length=s.C.length
 T:s.T.length=s.F.length
 Cc:∀l∈s.C,l.length≤3∧∀b∈l,∃d,b=zAY d
 Ff:∀b∈s.F,∃d,b=zAY d
theorem zMP{k:Nat}{b:Bool}{s:Mo8}(h:zGw ll k s):zFm ll s.at_ 0 ⟨zCl ll b s,s.at_,s.base,[]⟩:=
 ⟨by
   unfold zCl;dsimp only
   split
   ·exact zBE ll h.a
   ·exact h.a,rfl,h.base,rfl,fun _ hb=>by cases hb⟩
theorem zQ8{k:Nat}{b:Bool}{s:Mo8}(h:zGw ll k s):zGw ll (k+1) (zHb ll b s):=by
 have hi:=zJf ll (zMP ll (b:=b) h) (zEv ll b s)
 obtain⟨h1,h2,h3,h4,h5⟩:=hi
 change (moI ll b s).a≤_ at h1;change (moI ll b s).at_=_ at h2;change chk (moI ll b s).base.W (moI ll b s).base.H (moI ll b s).base.n=0 at h3;change (moI ll b s).chs.length=_ at h4;change ∀x∈(moI ll b s).chs,_ at h5;have hm:=zMM ll b s;have ha:=h.at_;have h6:=zBE ll (zBE ll (zBE ll (zBE ll h1)));unfold zHb
 cases b with
 | true=>
   rw[if_pos rfl]
   refine⟨h6,by show(moI ll true s).at_≤_;omega,h3,by simp;exact h.C,by have:=h.F;show s.F.length≤_;omega,by simp[h.O],h.T,fun l hl=> ?_,h.Ff⟩
   rcases List.mem_append.1 hl with hl|hl
   ·exact h.Cc l hl
   ·obtain rfl:=List.mem_singleton.1 hl
    exact⟨by omega,h5⟩
 | false=>
   rw[if_neg (by decide)]
   refine⟨h6,by show(moI ll false s).at_≤_;omega,h3,by have:=h.C;show s.C.length≤_;omega,by simp;exact h.F,h.O,by simp[h.T],h.Cc,fun x hx=> ?_⟩
   rcases List.mem_append.1 hx with hx|hx
   ·exact h.Ff x hx
   ·obtain rfl:=List.mem_singleton.1 hx
    exact h5 _ (zAB (by rw[h4];exact Nat.lt_of_lt_of_eq (Nat.zero_lt_one) rfl))
theorem zJh:∀k,zGw ll k (zBy ll k)
 |0=>⟨zBE ll (zBE ll (zJr ll _)),Nat.le_refl _,(by decide:chk 0 0 0=0),Nat.le_refl _,Nat.le_refl _,rfl,rfl,(fun _ h=>by cases h),(fun _ h=>by cases h)⟩
 |k+1=>zQ8 ll (zJh k)
end
end Go.Proofs.YtbffmfeldkjkcaaGreat
end
section
namespace Go.AV
open Go Go.RowKit Go.Flow
theorem AText.weak{P:Program}{ops:Array Oper}{l:List Oper}{S S':St}{Q:St→Prop}(hw:Wk S S')(h:AText P ops l S' Q):AText P ops l S Q:=⟨fun rd b0 a w K hR hK=>h.get rd b0 a w K (hw b0 a w hR) hK⟩
end Go.AV
namespace Go.Proofs.YtbffmfeldkjkcaaGreat
open Go.RowKit Go.Flow Go.AV Go.Plain
abbrev rdB(L:List Rd):AB:=⟨true,L.length,2,73,zS rdC rdZ L⟩
abbrev bgB(L:List Bg):AB:=⟨true,L.length,4,61,zS bgC bgZ L⟩
abbrev chB(C:List (List Bp)):AB:=⟨true,C.length,1,31,chF C⟩
abbrev dB(ll:List (List Int))(a:Nat):AB:=zAV (l0 ll).length (fI (l0 ll)) a
abbrev nl8:CV:=.p (.slice none 0 0)
theorem zC3(ll:List (List Int))(a:Nat)(m:Int)(ha:a≤(l0 ll).length)(hN:(l0 ll).length≤4611686018427387904)(hm:0<m)(hM:m≤1000000):HCalls Tryz.prog 44 [.c (.pt 1000 2 0 0),.c (iC m)] [(1000,dB ll a)] (.c (iC (dvA ll a m))) [(1000,dB ll (nxA ll a))]:=zCR _ _ _ _ ha hN hm hM
theorem zQr(f:Nat→Int)(m:Nat):∀i,i<2+m→∀j,j<1→zAj (sF [iC 16,iC 12] 1) 2 (iF f) i j=iF (g16 f) i j∧zM (zAj (sF [iC 16,iC 12] 1) 2 (iF f) i j)=true:=fun i hi j hj=>by
 obtain rfl:j=0:=Nat.lt_one_iff.mp hj
 match i with
 |0=>exact⟨rfl,rfl⟩
 |1=>exact⟨rfl,rfl⟩
 | i+2=>
   have e:zAj (sF [iC 16,iC 12] 1) 2 (iF f) (i+2) 0=iF f i 0:=by
    unfold zAj;rw[show Nat.blt (i+2) 2=false from Bool.eq_false_iff.2 fun h=>by have:=Nat.blt_eq.mp h;omega]
    rfl
   rw[e]
   exact⟨rfl,rfl⟩
def LlOk(ll:List (List Int)):Prop:=ll.length≤6000000000000∧∀k,k<ll.length→(ll.getD k []).length*8≤140737488351232
theorem LlOk.l0{ll:List (List Int)}(h:LlOk ll):(l0 ll).length≤4611686018427387904:=by
 unfold Go.Proofs.YtbffmfeldkjkcaaGreat.l0;by_cases h0:0<ll.length
 ·have:=h.2 0 h0
  omega
 ·rw[List.getD_eq_getElem?_getD,List.getElem?_eq_none xD]
  simp
theorem zKK(ll:List (List Int))(hll:LlOk ll):ACalls Tryz.prog 20 [.c (lsL ll)] (.ag (pbC (zCH ll))):=by
 have hN:=hll.l0
 obtain⟨hK,hk8⟩:=hll
 refine zJ Tryz.func20 rfl rfl Tryz.ntmps20 rfl ?_;refine vB [0,1,2] ?_;refine AWp.cut (zC 147 [(0,.c (lsL ll)),(2,.c (.pt 2 5 0 0)),(3,.c (.pt 19 2 0 0))] [(2,⟨false,1,5,34,lF [nl8,nl8,nl8,nl8,nl8]⟩),(19,dB ll 0)] [2,19]) ?_ (fun S1 hw1=>AWp.weak hw1 ?_)
 ·by_cases h0:0<ll.length
  ·have h0':((ll.length:Nat):Int)>0:=by omega
   repeat (first
    |refine vB [] ?_
    | (refine rG 3 ?_
       refine xE2 ?_;refine zG (aP (k:=0) zA) ?_;refine xE4 ?_;refine aB ?_))
   refine⟨rfl,Wk.mk [(2,some 2),(19,some 19)] rfl rfl rfl ?_ ?_⟩
   ·exact zB
   ·exact zAf
  ·have h0':¬((ll.length:Nat):Int)>0:=by omega
   have e0:l0 ll= []:=by unfold l0;rw[List.getD_eq_getElem?_getD,List.getElem?_eq_none xD];rfl
   refine vB [] ?_
   refine⟨rfl,Wk.mk [(2,some 2),(19,some 19)] rfl rfl rfl ?_ ?_⟩
   ·exact zB
   ·exact⟨hSm,HeapOk.box rfl rfl ⟨(by rw[e0];exact LeC.nils _ _),LeC.int rfl,trivial⟩ rfl,trivial⟩
 have hn0:=zC3 ll 0 3 (Nat.zero_le _) hN (by decide) (by decide);have hd0:=zDN ll 0 3 (by decide);have hrn:((rdN ll:Nat):Int)=dvA ll 0 3:=by unfold rdN;omega
 rw[←hrn]at hn0
 repeat (first
  |refine vB [4,6] ?_
  | (refine rG 5 ?_
     refine vA ?_;refine zAG [19] [dB ll 0] [dB ll (nxA ll 0)] rfl rfl rfl Tryz.func44 rfl xC (LendOk.box rfl rfl rfl trivial) rfl (LendImm.box rfl trivial) (hn0) ?_;refine vA ?_;refine aB ?_))
 refine AWp.round (fun k:Nat=>
  zC 147 [(0,.c (lsL ll)),(2,.c (.pt 2 5 0 0)),(3,.c (.pt 19 2 0 0)),(4,.c (.pt 4 5 0 0)),(5,.c (iC (rdN ll))),(6,.c (iC (k:Nat)))] [(2,⟨false,1,5,34,lF [nl8,nl8,nl8,nl8,nl8]⟩),(4,⟨false,1,5,34,lF [.ow 150,.ow 151,.ow 152,.ow 153,.ow 154]⟩),(19,dB ll ((zAC ll k).1)),(150,rdB ((zAC ll k).2)),(151,chB ([])),(152,bpB ([])),(153,bgB ([])),(154,bgB ([]))] [2,4,19,150,151,152,153,154]
  ) (fun k=>k≤rdN ll) (fun k=>rdN ll-k) 0 (Nat.zero_le _) ?_ (fun k hk=> ?_)
 ·refine Wk.mk [(2,some 2),(4,some 4),(19,some 19),(150,none),(151,none),(152,none),(153,none),(154,none)] rfl rfl rfl ?_ ?_
  ·exact zB
  ·exact⟨hSm,HeapOk.box rfl rfl ⟨LeC.nil _ rfl,LeC.nil _ rfl,LeC.nil _ rfl,LeC.nil _ rfl,LeC.nil _ rfl,trivial⟩ rfl,hSm,HeapOk.nil rfl rfl,HeapOk.nil rfl rfl,HeapOk.nil rfl rfl,HeapOk.nil rfl rfl,HeapOk.nil rfl rfl,trivial⟩
 have hlim:rdN ll≤2:=by omega
 have hR:=zJs ll k;have hle:=zJr ll k;by_cases hkl:k<rdN ll
 ·have hkl':(k:Int)<rdN ll:=by omega
  have n1:=zC3 ll _ 2 hle hN (by decide) (by decide);have n2:=zC3 ll _ 4 (zBE ll hle) hN (by decide) (by decide)
  repeat (first
   |refine vB [7,8] ?_
   |(refine AWp.draw (id:=9) zK ?_;refine xE3 ?_;refine zAG [19] [dB ll (zAC ll k).1] [dB ll (nxA ll (zAC ll k).1)] rfl rfl rfl Tryz.func44 rfl xC (LendOk.box rfl rfl rfl trivial) rfl (LendImm.box rfl trivial) (n1) ?_;refine vA ?_;refine zAG [19] [dB ll (nxA ll (zAC ll k).1)] [dB ll (nxA ll (nxA ll (zAC ll k).1))] rfl rfl rfl Tryz.func44 rfl xC (LendOk.box rfl rfl rfl trivial) rfl (LendImm.box rfl trivial) (n2) ?_;refine aH rfl rfl rfl rfl Tryz.func45 rfl xC (zQ1 _ _) ?_;refine vA ?_;refine zBb zA rfl rfl rfl rfl rfl rfl rfl rfl rfl rfl oM oM ?_;refine xE2 ?_;refine aB ⟨by kernel_rfl,?_⟩))
  refine⟨k+1,hkl,Wk.mk [(2,some 2),(4,some 4),(19,some 19),(150,some 44),(151,some 151),(152,some 152),(153,some 153),(154,some 154)] rfl rfl rfl ?_ ?_,by omega⟩
  ·exact zB
  ·exact⟨hSm,HeapOk.box rfl rfl ⟨LeC.ow _ _ rfl,LeC.ow _ _ rfl,LeC.ow _ _ rfl,LeC.ow _ _ rfl,LeC.ow _ _ rfl,trivial⟩ rfl,hSm,HeapOk.row rfl rfl List.length_append (zBh _ _ zAF rfl),HeapOk.row rfl rfl rfl (fun i hi=>absurd hi (Nat.not_lt_zero _)),HeapOk.row rfl rfl rfl (fun i hi=>absurd hi (Nat.not_lt_zero _)),HeapOk.row rfl rfl rfl (fun i hi=>absurd hi (Nat.not_lt_zero _)),HeapOk.row rfl rfl rfl (fun i hi=>absurd hi (Nat.not_lt_zero _)),trivial⟩
 have hkl':¬(k:Int)<rdN ll:=by omega
 obtain rfl:k=rdN ll:=by omega
 have n1:=zC3 ll _ 4 hle hN (by decide) (by decide);have n2:=zC3 ll _ 3 (zBE ll hle) hN (by decide) (by decide);have hd1:=zDN ll (zAC ll (rdN ll)).1 4 (by decide);have hd2:=zDN ll (nxA ll (zAC ll (rdN ll)).1) 3 (by decide);have hls:((zAP ll:Nat):Int)=dvA ll (zAC ll (rdN ll)).1 4:=by unfold zAP;omega
 have hfx:((zA0 ll:Nat):Int)=dvA ll (nxA ll (zAC ll (rdN ll)).1) 3:=by unfold zA0;omega
 rw[←hls]at n1;rw[←hfx]at n2
 repeat (first
  |refine vB [7,12,13,14] ?_
  | (refine rG 10 ?_
     refine vA ?_;refine zAG [19] [dB ll (zAC ll (rdN ll)).1] [dB ll (nxA ll (zAC ll (rdN ll)).1)] rfl rfl rfl Tryz.func44 rfl xC (LendOk.box rfl rfl rfl trivial) rfl (LendImm.box rfl trivial) (n1) ?_;refine vA ?_;refine aB ?_)
  | (refine rG 11 ?_
     refine vA ?_;refine zAG [19] [dB ll (nxA ll (zAC ll (rdN ll)).1)] [dB ll (nxA ll (nxA ll (zAC ll (rdN ll)).1))] rfl rfl rfl Tryz.func44 rfl xC (LendOk.box rfl rfl rfl trivial) rfl (LendImm.box rfl trivial) (n2) ?_;refine vA ?_;refine aB ?_))
 refine AWp.round (fun k:Nat=>
  zC 147 [(0,.c (lsL ll)),(2,.c (.pt 2 5 0 0)),(3,.c (.pt 19 2 0 0)),(4,.c (.pt 4 5 0 0)),(7,.c (iC (zAP ll))),(8,.c (iC (zA0 ll))),(9,.c (iC ((zBy ll k).at_))),(10,.c (.pt 10 3 0 0)),(11,.c (iC (k:Nat)))] [(2,⟨false,1,5,34,lF [nl8,nl8,nl8,nl8,nl8]⟩),(4,⟨false,1,5,34,lF [.ow 150,.ow 151,.ow 152,.ow 153,.ow 154]⟩),(19,dB ll ((zBy ll k).a)),(150,rdB (zAC ll (rdN ll)).2),(151,chB ((zBy ll k).C)),(152,bpB ((zBy ll k).F)),(153,bgB ((zBy ll k).O)),(154,bgB ((zBy ll k).T)),(10,⟨false,1,3,58,lF (bpC ((zBy ll k).base))⟩)] [2,4,19,150,151,152,153,154,10]
  ) (fun k=>k≤zAP ll+zA0 ll) (fun k=>zAP ll+zA0 ll-k) 0 (Nat.zero_le _) ?_ (fun k hk=> ?_)
 ·refine Wk.mk [(2,some 2),(4,some 4),(19,some 19),(150,some 150),(151,some 151),(152,some 152),(153,some 153),(154,some 154),(10,some 10)] rfl rfl rfl ?_ ?_
  ·exact zB
  ·exact⟨
   hSm,HeapOk.box rfl rfl ⟨LeC.ow _ _ rfl,LeC.ow _ _ rfl,LeC.ow _ _ rfl,LeC.ow _ _ rfl,LeC.ow _ _ rfl,trivial⟩ rfl,hSm,hrF zAF
   ,HeapOk.row rfl rfl rfl (fun i hi=>absurd hi (Nat.not_lt_zero _)),HeapOk.row rfl rfl rfl (fun i hi=>absurd hi (Nat.not_lt_zero _)),HeapOk.row rfl rfl rfl (fun i hi=>absurd hi (Nat.not_lt_zero _)),HeapOk.row rfl rfl rfl (fun i hi=>absurd hi (Nat.not_lt_zero _)),HeapOk.box rfl rfl ⟨LeC.int rfl,LeC.int rfl,LeC.nils _ _,trivial⟩ rfl,trivial⟩
 have hlists:zAP ll≤3∧zA0 ll≤2:=by omega
 have hok:=zJh ll k;have hnext:zBy ll (k+1)=zHb ll (decide (k<zAP ll)) (zBy ll k):=rfl
 obtain⟨s,hs⟩:∃s,zBy ll k=s:=⟨_,rfl⟩
 rw[hs]at hok hnext⊢;by_cases hkl:k<zAP ll+zA0 ll
 ·have hkl':(k:Int)<(zAP ll:Int)+zA0 ll:=by omega
  have hsa:=hok.at_;have hC:=hok.C;have hF:=hok.F;have hO:=hok.O;have hT:=hok.T
  obtain⟨b,hb⟩:∃b,decide (k<zAP ll)=b:=⟨_,rfl⟩
  rw[hb]at hnext;have hM3:=zMM ll b s;have hin:=fun j=>zJf ll (zMP ll (b:=b) hok) j
  refine vB [15,17,18] ?_;refine AWp.cut (
   zC 147 [(0,.c (lsL ll)),(2,.c (.pt 2 5 0 0)),(3,.c (.pt 19 2 0 0)),(4,.c (.pt 4 5 0 0)),(7,.c (iC (zAP ll))),(8,.c (iC (zA0 ll))),(9,.c (iC (s.at_))),(10,.c (.pt 10 3 0 0)),(11,.c (iC (k:Nat))),(12,.c (iC (zEv ll b s)))] [(2,⟨false,1,5,34,lF [nl8,nl8,nl8,nl8,nl8]⟩),(4,⟨false,1,5,34,lF [.ow 150,.ow 151,.ow 152,.ow 153,.ow 154]⟩),(19,dB ll (zCl ll b s)),(150,rdB (zAC ll (rdN ll)).2),(151,chB (s.C)),(152,bpB (s.F)),(153,bgB (s.O)),(154,bgB (s.T)),(10,⟨false,1,3,58,lF (bpC (s.base))⟩)] [2,4,19,150,151,152,153,154,10]
   ) ?_ (fun S1 hw1=>AWp.weak hw1 ?_)
  ·cases b with
   | true =>
     have hlt:(k:Int)<zAP ll:=by have:=of_decide_eq_true hb;omega
     have n1:=zC3 ll s.a 6 hok.a hN (by decide) (by decide);have hd:=zDN ll s.a 6 (by decide);have e1:zEv ll true s=zHz (dvA ll s.a 6):=rfl;have e2:zCl ll true s=nxA ll s.a:=rfl;rw[e2];generalize dvA ll s.a 6=x at n1 hd e1;have hx:x=0∨x=1∨x=2∨x=3∨x=4∨x=5:=by omega
     rcases hx with rfl|rfl|rfl|rfl|rfl|rfl
     ·repeat (first
       |refine vB [] ?_
       | (refine rG 19 ?_
          refine xE2 ?_;refine zAG [19] [dB ll s.a] [dB ll (nxA ll s.a)] rfl rfl rfl Tryz.func44 rfl xC (LendOk.box rfl rfl rfl trivial) rfl (LendImm.box rfl trivial) (n1) ?_;refine zG (aP (k:=0) zA) ?_;refine xE2 ?_;refine aB ?_))
      rw[e1]
      refine⟨rfl,Wk.mk [(2,some 2),(4,some 4),(19,some 19),(150,some 150),(151,some 151),(152,some 152),(153,some 153),(154,some 154),(10,some 10)] rfl rfl rfl ?_ ?_⟩
      ·repeat (first|exact trivial|refine⟨⟨_,rfl,by first|exact LeA.c (zDa rfl rfl)|exact leT⟩,?_⟩)
      ·exact⟨
       hSm,HeapOk.box rfl rfl ⟨LeC.ow _ _ rfl,LeC.ow _ _ rfl,LeC.ow _ _ rfl,LeC.ow _ _ rfl,LeC.ow _ _ rfl,trivial⟩ rfl,hSm,hrF zAF
       ,
       HeapOk.row rfl rfl rfl (fun i _=>zAa ⟨rfl,rfl⟩),hrF zAm,hrF zU,hrF zU,hSm,
       trivial⟩
     ·repeat (first
       |refine vB [] ?_
       | (refine rG 19 ?_
          refine xE2 ?_;refine zAG [19] [dB ll s.a] [dB ll (nxA ll s.a)] rfl rfl rfl Tryz.func44 rfl xC (LendOk.box rfl rfl rfl trivial) rfl (LendImm.box rfl trivial) (n1) ?_;refine zG (aP (k:=1) zA) ?_;refine xE2 ?_;refine aB ?_))
      rw[e1]
      refine⟨rfl,Wk.mk [(2,some 2),(4,some 4),(19,some 19),(150,some 150),(151,some 151),(152,some 152),(153,some 153),(154,some 154),(10,some 10)] rfl rfl rfl ?_ ?_⟩
      ·repeat (first|exact trivial|refine⟨⟨_,rfl,by first|exact LeA.c (zDa rfl rfl)|exact leT⟩,?_⟩)
      ·exact⟨
       hSm,HeapOk.box rfl rfl ⟨LeC.ow _ _ rfl,LeC.ow _ _ rfl,LeC.ow _ _ rfl,LeC.ow _ _ rfl,LeC.ow _ _ rfl,trivial⟩ rfl,hSm,hrF zAF
       ,
       HeapOk.row rfl rfl rfl (fun i _=>zAa ⟨rfl,rfl⟩),hrF zAm,hrF zU,hrF zU,hSm,
       trivial⟩
     ·repeat (first
       |refine vB [] ?_
       | (refine rG 19 ?_
          refine xE2 ?_;refine zAG [19] [dB ll s.a] [dB ll (nxA ll s.a)] rfl rfl rfl Tryz.func44 rfl xC (LendOk.box rfl rfl rfl trivial) rfl (LendImm.box rfl trivial) (n1) ?_;refine zG (aP (k:=2) zA) ?_;refine xE2 ?_;refine aB ?_))
      rw[e1]
      refine⟨rfl,Wk.mk [(2,some 2),(4,some 4),(19,some 19),(150,some 150),(151,some 151),(152,some 152),(153,some 153),(154,some 154),(10,some 10)] rfl rfl rfl ?_ ?_⟩
      ·repeat (first|exact trivial|refine⟨⟨_,rfl,by first|exact LeA.c (zDa rfl rfl)|exact leT⟩,?_⟩)
      ·exact⟨
       hSm,HeapOk.box rfl rfl ⟨LeC.ow _ _ rfl,LeC.ow _ _ rfl,LeC.ow _ _ rfl,LeC.ow _ _ rfl,LeC.ow _ _ rfl,trivial⟩ rfl,hSm,hrF zAF
       ,
       HeapOk.row rfl rfl rfl (fun i _=>zAa ⟨rfl,rfl⟩),hrF zAm,hrF zU,hrF zU,hSm,
       trivial⟩
     ·repeat (first
       |refine vB [] ?_
       | (refine rG 19 ?_
          refine xE2 ?_;refine zAG [19] [dB ll s.a] [dB ll (nxA ll s.a)] rfl rfl rfl Tryz.func44 rfl xC (LendOk.box rfl rfl rfl trivial) rfl (LendImm.box rfl trivial) (n1) ?_;refine zG (aP (k:=3) zA) ?_;refine xE2 ?_;refine aB ?_))
      rw[e1]
      refine⟨rfl,Wk.mk [(2,some 2),(4,some 4),(19,some 19),(150,some 150),(151,some 151),(152,some 152),(153,some 153),(154,some 154),(10,some 10)] rfl rfl rfl ?_ ?_⟩
      ·repeat (first|exact trivial|refine⟨⟨_,rfl,by first|exact LeA.c (zDa rfl rfl)|exact leT⟩,?_⟩)
      ·exact⟨
       hSm,HeapOk.box rfl rfl ⟨LeC.ow _ _ rfl,LeC.ow _ _ rfl,LeC.ow _ _ rfl,LeC.ow _ _ rfl,LeC.ow _ _ rfl,trivial⟩ rfl,hSm,hrF zAF
       ,
       HeapOk.row rfl rfl rfl (fun i _=>zAa ⟨rfl,rfl⟩),hrF zAm,hrF zU,hrF zU,hSm,
       trivial⟩
     ·repeat (first
       |refine vB [] ?_
       | (refine rG 19 ?_
          refine xE2 ?_;refine zAG [19] [dB ll s.a] [dB ll (nxA ll s.a)] rfl rfl rfl Tryz.func44 rfl xC (LendOk.box rfl rfl rfl trivial) rfl (LendImm.box rfl trivial) (n1) ?_;refine zG (aP (k:=4) zA) ?_;refine xE2 ?_;refine aB ?_))
      rw[e1]
      refine⟨rfl,Wk.mk [(2,some 2),(4,some 4),(19,some 19),(150,some 150),(151,some 151),(152,some 152),(153,some 153),(154,some 154),(10,some 10)] rfl rfl rfl ?_ ?_⟩
      ·repeat (first|exact trivial|refine⟨⟨_,rfl,by first|exact LeA.c (zDa rfl rfl)|exact leT⟩,?_⟩)
      ·exact⟨
       hSm,HeapOk.box rfl rfl ⟨LeC.ow _ _ rfl,LeC.ow _ _ rfl,LeC.ow _ _ rfl,LeC.ow _ _ rfl,LeC.ow _ _ rfl,trivial⟩ rfl,hSm,hrF zAF
       ,
       HeapOk.row rfl rfl rfl (fun i _=>zAa ⟨rfl,rfl⟩),hrF zAm,hrF zU,hrF zU,hSm,
       trivial⟩
     ·repeat (first
       |refine vB [] ?_
       | (refine rG 19 ?_
          refine xE2 ?_;refine zAG [19] [dB ll s.a] [dB ll (nxA ll s.a)] rfl rfl rfl Tryz.func44 rfl xC (LendOk.box rfl rfl rfl trivial) rfl (LendImm.box rfl trivial) (n1) ?_;refine zG (aP (k:=5) zA) ?_;refine xE2 ?_;refine aB ?_))
      rw[e1]
      refine⟨rfl,Wk.mk [(2,some 2),(4,some 4),(19,some 19),(150,some 150),(151,some 151),(152,some 152),(153,some 153),(154,some 154),(10,some 10)] rfl rfl rfl ?_ ?_⟩
      ·repeat (first|exact trivial|refine⟨⟨_,rfl,by first|exact LeA.c (zDa rfl rfl)|exact leT⟩,?_⟩)
      ·exact⟨
       hSm,HeapOk.box rfl rfl ⟨LeC.ow _ _ rfl,LeC.ow _ _ rfl,LeC.ow _ _ rfl,LeC.ow _ _ rfl,LeC.ow _ _ rfl,trivial⟩ rfl,hSm,hrF zAF
       ,
       HeapOk.row rfl rfl rfl (fun i _=>zAa ⟨rfl,rfl⟩),hrF zAm,hrF zU,hrF zU,hSm,
       trivial⟩
   | false=>
     have hlt:¬(k:Int)<zAP ll:=by have:=of_decide_eq_false hb;omega
     refine vB [] ?_
     refine⟨rfl,Wk.mk [(2,some 2),(4,some 4),(19,some 19),(150,some 150),(151,some 151),(152,some 152),(153,some 153),(154,some 154),(10,some 10)] rfl rfl rfl ?_ ?_⟩
     ·exact zB
     ·exact⟨
      hSm,HeapOk.box rfl rfl ⟨LeC.ow _ _ rfl,LeC.ow _ _ rfl,LeC.ow _ _ rfl,LeC.ow _ _ rfl,LeC.ow _ _ rfl,trivial⟩ rfl,hSm,hrF zAF
      ,
      HeapOk.row rfl rfl rfl (fun i _=>zAa ⟨rfl,rfl⟩),hrF zAm,hrF zU,hrF zU,hSm,
      trivial⟩
  obtain⟨M,hM⟩:∃M,zEv ll b s=M:=⟨_,rfl⟩
  have hI:moI ll b s=zCI ll M ⟨zCl ll b s,s.at_,s.base,[]⟩:=by rw[←hM];rfl
  rw[hM]at hM3⊢;refine vB [20,21] ?_;refine AWp.round (fun j:Nat=>
   zC 147 [(0,.c (lsL ll)),(2,.c (.pt 2 5 0 0)),(3,.c (.pt 19 2 0 0)),(4,.c (.pt 4 5 0 0)),(7,.c (iC (zAP ll))),(8,.c (iC (zA0 ll))),(9,.c (iC ((zCI ll j ⟨zCl ll b s,s.at_,s.base,[]⟩)).at_)),(10,.c (.pt 10 3 0 0)),(11,.c (iC (k:Nat))),(12,.c (iC M)),(13,.c (.ow 155)),(14,.c (iC (j:Nat)))] [(2,⟨false,1,5,34,lF [nl8,nl8,nl8,nl8,nl8]⟩),(4,⟨false,1,5,34,lF [.ow 150,.ow 151,.ow 152,.ow 153,.ow 154]⟩),(19,dB ll ((zCI ll j ⟨zCl ll b s,s.at_,s.base,[]⟩)).a),(150,rdB (zAC ll (rdN ll)).2),(151,chB s.C),(152,bpB s.F),(153,bgB s.O),(154,bgB s.T),(10,⟨false,1,3,58,lF (bpC ((zCI ll j ⟨zCl ll b s,s.at_,s.base,[]⟩)).base)⟩),(155,bpB ((zCI ll j ⟨zCl ll b s,s.at_,s.base,[]⟩)).chs)] [2,4,19,150,151,152,153,154,10,155]
   ) (fun j=>j≤M) (fun j=>M-j) 0 (Nat.zero_le _) ?_ (fun j hj=> ?_)
  ·refine Wk.mk [(2,some 2),(4,some 4),(19,some 19),(150,some 150),(151,some 151),(152,some 152),(153,some 153),(154,some 154),(10,some 10),(155,none)] rfl rfl rfl ?_ ?_
   ·exact zB
   ·exact⟨
    hSm,HeapOk.box rfl rfl ⟨LeC.ow _ _ rfl,LeC.ow _ _ rfl,LeC.ow _ _ rfl,LeC.ow _ _ rfl,LeC.ow _ _ rfl,trivial⟩ rfl,hSm,hrF zAF
    ,
    HeapOk.row rfl rfl rfl (fun i _=>zAa ⟨rfl,rfl⟩),hrF zAm,hrF zU,hrF zU,hSm,
    HeapOk.nil rfl rfl,trivial⟩
  obtain⟨i1,i2,i3,i4,i5⟩:=hin j
  have hnx:zCI ll (j+1) ⟨zCl ll b s,s.at_,s.base,[]⟩=zFR ll (zCI ll j ⟨zCl ll b s,s.at_,s.base,[]⟩):=rfl
  obtain⟨i,hi⟩:∃i,zCI ll j ⟨zCl ll b s,s.at_,s.base,[]⟩=i:=⟨_,rfl⟩
  rw[hi]at i1 i2 i3 i4 i5 hnx⊢;by_cases hjl:j<M
  ·have hjl':(j:Int)<M:=by omega
   have hN65:=zFn 6 5 30 xD xD rfl xD
   repeat (first
    |refine vB [22] ?_
    | (refine rG 24 ?_
       refine zFf rfl rfl rfl rfl rfl Tryz.func46 rfl xC (hN65) (fun _ _ _ _=>rfl) ?_;refine xE6 ?_;refine aB ?_))
   refine AWp.weak (S':=
    zC 147 [(0,.c (lsL ll)),(2,.c (.pt 2 5 0 0)),(3,.c (.pt 19 2 0 0)),(4,.c (.pt 4 5 0 0)),(7,.c (iC (zAP ll))),(8,.c (iC (zA0 ll))),(9,.c (iC ((i)).at_)),(10,.c (.pt 10 3 0 0)),(11,.c (iC (k:Nat))),(12,.c (iC M)),(13,.c (.ow 155)),(14,.c (iC (j:Nat))),(15,.c (.pt 15 3 0 0))] [(2,⟨false,1,5,34,lF [nl8,nl8,nl8,nl8,nl8]⟩),(4,⟨false,1,5,34,lF [.ow 150,.ow 151,.ow 152,.ow 153,.ow 154]⟩),(19,dB ll ((i)).a),(150,rdB (zAC ll (rdN ll)).2),(151,chB s.C),(152,bpB s.F),(153,bgB s.O),(154,bgB s.T),(10,⟨false,1,3,58,lF (bpC ((i)).base)⟩),(155,bpB ((i)).chs),(15,⟨false,1,3,58,lF (bpC (zAY fun _=>false))⟩)] [2,4,19,150,151,152,153,154,10,155,15]
    ) (Wk.mk [(2,some 2),(4,some 4),(19,some 19),(150,some 150),(151,some 151),(152,some 152),(153,some 153),(154,some 154),(10,some 10),(155,some 155),(15,some 15)] rfl rfl rfl ?_ ?_) ?_
   ·exact zB
   ·exact⟨
    hSm,HeapOk.box rfl rfl ⟨LeC.ow _ _ rfl,LeC.ow _ _ rfl,LeC.ow _ _ rfl,LeC.ow _ _ rfl,LeC.ow _ _ rfl,trivial⟩ rfl,hSm,hrF zAF
    ,
    HeapOk.row rfl rfl rfl (fun i _=>zAa ⟨rfl,rfl⟩),hrF zAm,hrF zU,hrF zU,hSm,
    hrF zAm,HeapOk.box rfl rfl ⟨LeC.int rfl,LeC.int rfl,zZ rfl rfl rfl (fun i _=>zAa ⟨rfl,rfl⟩),trivial⟩ rfl,trivial⟩
   refine vB [25] ?_;refine AWp.cut (
    zC 147 [(0,.c (lsL ll)),(2,.c (.pt 2 5 0 0)),(3,.c (.pt 19 2 0 0)),(4,.c (.pt 4 5 0 0)),(7,.c (iC (zAP ll))),(8,.c (iC (zA0 ll))),(9,.c (iC ((i)).at_)),(10,.c (.pt 10 3 0 0)),(11,.c (iC (k:Nat))),(12,.c (iC M)),(13,.c (.ow 155)),(14,.c (iC (j:Nat))),(15,.c (.pt 15 3 0 0))] [(2,⟨false,1,5,34,lF [nl8,nl8,nl8,nl8,nl8]⟩),(4,⟨false,1,5,34,lF [.ow 150,.ow 151,.ow 152,.ow 153,.ow 154]⟩),(19,dB ll ((i)).a),(150,rdB (zAC ll (rdN ll)).2),(151,chB s.C),(152,bpB s.F),(153,bgB s.O),(154,bgB s.T),(10,⟨false,1,3,58,lF (bpC ((i)).base)⟩),(155,bpB ((i)).chs),(15,⟨false,1,3,58,lF (bpC (zAY (mdD ll i.at_)))⟩)] [2,4,19,150,151,152,153,154,10,155,15]
    ) ?_ (fun S1 hw1=>AWp.weak hw1 ?_)
   ·by_cases hat:i.at_<ll.length
    ·have hat':(i.at_:Int)<ll.length:=by omega
     obtain⟨L,hL⟩:∃L,ll.getD i.at_ []=L:=⟨_,rfl⟩
     have hD:mdD ll i.at_=zDj (mdW (mkN L) (g16 (fI L))) (mdH (mkN L) (g16 (fI L))) (mdF (mkN L) (g16 (fI L)) (mdW (mkN L) (g16 (fI L))) (mdH (mkN L) (g16 (fI L))) 12 (dat (mkN L) (dat (mkN L) 0),fun _=>false)) 0 0 6:=by unfold mdD;rw[if_pos hat,hL]
     have hLl:=hk8 i.at_ hat;rw[hL]at hLl;have hcL:(fun (k _:Nat)=>lsI (ll.getD k [])) i.at_ 0=lsI L:=by rw[←hL]
     have m1:=zKL (mkN L) (g16 (fI L)) (by show 2+L.length≤_;omega)
     have c1:ACalls Tryz.prog 47 [.ag (bpC (mdV (mkN L) (g16 (fI L)))),.c (iC 0),.c (iC 0),.c (iC 6),.c (iC 5)] (.tu [.ag (bpC (zAY (mdD ll i.at_))),.c (iC 0)]):=by
      rw[hD];exact zOJ (mkN L) (g16 (fI L)) 6 5 (by decide) (by decide)
     clear hD;generalize mdV (mkN L) (g16 (fI L))=v at m1 c1;generalize mdD ll i.at_=D at c1⊢;have hgF:=zQr (fI L) L.length;refine vB [] ?_;refine AWp.text ?_;refine AText.split 6 ?_;refine zF1 (zHG zA) ?_;refine xE2 ?_;refine zG (aP (k:=i.at_) zA) ?_;refine zY zA (hcL) rfl rfl rfl rfl rfl oM ?_;refine zBb zA rfl rfl rfl rfl rfl rfl rfl rfl rfl rfl oM oM ?_;refine aB ?_;refine AText.weak (S':=
      zC 147 [(0,.c (lsL ll)),(2,.c (.pt 2 5 0 0)),(3,.c (.pt 19 2 0 0)),(4,.c (.pt 4 5 0 0)),(7,.c (iC (zAP ll))),(8,.c (iC (zA0 ll))),(9,.c (iC ((i)).at_)),(10,.c (.pt 10 3 0 0)),(11,.c (iC (k:Nat))),(12,.c (iC M)),(13,.c (.ow 155)),(14,.c (iC (j:Nat))),(15,.c (.pt 15 3 0 0)),(85,.c (.ls (mkN L) 1 (iF (g16 (fI L)))))] [(2,⟨false,1,5,34,lF [nl8,nl8,nl8,nl8,nl8]⟩),(4,⟨false,1,5,34,lF [.ow 150,.ow 151,.ow 152,.ow 153,.ow 154]⟩),(19,dB ll ((i)).a),(150,rdB (zAC ll (rdN ll)).2),(151,chB s.C),(152,bpB s.F),(153,bgB s.O),(154,bgB s.T),(10,⟨false,1,3,58,lF (bpC ((i)).base)⟩),(155,bpB ((i)).chs),(15,⟨false,1,3,58,lF (bpC (zAY fun _=>false))⟩)] [2,4,19,150,151,152,153,154,10,155,15]
      ) (Wk.mk [(2,some 2),(4,some 4),(19,some 19),(150,some 150),(151,some 151),(152,some 152),(153,some 153),(154,some 154),(10,some 10),(155,some 155),(15,some 15)] rfl rfl rfl ?_ ?_) ?_
     ·repeat (first|exact trivial|refine⟨⟨_,rfl,by first|exact LeA.c (zZ rfl rfl rfl hgF)|exact leT⟩,?_⟩)
     ·exact⟨
      hSm,HeapOk.box rfl rfl ⟨LeC.ow _ _ rfl,LeC.ow _ _ rfl,LeC.ow _ _ rfl,LeC.ow _ _ rfl,LeC.ow _ _ rfl,trivial⟩ rfl,hSm,hrF zAF
      ,
      HeapOk.row rfl rfl rfl (fun i _=>zAa ⟨rfl,rfl⟩),hrF zAm,hrF zU,hrF zU,hSm,
      hrF zAm,hSm,trivial⟩
     refine AText.all ?_;refine xB Tryz.func23 m1 ?_;refine xB Tryz.func47 c1 ?_;refine xE4 ?_;refine aB ?_
     refine⟨rfl,Wk.mk [(2,some 2),(4,some 4),(19,some 19),(150,some 150),(151,some 151),(152,some 152),(153,some 153),(154,some 154),(10,some 10),(155,some 155),(15,some 15)] rfl rfl rfl ?_ ?_⟩
     ·exact zB
     ·exact⟨
      hSm,HeapOk.box rfl rfl ⟨LeC.ow _ _ rfl,LeC.ow _ _ rfl,LeC.ow _ _ rfl,LeC.ow _ _ rfl,LeC.ow _ _ rfl,trivial⟩ rfl,hSm,hrF zAF
      ,
      HeapOk.row rfl rfl rfl (fun i _=>zAa ⟨rfl,rfl⟩),hrF zAm,hrF zU,hrF zU,hSm,
      hrF zAm,hSm,trivial⟩
    ·have hat':¬(i.at_:Int)<ll.length:=by omega
     have hD:mdD ll i.at_=fun _=>false:=by unfold mdD;rw[if_neg hat]
     rw[hD];refine vB [] ?_
     refine⟨rfl,Wk.mk [(2,some 2),(4,some 4),(19,some 19),(150,some 150),(151,some 151),(152,some 152),(153,some 153),(154,some 154),(10,some 10),(155,some 155),(15,some 15)] rfl rfl rfl ?_ ?_⟩
     ·exact zB
     ·exact⟨
      hSm,HeapOk.box rfl rfl ⟨LeC.ow _ _ rfl,LeC.ow _ _ rfl,LeC.ow _ _ rfl,LeC.ow _ _ rfl,LeC.ow _ _ rfl,trivial⟩ rfl,hSm,hrF zAF
      ,
      HeapOk.row rfl rfl rfl (fun i _=>zAa ⟨rfl,rfl⟩),hrF zAm,hrF zU,hrF zU,hSm,
      hrF zAm,hSm,trivial⟩
   have n1:=zC3 ll i.a 3 i1 hN (by decide) (by decide);have hD:miD ll i=if dvA ll i.a 3=0 then zEA (mdD ll i.at_) i.base.W i.base.H i.base.d else mdD ll i.at_:=rfl
   have hat:i.at_≤100:=by omega
   have hP:=zOX (mdD ll i.at_) i.base.W i.base.H i.base.n i.base.d i3;refine uA ?_
   repeat (first
    |refine vB [27] ?_
    | (refine rG 28 ?_
       refine vA ?_;refine zAG [19] [dB ll i.a] [dB ll (nxA ll i.a)] rfl rfl rfl Tryz.func44 rfl xC (LendOk.box rfl rfl rfl trivial) rfl (LendImm.box rfl trivial) (n1) ?_;refine vA ?_;refine aB ?_))
   refine AWp.cut (
    zC 147 [(0,.c (lsL ll)),(2,.c (.pt 2 5 0 0)),(3,.c (.pt 19 2 0 0)),(4,.c (.pt 4 5 0 0)),(7,.c (iC (zAP ll))),(8,.c (iC (zA0 ll))),(9,.c (iC (((i)).at_+1))),(10,.c (.pt 10 3 0 0)),(11,.c (iC (k:Nat))),(12,.c (iC M)),(13,.c (.ow 155)),(14,.c (iC (j:Nat))),(15,.c (.pt 15 3 0 0))] [(2,⟨false,1,5,34,lF [nl8,nl8,nl8,nl8,nl8]⟩),(4,⟨false,1,5,34,lF [.ow 150,.ow 151,.ow 152,.ow 153,.ow 154]⟩),(19,dB ll (nxA ll (i).a)),(150,rdB (zAC ll (rdN ll)).2),(151,chB s.C),(152,bpB s.F),(153,bgB s.O),(154,bgB s.T),(10,⟨false,1,3,58,lF (bpC ((i)).base)⟩),(155,bpB ((i)).chs),(15,⟨false,1,3,58,lF (bpC (zAY (miD ll i)))⟩)] [2,4,19,150,151,152,153,154,10,155,15]
    ) ?_ (fun S1 hw1=>AWp.weak hw1 ?_)
   ·generalize dvA ll i.a 3=x at hD
    by_cases hx:x=0
    ·rw [if_pos hx]at hD
     rw[hD]
     repeat (first
      |refine vB [] ?_
      | (refine rG 29 ?_
         refine xE2 ?_;refine xB Tryz.func48 hP ?_;refine vA ?_;refine aB ?_))
     refine⟨rfl,Wk.mk [(2,some 2),(4,some 4),(19,some 19),(150,some 150),(151,some 151),(152,some 152),(153,some 153),(154,some 154),(10,some 10),(155,some 155),(15,some 15)] rfl rfl rfl ?_ ?_⟩
     ·exact zB
     ·exact⟨
      hSm,HeapOk.box rfl rfl ⟨LeC.ow _ _ rfl,LeC.ow _ _ rfl,LeC.ow _ _ rfl,LeC.ow _ _ rfl,LeC.ow _ _ rfl,trivial⟩ rfl,hSm,hrF zAF
      ,
      HeapOk.row rfl rfl rfl (fun i _=>zAa ⟨rfl,rfl⟩),hrF zAm,hrF zU,hrF zU,hSm,
      hrF zAm,hSm,trivial⟩
    ·rw[if_neg hx]at hD
     rw[hD];refine vB [] ?_
     refine⟨rfl,Wk.mk [(2,some 2),(4,some 4),(19,some 19),(150,some 150),(151,some 151),(152,some 152),(153,some 153),(154,some 154),(10,some 10),(155,some 155),(15,some 15)] rfl rfl rfl ?_ ?_⟩
     ·exact zB
     ·exact⟨
      hSm,HeapOk.box rfl rfl ⟨LeC.ow _ _ rfl,LeC.ow _ _ rfl,LeC.ow _ _ rfl,LeC.ow _ _ rfl,LeC.ow _ _ rfl,trivial⟩ rfl,hSm,hrF zAF
      ,
      HeapOk.row rfl rfl rfl (fun i _=>zAa ⟨rfl,rfl⟩),hrF zAm,hrF zU,hrF zU,hSm,
      hrF zAm,hSm,trivial⟩
   clear hP hD n1 hN65;refine uA ?_;refine vB [30] ?_;refine AWp.cut (
    zC 147 [(0,.c (lsL ll)),(2,.c (.pt 2 5 0 0)),(3,.c (.pt 19 2 0 0)),(4,.c (.pt 4 5 0 0)),(7,.c (iC (zAP ll))),(8,.c (iC (zA0 ll))),(9,.c (iC (((i)).at_+1))),(10,.c (.pt 10 3 0 0)),(11,.c (iC (k:Nat))),(12,.c (iC M)),(13,.c (.ow 155)),(14,.c (iC (j:Nat))),(15,.c (.pt 15 3 0 0))] [(2,⟨false,1,5,34,lF [nl8,nl8,nl8,nl8,nl8]⟩),(4,⟨false,1,5,34,lF [.ow 150,.ow 151,.ow 152,.ow 153,.ow 154]⟩),(19,dB ll (nxA ll (i).a)),(150,rdB (zAC ll (rdN ll)).2),(151,chB s.C),(152,bpB s.F),(153,bgB s.O),(154,bgB s.T),(10,⟨false,1,3,58,lF (bpC ((if i.chs= []then zAY (miD ll i)else i.base)))⟩),(155,bpB ((i)).chs),(15,⟨false,1,3,58,lF (bpC (zAY (miD ll i)))⟩)] [2,4,19,150,151,152,153,154,10,155,15]
    ) ?_ (fun S1 hw1=>AWp.weak hw1 ?_)
   ·by_cases hj0:j=0
    ·have hc0:((i.chs.length:Nat):Int)=0:=by omega
     rw[if_pos (List.eq_nil_of_length_eq_zero xD)];refine vB [31] ?_
     refine⟨rfl,Wk.mk [(2,some 2),(4,some 4),(19,some 19),(150,some 150),(151,some 151),(152,some 152),(153,some 153),(154,some 154),(10,some 10),(155,some 155),(15,some 15)] rfl rfl rfl ?_ ?_⟩
     ·exact zB
     ·exact⟨
      hSm,HeapOk.box rfl rfl ⟨LeC.ow _ _ rfl,LeC.ow _ _ rfl,LeC.ow _ _ rfl,LeC.ow _ _ rfl,LeC.ow _ _ rfl,trivial⟩ rfl,hSm,hrF zAF
      ,
      HeapOk.row rfl rfl rfl (fun i _=>zAa ⟨rfl,rfl⟩),hrF zAm,hrF zU,hrF zU,hSm,
      hrF zAm,hSm,trivial⟩
    ·have hc0:¬((i.chs.length:Nat):Int)=0:=by omega
     rw[if_neg (fun h=>hj0 (by rw[h]at i4;exact i4.symm))]
     refine vB [] ?_
     refine⟨rfl,Wk.mk [(2,some 2),(4,some 4),(19,some 19),(150,some 150),(151,some 151),(152,some 152),(153,some 153),(154,some 154),(10,some 10),(155,some 155),(15,some 15)] rfl rfl rfl ?_ ?_⟩
     ·exact zB
     ·exact⟨
      hSm,HeapOk.box rfl rfl ⟨LeC.ow _ _ rfl,LeC.ow _ _ rfl,LeC.ow _ _ rfl,LeC.ow _ _ rfl,LeC.ow _ _ rfl,trivial⟩ rfl,hSm,hrF zAF
      ,
      HeapOk.row rfl rfl rfl (fun i _=>zAa ⟨rfl,rfl⟩),hrF zAm,hrF zU,hrF zU,hSm,
      hrF zAm,hSm,trivial⟩
   replace hnx:zCI ll (j+1) ⟨zCl ll b s,s.at_,s.base,[]⟩=⟨nxA ll i.a,i.at_+1,if i.chs= []then zAY (miD ll i)else i.base,i.chs++ [zAY (miD ll i)]⟩:=hnx
   generalize (if i.chs= []then zAY (miD ll i)else i.base)=nb at hnx⊢
   repeat (first
    |refine vB [23] ?_
    | (refine rG 32 ?_
       refine xE3 ?_;refine zBb zA rfl rfl rfl rfl rfl rfl rfl rfl rfl rfl oM oM ?_;refine vA ?_;refine aB ?_))
   refine⟨j+1,hjl,?_,by omega⟩
   rw[hnx];refine Wk.mk [(2,some 2),(4,some 4),(19,some 19),(150,some 150),(151,some 151),(152,some 152),(153,some 153),(154,some 154),(10,some 10),(155,some 105)] rfl rfl rfl ?_ ?_
   ·exact zB
   ·exact⟨
    hSm,HeapOk.box rfl rfl ⟨LeC.ow _ _ rfl,LeC.ow _ _ rfl,LeC.ow _ _ rfl,LeC.ow _ _ rfl,LeC.ow _ _ rfl,trivial⟩ rfl,hSm,hrF zAF
    ,
    HeapOk.row rfl rfl rfl (fun i _=>zAa ⟨rfl,rfl⟩),hrF zAm,hrF zU,hrF zU,hSm,
    HeapOk.row rfl rfl List.length_append (zBh _ _ zAm rfl),trivial⟩
  have hjl':¬(j:Int)<M:=by omega
  obtain rfl:M=j:=by omega
  rw[hi]at hI;have n1:=zC3 ll i.a 3 i1 hN (by decide) (by decide);have n2:=zC3 ll (nxA ll i.a) 3 (zBE ll i1) hN (by decide) (by decide);have n3:=zC3 ll (nxA ll (nxA ll i.a)) 4 (zBE ll (zBE ll i1)) hN (by decide) (by decide);have n4:=zC3 ll (nxA ll (nxA ll (nxA ll i.a))) 3 (zBE ll (zBE ll (zBE ll i1))) hN (by decide) (by decide);have d3:=zDN ll (nxA ll (nxA ll i.a)) 4 (by decide);have hB:ACalls Tryz.prog 49 [.c (.ls 4 1 (sF [iC (dvA ll i.a 3),iC (dvA ll (nxA ll i.a) 3),iC (dvA ll (nxA ll (nxA ll i.a)) 4/3),iC (dvA ll (nxA ll (nxA ll (nxA ll i.a))) 3)] 1))] (.ag (bgC (zDK ll i.a))):=
   (zOA 4 (zLn ll i.a) (by decide)).cv ⟨.c (zHR fun k hk=>by
     have:k=0∨k=1∨k=2∨k=3:=by omega
     rcases this with rfl|rfl|rfl|rfl<;>rfl),trivial⟩
  have hat:i.at_≤100:=by omega
  repeat (first
   |refine vB [22] ?_
   | (refine rG 33 ?_
      refine vA ?_;refine zAG [19] [dB ll i.a] [dB ll (nxA ll i.a)] rfl rfl rfl Tryz.func44 rfl xC (LendOk.box rfl rfl rfl trivial) rfl (LendImm.box rfl trivial) (n1) ?_;refine vA ?_;refine zAG [19] [dB ll (nxA ll i.a)] [dB ll (nxA ll (nxA ll i.a))] rfl rfl rfl Tryz.func44 rfl xC (LendOk.box rfl rfl rfl trivial) rfl (LendImm.box rfl trivial) (n2) ?_;refine vA ?_;refine zAG [19] [dB ll (nxA ll (nxA ll i.a))] [dB ll (nxA ll (nxA ll (nxA ll i.a)))] rfl rfl rfl Tryz.func44 rfl xC (LendOk.box rfl rfl rfl trivial) rfl (LendImm.box rfl trivial) (n3) ?_;refine xE2 ?_;refine zAG [19] [dB ll (nxA ll (nxA ll (nxA ll i.a)))] [dB ll (nxA ll (nxA ll (nxA ll (nxA ll i.a))))] rfl rfl rfl Tryz.func44 rfl xC (LendOk.box rfl rfl rfl trivial) rfl (LendImm.box rfl trivial) (n4) ?_;refine vA ?_;refine xB Tryz.func49 hB ?_;refine xE2 ?_;refine aB ?_))
  refine AWp.weak (S':=
   zC 147 [(0,.c (lsL ll)),(2,.c (.pt 2 5 0 0)),(3,.c (.pt 19 2 0 0)),(4,.c (.pt 4 5 0 0)),(7,.c (iC (zAP ll))),(8,.c (iC (zA0 ll))),(9,.c (iC (i.at_))),(10,.c (.pt 10 3 0 0)),(11,.c (iC (k:Nat))),(13,.c (lsB i.chs)),(17,.c (.pt 17 4 0 0))] [(2,⟨false,1,5,34,lF [nl8,nl8,nl8,nl8,nl8]⟩),(4,⟨false,1,5,34,lF [.ow 150,.ow 151,.ow 152,.ow 153,.ow 154]⟩),(19,dB ll (nxA ll (nxA ll (nxA ll (nxA ll i.a))))),(150,rdB (zAC ll (rdN ll)).2),(151,chB (s.C)),(152,bpB (s.F)),(153,bgB (s.O)),(154,bgB (s.T)),(10,⟨false,1,3,58,lF (bpC (i.base))⟩),(17,⟨false,1,4,61,lF (bgC (zDK ll i.a))⟩)] [2,4,19,150,151,152,153,154,10,17]
   ) (Wk.mk [(2,some 2),(4,some 4),(19,some 19),(150,some 150),(151,some 151),(152,some 152),(153,some 153),(154,some 154),(10,some 10),(17,some 17)] rfl rfl rfl ?_ ?_) ?_
  ·repeat (first|exact trivial|refine⟨⟨_,rfl,by first|exact LeA.c (zZ rfl rfl rfl (fun i _ j _=>⟨rfl,zL zAm _ i j⟩))|exact leT⟩,?_⟩)
  ·exact⟨
   hSm,HeapOk.box rfl rfl ⟨LeC.ow _ _ rfl,LeC.ow _ _ rfl,LeC.ow _ _ rfl,LeC.ow _ _ rfl,LeC.ow _ _ rfl,trivial⟩ rfl,hSm,hrF zAF
   ,
   HeapOk.row rfl rfl rfl (fun i _=>zAa ⟨rfl,rfl⟩),hrF zAm,hrF zU,hrF zU,hSm,
   hSm,trivial⟩
  clear hB n1 n2 n3 n4;have hcl:i.chs.length≤3:=by omega
  cases b with
  | true=>
    have hlt:(k:Int)<zAP ll:=by have:=of_decide_eq_true hb;omega
    replace hnext:zBy ll (k+1)=⟨nxA ll (nxA ll (nxA ll (nxA ll (moI ll true s).a))),(moI ll true s).at_,(moI ll true s).base,s.C++ [(moI ll true s).chs],s.O++ [zDK ll (moI ll true s).a],s.F,s.T⟩:=hnext
    rw[hI]at hnext;generalize zDK ll i.a=bv at *
    repeat (first
     |refine vB [16,34] ?_
     | (refine rG 35 ?_
        refine xE4 ?_;refine zBb zA rfl rfl rfl rfl rfl rfl rfl rfl rfl rfl oM oM ?_;refine xE2 ?_;refine aB ?_)
     | (refine rG 36 ?_
        refine xE4 ?_;refine zBb zA rfl rfl rfl rfl rfl rfl rfl rfl rfl rfl oM oM ?_;refine xE2 ?_;refine aB ?_))
    refine⟨k+1,hkl,?_,by omega⟩
    rw[hnext];refine Wk.mk [(2,some 2),(4,some 4),(19,some 19),(150,some 150),(151,some 124),(152,some 152),(153,some 130),(154,some 154),(10,some 10)] rfl rfl rfl ?_ ?_
    ·exact zB
    ·exact⟨
     hSm,HeapOk.box rfl rfl ⟨LeC.ow _ _ rfl,LeC.ow _ _ rfl,LeC.ow _ _ rfl,LeC.ow _ _ rfl,LeC.ow _ _ rfl,trivial⟩ rfl,hSm,hrF zAF
     ,HeapOk.row rfl rfl List.length_append (zDs _ _),hrF zAm,HeapOk.row rfl rfl List.length_append (zBh _ _ zU rfl),hrF zU,hSm,trivial⟩
  | false=>
    have hlt:¬(k:Int)<zAP ll:=by have:=of_decide_eq_false hb;omega
    have hM1:M=1:=hM.symm;have hcl1:0<i.chs.length:=by omega
    replace hnext:zBy ll (k+1)=⟨nxA ll (nxA ll (nxA ll (nxA ll (moI ll false s).a))),(moI ll false s).at_,(moI ll false s).base,s.C,s.O,s.F++ [(moI ll false s).chs.getD 0 bpZ],s.T++ [zDK ll (moI ll false s).a]⟩:=hnext
    rw[hI]at hnext;generalize zDK ll i.a=bv at *
    repeat (first
     |refine vB [16,34] ?_
     |(refine AWp.draw (id:=37) zK ?_;refine xE3 ?_;refine zG (aP (k:=0) zA) ?_;refine xE2 ?_;refine zBb zA rfl rfl rfl rfl rfl rfl rfl rfl rfl rfl oM oM ?_;refine xE2 ?_;refine aB ⟨by kernel_rfl,?_⟩)
     | (refine rG 38 ?_
        refine xE4 ?_;refine zBb zA rfl rfl rfl rfl rfl rfl rfl rfl rfl rfl oM oM ?_;refine xE2 ?_;refine aB ?_))
    refine⟨k+1,hkl,?_,by omega⟩
    rw[hnext];refine Wk.mk [(2,some 2),(4,some 4),(19,some 19),(150,some 150),(151,some 151),(152,some 138),(153,some 153),(154,some 144),(10,some 10)] rfl rfl rfl ?_ ?_
    ·exact zB
    ·exact⟨
     hSm,HeapOk.box rfl rfl ⟨LeC.ow _ _ rfl,LeC.ow _ _ rfl,LeC.ow _ _ rfl,LeC.ow _ _ rfl,LeC.ow _ _ rfl,trivial⟩ rfl,hSm,hrF zAF
     ,HeapOk.row rfl rfl rfl (fun i _=>zAa ⟨rfl,rfl⟩),HeapOk.row rfl rfl List.length_append (zBh _ _ zAm rfl),hrF zU,HeapOk.row rfl rfl List.length_append (zBh _ _ zU rfl),hSm,trivial⟩
 have hkl':¬(k:Int)<(zAP ll:Int)+zA0 ll:=by omega
 obtain rfl:k=zAP ll+zA0 ll:=by omega
 unfold zCH;rw[hs];refine vB [15,39] ?_
 refine⟨zC 147 [(2,.c (.pt 2 5 0 0))] [(2,⟨false,1,5,34,lF (pbC ⟨(zAC ll (rdN ll)).2,s.C,s.F,s.O,s.T⟩)⟩)] [2],[(2,⟨false,1,5,34,lF (pbC ⟨(zAC ll (rdN ll)).2,s.C,s.F,s.O,s.T⟩)⟩)],Wk.mk [(2,some 2)] rfl rfl rfl ?_ ?_,rfl,rfl,ARets.one (x:=.ag _) (ARes.box zA rfl rfl rfl rfl rfl rfl rfl)⟩
 ·exact zB
 ·exact⟨HeapOk.box rfl rfl ⟨zZ rfl rfl rfl (fun i _ j _=>⟨rfl,zL zAF _ i j⟩),zZ rfl rfl rfl (fun i _=>zAa ⟨rfl,rfl⟩),zZ rfl rfl rfl (fun i _ j _=>⟨rfl,zL zAm _ i j⟩),zZ rfl rfl rfl (fun i _ j _=>⟨rfl,zL zU _ i j⟩),zZ rfl rfl rfl (fun i _ j _=>⟨rfl,zL zU _ i j⟩),trivial⟩ rfl,trivial⟩
end Go.Proofs.YtbffmfeldkjkcaaGreat
end
section
namespace Go.Proofs.YtbffmfeldkjkcaaGreat
open Go.ChangeShapes Go.WideShapes Go.ChangeAt Go.RowKit Go.Flow Go.AV
theorem zNm:reachBytes≤140737488351232:=by decide
theorem zPM:Tryz.prog.bytesOf 23=24:=by kernel_rfl
section
variable{H:Type}{enc:TypeId×Value→H}{W:World}
theorem opn_ints28:Opn enc Tryz.prog W 23 (fun L:List Int=> [lsI L]) (fun L=>L.length*8≤140737488351232∧∀a∈L,-9223372036854775808≤a∧a≤9223372036854775807):=
 (opn_int.slice1 0 Tryz.underlying23 zIk zPL fun _=>rfl).mono fun L h=>⟨by have:=zNm;omega,h.2⟩
theorem zM7:Opn enc Tryz.prog W 22 (fun L:List (List Int)=> [lsL L]) LlOk:=
 (opn_ints28.slice1 [] Tryz.underlying22 zGJ zPM fun _=>rfl).mono fun L h=>⟨by have:=zNm;omega,fun k hk=>(h.2 _ (zAB hk)).1⟩
theorem zRk:Opn enc Tryz.prog W 24 (fun q:Int×Int×Int=> [iC q.1,iC q.2.1,iC q.2.2]) (fun q=> -9223372036854775808≤q.2.1∧q.2.1≤9223372036854775807):=
 (opn_int.array Tryz.underlying24 zIk xC).conv fun L h=>by
   obtain⟨h1,h2⟩:=h
   obtain⟨x,y,z,rfl⟩:∃x y z,L= [x,y,z]:=by
    match L,h1 with
    | [x,y,z],_=>exact⟨x,y,z,rfl⟩
   exact⟨(x,y,z),h2 y (by simp),fun _ h=>h⟩
end
end Go.Proofs.YtbffmfeldkjkcaaGreat
end
