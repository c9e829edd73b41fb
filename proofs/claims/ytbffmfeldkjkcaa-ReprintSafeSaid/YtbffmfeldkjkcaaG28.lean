/- Parts of the proof: A28i, A28v, A28w, A28x, A28ro. -/
import Derived.Test.YtbffmfeldkjkcaaG27
import Derived.Test.YtbffmfeldkjkcaaG22
set_option linter.unusedSimpArgs false
set_option linter.unusedVariables false
set_option maxHeartbeats 0
section
namespace Go.Proofs.Ytbffmfeldkjkcaa
open Go.RowKit Go.Flow Go.AV Go.Plain
abbrev bpB(L:List Bp):AB:=⟨true,L.length,3,60,rowF bpC bpZ L⟩
def md21(bl sh:Int):Rd:=⟨bl%3,1+sh%((2*(bl%3)+1)*(2*(bl%3)+1))⟩
set_option maxRecDepth 100000 in
theorem md21_A(bl sh:Int):ACalls Try.prog 57 [.c (iC bl),.c (iC sh)] (.ag (rdC (md21 bl sh))):=by
 unfold md21
 have hM:=Mod_A bl 3 (by omega) (by omega)
 have h0:=Int.emod_nonneg bl (show(3:Int)≠0 by omega)
 have h3:=Int.emod_lt_of_pos bl (show(0:Int)<3 by omega)
 generalize bl%3=c at *
 have hS:=side21_A c 0 (by omega)
 have hpos:0<(2*c+1)*(2*c+1)∧(2*c+1)*(2*c+1)≤25:=by
  have:c=0∨c=1∨c=2:=by omega
  rcases this with rfl|rfl|rfl<;>decide
 have hM2:=Mod_A sh ((2*c+1)*(2*c+1)) (by omega) (by omega)
 have h4:=Int.emod_nonneg sh (show(2*c+1)*(2*c+1)≠0 by omega)
 have h5:=Int.emod_lt_of_pos sh (show(0:Int)<(2*c+1)*(2*c+1) by omega)
 generalize hs:2*c+1=s at *
 generalize sh%(s*s)=v at *
 refine acalls_at Try.func57 rfl rfl Try.ntmps57 rfl ?_
 repeat (first
  |refine vB [0,3] ?_
  | (refine rG 1 ?_
     refine vA ?_
     refine aH rfl rfl rfl rfl Try.func27 rfl (by kernel_rfl) (hM) ?_
     (iterate 3 refine vA ?_)
     refine aB ?_)
  |(refine AWp.draw (id:=2) mixed ?_;(iterate 2 refine vA ?_);refine aH rfl rfl rfl rfl Try.func84 rfl (by kernel_rfl) (hS) ?_;refine vA ?_;refine aH rfl rfl rfl rfl Try.func84 rfl (by kernel_rfl) (hS) ?_;refine vA ?_;refine aH rfl rfl rfl rfl Try.func27 rfl (by kernel_rfl) (hM2) ?_;(iterate 3 refine vA ?_);refine aB ⟨by kernel_rfl,?_⟩))
 refine⟨mkSt 19 [(4,.c (.pt 4 2 0 0))] [(4,⟨false,1,2,83,lF (rdC ⟨c,1+v⟩)⟩)] [4],[(4,⟨false,1,2,83,lF (rdC ⟨c,1+v⟩)⟩)],Wk.mk [(4,some 4)] rfl rfl rfl ?_ ?_,rfl,rfl,ARets.one (x:=.ag _) (ARes.box tyOk rfl rfl rfl rfl rfl rfl rfl)⟩
 ·exact allT
 ·exact allH
def pasD(d:Nat→Bool)(W H:Int)(e:Nat→Bool)(p:Nat):Bool:=hasB 6 5 d ((p%6:Nat):Int) ((p/6:Nat):Int)||hasB W H e (((p%6:Nat):Int)-0) (((p/6:Nat):Int)-0)
def pasK(d:Nat→Bool)(W H:Int)(e:Nat→Bool)(k p:Nat):Bool:=if p<k then pasD d W H e p else false
theorem pasK_new{d:Nat→Bool}{W H:Int}{e:Nat→Bool}{i j:Nat}(hi:i<6):pasK d W H e (j*6+i+1) (j*6+i)=(hasB 6 5 d i j||hasB W H e ((i:Int)-0) ((j:Int)-0)):=by
 unfold pasK pasD
 rw[if_pos (by omega),show(j*6+i)%6=i by omega,show(j*6+i)/6=j by omega]
theorem pasK_old{d:Nat→Bool}{W H:Int}{e:Nat→Bool}{k p:Nat}(h:¬p=k):pasK d W H e (k+1) p=pasK d W H e k p:=by
 unfold pasK
 by_cases h1:p<k
 ·rw[if_pos h1,if_pos (by omega)]
 ·rw[if_neg h1,if_neg (by omega)]
set_option maxRecDepth 100000 in
theorem Paste_A(d:Nat→Bool)(W H:Int)(n:Nat)(e:Nat→Bool)(hb:chk W H n=0):ACalls Try.prog 60 [.ag (bmpV 6 5 30 d),.ag (bmpV W H n e),.c (iC 0),.c (iC 0)] (.ag (bmpV 6 5 30 (pasD d W H e))):=by
 have hN:=New_T 6 5 30 (by omega) (by omega) rfl (by omega)
 have ha:chk 6 5 30=0:=by decide
 have hC:=rbCheck_A 6 5 30 d
 rw[ha]at hC
 refine acalls_at Try.func60 rfl rfl Try.ntmps60 rfl ?_
 repeat (first
  |refine vB [0,4] ?_
  | (refine rG 1 ?_
     (iterate 4 refine vA ?_)
     refine AList.callT rfl rfl rfl rfl rfl Try.func58 rfl (by kernel_rfl) (hN) (fun _ _ _ _=>rfl) ?_
     (iterate 6 refine vA ?_)
     refine aB ?_)
  | (refine rG 2 ?_
     (iterate 4 refine vA ?_)
     refine aH rfl rfl rfl rfl Try.func69 rfl (by kernel_rfl) (hC) ?_
     (iterate 2 refine vA ?_)
     refine aB ?_))
 refine AWp.round (fun j:Nat=>
  mkSt 65 [(4,.c (.pt 4 3 0 0)),(5,.c (.pt 5 3 0 0)),(8,.c (.pt 8 3 0 0)),(9,.c (.pt 9 3 0 0)),(2,.c (iC 0)),(3,.c (iC 0)),(11,.c (iC (j:Nat)))] [(4,⟨false,1,3,60,lF (bmpV 6 5 30 d)⟩),(5,⟨false,1,3,60,lF (bmpV W H n e)⟩),(8,⟨false,1,3,60,lF [iC 0,iC 0,.p (.slice none 0 0)]⟩),(9,⟨false,1,3,60,lF [iC 6,iC 5,.ow 20]⟩),(20,rowBl 30 (pasK d W H e (j*6)))] [4,5,8,9,20]
  ) (fun j=>j≤5) (fun j=>5-j) 0 (Nat.zero_le _) ?_ (fun j hj=> ?_)
 ·refine Wk.mk [(4,some 4),(5,some 5),(8,some 8),(9,some 9),(20,some 18)] rfl rfl rfl ?_ ?_
  ·exact allT
  ·exact⟨hSm,hSm,hSm,HeapOk.box rfl rfl ⟨LeC.int rfl,LeC.int rfl,LeC.ow _ _ rfl,trivial⟩ rfl,HeapOk.row rfl rfl rfl (fun i _=>cell1 ⟨rfl,rfl⟩),trivial⟩
 by_cases hjl:j<5
 ·have hjl':(j:Int)<5:=by omega
  refine vB [5,7] ?_
  refine AWp.round (fun i:Nat=>
   mkSt 65 [(4,.c (.pt 4 3 0 0)),(5,.c (.pt 5 3 0 0)),(8,.c (.pt 8 3 0 0)),(9,.c (.pt 9 3 0 0)),(2,.c (iC 0)),(3,.c (iC 0)),(11,.c (iC j)),(12,.c (iC (i:Nat)))] [(4,⟨false,1,3,60,lF (bmpV 6 5 30 d)⟩),(5,⟨false,1,3,60,lF (bmpV W H n e)⟩),(8,⟨false,1,3,60,lF [iC 0,iC 0,.p (.slice none 0 0)]⟩),(9,⟨false,1,3,60,lF [iC 6,iC 5,.ow 20]⟩),(20,rowBl 30 (pasK d W H e (j*6+i)))] [4,5,8,9,20]
   ) (fun i=>i≤6) (fun i=>6-i) 0 (Nat.zero_le _) ?_ (fun i hi=> ?_)
  ·refine Wk.mk [(4,some 4),(5,some 5),(8,some 8),(9,some 9),(20,some 20)] rfl rfl rfl ?_ ?_
   ·exact allT
   ·exact⟨hSm,hSm,hSm,HeapOk.box rfl rfl ⟨LeC.int rfl,LeC.int rfl,LeC.ow _ _ rfl,trivial⟩ rfl,HeapOk.row rfl rfl rfl (fun i _=>cell1 ⟨rfl,rfl⟩),trivial⟩
  by_cases hil:i<6
  ·have hil':(i:Int)<6:=by omega
   have g1:=Get_A 6 5 30 d i j ha
   have g2:=Get_A W H n e ((i:Int)-0) ((j:Int)-0) hb
   have hnew:=pasK_new (d:=d) (W:=W) (H:=H) (e:=e) (j:=j) hil
   have hlt:j*6+i<30:=by omega
   cases h1:hasB 6 5 d i j with
   | true=>
     rw[h1]at g1 hnew
     repeat (first
      |refine vB [8,9] ?_
      |(refine AWp.draw (id:=10) mixed ?_;(iterate 11 refine vA ?_);refine aH rfl rfl rfl rfl Try.func86 rfl (by kernel_rfl) (g1) ?_;(iterate 10 refine vA ?_);refine qr10eo (AList.idxOw (k:=j*6+i) tyOk) ?_;refine vA ?_;refine aB ⟨by kernel_rfl,?_⟩))
     refine⟨i+1,hil,Wk.mk [(4,some 4),(5,some 5),(8,some 8),(9,some 9),(20,some 20)] rfl rfl rfl ?_ ?_,by omega⟩
     ·exact allT
     ·exact⟨hSm,hSm,hSm,HeapOk.box rfl rfl ⟨LeC.int rfl,LeC.int rfl,LeC.ow _ _ rfl,trivial⟩ rfl,HeapOk.row rfl rfl rfl (set_oneB (e:=true) (pasK d W H e (j*6+i+1)) (by rw[hnew];rfl) (fun k hk=>pasK_old hk)),trivial⟩
   | false=>
     rw[h1]at g1 hnew
     generalize hasB W H e ((i:Int)-0) ((j:Int)-0)=v at g2 hnew
     repeat (first
      |refine vB [8,9] ?_
      |(refine AWp.draw (id:=10) mixed ?_;(iterate 11 refine vA ?_);refine aH rfl rfl rfl rfl Try.func86 rfl (by kernel_rfl) (g1) ?_;(iterate 8 refine vA ?_);refine aH rfl rfl rfl rfl Try.func86 rfl (by kernel_rfl) (g2) ?_;refine vA ?_;refine qr10eo (AList.idxOw (k:=j*6+i) tyOk) ?_;refine vA ?_;refine aB ⟨by kernel_rfl,?_⟩))
     refine⟨i+1,hil,Wk.mk [(4,some 4),(5,some 5),(8,some 8),(9,some 9),(20,some 20)] rfl rfl rfl ?_ ?_,by omega⟩
     ·exact allT
     ·exact⟨hSm,hSm,hSm,HeapOk.box rfl rfl ⟨LeC.int rfl,LeC.int rfl,LeC.ow _ _ rfl,trivial⟩ rfl,HeapOk.row rfl rfl rfl (set_oneB (e:=v) (pasK d W H e (j*6+i+1)) (by rw[hnew];rfl) (fun k hk=>pasK_old hk)),trivial⟩
  ·have hil':¬(i:Int)<6:=by omega
   obtain rfl:i=6:=by omega
   refine vB [6,8] ?_
   refine⟨j+1,hjl,Wk.mk [(4,some 4),(5,some 5),(8,some 8),(9,some 9),(20,some 20)] rfl rfl rfl ?_ ?_,by omega⟩
   ·exact allT
   ·exact⟨hSm,hSm,hSm,HeapOk.box rfl rfl ⟨LeC.int rfl,LeC.int rfl,LeC.ow _ _ rfl,trivial⟩ rfl,HeapOk.row rfl rfl rfl (fun i _=>cell1 ⟨by rw[show(j+1)*6=j*6+6 by omega],rfl⟩),trivial⟩
 ·have hjl':¬(j:Int)<5:=by omega
  obtain rfl:j=5:=by omega
  refine vB [5,11] ?_
  refine⟨mkSt 65 [(8,.c (.pt 8 3 0 0))] [(8,⟨false,1,3,60,lF (bmpV 6 5 30 (pasD d W H e))⟩)] [8],[(8,⟨false,1,3,60,lF (bmpV 6 5 30 (pasD d W H e))⟩)],Wk.mk [(8,some 8)] rfl rfl rfl ?_ ?_,rfl,rfl,ARets.one (x:=.ag _) (ARes.box tyOk rfl rfl rfl rfl rfl rfl rfl)⟩
  ·exact allT
  ·exact⟨HeapOk.box rfl rfl ⟨LeC.int rfl,LeC.int rfl,LeC.fz rfl rfl rfl (fun i hi=>cell1 ⟨by show bC _=bC _;unfold pasK;rw[if_pos (by omega)],rfl⟩),trivial⟩ rfl,trivial⟩
section
variable(ll:List (List Int))
abbrev lsL:CV:=.ls ll.length 1 (fun k _=>lsI (ll.getD k []))
def l0:List Int:=ll.getD 0 []
def nxA(a:Nat):Nat:=dat (l0 ll).length a
def dvA(a:Nat)(m:Int):Int:=dval (l0 ll).length (fI (l0 ll)) a m
theorem dvA_bd(a:Nat)(m:Int)(h:0<m):0≤dvA ll a m∧dvA ll a m<m:=dval_bd _ _ _ _ h
theorem nxA_le{a:Nat}(h:a≤(l0 ll).length):nxA ll a≤(l0 ll).length:=dat_le h
def rdIter:Nat→Nat×List Rd
 |0=>(nxA ll 0,[])
 |k+1=>(nxA ll (nxA ll (rdIter k).1),(rdIter k).2++ [md21 (dvA ll (rdIter k).1 2) (dvA ll (nxA ll (rdIter k).1) 4)])
theorem rdIter_len:∀k,(rdIter ll k).2.length=k
 |0=>rfl
 |k+1=>by simp[rdIter,rdIter_len k]
theorem rdIter_le:∀k,(rdIter ll k).1≤(l0 ll).length
 |0=>nxA_le ll (Nat.zero_le _)
 |k+1=>nxA_le ll (nxA_le ll (rdIter_le k))
def rdN:Nat:=(dvA ll 0 3).toNat
def g16(f:Nat→Int)(k:Nat):Int:=if k=0 then 16 else if k=1 then 12 else f (k-2)
abbrev mkN(l:List Int):Nat:=2+l.length
def mdD(at_:Nat):Nat→Bool:=if at_<ll.length then rcropB (mdW (mkN (ll.getD at_ [])) (g16 (fI (ll.getD at_ [])))) (mdH (mkN (ll.getD at_ [])) (g16 (fI (ll.getD at_ [])))) (mdF (mkN (ll.getD at_ [])) (g16 (fI (ll.getD at_ []))) (mdW (mkN (ll.getD at_ [])) (g16 (fI (ll.getD at_ [])))) (mdH (mkN (ll.getD at_ [])) (g16 (fI (ll.getD at_ [])))) 12 (dat (mkN (ll.getD at_ [])) (dat (mkN (ll.getD at_ [])) 0),fun _=>false)) 0 0 6 else fun _=>false
structure Mi8 where
 a:Nat
 at_:Nat
 base:Bp
 chs:List Bp
abbrev bp65(d:Nat→Bool):Bp:=⟨6,5,30,d⟩
def miD(s:Mi8):Nat→Bool:=if dvA ll s.a 3=0 then pasD (mdD ll s.at_) s.base.W s.base.H s.base.d else mdD ll s.at_
def miStep(s:Mi8):Mi8:=⟨nxA ll s.a,s.at_+1,if s.chs= []then bp65 (miD ll s)else s.base,s.chs++ [bp65 (miD ll s)]⟩
def miIter:Nat→Mi8→Mi8
 |0,s=>s
 |k+1,s=>miStep ll (miIter k s)
structure Mo8 where
 a:Nat
 at_:Nat
 base:Bp
 C:List (List Bp)
 O:List Bg
 F:List Bp
 T:List Bg
def tabN(x:Int):Nat:= [2,1,2,3,3,0].getD x.toNat 0
def budF(a:Nat)(k:Nat):Int:= [dvA ll a 3,dvA ll (nxA ll a) 3,dvA ll (nxA ll (nxA ll a)) 4/3,dvA ll (nxA ll (nxA ll (nxA ll a))) 3].getD k 0
def budV(a:Nat):Bg:=bgN 4 (budF ll a)
def manyN(b:Bool)(s:Mo8):Nat:=if b=true then tabN (dvA ll s.a 6)else 1
def manyA(b:Bool)(s:Mo8):Nat:=if b=true then nxA ll s.a else s.a
def moI(b:Bool)(s:Mo8):Mi8:=miIter ll (manyN ll b s) ⟨manyA ll b s,s.at_,s.base,[]⟩
def moStep(b:Bool)(s:Mo8):Mo8:=
 if b=true then ⟨nxA ll (nxA ll (nxA ll (nxA ll (moI ll b s).a))),(moI ll b s).at_,(moI ll b s).base,s.C++ [(moI ll b s).chs],s.O++ [budV ll (moI ll b s).a],s.F,s.T⟩
 else ⟨nxA ll (nxA ll (nxA ll (nxA ll (moI ll b s).a))),(moI ll b s).at_,(moI ll b s).base,s.C,s.O,s.F++ [(moI ll b s).chs.getD 0 bpZ],s.T++ [budV ll (moI ll b s).a]⟩
def lsN28:Nat:=(dvA ll (rdIter ll (rdN ll)).1 4).toNat
def fxN28:Nat:=(dvA ll (nxA ll (rdIter ll (rdN ll)).1) 3).toNat
def moIter:Nat→Mo8
 |0=>⟨nxA ll (nxA ll (rdIter ll (rdN ll)).1),1,⟨0,0,0,fun _=>false⟩,[],[],[],[]⟩
 |k+1=>moStep ll (decide (k<lsN28 ll)) (moIter k)
def made28:Pb:=⟨(rdIter ll (rdN ll)).2,(moIter ll (lsN28 ll+fxN28 ll)).C,(moIter ll (lsN28 ll+fxN28 ll)).F,(moIter ll (lsN28 ll+fxN28 ll)).O,(moIter ll (lsN28 ll+fxN28 ll)).T⟩
theorem tabN_le(x:Int):tabN x≤3:=by
 unfold tabN
 generalize x.toNat=n
 match n with
 |0=>decide
 |1=>decide
 |2=>decide
 |3=>decide
 |4=>decide
 |5=>decide
 |n+6=>simp
theorem manyN_le(b:Bool)(s:Mo8):manyN ll b s≤3:=by
 unfold manyN
 split
 ·exact tabN_le _
 ·decide
def MiOk(a0:Nat)(k:Nat)(s:Mi8):Prop:=s.a≤(l0 ll).length∧s.at_=a0+k∧chk s.base.W s.base.H s.base.n=0∧s.chs.length=k∧∀b∈s.chs,∃d,b=bp65 d
theorem miStep_ok{a0 k:Nat}{s:Mi8}(h:MiOk ll a0 k s):MiOk ll a0 (k+1) (miStep ll s):=by
 obtain⟨h1,h2,h3,h4,h5⟩:=h
 refine⟨nxA_le ll h1,by show s.at_+1=_;omega,?_,by simp[miStep,h4],fun b hb=> ?_⟩
 ·unfold miStep
  dsimp only
  split
  ·exact(by decide:chk 6 5 30=0)
  ·exact h3
 ·rcases List.mem_append.1 (show b∈s.chs++ [bp65 (miD ll s)]from hb)with h|h
  ·exact h5 b h
  ·exact⟨_,List.mem_singleton.1 h⟩
theorem miIter_ok{a0:Nat}{s:Mi8}(h:MiOk ll a0 0 s):∀k,MiOk ll a0 k (miIter ll k s)
 |0=>h
 |k+1=>miStep_ok ll (miIter_ok h k)
structure MoOk28(k:Nat)(s:Mo8):Prop where
 a:s.a≤(l0 ll).length
 at_:s.at_≤1+3*k
 base:chk s.base.W s.base.H s.base.n=0
 C:s.C.length≤k
 F:s.F.length≤k
 O:s.O.length=s.C.length
 T:s.T.length=s.F.length
 Cc:∀l∈s.C,l.length≤3∧∀b∈l,∃d,b=bp65 d
 Ff:∀b∈s.F,∃d,b=bp65 d
theorem moI_ok{k:Nat}{b:Bool}{s:Mo8}(h:MoOk28 ll k s):MiOk ll s.at_ 0 ⟨manyA ll b s,s.at_,s.base,[]⟩:=
 ⟨by
   unfold manyA
   dsimp only
   split
   ·exact nxA_le ll h.a
   ·exact h.a,rfl,h.base,rfl,fun _ hb=>by cases hb⟩
theorem moStep_ok{k:Nat}{b:Bool}{s:Mo8}(h:MoOk28 ll k s):MoOk28 ll (k+1) (moStep ll b s):=by
 have hi:=miIter_ok ll (moI_ok ll (b:=b) h) (manyN ll b s)
 obtain⟨h1,h2,h3,h4,h5⟩:=hi
 change (moI ll b s).a≤_ at h1
 change (moI ll b s).at_=_ at h2
 change chk (moI ll b s).base.W (moI ll b s).base.H (moI ll b s).base.n=0 at h3
 change (moI ll b s).chs.length=_ at h4
 change ∀x∈(moI ll b s).chs,_ at h5
 have hm:=manyN_le ll b s
 have ha:=h.at_
 have h6:=nxA_le ll (nxA_le ll (nxA_le ll (nxA_le ll h1)))
 unfold moStep
 cases b with
 | true=>
   rw[if_pos rfl]
   refine⟨h6,by show(moI ll true s).at_≤_;omega,h3,by simp;exact h.C,by have:=h.F;show s.F.length≤_;omega,by simp[h.O],h.T,fun l hl=> ?_,h.Ff⟩
   rcases List.mem_append.1 hl with hl|hl
   ·exact h.Cc l hl
   ·obtain rfl:=List.mem_singleton.1 hl
    exact⟨by omega,h5⟩
 | false=>
   rw[if_neg (by decide)]
   refine⟨h6,by show(moI ll false s).at_≤_;omega,h3,by have:=h.C;show s.C.length≤_;omega,by simp;exact h.F,h.O,by simp[h.T],h.Cc,fun x hx=> ?_⟩
   rcases List.mem_append.1 hx with hx|hx
   ·exact h.Ff x hx
   ·obtain rfl:=List.mem_singleton.1 hx
    exact h5 _ (getD_mem28 (by rw[h4];exact Nat.lt_of_lt_of_eq (Nat.zero_lt_one) rfl))
theorem moIter_ok:∀k,MoOk28 ll k (moIter ll k)
 |0=>⟨nxA_le ll (nxA_le ll (rdIter_le ll _)),Nat.le_refl _,(by decide:chk 0 0 0=0),Nat.le_refl _,Nat.le_refl _,rfl,rfl,(fun _ h=>by cases h),(fun _ h=>by cases h)⟩
 |k+1=>moStep_ok ll (moIter_ok k)
end
end Go.Proofs.Ytbffmfeldkjkcaa
end
section
namespace Go.AV
open Go Go.RowKit Go.Flow
theorem AText.weak{P:Program}{ops:Array Oper}{l:List Oper}{S S':St}{Q:St→Prop}(hw:Wk S S')(h:AText P ops l S' Q):AText P ops l S Q:=⟨fun rd b0 a w K hR hK=>h.get rd b0 a w K (hw b0 a w hR) hK⟩
end Go.AV
namespace Go.Proofs.Ytbffmfeldkjkcaa
open Go.RowKit Go.Flow Go.AV Go.Plain
abbrev rdB(L:List Rd):AB:=⟨true,L.length,2,83,rowF rdC rdZ L⟩
abbrev bgB(L:List Bg):AB:=⟨true,L.length,4,62,rowF bgC bgZ L⟩
abbrev chB(C:List (List Bp)):AB:=⟨true,C.length,1,31,chF C⟩
abbrev dB(ll:List (List Int))(a:Nat):AB:=drawB (l0 ll).length (fI (l0 ll)) a
abbrev nl8:CV:=.p (.slice none 0 0)
theorem nx_A(ll:List (List Int))(a:Nat)(m:Int)(ha:a≤(l0 ll).length)(hN:(l0 ll).length≤4611686018427387904)(hm:0<m)(hM:m≤1000000):HCalls Try.prog 56 [.c (.pt 1000 2 0 0),.c (iC m)] [(1000,dB ll a)] (.c (iC (dvA ll a m))) [(1000,dB ll (nxA ll a))]:=Next_A _ _ _ _ ha hN hm hM
theorem g16_F(f:Nat→Int)(m:Nat):∀i,i<2+m→∀j,j<1→appF (sF [iC 16,iC 12] 1) 2 (iF f) i j=iF (g16 f) i j∧immC (appF (sF [iC 16,iC 12] 1) 2 (iF f) i j)=true:=fun i hi j hj=>by
 obtain rfl:j=0:=Nat.lt_one_iff.mp hj
 match i with
 |0=>exact⟨rfl,rfl⟩
 |1=>exact⟨rfl,rfl⟩
 | i+2=>
   have e:appF (sF [iC 16,iC 12] 1) 2 (iF f) (i+2) 0=iF f i 0:=by
    unfold appF
    rw[show Nat.blt (i+2) 2=false from Bool.eq_false_iff.2 fun h=>by have:=Nat.blt_eq.mp h;omega]
    rfl
   rw[e]
   exact⟨rfl,rfl⟩
def LlOk(ll:List (List Int)):Prop:=ll.length≤6000000000000∧∀k,k<ll.length→(ll.getD k []).length*8≤140737488351232
theorem LlOk.l0{ll:List (List Int)}(h:LlOk ll):(l0 ll).length≤4611686018427387904:=by
 unfold Go.Proofs.Ytbffmfeldkjkcaa.l0
 by_cases h0:0<ll.length
 ·have:=h.2 0 h0
  omega
 ·rw[List.getD_eq_getElem?_getD,List.getElem?_eq_none (by omega)]
  simp
set_option maxRecDepth 100000 in
theorem Made28_A(ll:List (List Int))(hll:LlOk ll):ACalls Try.prog 24 [.c (lsL ll)] (.ag (pbC (made28 ll))):=by
 have hN:=hll.l0
 obtain⟨hK,hk8⟩:=hll
 refine acalls_at Try.func24 rfl rfl Try.ntmps24 rfl ?_
 refine vB [0,1,2] ?_
 refine AWp.cut (mkSt 147 [(0,.c (lsL ll)),(2,.c (.pt 2 5 0 0)),(3,.c (.pt 19 2 0 0))] [(2,⟨false,1,5,34,lF [nl8,nl8,nl8,nl8,nl8]⟩),(19,dB ll 0)] [2,19]) ?_ (fun S1 hw1=>AWp.weak hw1 ?_)
 ·by_cases h0:0<ll.length
  ·have h0':((ll.length:Nat):Int)>0:=by omega
   repeat (first
    |refine vB [] ?_
    | (refine rG 3 ?_
       (iterate 2 refine vA ?_)
       refine qr8eo2 (aP (k:=0) tyOk) ?_
       (iterate 4 refine vA ?_)
       refine aB ?_))
   refine⟨rfl,Wk.mk [(2,some 2),(19,some 19)] rfl rfl rfl ?_ ?_⟩
   ·exact allT
   ·exact allH
  ·have h0':¬((ll.length:Nat):Int)>0:=by omega
   have e0:l0 ll= []:=by unfold l0;rw[List.getD_eq_getElem?_getD,List.getElem?_eq_none (by omega)];rfl
   refine vB [] ?_
   refine⟨rfl,Wk.mk [(2,some 2),(19,some 19)] rfl rfl rfl ?_ ?_⟩
   ·exact allT
   ·exact⟨hSm,HeapOk.box rfl rfl ⟨(by rw[e0];exact LeC.nils _ _),LeC.int rfl,trivial⟩ rfl,trivial⟩
 have hn0:=nx_A ll 0 3 (Nat.zero_le _) hN (by decide) (by decide)
 have hd0:=dvA_bd ll 0 3 (by decide)
 have hrn:((rdN ll:Nat):Int)=dvA ll 0 3:=by unfold rdN;omega
 rw[←hrn]at hn0
 repeat (first
  |refine vB [4,6] ?_
  | (refine rG 5 ?_
     refine vA ?_
     refine AList.callH [19] [dB ll 0] [dB ll (nxA ll 0)] rfl rfl rfl Try.func56 rfl (by kernel_rfl) (LendOk.box rfl rfl rfl trivial) rfl (LendImm.box rfl trivial) (hn0) ?_
     refine vA ?_
     refine aB ?_))
 refine AWp.round (fun k:Nat=>
  mkSt 147 [(0,.c (lsL ll)),(2,.c (.pt 2 5 0 0)),(3,.c (.pt 19 2 0 0)),(4,.c (.pt 4 5 0 0)),(5,.c (iC (rdN ll))),(6,.c (iC (k:Nat)))] [(2,⟨false,1,5,34,lF [nl8,nl8,nl8,nl8,nl8]⟩),(4,⟨false,1,5,34,lF [.ow 150,.ow 151,.ow 152,.ow 153,.ow 154]⟩),(19,dB ll ((rdIter ll k).1)),(150,rdB ((rdIter ll k).2)),(151,chB ([])),(152,bpB ([])),(153,bgB ([])),(154,bgB ([]))] [2,4,19,150,151,152,153,154]
  ) (fun k=>k≤rdN ll) (fun k=>rdN ll-k) 0 (Nat.zero_le _) ?_ (fun k hk=> ?_)
 ·refine Wk.mk [(2,some 2),(4,some 4),(19,some 19),(150,none),(151,none),(152,none),(153,none),(154,none)] rfl rfl rfl ?_ ?_
  ·exact allT
  ·exact⟨hSm,HeapOk.box rfl rfl ⟨LeC.nil _ rfl,LeC.nil _ rfl,LeC.nil _ rfl,LeC.nil _ rfl,LeC.nil _ rfl,trivial⟩ rfl,hSm,HeapOk.nil rfl rfl,HeapOk.nil rfl rfl,HeapOk.nil rfl rfl,HeapOk.nil rfl rfl,HeapOk.nil rfl rfl,trivial⟩
 have hlim:rdN ll≤2:=by omega
 have hR:=rdIter_len ll k
 have hle:=rdIter_le ll k
 by_cases hkl:k<rdN ll
 ·have hkl':(k:Int)<rdN ll:=by omega
  have n1:=nx_A ll _ 2 hle hN (by decide) (by decide)
  have n2:=nx_A ll _ 4 (nxA_le ll hle) hN (by decide) (by decide)
  repeat (first
   |refine vB [7,8] ?_
   |(refine AWp.draw (id:=9) mixed ?_;(iterate 3 refine vA ?_);refine AList.callH [19] [dB ll (rdIter ll k).1] [dB ll (nxA ll (rdIter ll k).1)] rfl rfl rfl Try.func56 rfl (by kernel_rfl) (LendOk.box rfl rfl rfl trivial) rfl (LendImm.box rfl trivial) (n1) ?_;refine vA ?_;refine AList.callH [19] [dB ll (nxA ll (rdIter ll k).1)] [dB ll (nxA ll (nxA ll (rdIter ll k).1))] rfl rfl rfl Try.func56 rfl (by kernel_rfl) (LendOk.box rfl rfl rfl trivial) rfl (LendImm.box rfl trivial) (n2) ?_;refine aH rfl rfl rfl rfl Try.func57 rfl (by kernel_rfl) (md21_A _ _) ?_;refine vA ?_;refine AList.appL tyOk rfl rfl rfl rfl rfl rfl rfl rfl rfl rfl oM oM ?_;(iterate 2 refine vA ?_);refine aB ⟨by kernel_rfl,?_⟩))
  refine⟨k+1,hkl,Wk.mk [(2,some 2),(4,some 4),(19,some 19),(150,some 44),(151,some 151),(152,some 152),(153,some 153),(154,some 154)] rfl rfl rfl ?_ ?_,by omega⟩
  ·exact allT
  ·exact⟨hSm,HeapOk.box rfl rfl ⟨LeC.ow _ _ rfl,LeC.ow _ _ rfl,LeC.ow _ _ rfl,LeC.ow _ _ rfl,LeC.ow _ _ rfl,trivial⟩ rfl,hSm,HeapOk.row rfl rfl List.length_append (row_snoc _ _ rdC_imm rfl),HeapOk.row rfl rfl rfl (fun i hi=>absurd hi (Nat.not_lt_zero _)),HeapOk.row rfl rfl rfl (fun i hi=>absurd hi (Nat.not_lt_zero _)),HeapOk.row rfl rfl rfl (fun i hi=>absurd hi (Nat.not_lt_zero _)),HeapOk.row rfl rfl rfl (fun i hi=>absurd hi (Nat.not_lt_zero _)),trivial⟩
 have hkl':¬(k:Int)<rdN ll:=by omega
 obtain rfl:k=rdN ll:=by omega
 have n1:=nx_A ll _ 4 hle hN (by decide) (by decide)
 have n2:=nx_A ll _ 3 (nxA_le ll hle) hN (by decide) (by decide)
 have hd1:=dvA_bd ll (rdIter ll (rdN ll)).1 4 (by decide)
 have hd2:=dvA_bd ll (nxA ll (rdIter ll (rdN ll)).1) 3 (by decide)
 have hls:((lsN28 ll:Nat):Int)=dvA ll (rdIter ll (rdN ll)).1 4:=by unfold lsN28;omega
 have hfx:((fxN28 ll:Nat):Int)=dvA ll (nxA ll (rdIter ll (rdN ll)).1) 3:=by unfold fxN28;omega
 rw[←hls]at n1
 rw[←hfx]at n2
 repeat (first
  |refine vB [7,12,13,14] ?_
  | (refine rG 10 ?_
     refine vA ?_
     refine AList.callH [19] [dB ll (rdIter ll (rdN ll)).1] [dB ll (nxA ll (rdIter ll (rdN ll)).1)] rfl rfl rfl Try.func56 rfl (by kernel_rfl) (LendOk.box rfl rfl rfl trivial) rfl (LendImm.box rfl trivial) (n1) ?_
     refine vA ?_
     refine aB ?_)
  | (refine rG 11 ?_
     refine vA ?_
     refine AList.callH [19] [dB ll (nxA ll (rdIter ll (rdN ll)).1)] [dB ll (nxA ll (nxA ll (rdIter ll (rdN ll)).1))] rfl rfl rfl Try.func56 rfl (by kernel_rfl) (LendOk.box rfl rfl rfl trivial) rfl (LendImm.box rfl trivial) (n2) ?_
     refine vA ?_
     refine aB ?_))
 refine AWp.round (fun k:Nat=>
  mkSt 147 [(0,.c (lsL ll)),(2,.c (.pt 2 5 0 0)),(3,.c (.pt 19 2 0 0)),(4,.c (.pt 4 5 0 0)),(7,.c (iC (lsN28 ll))),(8,.c (iC (fxN28 ll))),(9,.c (iC ((moIter ll k).at_))),(10,.c (.pt 10 3 0 0)),(11,.c (iC (k:Nat)))] [(2,⟨false,1,5,34,lF [nl8,nl8,nl8,nl8,nl8]⟩),(4,⟨false,1,5,34,lF [.ow 150,.ow 151,.ow 152,.ow 153,.ow 154]⟩),(19,dB ll ((moIter ll k).a)),(150,rdB (rdIter ll (rdN ll)).2),(151,chB ((moIter ll k).C)),(152,bpB ((moIter ll k).F)),(153,bgB ((moIter ll k).O)),(154,bgB ((moIter ll k).T)),(10,⟨false,1,3,60,lF (bpC ((moIter ll k).base))⟩)] [2,4,19,150,151,152,153,154,10]
  ) (fun k=>k≤lsN28 ll+fxN28 ll) (fun k=>lsN28 ll+fxN28 ll-k) 0 (Nat.zero_le _) ?_ (fun k hk=> ?_)
 ·refine Wk.mk [(2,some 2),(4,some 4),(19,some 19),(150,some 150),(151,some 151),(152,some 152),(153,some 153),(154,some 154),(10,some 10)] rfl rfl rfl ?_ ?_
  ·exact allT
  ·exact⟨
   hSm,HeapOk.box rfl rfl ⟨LeC.ow _ _ rfl,LeC.ow _ _ rfl,LeC.ow _ _ rfl,LeC.ow _ _ rfl,LeC.ow _ _ rfl,trivial⟩ rfl,hSm,hrF rdC_imm
   ,HeapOk.row rfl rfl rfl (fun i hi=>absurd hi (Nat.not_lt_zero _)),HeapOk.row rfl rfl rfl (fun i hi=>absurd hi (Nat.not_lt_zero _)),HeapOk.row rfl rfl rfl (fun i hi=>absurd hi (Nat.not_lt_zero _)),HeapOk.row rfl rfl rfl (fun i hi=>absurd hi (Nat.not_lt_zero _)),HeapOk.box rfl rfl ⟨LeC.int rfl,LeC.int rfl,LeC.nils _ _,trivial⟩ rfl,trivial⟩
 have hlists:lsN28 ll≤3∧fxN28 ll≤2:=by omega
 have hok:=moIter_ok ll k
 have hnext:moIter ll (k+1)=moStep ll (decide (k<lsN28 ll)) (moIter ll k):=rfl
 obtain⟨s,hs⟩:∃s,moIter ll k=s:=⟨_,rfl⟩
 rw[hs]at hok hnext⊢
 by_cases hkl:k<lsN28 ll+fxN28 ll
 ·have hkl':(k:Int)<(lsN28 ll:Int)+fxN28 ll:=by omega
  have hsa:=hok.at_
  have hC:=hok.C
  have hF:=hok.F
  have hO:=hok.O
  have hT:=hok.T
  obtain⟨b,hb⟩:∃b,decide (k<lsN28 ll)=b:=⟨_,rfl⟩
  rw[hb]at hnext
  have hM3:=manyN_le ll b s
  have hin:=fun j=>miIter_ok ll (moI_ok ll (b:=b) hok) j
  refine vB [15,17,18] ?_
  refine AWp.cut (
   mkSt 147 [(0,.c (lsL ll)),(2,.c (.pt 2 5 0 0)),(3,.c (.pt 19 2 0 0)),(4,.c (.pt 4 5 0 0)),(7,.c (iC (lsN28 ll))),(8,.c (iC (fxN28 ll))),(9,.c (iC (s.at_))),(10,.c (.pt 10 3 0 0)),(11,.c (iC (k:Nat))),(12,.c (iC (manyN ll b s)))] [(2,⟨false,1,5,34,lF [nl8,nl8,nl8,nl8,nl8]⟩),(4,⟨false,1,5,34,lF [.ow 150,.ow 151,.ow 152,.ow 153,.ow 154]⟩),(19,dB ll (manyA ll b s)),(150,rdB (rdIter ll (rdN ll)).2),(151,chB (s.C)),(152,bpB (s.F)),(153,bgB (s.O)),(154,bgB (s.T)),(10,⟨false,1,3,60,lF (bpC (s.base))⟩)] [2,4,19,150,151,152,153,154,10]
   ) ?_ (fun S1 hw1=>AWp.weak hw1 ?_)
  ·cases b with
   | true =>
     have hlt:(k:Int)<lsN28 ll:=by have:=of_decide_eq_true hb;omega
     have n1:=nx_A ll s.a 6 hok.a hN (by decide) (by decide)
     have hd:=dvA_bd ll s.a 6 (by decide)
     have e1:manyN ll true s=tabN (dvA ll s.a 6):=rfl
     have e2:manyA ll true s=nxA ll s.a:=rfl
     rw[e2]
     generalize dvA ll s.a 6=x at n1 hd e1
     have hx:x=0∨x=1∨x=2∨x=3∨x=4∨x=5:=by omega
     rcases hx with rfl|rfl|rfl|rfl|rfl|rfl
     ·repeat (first
       |refine vB [] ?_
       | (refine rG 19 ?_
          (iterate 2 refine vA ?_)
          refine AList.callH [19] [dB ll s.a] [dB ll (nxA ll s.a)] rfl rfl rfl Try.func56 rfl (by kernel_rfl) (LendOk.box rfl rfl rfl trivial) rfl (LendImm.box rfl trivial) (n1) ?_
          refine qr8eo2 (aP (k:=0) tyOk) ?_
          (iterate 2 refine vA ?_)
          refine aB ?_))
      rw[e1]
      refine⟨rfl,Wk.mk [(2,some 2),(4,some 4),(19,some 19),(150,some 150),(151,some 151),(152,some 152),(153,some 153),(154,some 154),(10,some 10)] rfl rfl rfl ?_ ?_⟩
      ·repeat (first|exact trivial|refine⟨⟨_,rfl,by first|exact LeA.c (LeC.eq rfl rfl)|exact leT⟩,?_⟩)
      ·exact⟨
       hSm,HeapOk.box rfl rfl ⟨LeC.ow _ _ rfl,LeC.ow _ _ rfl,LeC.ow _ _ rfl,LeC.ow _ _ rfl,LeC.ow _ _ rfl,trivial⟩ rfl,hSm,hrF rdC_imm
       ,
       HeapOk.row rfl rfl rfl (fun i _=>cell1 ⟨rfl,rfl⟩),hrF bpC_imm,hrF bgC_imm28,hrF bgC_imm28,hSm,
       trivial⟩
     ·repeat (first
       |refine vB [] ?_
       | (refine rG 19 ?_
          (iterate 2 refine vA ?_)
          refine AList.callH [19] [dB ll s.a] [dB ll (nxA ll s.a)] rfl rfl rfl Try.func56 rfl (by kernel_rfl) (LendOk.box rfl rfl rfl trivial) rfl (LendImm.box rfl trivial) (n1) ?_
          refine qr8eo2 (aP (k:=1) tyOk) ?_
          (iterate 2 refine vA ?_)
          refine aB ?_))
      rw[e1]
      refine⟨rfl,Wk.mk [(2,some 2),(4,some 4),(19,some 19),(150,some 150),(151,some 151),(152,some 152),(153,some 153),(154,some 154),(10,some 10)] rfl rfl rfl ?_ ?_⟩
      ·repeat (first|exact trivial|refine⟨⟨_,rfl,by first|exact LeA.c (LeC.eq rfl rfl)|exact leT⟩,?_⟩)
      ·exact⟨
       hSm,HeapOk.box rfl rfl ⟨LeC.ow _ _ rfl,LeC.ow _ _ rfl,LeC.ow _ _ rfl,LeC.ow _ _ rfl,LeC.ow _ _ rfl,trivial⟩ rfl,hSm,hrF rdC_imm
       ,
       HeapOk.row rfl rfl rfl (fun i _=>cell1 ⟨rfl,rfl⟩),hrF bpC_imm,hrF bgC_imm28,hrF bgC_imm28,hSm,
       trivial⟩
     ·repeat (first
       |refine vB [] ?_
       | (refine rG 19 ?_
          (iterate 2 refine vA ?_)
          refine AList.callH [19] [dB ll s.a] [dB ll (nxA ll s.a)] rfl rfl rfl Try.func56 rfl (by kernel_rfl) (LendOk.box rfl rfl rfl trivial) rfl (LendImm.box rfl trivial) (n1) ?_
          refine qr8eo2 (aP (k:=2) tyOk) ?_
          (iterate 2 refine vA ?_)
          refine aB ?_))
      rw[e1]
      refine⟨rfl,Wk.mk [(2,some 2),(4,some 4),(19,some 19),(150,some 150),(151,some 151),(152,some 152),(153,some 153),(154,some 154),(10,some 10)] rfl rfl rfl ?_ ?_⟩
      ·repeat (first|exact trivial|refine⟨⟨_,rfl,by first|exact LeA.c (LeC.eq rfl rfl)|exact leT⟩,?_⟩)
      ·exact⟨
       hSm,HeapOk.box rfl rfl ⟨LeC.ow _ _ rfl,LeC.ow _ _ rfl,LeC.ow _ _ rfl,LeC.ow _ _ rfl,LeC.ow _ _ rfl,trivial⟩ rfl,hSm,hrF rdC_imm
       ,
       HeapOk.row rfl rfl rfl (fun i _=>cell1 ⟨rfl,rfl⟩),hrF bpC_imm,hrF bgC_imm28,hrF bgC_imm28,hSm,
       trivial⟩
     ·repeat (first
       |refine vB [] ?_
       | (refine rG 19 ?_
          (iterate 2 refine vA ?_)
          refine AList.callH [19] [dB ll s.a] [dB ll (nxA ll s.a)] rfl rfl rfl Try.func56 rfl (by kernel_rfl) (LendOk.box rfl rfl rfl trivial) rfl (LendImm.box rfl trivial) (n1) ?_
          refine qr8eo2 (aP (k:=3) tyOk) ?_
          (iterate 2 refine vA ?_)
          refine aB ?_))
      rw[e1]
      refine⟨rfl,Wk.mk [(2,some 2),(4,some 4),(19,some 19),(150,some 150),(151,some 151),(152,some 152),(153,some 153),(154,some 154),(10,some 10)] rfl rfl rfl ?_ ?_⟩
      ·repeat (first|exact trivial|refine⟨⟨_,rfl,by first|exact LeA.c (LeC.eq rfl rfl)|exact leT⟩,?_⟩)
      ·exact⟨
       hSm,HeapOk.box rfl rfl ⟨LeC.ow _ _ rfl,LeC.ow _ _ rfl,LeC.ow _ _ rfl,LeC.ow _ _ rfl,LeC.ow _ _ rfl,trivial⟩ rfl,hSm,hrF rdC_imm
       ,
       HeapOk.row rfl rfl rfl (fun i _=>cell1 ⟨rfl,rfl⟩),hrF bpC_imm,hrF bgC_imm28,hrF bgC_imm28,hSm,
       trivial⟩
     ·repeat (first
       |refine vB [] ?_
       | (refine rG 19 ?_
          (iterate 2 refine vA ?_)
          refine AList.callH [19] [dB ll s.a] [dB ll (nxA ll s.a)] rfl rfl rfl Try.func56 rfl (by kernel_rfl) (LendOk.box rfl rfl rfl trivial) rfl (LendImm.box rfl trivial) (n1) ?_
          refine qr8eo2 (aP (k:=4) tyOk) ?_
          (iterate 2 refine vA ?_)
          refine aB ?_))
      rw[e1]
      refine⟨rfl,Wk.mk [(2,some 2),(4,some 4),(19,some 19),(150,some 150),(151,some 151),(152,some 152),(153,some 153),(154,some 154),(10,some 10)] rfl rfl rfl ?_ ?_⟩
      ·repeat (first|exact trivial|refine⟨⟨_,rfl,by first|exact LeA.c (LeC.eq rfl rfl)|exact leT⟩,?_⟩)
      ·exact⟨
       hSm,HeapOk.box rfl rfl ⟨LeC.ow _ _ rfl,LeC.ow _ _ rfl,LeC.ow _ _ rfl,LeC.ow _ _ rfl,LeC.ow _ _ rfl,trivial⟩ rfl,hSm,hrF rdC_imm
       ,
       HeapOk.row rfl rfl rfl (fun i _=>cell1 ⟨rfl,rfl⟩),hrF bpC_imm,hrF bgC_imm28,hrF bgC_imm28,hSm,
       trivial⟩
     ·repeat (first
       |refine vB [] ?_
       | (refine rG 19 ?_
          (iterate 2 refine vA ?_)
          refine AList.callH [19] [dB ll s.a] [dB ll (nxA ll s.a)] rfl rfl rfl Try.func56 rfl (by kernel_rfl) (LendOk.box rfl rfl rfl trivial) rfl (LendImm.box rfl trivial) (n1) ?_
          refine qr8eo2 (aP (k:=5) tyOk) ?_
          (iterate 2 refine vA ?_)
          refine aB ?_))
      rw[e1]
      refine⟨rfl,Wk.mk [(2,some 2),(4,some 4),(19,some 19),(150,some 150),(151,some 151),(152,some 152),(153,some 153),(154,some 154),(10,some 10)] rfl rfl rfl ?_ ?_⟩
      ·repeat (first|exact trivial|refine⟨⟨_,rfl,by first|exact LeA.c (LeC.eq rfl rfl)|exact leT⟩,?_⟩)
      ·exact⟨
       hSm,HeapOk.box rfl rfl ⟨LeC.ow _ _ rfl,LeC.ow _ _ rfl,LeC.ow _ _ rfl,LeC.ow _ _ rfl,LeC.ow _ _ rfl,trivial⟩ rfl,hSm,hrF rdC_imm
       ,
       HeapOk.row rfl rfl rfl (fun i _=>cell1 ⟨rfl,rfl⟩),hrF bpC_imm,hrF bgC_imm28,hrF bgC_imm28,hSm,
       trivial⟩
   | false=>
     have hlt:¬(k:Int)<lsN28 ll:=by have:=of_decide_eq_false hb;omega
     refine vB [] ?_
     refine⟨rfl,Wk.mk [(2,some 2),(4,some 4),(19,some 19),(150,some 150),(151,some 151),(152,some 152),(153,some 153),(154,some 154),(10,some 10)] rfl rfl rfl ?_ ?_⟩
     ·exact allT
     ·exact⟨
      hSm,HeapOk.box rfl rfl ⟨LeC.ow _ _ rfl,LeC.ow _ _ rfl,LeC.ow _ _ rfl,LeC.ow _ _ rfl,LeC.ow _ _ rfl,trivial⟩ rfl,hSm,hrF rdC_imm
      ,
      HeapOk.row rfl rfl rfl (fun i _=>cell1 ⟨rfl,rfl⟩),hrF bpC_imm,hrF bgC_imm28,hrF bgC_imm28,hSm,
      trivial⟩
  obtain⟨M,hM⟩:∃M,manyN ll b s=M:=⟨_,rfl⟩
  have hI:moI ll b s=miIter ll M ⟨manyA ll b s,s.at_,s.base,[]⟩:=by rw[←hM];rfl
  rw[hM]at hM3⊢
  refine vB [20,21] ?_
  refine AWp.round (fun j:Nat=>
   mkSt 147 [(0,.c (lsL ll)),(2,.c (.pt 2 5 0 0)),(3,.c (.pt 19 2 0 0)),(4,.c (.pt 4 5 0 0)),(7,.c (iC (lsN28 ll))),(8,.c (iC (fxN28 ll))),(9,.c (iC ((miIter ll j ⟨manyA ll b s,s.at_,s.base,[]⟩)).at_)),(10,.c (.pt 10 3 0 0)),(11,.c (iC (k:Nat))),(12,.c (iC M)),(13,.c (.ow 155)),(14,.c (iC (j:Nat)))] [(2,⟨false,1,5,34,lF [nl8,nl8,nl8,nl8,nl8]⟩),(4,⟨false,1,5,34,lF [.ow 150,.ow 151,.ow 152,.ow 153,.ow 154]⟩),(19,dB ll ((miIter ll j ⟨manyA ll b s,s.at_,s.base,[]⟩)).a),(150,rdB (rdIter ll (rdN ll)).2),(151,chB s.C),(152,bpB s.F),(153,bgB s.O),(154,bgB s.T),(10,⟨false,1,3,60,lF (bpC ((miIter ll j ⟨manyA ll b s,s.at_,s.base,[]⟩)).base)⟩),(155,bpB ((miIter ll j ⟨manyA ll b s,s.at_,s.base,[]⟩)).chs)] [2,4,19,150,151,152,153,154,10,155]
   ) (fun j=>j≤M) (fun j=>M-j) 0 (Nat.zero_le _) ?_ (fun j hj=> ?_)
  ·refine Wk.mk [(2,some 2),(4,some 4),(19,some 19),(150,some 150),(151,some 151),(152,some 152),(153,some 153),(154,some 154),(10,some 10),(155,none)] rfl rfl rfl ?_ ?_
   ·exact allT
   ·exact⟨
    hSm,HeapOk.box rfl rfl ⟨LeC.ow _ _ rfl,LeC.ow _ _ rfl,LeC.ow _ _ rfl,LeC.ow _ _ rfl,LeC.ow _ _ rfl,trivial⟩ rfl,hSm,hrF rdC_imm
    ,
    HeapOk.row rfl rfl rfl (fun i _=>cell1 ⟨rfl,rfl⟩),hrF bpC_imm,hrF bgC_imm28,hrF bgC_imm28,hSm,
    HeapOk.nil rfl rfl,trivial⟩
  obtain⟨i1,i2,i3,i4,i5⟩:=hin j
  have hnx:miIter ll (j+1) ⟨manyA ll b s,s.at_,s.base,[]⟩=miStep ll (miIter ll j ⟨manyA ll b s,s.at_,s.base,[]⟩):=rfl
  obtain⟨i,hi⟩:∃i,miIter ll j ⟨manyA ll b s,s.at_,s.base,[]⟩=i:=⟨_,rfl⟩
  rw[hi]at i1 i2 i3 i4 i5 hnx⊢
  by_cases hjl:j<M
  ·have hjl':(j:Int)<M:=by omega
   have hN65:=New_T 6 5 30 (by omega) (by omega) rfl (by omega)
   repeat (first
    |refine vB [22] ?_
    | (refine rG 24 ?_
       refine AList.callT rfl rfl rfl rfl rfl Try.func58 rfl (by kernel_rfl) (hN65) (fun _ _ _ _=>rfl) ?_
       (iterate 6 refine vA ?_)
       refine aB ?_))
   refine AWp.weak (S':=
    mkSt 147 [(0,.c (lsL ll)),(2,.c (.pt 2 5 0 0)),(3,.c (.pt 19 2 0 0)),(4,.c (.pt 4 5 0 0)),(7,.c (iC (lsN28 ll))),(8,.c (iC (fxN28 ll))),(9,.c (iC ((i)).at_)),(10,.c (.pt 10 3 0 0)),(11,.c (iC (k:Nat))),(12,.c (iC M)),(13,.c (.ow 155)),(14,.c (iC (j:Nat))),(15,.c (.pt 15 3 0 0))] [(2,⟨false,1,5,34,lF [nl8,nl8,nl8,nl8,nl8]⟩),(4,⟨false,1,5,34,lF [.ow 150,.ow 151,.ow 152,.ow 153,.ow 154]⟩),(19,dB ll ((i)).a),(150,rdB (rdIter ll (rdN ll)).2),(151,chB s.C),(152,bpB s.F),(153,bgB s.O),(154,bgB s.T),(10,⟨false,1,3,60,lF (bpC ((i)).base)⟩),(155,bpB ((i)).chs),(15,⟨false,1,3,60,lF (bpC (bp65 fun _=>false))⟩)] [2,4,19,150,151,152,153,154,10,155,15]
    ) (Wk.mk [(2,some 2),(4,some 4),(19,some 19),(150,some 150),(151,some 151),(152,some 152),(153,some 153),(154,some 154),(10,some 10),(155,some 155),(15,some 15)] rfl rfl rfl ?_ ?_) ?_
   ·exact allT
   ·exact⟨
    hSm,HeapOk.box rfl rfl ⟨LeC.ow _ _ rfl,LeC.ow _ _ rfl,LeC.ow _ _ rfl,LeC.ow _ _ rfl,LeC.ow _ _ rfl,trivial⟩ rfl,hSm,hrF rdC_imm
    ,
    HeapOk.row rfl rfl rfl (fun i _=>cell1 ⟨rfl,rfl⟩),hrF bpC_imm,hrF bgC_imm28,hrF bgC_imm28,hSm,
    hrF bpC_imm,HeapOk.box rfl rfl ⟨LeC.int rfl,LeC.int rfl,LeC.fz rfl rfl rfl (fun i _=>cell1 ⟨rfl,rfl⟩),trivial⟩ rfl,trivial⟩
   refine vB [25] ?_
   refine AWp.cut (
    mkSt 147 [(0,.c (lsL ll)),(2,.c (.pt 2 5 0 0)),(3,.c (.pt 19 2 0 0)),(4,.c (.pt 4 5 0 0)),(7,.c (iC (lsN28 ll))),(8,.c (iC (fxN28 ll))),(9,.c (iC ((i)).at_)),(10,.c (.pt 10 3 0 0)),(11,.c (iC (k:Nat))),(12,.c (iC M)),(13,.c (.ow 155)),(14,.c (iC (j:Nat))),(15,.c (.pt 15 3 0 0))] [(2,⟨false,1,5,34,lF [nl8,nl8,nl8,nl8,nl8]⟩),(4,⟨false,1,5,34,lF [.ow 150,.ow 151,.ow 152,.ow 153,.ow 154]⟩),(19,dB ll ((i)).a),(150,rdB (rdIter ll (rdN ll)).2),(151,chB s.C),(152,bpB s.F),(153,bgB s.O),(154,bgB s.T),(10,⟨false,1,3,60,lF (bpC ((i)).base)⟩),(155,bpB ((i)).chs),(15,⟨false,1,3,60,lF (bpC (bp65 (mdD ll i.at_)))⟩)] [2,4,19,150,151,152,153,154,10,155,15]
    ) ?_ (fun S1 hw1=>AWp.weak hw1 ?_)
   ·by_cases hat:i.at_<ll.length
    ·have hat':(i.at_:Int)<ll.length:=by omega
     obtain⟨L,hL⟩:∃L,ll.getD i.at_ []=L:=⟨_,rfl⟩
     have hD:mdD ll i.at_=rcropB (mdW (mkN L) (g16 (fI L))) (mdH (mkN L) (g16 (fI L))) (mdF (mkN L) (g16 (fI L)) (mdW (mkN L) (g16 (fI L))) (mdH (mkN L) (g16 (fI L))) 12 (dat (mkN L) (dat (mkN L) 0),fun _=>false)) 0 0 6:=by unfold mdD;rw[if_pos hat,hL]
     have hLl:=hk8 i.at_ hat
     rw[hL]at hLl
     have hcL:(fun (k _:Nat)=>lsI (ll.getD k [])) i.at_ 0=lsI L:=by rw[←hL]
     have m1:=Made_A (mkN L) (g16 (fI L)) (by show 2+L.length≤_;omega)
     have c1:ACalls Try.prog 59 [.ag (bpC (mdV (mkN L) (g16 (fI L)))),.c (iC 0),.c (iC 0),.c (iC 6),.c (iC 5)] (.tu [.ag (bpC (bp65 (mdD ll i.at_))),.c (iC 0)]):=by
      rw[hD]
      exact CrV_A (mkN L) (g16 (fI L)) 6 5 (by decide) (by decide)
     clear hD
     generalize mdV (mkN L) (g16 (fI L))=v at m1 c1
     generalize mdD ll i.at_=D at c1⊢
     have hgF:=g16_F (fI L) L.length
     refine vB [] ?_
     refine AWp.text ?_
     refine AText.split 6 ?_
     refine qr11 (AList.litOw tyOk) ?_
     (iterate 2 refine vA ?_)
     refine qr8eo2 (aP (k:=i.at_) tyOk) ?_
     refine AList.load1lE tyOk (hcL) rfl rfl rfl rfl rfl oM ?_
     refine AList.appL tyOk rfl rfl rfl rfl rfl rfl rfl rfl rfl rfl oM oM ?_
     refine aB ?_
     refine AText.weak (S':=
      mkSt 147 [(0,.c (lsL ll)),(2,.c (.pt 2 5 0 0)),(3,.c (.pt 19 2 0 0)),(4,.c (.pt 4 5 0 0)),(7,.c (iC (lsN28 ll))),(8,.c (iC (fxN28 ll))),(9,.c (iC ((i)).at_)),(10,.c (.pt 10 3 0 0)),(11,.c (iC (k:Nat))),(12,.c (iC M)),(13,.c (.ow 155)),(14,.c (iC (j:Nat))),(15,.c (.pt 15 3 0 0)),(85,.c (.ls (mkN L) 1 (iF (g16 (fI L)))))] [(2,⟨false,1,5,34,lF [nl8,nl8,nl8,nl8,nl8]⟩),(4,⟨false,1,5,34,lF [.ow 150,.ow 151,.ow 152,.ow 153,.ow 154]⟩),(19,dB ll ((i)).a),(150,rdB (rdIter ll (rdN ll)).2),(151,chB s.C),(152,bpB s.F),(153,bgB s.O),(154,bgB s.T),(10,⟨false,1,3,60,lF (bpC ((i)).base)⟩),(155,bpB ((i)).chs),(15,⟨false,1,3,60,lF (bpC (bp65 fun _=>false))⟩)] [2,4,19,150,151,152,153,154,10,155,15]
      ) (Wk.mk [(2,some 2),(4,some 4),(19,some 19),(150,some 150),(151,some 151),(152,some 152),(153,some 153),(154,some 154),(10,some 10),(155,some 155),(15,some 15)] rfl rfl rfl ?_ ?_) ?_
     ·repeat (first|exact trivial|refine⟨⟨_,rfl,by first|exact LeA.c (LeC.fz rfl rfl rfl hgF)|exact leT⟩,?_⟩)
     ·exact⟨
      hSm,HeapOk.box rfl rfl ⟨LeC.ow _ _ rfl,LeC.ow _ _ rfl,LeC.ow _ _ rfl,LeC.ow _ _ rfl,LeC.ow _ _ rfl,trivial⟩ rfl,hSm,hrF rdC_imm
      ,
      HeapOk.row rfl rfl rfl (fun i _=>cell1 ⟨rfl,rfl⟩),hrF bpC_imm,hrF bgC_imm28,hrF bgC_imm28,hSm,
      hrF bpC_imm,hSm,trivial⟩
     refine AText.all ?_
     refine aH rfl rfl rfl rfl Try.func28 rfl (by kernel_rfl) (m1) ?_
     refine aH rfl rfl rfl rfl Try.func59 rfl (by kernel_rfl) (c1) ?_
     (iterate 4 refine vA ?_)
     refine aB ?_
     refine⟨rfl,Wk.mk [(2,some 2),(4,some 4),(19,some 19),(150,some 150),(151,some 151),(152,some 152),(153,some 153),(154,some 154),(10,some 10),(155,some 155),(15,some 15)] rfl rfl rfl ?_ ?_⟩
     ·exact allT
     ·exact⟨
      hSm,HeapOk.box rfl rfl ⟨LeC.ow _ _ rfl,LeC.ow _ _ rfl,LeC.ow _ _ rfl,LeC.ow _ _ rfl,LeC.ow _ _ rfl,trivial⟩ rfl,hSm,hrF rdC_imm
      ,
      HeapOk.row rfl rfl rfl (fun i _=>cell1 ⟨rfl,rfl⟩),hrF bpC_imm,hrF bgC_imm28,hrF bgC_imm28,hSm,
      hrF bpC_imm,hSm,trivial⟩
    ·have hat':¬(i.at_:Int)<ll.length:=by omega
     have hD:mdD ll i.at_=fun _=>false:=by unfold mdD;rw[if_neg hat]
     rw[hD]
     refine vB [] ?_
     refine⟨rfl,Wk.mk [(2,some 2),(4,some 4),(19,some 19),(150,some 150),(151,some 151),(152,some 152),(153,some 153),(154,some 154),(10,some 10),(155,some 155),(15,some 15)] rfl rfl rfl ?_ ?_⟩
     ·exact allT
     ·exact⟨
      hSm,HeapOk.box rfl rfl ⟨LeC.ow _ _ rfl,LeC.ow _ _ rfl,LeC.ow _ _ rfl,LeC.ow _ _ rfl,LeC.ow _ _ rfl,trivial⟩ rfl,hSm,hrF rdC_imm
      ,
      HeapOk.row rfl rfl rfl (fun i _=>cell1 ⟨rfl,rfl⟩),hrF bpC_imm,hrF bgC_imm28,hrF bgC_imm28,hSm,
      hrF bpC_imm,hSm,trivial⟩
   have n1:=nx_A ll i.a 3 i1 hN (by decide) (by decide)
   have hD:miD ll i=if dvA ll i.a 3=0 then pasD (mdD ll i.at_) i.base.W i.base.H i.base.d else mdD ll i.at_:=rfl
   have hat:i.at_≤100:=by omega
   have hP:=Paste_A (mdD ll i.at_) i.base.W i.base.H i.base.n i.base.d i3
   refine uA ?_
   repeat (first
    |refine vB [27] ?_
    | (refine rG 28 ?_
       refine vA ?_
       refine AList.callH [19] [dB ll i.a] [dB ll (nxA ll i.a)] rfl rfl rfl Try.func56 rfl (by kernel_rfl) (LendOk.box rfl rfl rfl trivial) rfl (LendImm.box rfl trivial) (n1) ?_
       refine vA ?_
       refine aB ?_))
   refine AWp.cut (
    mkSt 147 [(0,.c (lsL ll)),(2,.c (.pt 2 5 0 0)),(3,.c (.pt 19 2 0 0)),(4,.c (.pt 4 5 0 0)),(7,.c (iC (lsN28 ll))),(8,.c (iC (fxN28 ll))),(9,.c (iC (((i)).at_+1))),(10,.c (.pt 10 3 0 0)),(11,.c (iC (k:Nat))),(12,.c (iC M)),(13,.c (.ow 155)),(14,.c (iC (j:Nat))),(15,.c (.pt 15 3 0 0))] [(2,⟨false,1,5,34,lF [nl8,nl8,nl8,nl8,nl8]⟩),(4,⟨false,1,5,34,lF [.ow 150,.ow 151,.ow 152,.ow 153,.ow 154]⟩),(19,dB ll (nxA ll (i).a)),(150,rdB (rdIter ll (rdN ll)).2),(151,chB s.C),(152,bpB s.F),(153,bgB s.O),(154,bgB s.T),(10,⟨false,1,3,60,lF (bpC ((i)).base)⟩),(155,bpB ((i)).chs),(15,⟨false,1,3,60,lF (bpC (bp65 (miD ll i)))⟩)] [2,4,19,150,151,152,153,154,10,155,15]
    ) ?_ (fun S1 hw1=>AWp.weak hw1 ?_)
   ·generalize dvA ll i.a 3=x at hD
    by_cases hx:x=0
    ·rw [if_pos hx]at hD
     rw[hD]
     repeat (first
      |refine vB [] ?_
      | (refine rG 29 ?_
         (iterate 2 refine vA ?_)
         refine aH rfl rfl rfl rfl Try.func60 rfl (by kernel_rfl) (hP) ?_
         refine vA ?_
         refine aB ?_))
     refine⟨rfl,Wk.mk [(2,some 2),(4,some 4),(19,some 19),(150,some 150),(151,some 151),(152,some 152),(153,some 153),(154,some 154),(10,some 10),(155,some 155),(15,some 15)] rfl rfl rfl ?_ ?_⟩
     ·exact allT
     ·exact⟨
      hSm,HeapOk.box rfl rfl ⟨LeC.ow _ _ rfl,LeC.ow _ _ rfl,LeC.ow _ _ rfl,LeC.ow _ _ rfl,LeC.ow _ _ rfl,trivial⟩ rfl,hSm,hrF rdC_imm
      ,
      HeapOk.row rfl rfl rfl (fun i _=>cell1 ⟨rfl,rfl⟩),hrF bpC_imm,hrF bgC_imm28,hrF bgC_imm28,hSm,
      hrF bpC_imm,hSm,trivial⟩
    ·rw[if_neg hx]at hD
     rw[hD]
     refine vB [] ?_
     refine⟨rfl,Wk.mk [(2,some 2),(4,some 4),(19,some 19),(150,some 150),(151,some 151),(152,some 152),(153,some 153),(154,some 154),(10,some 10),(155,some 155),(15,some 15)] rfl rfl rfl ?_ ?_⟩
     ·exact allT
     ·exact⟨
      hSm,HeapOk.box rfl rfl ⟨LeC.ow _ _ rfl,LeC.ow _ _ rfl,LeC.ow _ _ rfl,LeC.ow _ _ rfl,LeC.ow _ _ rfl,trivial⟩ rfl,hSm,hrF rdC_imm
      ,
      HeapOk.row rfl rfl rfl (fun i _=>cell1 ⟨rfl,rfl⟩),hrF bpC_imm,hrF bgC_imm28,hrF bgC_imm28,hSm,
      hrF bpC_imm,hSm,trivial⟩
   clear hP hD n1 hN65
   refine uA ?_
   refine vB [30] ?_
   refine AWp.cut (
    mkSt 147 [(0,.c (lsL ll)),(2,.c (.pt 2 5 0 0)),(3,.c (.pt 19 2 0 0)),(4,.c (.pt 4 5 0 0)),(7,.c (iC (lsN28 ll))),(8,.c (iC (fxN28 ll))),(9,.c (iC (((i)).at_+1))),(10,.c (.pt 10 3 0 0)),(11,.c (iC (k:Nat))),(12,.c (iC M)),(13,.c (.ow 155)),(14,.c (iC (j:Nat))),(15,.c (.pt 15 3 0 0))] [(2,⟨false,1,5,34,lF [nl8,nl8,nl8,nl8,nl8]⟩),(4,⟨false,1,5,34,lF [.ow 150,.ow 151,.ow 152,.ow 153,.ow 154]⟩),(19,dB ll (nxA ll (i).a)),(150,rdB (rdIter ll (rdN ll)).2),(151,chB s.C),(152,bpB s.F),(153,bgB s.O),(154,bgB s.T),(10,⟨false,1,3,60,lF (bpC ((if i.chs= []then bp65 (miD ll i)else i.base)))⟩),(155,bpB ((i)).chs),(15,⟨false,1,3,60,lF (bpC (bp65 (miD ll i)))⟩)] [2,4,19,150,151,152,153,154,10,155,15]
    ) ?_ (fun S1 hw1=>AWp.weak hw1 ?_)
   ·by_cases hj0:j=0
    ·have hc0:((i.chs.length:Nat):Int)=0:=by omega
     rw[if_pos (List.eq_nil_of_length_eq_zero (by omega))]
     refine vB [31] ?_
     refine⟨rfl,Wk.mk [(2,some 2),(4,some 4),(19,some 19),(150,some 150),(151,some 151),(152,some 152),(153,some 153),(154,some 154),(10,some 10),(155,some 155),(15,some 15)] rfl rfl rfl ?_ ?_⟩
     ·exact allT
     ·exact⟨
      hSm,HeapOk.box rfl rfl ⟨LeC.ow _ _ rfl,LeC.ow _ _ rfl,LeC.ow _ _ rfl,LeC.ow _ _ rfl,LeC.ow _ _ rfl,trivial⟩ rfl,hSm,hrF rdC_imm
      ,
      HeapOk.row rfl rfl rfl (fun i _=>cell1 ⟨rfl,rfl⟩),hrF bpC_imm,hrF bgC_imm28,hrF bgC_imm28,hSm,
      hrF bpC_imm,hSm,trivial⟩
    ·have hc0:¬((i.chs.length:Nat):Int)=0:=by omega
     rw[if_neg (fun h=>hj0 (by rw[h]at i4;exact i4.symm))]
     refine vB [] ?_
     refine⟨rfl,Wk.mk [(2,some 2),(4,some 4),(19,some 19),(150,some 150),(151,some 151),(152,some 152),(153,some 153),(154,some 154),(10,some 10),(155,some 155),(15,some 15)] rfl rfl rfl ?_ ?_⟩
     ·exact allT
     ·exact⟨
      hSm,HeapOk.box rfl rfl ⟨LeC.ow _ _ rfl,LeC.ow _ _ rfl,LeC.ow _ _ rfl,LeC.ow _ _ rfl,LeC.ow _ _ rfl,trivial⟩ rfl,hSm,hrF rdC_imm
      ,
      HeapOk.row rfl rfl rfl (fun i _=>cell1 ⟨rfl,rfl⟩),hrF bpC_imm,hrF bgC_imm28,hrF bgC_imm28,hSm,
      hrF bpC_imm,hSm,trivial⟩
   replace hnx:miIter ll (j+1) ⟨manyA ll b s,s.at_,s.base,[]⟩=⟨nxA ll i.a,i.at_+1,if i.chs= []then bp65 (miD ll i)else i.base,i.chs++ [bp65 (miD ll i)]⟩:=hnx
   generalize (if i.chs= []then bp65 (miD ll i)else i.base)=nb at hnx⊢
   repeat (first
    |refine vB [23] ?_
    | (refine rG 32 ?_
       (iterate 3 refine vA ?_)
       refine AList.appL tyOk rfl rfl rfl rfl rfl rfl rfl rfl rfl rfl oM oM ?_
       refine vA ?_
       refine aB ?_))
   refine⟨j+1,hjl,?_,by omega⟩
   rw[hnx]
   refine Wk.mk [(2,some 2),(4,some 4),(19,some 19),(150,some 150),(151,some 151),(152,some 152),(153,some 153),(154,some 154),(10,some 10),(155,some 105)] rfl rfl rfl ?_ ?_
   ·exact allT
   ·exact⟨
    hSm,HeapOk.box rfl rfl ⟨LeC.ow _ _ rfl,LeC.ow _ _ rfl,LeC.ow _ _ rfl,LeC.ow _ _ rfl,LeC.ow _ _ rfl,trivial⟩ rfl,hSm,hrF rdC_imm
    ,
    HeapOk.row rfl rfl rfl (fun i _=>cell1 ⟨rfl,rfl⟩),hrF bpC_imm,hrF bgC_imm28,hrF bgC_imm28,hSm,
    HeapOk.row rfl rfl List.length_append (row_snoc _ _ bpC_imm rfl),trivial⟩
  have hjl':¬(j:Int)<M:=by omega
  obtain rfl:M=j:=by omega
  rw[hi]at hI
  have n1:=nx_A ll i.a 3 i1 hN (by decide) (by decide)
  have n2:=nx_A ll (nxA ll i.a) 3 (nxA_le ll i1) hN (by decide) (by decide)
  have n3:=nx_A ll (nxA ll (nxA ll i.a)) 4 (nxA_le ll (nxA_le ll i1)) hN (by decide) (by decide)
  have n4:=nx_A ll (nxA ll (nxA ll (nxA ll i.a))) 3 (nxA_le ll (nxA_le ll (nxA_le ll i1))) hN (by decide) (by decide)
  have d3:=dvA_bd ll (nxA ll (nxA ll i.a)) 4 (by decide)
  have hB:ACalls Try.prog 61 [.c (.ls 4 1 (sF [iC (dvA ll i.a 3),iC (dvA ll (nxA ll i.a) 3),iC (dvA ll (nxA ll (nxA ll i.a)) 4/3),iC (dvA ll (nxA ll (nxA ll (nxA ll i.a))) 3)] 1))] (.ag (bgC (budV ll i.a))):=
   (Budget_A 4 (budF ll i.a) (by decide)).cv ⟨.c (Cv.lit fun k hk=>by
     have:k=0∨k=1∨k=2∨k=3:=by omega
     rcases this with rfl|rfl|rfl|rfl<;>rfl),trivial⟩
  have hat:i.at_≤100:=by omega
  repeat (first
   |refine vB [22] ?_
   | (refine rG 33 ?_
      refine vA ?_
      refine AList.callH [19] [dB ll i.a] [dB ll (nxA ll i.a)] rfl rfl rfl Try.func56 rfl (by kernel_rfl) (LendOk.box rfl rfl rfl trivial) rfl (LendImm.box rfl trivial) (n1) ?_
      refine vA ?_
      refine AList.callH [19] [dB ll (nxA ll i.a)] [dB ll (nxA ll (nxA ll i.a))] rfl rfl rfl Try.func56 rfl (by kernel_rfl) (LendOk.box rfl rfl rfl trivial) rfl (LendImm.box rfl trivial) (n2) ?_
      refine vA ?_
      refine AList.callH [19] [dB ll (nxA ll (nxA ll i.a))] [dB ll (nxA ll (nxA ll (nxA ll i.a)))] rfl rfl rfl Try.func56 rfl (by kernel_rfl) (LendOk.box rfl rfl rfl trivial) rfl (LendImm.box rfl trivial) (n3) ?_
      (iterate 2 refine vA ?_)
      refine AList.callH [19] [dB ll (nxA ll (nxA ll (nxA ll i.a)))] [dB ll (nxA ll (nxA ll (nxA ll (nxA ll i.a))))] rfl rfl rfl Try.func56 rfl (by kernel_rfl) (LendOk.box rfl rfl rfl trivial) rfl (LendImm.box rfl trivial) (n4) ?_
      refine vA ?_
      refine aH rfl rfl rfl rfl Try.func61 rfl (by kernel_rfl) (hB) ?_
      (iterate 2 refine vA ?_)
      refine aB ?_))
  refine AWp.weak (S':=
   mkSt 147 [(0,.c (lsL ll)),(2,.c (.pt 2 5 0 0)),(3,.c (.pt 19 2 0 0)),(4,.c (.pt 4 5 0 0)),(7,.c (iC (lsN28 ll))),(8,.c (iC (fxN28 ll))),(9,.c (iC (i.at_))),(10,.c (.pt 10 3 0 0)),(11,.c (iC (k:Nat))),(13,.c (lsB i.chs)),(17,.c (.pt 17 4 0 0))] [(2,⟨false,1,5,34,lF [nl8,nl8,nl8,nl8,nl8]⟩),(4,⟨false,1,5,34,lF [.ow 150,.ow 151,.ow 152,.ow 153,.ow 154]⟩),(19,dB ll (nxA ll (nxA ll (nxA ll (nxA ll i.a))))),(150,rdB (rdIter ll (rdN ll)).2),(151,chB (s.C)),(152,bpB (s.F)),(153,bgB (s.O)),(154,bgB (s.T)),(10,⟨false,1,3,60,lF (bpC (i.base))⟩),(17,⟨false,1,4,62,lF (bgC (budV ll i.a))⟩)] [2,4,19,150,151,152,153,154,10,17]
   ) (Wk.mk [(2,some 2),(4,some 4),(19,some 19),(150,some 150),(151,some 151),(152,some 152),(153,some 153),(154,some 154),(10,some 10),(17,some 17)] rfl rfl rfl ?_ ?_) ?_
  ·repeat (first|exact trivial|refine⟨⟨_,rfl,by first|exact LeA.c (LeC.fz rfl rfl rfl (fun i _ j _=>⟨rfl,rowF_imm bpC_imm _ i j⟩))|exact leT⟩,?_⟩)
  ·exact⟨
   hSm,HeapOk.box rfl rfl ⟨LeC.ow _ _ rfl,LeC.ow _ _ rfl,LeC.ow _ _ rfl,LeC.ow _ _ rfl,LeC.ow _ _ rfl,trivial⟩ rfl,hSm,hrF rdC_imm
   ,
   HeapOk.row rfl rfl rfl (fun i _=>cell1 ⟨rfl,rfl⟩),hrF bpC_imm,hrF bgC_imm28,hrF bgC_imm28,hSm,
   hSm,trivial⟩
  clear hB n1 n2 n3 n4
  have hcl:i.chs.length≤3:=by omega
  cases b with
  | true=>
    have hlt:(k:Int)<lsN28 ll:=by have:=of_decide_eq_true hb;omega
    replace hnext:moIter ll (k+1)=⟨nxA ll (nxA ll (nxA ll (nxA ll (moI ll true s).a))),(moI ll true s).at_,(moI ll true s).base,s.C++ [(moI ll true s).chs],s.O++ [budV ll (moI ll true s).a],s.F,s.T⟩:=hnext
    rw[hI]at hnext
    generalize budV ll i.a=bv at *
    repeat (first
     |refine vB [16,34] ?_
     | (refine rG 35 ?_
        (iterate 4 refine vA ?_)
        refine AList.appL tyOk rfl rfl rfl rfl rfl rfl rfl rfl rfl rfl oM oM ?_
        (iterate 2 refine vA ?_)
        refine aB ?_)
     | (refine rG 36 ?_
        (iterate 4 refine vA ?_)
        refine AList.appL tyOk rfl rfl rfl rfl rfl rfl rfl rfl rfl rfl oM oM ?_
        (iterate 2 refine vA ?_)
        refine aB ?_))
    refine⟨k+1,hkl,?_,by omega⟩
    rw[hnext]
    refine Wk.mk [(2,some 2),(4,some 4),(19,some 19),(150,some 150),(151,some 124),(152,some 152),(153,some 130),(154,some 154),(10,some 10)] rfl rfl rfl ?_ ?_
    ·exact allT
    ·exact⟨
     hSm,HeapOk.box rfl rfl ⟨LeC.ow _ _ rfl,LeC.ow _ _ rfl,LeC.ow _ _ rfl,LeC.ow _ _ rfl,LeC.ow _ _ rfl,trivial⟩ rfl,hSm,hrF rdC_imm
     ,HeapOk.row rfl rfl List.length_append (chF_snoc _ _),hrF bpC_imm,HeapOk.row rfl rfl List.length_append (row_snoc _ _ bgC_imm28 rfl),hrF bgC_imm28,hSm,trivial⟩
  | false=>
    have hlt:¬(k:Int)<lsN28 ll:=by have:=of_decide_eq_false hb;omega
    have hM1:M=1:=hM.symm
    have hcl1:0<i.chs.length:=by omega
    replace hnext:moIter ll (k+1)=⟨nxA ll (nxA ll (nxA ll (nxA ll (moI ll false s).a))),(moI ll false s).at_,(moI ll false s).base,s.C,s.O,s.F++ [(moI ll false s).chs.getD 0 bpZ],s.T++ [budV ll (moI ll false s).a]⟩:=hnext
    rw[hI]at hnext
    generalize budV ll i.a=bv at *
    repeat (first
     |refine vB [16,34] ?_
     |(refine AWp.draw (id:=37) mixed ?_;(iterate 3 refine vA ?_);refine qr8eo2 (aP (k:=0) tyOk) ?_;(iterate 2 refine vA ?_);refine AList.appL tyOk rfl rfl rfl rfl rfl rfl rfl rfl rfl rfl oM oM ?_;(iterate 2 refine vA ?_);refine aB ⟨by kernel_rfl,?_⟩)
     | (refine rG 38 ?_
        (iterate 4 refine vA ?_)
        refine AList.appL tyOk rfl rfl rfl rfl rfl rfl rfl rfl rfl rfl oM oM ?_
        (iterate 2 refine vA ?_)
        refine aB ?_))
    refine⟨k+1,hkl,?_,by omega⟩
    rw[hnext]
    refine Wk.mk [(2,some 2),(4,some 4),(19,some 19),(150,some 150),(151,some 151),(152,some 138),(153,some 153),(154,some 144),(10,some 10)] rfl rfl rfl ?_ ?_
    ·exact allT
    ·exact⟨
     hSm,HeapOk.box rfl rfl ⟨LeC.ow _ _ rfl,LeC.ow _ _ rfl,LeC.ow _ _ rfl,LeC.ow _ _ rfl,LeC.ow _ _ rfl,trivial⟩ rfl,hSm,hrF rdC_imm
     ,HeapOk.row rfl rfl rfl (fun i _=>cell1 ⟨rfl,rfl⟩),HeapOk.row rfl rfl List.length_append (row_snoc _ _ bpC_imm rfl),hrF bgC_imm28,HeapOk.row rfl rfl List.length_append (row_snoc _ _ bgC_imm28 rfl),hSm,trivial⟩
 have hkl':¬(k:Int)<(lsN28 ll:Int)+fxN28 ll:=by omega
 obtain rfl:k=lsN28 ll+fxN28 ll:=by omega
 unfold made28
 rw[hs]
 refine vB [15,39] ?_
 refine⟨mkSt 147 [(2,.c (.pt 2 5 0 0))] [(2,⟨false,1,5,34,lF (pbC ⟨(rdIter ll (rdN ll)).2,s.C,s.F,s.O,s.T⟩)⟩)] [2],[(2,⟨false,1,5,34,lF (pbC ⟨(rdIter ll (rdN ll)).2,s.C,s.F,s.O,s.T⟩)⟩)],Wk.mk [(2,some 2)] rfl rfl rfl ?_ ?_,rfl,rfl,ARets.one (x:=.ag _) (ARes.box tyOk rfl rfl rfl rfl rfl rfl rfl)⟩
 ·exact allT
 ·exact⟨HeapOk.box rfl rfl ⟨LeC.fz rfl rfl rfl (fun i _ j _=>⟨rfl,rowF_imm rdC_imm _ i j⟩),LeC.fz rfl rfl rfl (fun i _=>cell1 ⟨rfl,rfl⟩),LeC.fz rfl rfl rfl (fun i _ j _=>⟨rfl,rowF_imm bpC_imm _ i j⟩),LeC.fz rfl rfl rfl (fun i _ j _=>⟨rfl,rowF_imm bgC_imm28 _ i j⟩),LeC.fz rfl rfl rfl (fun i _ j _=>⟨rfl,rowF_imm bgC_imm28 _ i j⟩),trivial⟩ rfl,trivial⟩
end Go.Proofs.Ytbffmfeldkjkcaa
end
section
namespace Go.Proofs.Ytbffmfeldkjkcaa
open Go.ChangeShapes Go.WideShapes Go.ChangeAt Go.RowKit Go.Flow Go.AV
theorem reachBytes_le:reachBytes≤140737488351232:=by decide
theorem bytesL28:Try.prog.bytesOf 23=24:=by kernel_rfl
section
variable{H:Type}{enc:TypeId×Value→H}{W:World}
theorem opn_ints28:Opn enc Try.prog W 23 (fun L:List Int=> [lsI L]) (fun L=>L.length*8≤140737488351232∧∀a∈L,-9223372036854775808≤a∧a≤9223372036854775807):=
 (opn_int.slice1 0 Try.underlying23 cellsI bytesI fun _=>rfl).mono fun L h=>⟨by have:=reachBytes_le;omega,h.2⟩
theorem opn_ll:Opn enc Try.prog W 22 (fun L:List (List Int)=> [lsL L]) LlOk:=
 (opn_ints28.slice1 [] Try.underlying22 cellsL bytesL28 fun _=>rfl).mono fun L h=>⟨by have:=reachBytes_le;omega,fun k hk=>(h.2 _ (getD_mem28 hk)).1⟩
theorem opn_q3:Opn enc Try.prog W 24 (fun q:Int×Int×Int=> [iC q.1,iC q.2.1,iC q.2.2]) (fun q=> -9223372036854775808≤q.2.1∧q.2.1≤9223372036854775807):=
 (opn_int.array Try.underlying24 cellsI (by kernel_rfl)).conv fun L h=>by
   obtain⟨h1,h2⟩:=h
   obtain⟨x,y,z,rfl⟩:∃x y z,L= [x,y,z]:=by
    match L,h1 with
    | [x,y,z],_=>exact⟨x,y,z,rfl⟩
   exact⟨(x,y,z),h2 y (by simp),fun _ h=>h⟩
end
end Go.Proofs.Ytbffmfeldkjkcaa
end
