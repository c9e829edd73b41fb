/- Parts of the proof: ACode, AOps. -/
import Derived.Test.YtbffmfeldkjkcaaGreatG02
set_option linter.unusedSimpArgs false
set_option linter.unusedVariables false
set_option maxHeartbeats 0
section
namespace Go.AV
open Go Go.RowKit Go.Flow
section
variable{P:Program}
theorem zSW{F:Fence}{n:Nat}{P:Program}{ι:Type}{c:Code}{Q:Exit→Act→World→Prop}(R:ι→Act→World→Prop)(μ:ι→Nat)(i0:ι){a:Act}{w:World}(h0:R i0 a w)
 (hr:∀i a w,R i a w→c.wpIn F n P (Exit.then (fun a w=>∃j,R j a w∧μ j<μ i) Q) a w):(Code.loop c).wpIn F n P Q a w:=by
 classical
 let I:Act→World→Prop:=fun a w=>∃i,R i a w
 have least:∀a w,I a w→∃m,(∃i,R i a w∧μ i=m)∧∀i,R i a w→m≤μ i:=fun a w ⟨i,hi⟩=>by
  have:∀n i,R i a w→μ i=n→∃m,(∃i,R i a w∧μ i=m)∧∀i,R i a w→m≤μ i:=fun n=>by
   induction n using Nat.strongRecOn with
   | _ n ih=>
     intro i hi hn;by_cases hc:∃j,R j a w∧μ j<n
     ·obtain⟨j,h1,h2⟩:=hc
      exact ih (μ j) h2 j h1 rfl
     ·exact⟨n,⟨i,hi,hn⟩,fun j hj=>Nat.le_of_not_lt fun h=>hc ⟨j,hj,h⟩⟩
  exact this _ i hi rfl
 refine wpIn_loop I (fun a w=>if h:I a w then Classical.choose (least a w h)else 0) ⟨i0,h0⟩ fun a w hI=> ?_
 obtain⟨⟨i,hi,hm⟩,hmin⟩:=Classical.choose_spec (least a w hI)
 refine wpIn_mono (hr i a w hi) fun e a' w' hq=> ?_
 cases e with
 | normal=>
   obtain⟨j,hj,hlt⟩:=hq
   have hI':I a' w':=⟨j,hj⟩
   refine⟨hI',?_⟩
   simp only[dif_pos hI,dif_pos hI']
   have:=(Classical.choose_spec (least a' w' hI')).2 j hj
   omega
 |_=>exact hq
structure AWp(P:Program)(c:Code)(Q:Exit→St→Prop)(S:St):Prop where
 get:∀b0 a w,Rel b0 S a w→c.wpIn (fnc b0.rd) 0 P (fun e a' w'=>∃S',Rel b0 S' a' w'∧Q e S') a w
def zCe(next:St→Prop)(Q:Exit→St→Prop):Exit→St→Prop
 | .normal,S=>next S
 |e,S=>Q e S
def zEP(id:Nat)(Q:Exit→St→Prop):Exit→St→Prop
 | .exit k,S=>bif Nat.beq k id then Q .normal S else Q (.exit k) S
 |e,S=>Q e S
variable{Q Q':Exit→St→Prop}{S S':St}
theorem AWp.mono{c:Code}(h:AWp P c Q S)(hq:∀e S,Q e S→Q' e S):AWp P c Q' S:=⟨fun b0 a w hR=>wpIn_mono (h.get b0 a w hR) fun e a w ⟨S',h1,h2⟩=>⟨S',h1,hq _ _ h2⟩⟩
theorem AWp.region{id:Nat}{l:List Oper}(h:AList P l.toArray l [] S (fun _ S'=>Q .normal S')):AWp P (.region id l.toArray false) Q S:=⟨fun b0 a w hR=>
 zS0 (QS:=fun S'=>Q .normal S') h hR fun S a w h1 h2=>⟨S,h2,h1⟩⟩
theorem AWp.draw{id:Nat}{l:List Oper}(hm:P.follows .mixedOrders=true)(h:AList P l.toArray l [] S (fun fps S'=>zFU l.toArray fps=true∧Q .normal S')):AWp P (.region id l.toArray true) Q S:=⟨fun b0 a w hR=>
 zSZ (QS:=fun S'=>Q .normal S') hm h hR fun S a w h1 h2=>⟨S,h2,h1⟩⟩
theorem AWp.seq{x y:Code}(h:AWp P x (zCe (AWp P y Q) Q) S):AWp P (.seq x y) Q S:=⟨fun b0 a w hR=>
 wpIn_seq (wpIn_mono (h.get b0 a w hR) fun e a w ⟨S',h1,h2⟩=>by cases e<;>first|exact h2.get b0 a w h1|exact⟨S',h1,h2⟩)⟩
theorem AWp.skip(h:Q .normal S):AWp P .skip Q S:=⟨fun b0 a w hR=>wpIn_skip ⟨S,hR,h⟩⟩
theorem AWp.exit{id:Nat}(h:Q (.exit id) S):AWp P (.exit id) Q S:=⟨fun b0 a w hR=>wpIn_exit ⟨S,hR,h⟩⟩
theorem AWp.ret(h:Q .ret S):AWp P .ret Q S:=⟨fun b0 a w hR=>wpIn_ret ⟨S,hR,h⟩⟩
theorem AWp.block{id:Nat}{c:Code}(h:AWp P c (zEP id Q) S):AWp P (.block id c) Q S:=⟨fun b0 a w hR=>
 wpIn_block (wpIn_mono (h.get b0 a w hR) fun e a w ⟨S',h1,h2⟩=>by
  cases e with
  | exit k=>
    simp only[Exit.inBlock]
    simp only[zEP]at h2
    by_cases hk:k=id
    ·subst hk
     rw[if_pos rfl];rw[show Nat.beq k k=true from Nat.beq_refl k]at h2
     exact⟨S',h1,h2⟩
    ·rw[if_neg hk]
     rw[show Nat.beq k id=false from Bool.eq_false_iff.2 fun h=>hk (Nat.eq_of_beq_eq_true h)]at h2
     exact⟨S',h1,h2⟩
  |_=>exact⟨S',h1,h2⟩)⟩

def zM0(v:Value):AV:=
 match v with
 | .agg cs=>.ag (cs.toList.map .p)
 |v=>.c (.p v)
def zJV(v:Value):Bool:=
 match v with
 | .agg cs=>cs.toList.all (·.oneCell')
 |v=>v.oneCell'
def St.opd(S:St):Operand→Option AV
 | .tmp t=>S.t t
 | .const v=>bif zJV v then some (zM0 v)else none
 | .func f=>some (.c (.fn f 0 fun _=>.any))
 | .global _=>none
theorem zW{b0:zN}{σ:Nat→Option Value}{a:Act}{w:World}(hR:Rel0 b0 σ S a w){x:Operand}{y:AV}(h:S.opd x=some y):RepA σ (out b0 σ S.h) w y (a.eval x):=by
 cases x with
 |tmp t=>exact hR.sl t y h
 |global g=>cases h
 | func f=>
   obtain rfl:AV.c (.fn f 0 fun _=>.any)=y:=by simpa[St.opd]using h
   exact⟨rfl,[],rfl,rfl,fun i hi=>absurd hi (by omega)⟩
 | const v=>
   simp only[St.opd]at h
   cases hv:zJV v with
   |false=>rw[hv]at h;cases h
   | true=>
     rw[hv]at h;obtain rfl:zM0 v=y:=by simpa using h
     have one:∀v:Value,v.oneCell'=true→RepC σ (out b0 σ S.h) w (.p v) v:=fun v h=>⟨h,rfl⟩
     cases v with
     | agg cs=>
       refine⟨cs.toList,rfl,zA5 (by simp) fun i x v h1 h2=> ?_⟩
       obtain⟨v',e1,rfl⟩:∃v',cs.toList[i]?=some v'∧CV.p v'=x:=by simpa[List.getElem?_map,Option.map_eq_some_iff]using h1
       rw[e1]at h2
       cases h2
       have hall:cs.toList.all (·.oneCell')=true:=hv;exact one _ (List.all_eq_true.1 hall _ (List.mem_of_getElem? e1))
     |tuple vs=>exact absurd hv (by simp[zJV,Value.oneCell'])
     |_=>exact one _ hv

theorem AWp.cond{c:Operand}{x y:Code}{b:Bool}(hc:S.opd c=some (.c (.p (.bool b))))(ht:b=true→AWp P x Q S)(hf:b=false→AWp P y Q S):AWp P (.cond c x y) Q S:=⟨fun b0 a w hR=>by
 obtain⟨σ,h0⟩:=hR
 have hv:a.eval c=.bool b:=(zW h0 hc).2;exact wpIn_cond_split hv (fun h=>(ht h).get b0 a w ⟨σ,h0⟩) fun h=>(hf h).get b0 a w ⟨σ,h0⟩⟩

def Wk(S S':St):Prop:=∀b0 a w,Rel b0 S a w→Rel b0 S' a w
theorem Wk.refl{S:St}:Wk S S:=fun _ _ _ h=>h
theorem AWp.weak{c:Code}(hw:Wk S S')(h:AWp P c Q S'):AWp P c Q S:=⟨fun b0 a w hR=>h.get b0 a w (hw b0 a w hR)⟩
theorem AWp.loop{ι:Type}{c:Code}(I:ι→St)(μ:ι→Nat)(i0:ι)(h0:Wk S (I i0))
 (hr:∀i,AWp P c (zCe (fun S'=>∃j,Wk S' (I j)∧μ j<μ i) Q) (I i)):AWp P (.loop c) Q S:=⟨fun b0 a w hR=>by
 refine zSW (fun i a w=>Rel b0 (I i) a w) μ i0 (h0 b0 a w hR) fun i a w hI=>wpIn_mono ((hr i).get b0 a w hI) fun e a w ⟨S',h1,h2⟩=> ?_
 cases e with
 | normal=>
   obtain⟨j,hw,hlt⟩:=h2
   exact⟨j,hw b0 a w h1,hlt⟩
 |_=>exact⟨S',h1,h2⟩⟩

def zD{α:Type}:List (Nat×α)→Nat→Option α
 | [],_=>none
 |p::r,k=>cond (Nat.beq k p.1) (some p.2) (zD r k)
def mkG(G:zN→Prop)(gs:Nat)(dd:Bool)(n ln:Nat)(ts:List (Nat×AV))(hs:List (Nat×AB))(ids:List Nat):St:={n,ln,t:=zD ts,h:=zD hs,fr:=fun id=>Nat.blt id 1000 && !(ids.any (Nat.beq id)),G,gs,dd}
abbrev mkL(n ln:Nat)(ts:List (Nat×AV))(hs:List (Nat×AB))(ids:List Nat):St:=mkG (fun b=>b.rd=none) 0 false n ln ts hs ids
abbrev zC(n:Nat)(ts:List (Nat×AV))(hs:List (Nat×AB))(ids:List Nat):St:=mkL n 0 ts hs ids
theorem zBe{α:Type}:∀{l:List (Nat×α)} {k:Nat} {x:α},zD l k=some x→(k,x)∈l
 | p ::r,k,x,h=>by
   unfold zD at h
   cases hb:Nat.beq k p.1 with
   | true=>
     rw[hb]at h;have hk:=Nat.eq_of_beq_eq_true hb;have:p.2=x:=by simpa using h
     subst hk this
     simp
   |false=>rw[hb]at h;exact List.mem_cons_of_mem _ (zBe h)
def zM:CV→Bool
 | .pt .. | .ow _| .fn .. =>false
 |_=>true
def zCa(ren:List (Nat×Option Nat))(σ:Nat→Option Value)(i:Nat):Option Value:=
 bif Nat.ble 1000 i then σ i else match zD ren i with
 |some (some o)=>σ o
 |some none=>some (.slice none 0 0)
 |none=>none
inductive LeC(h:Nat→Option AB)(ren:List (Nat×Option Nat)):CV→CV→Prop
 |refl (x:CV) (hx:zM x=true):LeC h ren x x
 |any (x:CV):LeC h ren x .any
 |ow (o n:Nat) (hn:zD ren n=some (some o)):LeC h ren (.ow o) (.ow n)
 |pt (o n sz k j:Nat) (hn:zD ren n=some (some o)):LeC h ren (.pt o sz k j) (.pt n sz k j)
 |ptB (id sz k j:Nat) (hb:Nat.ble 1000 id=true):LeC h ren (.pt id sz k j) (.pt id sz k j)
 |owB (id:Nat) (hb:Nat.ble 1000 id=true):LeC h ren (.ow id) (.ow id)
 |nil (n:Nat) (hn:zD ren n=some none):LeC h ren (.p (.slice none 0 0)) (.ow n)
 |nils (sz:Nat) (F:Nat→Nat→CV):LeC h ren (.p (.slice none 0 0)) (.ls 0 sz F)
 |ls (n sz:Nat) (F G:Nat→Nat→CV) (hc:∀k,k<n→∀j,j<sz→F k j=G k j):LeC h ren (.ls n sz F) (.ls n sz G)
 |frz (o n sz:Nat) (ty:TypeId) (F G:Nat→Nat→CV) (hh:h o=some ⟨true,n,sz,ty,F⟩) (hi:∀k,k<n→∀j,j<sz→zM (F k j)=true) (hc:∀k,k<n→∀j,j<sz→F k j=G k j) (hr:∀m,zD ren m≠some (some o)) (hlo:o<1000):LeC h ren (.ow o) (.ls n sz G)
 |frzP (o n sz k j:Nat) (row:Bool) (ty:TypeId) (F G:Nat→Nat→CV) (hh:h o=some ⟨row,n,sz,ty,F⟩) (hk:k<n) (hi:∀k,k<n→∀j,j<sz→zM (F k j)=true) (hc:∀k,k<n→∀j,j<sz→F k j=G k j) (hr:∀m,zD ren m≠some (some o)) (hlo:o<1000):LeC h ren (.pt o sz k j) (.pl n sz G k j)
 |moW (K K':Nat→Obj→Prop) (hk:∀b o,K b o→K' b o):LeC h ren (.mo K) (.mo K')
 |fn (f m:Nat) (C D:Nat→CV) (hc:∀i,i<m→(match C i with| .fn .. =>False|_=>True)∧(match D i with| .fn .. =>False|_=>True)) (hl:∀i,i<m→LeC h ren (C i) (D i)):LeC h ren (.fn f m C) (.fn f m D)
 |fnI (f m:Nat) (C D:Nat→CV) (hc:∀i,i<m→(match C i with| .fn .. =>False|_=>True)∧zM (D i)=true) (hl:∀i,i<m→LeC h ren (C i) (D i)):LeC h ren (.fn f m C) (.fi f m D)
def LeL{α:Type}(R:α→α→Prop):List α→List α→Prop
 | [],[]=>True
 |x::l,y::m=>R x y∧LeL R l m
 |_,_=>False
inductive LeV(h:Nat→Option AB)(ren:List (Nat×Option Nat)):V1→V1→Prop
 |c {x y:CV} (hc:LeC h ren x y):LeV h ren (.c x) (.c y)
 |ag {l m:List CV} (hl:LeL (LeC h ren) l m):LeV h ren (.ag l) (.ag m)
inductive LeA(h:Nat→Option AB)(ren:List (Nat×Option Nat)):AV→AV→Prop
 |c {x y:CV} (hc:LeC h ren x y):LeA h ren (.c x) (.c y)
 |ag {l m:List CV} (hl:LeL (LeC h ren) l m):LeA h ren (.ag l) (.ag m)
 |tu {l m:List V1} (hl:LeL (LeV h ren) l m):LeA h ren (.tu l) (.tu m)
def zFi(S:St)(ren:List (Nat×Option Nat)):List (Nat×AV)→Prop
 | []=>True
 |p::r=>(∃y,S.t p.1=some y∧LeA S.h ren y p.2)∧zFi S ren r
def HeapOk(S:St)(ren:List (Nat×Option Nat))(id:Nat)(B:AB):Prop:=
 (zD ren id=some none∧B.row=true∧B.n=0)∨
 ∃o n F,(zD ren id=some (some o)∨(1000≤id∧o=id))∧B.n=n∧S.h o=some ⟨B.row,n,B.sz,B.ty,F⟩∧∀k,k<n→∀j,j<B.sz→LeC S.h ren (F k j) (B.F k j)
def zEe(S:St)(ren:List (Nat×Option Nat)):List (Nat×AB)→Prop
 | []=>True
 |p::r=>HeapOk S ren p.1 p.2∧zEe S ren r
def zEC(ren:List (Nat×Option Nat)):Bool:=ren.all fun p=>Nat.blt p.1 1000 && (match p.2 with|some o=>Nat.blt o 1000|none=>true)
def zRJ(σ:Nat→Option Value):Option Nat→Option Value
 |some o=>σ o
 |none=>some (.slice none 0 0)
theorem zDZ{ren:List (Nat×Option Nat)}{σ:Nat→Option Value}{n:Nat}{o:Option Nat}(hl:zEC ren=true)(h:zD ren n=some o):zCa ren σ n=zRJ σ o∧∀o',o=some o'→o'<1000:=by
 have:=List.all_eq_true.1 hl _ (zBe h)
 simp only[Bool.and_eq_true]at this
 have h1:=Nat.blt_eq.mp this.1;unfold zCa;rw[show Nat.ble 1000 n=false from Bool.eq_false_iff.2 fun h=>by have:=Nat.ble_eq.mp h;omega,h]
 refine⟨by cases o<;>rfl,fun o' ho=> ?_⟩
 subst ho;exact Nat.blt_eq.mp this.2
theorem zEY{ren:List (Nat×Option Nat)}{σ:Nat→Option Value}{n:Nat}(h:1000≤n):zCa ren σ n=σ n:=by
 unfold zCa;rw[Nat.ble_eq.mpr h]
 rfl
def zEX:List (Nat×Option Nat)→Bool
 | []=>true
 |p::r=>(match p.2 with|some o=>r.all (fun q=>match q.2 with|some o'=> !(Nat.beq o o')|none=>true)|none=>true) && !(r.any fun q=>Nat.beq p.1 q.1) && zEX r
theorem zNq:∀{ren:List (Nat×Option Nat)},zEX ren=true→∀{i j o:Nat},(i,some o)∈ren→(j,some o)∈ren→i=j
 | p::r,h,i,j,o,hi,hj=>by
   unfold zEX at h
   simp only[Bool.and_eq_true]at h
   obtain⟨⟨h1,h2⟩,h3⟩:=h
   have no:∀k,p.2=some o→(k,some o)∈r→False:=fun k hp hk=>by
    rw[hp]at h1;have:=List.all_eq_true.1 h1 _ hk
    simp[Nat.beq_refl]at this
   rcases List.mem_cons.1 hi with hi|hi
   ·rcases List.mem_cons.1 hj with hj|hj
    ·rw[←hi]at hj;exact(Prod.ext_iff.1 hj).1.symm
    ·exact(no j (by rw[←hi]) hj).elim
   ·rcases List.mem_cons.1 hj with hj|hj
    ·exact(no i (by rw[←hj]) hi).elim
    ·exact zNq h3 hi hj

theorem LeL.get{α:Type}{R:α→α→Prop}{Rv Rv':α→Value→Prop}(hR:∀x y v,R x y→Rv x v→Rv' y v):∀{l m:List α} {vs:List Value},LeL R l m→RepL Rv l vs→RepL Rv' m vs
 | [],[],[],_,_=>trivial
 |_::_,_::_,_::_,h,h'=>⟨hR _ _ _ h.1 h'.1,LeL.get hR h.2 h'.2⟩
 | [],_::_,_,h,_=>h.elim
 |_::_,[],_,h,_=>h.elim
 | [],[],_::_,_,h=>h.elim
 |_::_,_::_,[],_,h=>h.elim
theorem zBo{σ:Nat→Option Value}{O:Nat→Prop}{w:World}{x:CV}{u:Value}(hi:zM x=true)(h:RepC σ O w x u):RepI O w x u:=by
 cases x<;>first|exact h.2|cases hi
theorem zBF{σ:Nat→Option Value}{O:Nat→Prop}{w:World}{x:CV}{u:Value}(hi:zM x=true)(h1:u.oneCell'=true)(h:RepI O w x u):RepC σ O w x u:=by
 cases x<;>first|exact⟨h1,h⟩|cases hi
theorem zEh{O:Nat→Prop}{w:World}{n sz:Nat}{F G:Nat→Nat→CV}{u:Value}(hc:∀k,k<n→∀j,j<sz→F k j=G k j)(h:RepI O w (.ls n sz F) u):RepI O w (.ls n sz G) u:=by
 obtain⟨A,cap,e,hcap,h⟩:=h
 refine⟨A,cap,e,hcap,fun k hk j hj=> ?_⟩
 rw[←hc k hk j hj];exact h k hk j hj
theorem zGW{b0:zN}{σ:Nat→Option Value}{h:Nat→Option AB}{w:World}{O':Nat→Prop}{o n sz:Nat}{ty:TypeId}{F:Nat→Nat→CV}{u:Value}(H:HRel b0 σ h w)(hh:h o=some ⟨true,n,sz,ty,F⟩)
 (hi:∀k,k<n→∀j,j<sz→zM (F k j)=true) (hsub:∀b,O' b→out b0 σ h b) (hno:∀v b,σ o=some v→zAl v=some b→¬O' b)
 (hu:σ o=some u):RepI O' w (.ls n sz F) u:=by
 obtain⟨v,e1,e2⟩:=H.blk o _ hh
 rw[hu]at e1
 cases e1
 rcases e2 with ⟨_,rfl,h0⟩|⟨b,cap,cs,h1,h2,h3,h4⟩|⟨hf,_⟩
 ·exact⟨none,0,by simp at h0;rw[h0],by simp at h0;omega,fun k hk=>by simp at h0;omega⟩
 ·rcases h1 with ⟨_,rfl,h5,h6⟩|⟨h5,_⟩
  ·refine⟨some ⟨b,0,none⟩,cap,rfl,h5,fun k hk j hj=> ?_⟩
   obtain⟨u,g1,g2⟩:=h4 k hk j hj
   refine⟨⟨b,0,none⟩,u,rfl,hno _ b hu rfl,?_,g2.1,(zBo (hi k hk j hj) g2).less hsub⟩
   have:w.cell? ⟨b,k*sz+j,none⟩=cs[k*sz+j]?:=cell_of_row w b _ cs ty (0,0) h2;rw[show(⟨b,0,none⟩:Addr).add (k*sz+j)=⟨b,k*sz+j,none⟩ by unfold Addr.add;split<;>simp_all,this]
   exact g1
  ·cases h5
 ·cases hf

theorem zMm{b0:zN}{σ:Nat→Option Value}{h:Nat→Option AB}{w:World}{O':Nat→Prop}{o n sz k j:Nat}{row:Bool}{ty:TypeId}{F G:Nat→Nat→CV}{u:Value}(H:HRel b0 σ h w)(hh:h o=some ⟨row,n,sz,ty,F⟩)(hk:k<n)
 (hi:∀k,k<n→∀j,j<sz→zM (F k j)=true) (hc:∀k,k<n→∀j,j<sz→F k j=G k j) (hsub:∀b,O' b→out b0 σ h b) (hno:∀v b,σ o=some v→zAl v=some b→¬O' b)
 (hu:∃v b,σ o=some v∧zGI v=some b∧u=.pointer (some ⟨b,k*sz+j,none⟩)):RepI O' w (.pl n sz G k j) u:=by
 obtain⟨v0,b0',q1,q2,rfl⟩:=hu
 obtain⟨v,e1,e2⟩:=H.blk o _ hh
 rw[q1]at e1
 cases e1
 rcases e2 with ⟨_,rfl,h0⟩|⟨b,cap,cs,h1,h2,h3,h4⟩|⟨_,_,_,b,o,rfl,_⟩
 ·simp at h0;omega
 ·have hb:=h1.blk
  rw[zIe q2]at hb
  cases hb
  have had:∀i,(⟨b0',0,none⟩:Addr).add i=⟨b0',i,none⟩:=fun i=>by unfold Addr.add;split<;>simp_all
  refine⟨⟨b0',0,none⟩,by rw[had],hk,fun k' hk' j' hj'=> ?_⟩
  obtain⟨u,g1,g2⟩:=h4 k' hk' j' hj'
  have:w.cell? ⟨b0',k'*sz+j',none⟩=cs[k'*sz+j']?:=cell_of_row w b0' _ cs ty (0,0) h2
  refine⟨u,hno _ _ q1 (zIe q2),by rw[had,this];exact g1,g2.1,?_⟩
  rw[←hc k' hk' j' hj']
  exact(zBo (hi k' hk' j' hj') g2).less hsub
 ·cases q2
theorem LeC.rep{b0:zN}{σ:Nat→Option Value}{h:Nat→Option AB}{w:World}{O':Nat→Prop}{ren:List (Nat×Option Nat)}(H:HRel b0 σ h w)(hlow:zEC ren=true)(hsub:∀b,O' b→out b0 σ h b)
 (hno:∀o v b,o<1000→h o≠none→(∀m,zD ren m≠some (some o))→σ o=some v→zAl v=some b→¬O' b) {x y:CV} (hl:LeC h ren x y):∀{u:Value},RepC σ (out b0 σ h) w x u→RepC (zCa ren σ) O' w y u:=by
 have hr:∀{n o:Nat},zD ren n=some (some o)→zCa ren σ n=σ o:=fun h=>(zDZ hlow h).1
 induction hl with
 |refl x hx=>exact fun hu=>zBF hx hu.1 ((zBo hx hu).less hsub)
 |any x=>exact fun hu=>⟨hu.1,trivial⟩
 |ow o n hn=>exact fun hu=>⟨hu.1,(hr hn).trans hu.2.1,hu.2.2⟩
 |pt o n sz k j hn=>exact fun hu=>let ⟨v,b,e1,e2,e3⟩:=hu.2;⟨hu.1,v,b,(hr hn).trans e1,e2,e3⟩
 |ptB id sz k j hb=>exact fun hu=>let ⟨v,b,e1,e2,e3⟩:=hu.2;⟨hu.1,v,b,(zEY (Nat.ble_eq.mp hb)).trans e1,e2,e3⟩
 |owB id hb=>exact fun hu=>⟨hu.1,(zEY (Nat.ble_eq.mp hb)).trans hu.2.1,hu.2.2⟩
 | nil n hn=>
   intro u hu;obtain rfl:u=.slice none 0 0:=hu.2
   exact⟨rfl,(zDZ hlow hn).1,.inl ⟨none,0,0,rfl⟩⟩
 | nils sz F=>
   intro u hu;obtain rfl:u=.slice none 0 0:=hu.2
   exact⟨rfl,none,0,rfl,Nat.le_refl _,fun k hk=>absurd hk (by omega)⟩
 |ls n sz F G hc=>exact fun hu=>⟨hu.1,(zEh hc (show RepI _ _ (.ls n sz F) _ from hu.2)).less hsub⟩
 | frz o n sz ty F G hh hi hc hr ho=>
   intro u hu
   exact⟨hu.1,zEh hc (zGW H hh hi hsub (fun v b e1 e2=>hno o v b ho (by rw[hh];simp) hr e1 e2) hu.2.1)⟩
 | frzP o n sz k j row ty F G hh hk hi hc hr ho=>
   intro u hu
   exact⟨hu.1,zMm H hh hk hi hc hsub (fun v b e1 e2=>hno o v b ho (by rw[hh];simp) hr e1 e2) hu.2⟩
 | fn f m C D hc hl ih=>
   intro u hu
   obtain⟨vs,e1,e2,e3⟩:=hu.2
   refine⟨hu.1,vs,e1,e2,fun i hi=> ?_⟩
   obtain⟨v,g1,g2,g3⟩:=e3 i hi
   have hv:RepC σ (out b0 σ h) w (C i) v:=by
    have:=(hc i hi).1
    cases hC:C i<;>rw[hC]at this g3<;>first|exact this.elim|exact⟨g2,g3⟩
   have hv':=ih i hi hv;have:=(hc i hi).2
   refine⟨v,g1,hv'.1,?_⟩
   have h2:=hv'.2
   cases hD:D i<;>rw[hD]at this h2<;>first|exact this.elim|exact h2
 |moW K K' hk=>exact fun hu=>hu.2.elim
 | fnI f m C D hc hl ih=>
   intro u hu
   obtain⟨vs,e1,e2,e3⟩:=hu.2
   refine⟨hu.1,vs,e1,e2,fun i hi=> ?_⟩
   obtain⟨v,g1,g2,g3⟩:=e3 i hi
   have hv:RepC σ (out b0 σ h) w (C i) v:=by
    have:=(hc i hi).1
    cases hC:C i<;>rw[hC]at this g3<;>first|exact this.elim|exact⟨g2,g3⟩
   have hv':=ih i hi hv
   exact⟨v,g1,hv'.1,zBo (hc i hi).2 hv'⟩
theorem LeC.mo{h:Nat→Option AB}{ren:List (Nat×Option Nat)}{x y:CV}{b:Nat}{o:Obj}(hl:LeC h ren x y)(hx:zBN x b o):zBN y b o:=by
 obtain⟨hk0,hx⟩:=hx
 refine⟨hk0,?_⟩
 rcases hx with rfl|⟨K,rfl,hK⟩
 ·cases hl<;>exact .inl rfl
 ·cases hl with
  |refl _ _=>exact .inr ⟨K,rfl,hK⟩
  |any _=>exact .inl rfl
  |moW _ K' hk=>exact .inr ⟨K',rfl,hk _ _ hK⟩
theorem LeV.rep{b0:zN}{σ:Nat→Option Value}{h:Nat→Option AB}{w:World}{O':Nat→Prop}{ren:List (Nat×Option Nat)}(H:HRel b0 σ h w)(hlow:zEC ren=true)(hsub:∀b,O' b→out b0 σ h b)
 (hno:∀o v b,o<1000→h o≠none→(∀m,zD ren m≠some (some o))→σ o=some v→zAl v=some b→¬O' b) {x y:V1} (hl:LeV h ren x y) {u:Value} (hu:RepV σ (out b0 σ h) w x u):RepV (zCa ren σ) O' w y u:=by
 cases hl with
 |c hc=>exact hc.rep H hlow hsub hno hu
 |ag hl=>obtain⟨vs,e,hv⟩:=hu;exact⟨vs,e,hl.get (fun _ _ _ h1 h2=>h1.rep H hlow hsub hno h2) hv⟩
theorem LeA.rep{b0:zN}{σ:Nat→Option Value}{h:Nat→Option AB}{w:World}{O':Nat→Prop}{ren:List (Nat×Option Nat)}(H:HRel b0 σ h w)(hlow:zEC ren=true)(hsub:∀b,O' b→out b0 σ h b)
 (hno:∀o v b,o<1000→h o≠none→(∀m,zD ren m≠some (some o))→σ o=some v→zAl v=some b→¬O' b) {x y:AV} (hl:LeA h ren x y) {u:Value} (hu:RepA σ (out b0 σ h) w x u):RepA (zCa ren σ) O' w y u:=by
 cases hl with
 |c hc=>exact hc.rep H hlow hsub hno hu
 |ag hl=>obtain⟨vs,e,hv⟩:=hu;exact⟨vs,e,hl.get (fun _ _ _ h1 h2=>h1.rep H hlow hsub hno h2) hv⟩
 |tu hl=>obtain⟨vs,e,hv⟩:=hu;exact⟨vs,e,hl.get (fun _ _ _ h1 h2=>h1.rep H hlow hsub hno h2) hv⟩
theorem zK2{S:St}{ren:List (Nat×Option Nat)}:∀{ts:List (Nat×AV)},zFi S ren ts→∀p∈ts,∃y,S.t p.1=some y∧LeA S.h ren y p.2
 | _::_,h,p,hp=>by
   rcases List.mem_cons.1 hp with rfl|hp
   ·exact h.1
   ·exact zK2 h.2 p hp
theorem zH8{S:St}{ren:List (Nat×Option Nat)}:∀{hs:List (Nat×AB)},zEe S ren hs→∀p∈hs,HeapOk S ren p.1 p.2
 | _::_,h,p,hp=>by
   rcases List.mem_cons.1 hp with rfl|hp
   ·exact h.1
   ·exact zH8 h.2 p hp

def zFQ(hs:List (Nat×AB)):Nat→Bool
 |0=>true
 |k+1=>zFQ hs k && (hs.any fun p=>Nat.beq (1000+k) p.1)
theorem zMK{hs:List (Nat×AB)}:∀{n:Nat},zFQ hs n=true→∀i,1000≤i→i<1000+n→zD hs i≠none
 |0,_,i,h1,h2=>by omega
 | n + 1,h,i,h1,h2=>by
   unfold zFQ at h;rw[Bool.and_eq_true]at h;by_cases he:i=1000+n
   ·subst he
    have:∀(hs:List (Nat×AB)) (k:Nat),(hs.any fun p=>Nat.beq k p.1)=true→zD hs k≠none:=by
     intro hs k
     induction hs with
     |nil=>intro h;simp at h
     | cons p hs ih=>
       intro h;rw[List.any_cons,Bool.or_eq_true]at h;unfold zD
       cases hb:Nat.beq k p.1 with
       |true=>simp
       |false=>rw[hb]at h;simpa using ih (h.resolve_left (by simp))
    exact this hs _ h.2
   ·exact zMK h.1 i h1 (by omega)
theorem Wk.mkG{S:St}{G:zN→Prop}{gs:Nat}{dd:Bool}{n ln:Nat}{ts:List (Nat×AV)}{hs:List (Nat×AB)}{ids:List Nat}(ren:List (Nat×Option Nat))(hn:S.n=n)(hln:S.ln=ln)(hlent:zFQ hs ln=true)(hren:(zEX ren && zEC ren)=true)(hids:ren.all (fun p=>ids.any (Nat.beq p.1))=true)
 (ht:zFi S ren ts) (hh:zEe S ren hs) (hgs:S.gs=gs:=by rfl) (hdd:S.dd=dd:=by rfl) (hG:∀b,S.G b→G b:=by exact fun _ h=>h):Wk S (mkG G gs dd n ln ts hs ids):=fun b0 a w ⟨σ,R⟩=>by
 subst hn hln hgs hdd;rw[Bool.and_eq_true]at hren
 obtain⟨hren,hlow⟩:=hren
 have old:∀{id:Nat} {v:Value} {b:Nat},zD hs id≠none→zCa ren σ id=some v→zAl v=some b→∃o,(zD ren id=some (some o)∨(1000≤id∧o=id))∧S.h o≠none∧σ o=some v:=fun {id v b} hid hv hb=>by
  cases hB:zD hs id with
  |none=>exact absurd hB hid
  | some B=>
    rcases zH8 hh _ (zBe hB)with ⟨e,_⟩|⟨o,n,F,e,-,e2,-⟩
    ·rw[(zDZ hlow e).1]at hv
     cases hv
     cases hb
    ·refine⟨o,e,by rw[e2];simp,?_⟩
     rcases e with e|⟨e,rfl⟩
     ·rw[(zDZ hlow e).1]at hv;exact hv
     ·rw[zEY e]at hv;exact hv
 have hown:∀b,own (zCa ren σ) (zD hs) b→own σ S.h b:=fun b ⟨id,v,h1,h2,h3⟩=>let ⟨o,_,e2,e3⟩:=old h1 h2 h3;⟨o,v,e2,e3,h3⟩
 have hsub:∀b,out b0 (zCa ren σ) (zD hs) b→out b0 σ S.h b:=fun b hb=>hb.imp (hown b) fun h=>h
 have hno:∀o v b,o<1000→S.h o≠none→(∀m,zD ren m≠some (some o))→σ o=some v→zAl v=some b→¬out b0 (zCa ren σ) (zD hs) b:=fun o v b h0 h1 h2 h3 h4 hb=>by
  rcases hb with ⟨id,v',g1,g2,g3⟩|hX
  ·obtain⟨o',e1,e2,e3⟩:=old g1 g2 g3
   have:=R.hp.inj o o' v v' b h1 e2 h3 e3 h4 g3;subst this
   rcases e1 with e1|⟨e1,rfl⟩
   ·exact h2 id e1
   ·omega
  ·rcases R.hp.new b ⟨o,v,h1,h3,h4⟩with h|h
   ·have:=b0.lt b hX
    omega
   ·exact b0.dis b hX h
 refine⟨zCa ren σ,R.df,R.sz,R.ext,⟨fun id B hB=> ?_,fun i j v1 v2 b hi hj h1 h2 e1 e2=> ?_,fun b hb=>R.hp.new b (hown b hb),fun i v hi=> ?_,fun i hi hf=> ?_⟩,fun t x hx=> ?_,fun id hid=> ?_,R.le,hG b0 R.gd,R.gh⟩
 ·rcases zH8 hh _ (zBe hB)with ⟨e,e1,e2⟩|⟨o,n,F,e,hn,e2,hc⟩
  ·exact⟨.slice none 0 0,(zDZ hlow e).1,.inl ⟨e1,rfl,e2⟩⟩
  ·obtain⟨v,g1,g2⟩:=R.hp.blk o _ e2
   have hro:zCa ren σ id=σ o:=by
    rcases e with e|⟨e,rfl⟩
    ·exact(zDZ hlow e).1
    ·exact zEY e
   refine⟨v,hro.trans g1,?_⟩
   rcases g2 with ⟨k1,k2,k3⟩|⟨b,cap,cs,k1,k2,k3,k4⟩|⟨k1,k2,k3,b,o,rfl,k4,k5⟩
   ·exact .inl ⟨k1,k2,hn.trans k3⟩
   rotate_left
   ·replace k2:n=1:=k2
    replace k3:B.sz=1:=k3
    exact .inr (.inr ⟨k1,hn.trans k2,k3,b,o,rfl,k4,(hc 0 (by omega) 0 (by rw[k3];omega)).mo k5⟩)
   ·refine .inr (.inl ⟨b,cap,cs,?_,k2,k3,fun k hk j hj=> ?_⟩)
    ·rcases k1 with ⟨a1,a2,a3,a4⟩|⟨a1,a2,a3⟩
     ·exact .inl ⟨a1,by rw[hn];exact a2,by rw[hn];exact a3,a4⟩
     ·exact .inr ⟨a1,a2,by rw[hn];exact a3⟩
    ·rw[hn]at hk
     obtain⟨u,l1,l2⟩:=k4 k hk j hj
     exact⟨u,l1,(hc k hk j hj).rep R.hp hlow hsub hno l2⟩
 ·obtain⟨o1,a1,a2,a3⟩:=old hi h1 e1
  obtain⟨o2,c1,c2,c3⟩:=old hj h2 e2
  have:=R.hp.inj o1 o2 v1 v2 b a2 c2 a3 c3 e1 e2;subst this
  rcases a1 with a1|⟨a1,a1'⟩
  ·rcases c1 with c1|⟨c1,c1'⟩
   ·exact zNq hren (zBe a1) (zBe c1)
   ·have:=(zDZ (σ:=σ) hlow a1).2 o1 rfl
    omega
  ·rcases c1 with c1|⟨c1,c1'⟩
   ·have:=(zDZ (σ:=σ) hlow c1).2 o1 rfl
    omega
   ·omega
 ·obtain⟨h1,_⟩:=b0.one i v hi
  exact⟨(zEY h1).trans (R.hp.fx i v hi).1,zMK hlent i h1 (R.le i v hi)⟩
 ·exact(zEY hi).trans (R.hp.big i hi hf)
 ·obtain⟨y,e1,e2⟩:=zK2 ht _ (zBe hx)
  exact e2.rep R.hp hlow hsub hno (R.sl t y e1)
 ·simp only[Go.AV.mkG,Bool.and_eq_true,Bool.not_eq_true']at hid
  have hlt:=Nat.blt_eq.mp hid.1
  refine⟨?_,hlt⟩
  have:zD ren id=none:=by
   cases hc:zD ren id with
   |none=>rfl
   | some o=>
     have hm:=zBe hc;have h1:ids.any (Nat.beq id)=true:=by simpa using List.all_eq_true.1 hids _ hm
     rw[h1]at hid
     cases hid.2
  unfold zCa;rw[show Nat.ble 1000 id=false from Bool.eq_false_iff.2 fun h=>by have:=Nat.ble_eq.mp h;omega,this]
  rfl
theorem zQ{S:St}{n ln:Nat}{ts:List (Nat×AV)}{hs:List (Nat×AB)}{ids:List Nat}(ren:List (Nat×Option Nat))(hn:S.n=n)(hln:S.ln=ln)(hlent:zFQ hs ln=true)(hren:(zEX ren && zEC ren)=true)(hids:ren.all (fun p=>ids.any (Nat.beq p.1))=true)
 (ht:zFi S ren ts) (hh:zEe S ren hs) (hgs:S.gs=0:=by rfl) (hdd:S.dd=false:=by rfl) (hG:∀b,S.G b→b.rd=none:=by exact fun _ h=>h):Wk S (mkL n ln ts hs ids):=Wk.mkG ren hn hln hlent hren hids ht hh hgs hdd hG
theorem Wk.mk{S:St}{n:Nat}{ts:List (Nat×AV)}{hs:List (Nat×AB)}{ids:List Nat}(ren:List (Nat×Option Nat))(hn:(Nat.beq S.n n && Nat.beq S.ln 0)=true)(hren:(zEX ren && zEC ren)=true)(hids:ren.all (fun p=>ids.any (Nat.beq p.1))=true)
 (ht:zFi S ren ts) (hh:zEe S ren hs) (hgs:S.gs=0:=by rfl) (hdd:S.dd=false:=by rfl) (hG:∀b,S.G b→b.rd=none:=by exact fun _ h=>h):Wk S (zC n ts hs ids):=by
 rw[Bool.and_eq_true]at hn;exact Wk.mkG ren (Nat.eq_of_beq_eq_true hn.1) (Nat.eq_of_beq_eq_true hn.2) rfl hren hids ht hh hgs hdd hG

def zBJ(rv:ResultVar)(tmps:Array Value):Sem Value:=
 match rv with
 | .tmp t=>pure (tmps.getD t undef)
 | .cell c t=>do loadVar t (←asAddr (tmps.getD c undef))
def zDx:V1→Bool
 | .c x=>zM x
 | .ag l=>l.all zM
theorem zJF{b0:zN}{σ:Nat→Option Value}{h:Nat→Option AB}{w:World}{x:V1}{u:Value}(hi:zDx x=true)(hx:RepV σ (out b0 σ h) w x u):RepV (fun _=>none) (out b0 σ h) w x u:=by
 have one:∀{x:CV} {u:Value},zM x=true→RepC σ (out b0 σ h) w x u→RepC (fun _=>none) (out b0 σ h) w x u:=fun hi hx=>zBF hi hx.1 (zBo hi hx)
 cases x with
 |c x=>exact one hi hx
 | ag l=>
   obtain⟨vs,e,hl⟩:=hx
   refine⟨vs,e,zA5 hl.length fun i x v h1 h2=> ?_⟩
   obtain⟨v',e1,e2⟩:=hl.get h1
   rw[h2]at e1
   cases e1
   exact one (List.all_eq_true.1 hi _ (List.mem_of_getElem? h1)) e2
def ARes(P:Program)(S:St)(rv:ResultVar)(x:V1):Prop:=∀b0 σ a w,Rel0 b0 σ S a w→∃v,(zBJ rv a.tmps).run P w=.ok v w∧RepV (fun _=>none) (out b0 σ S.h) w x v
theorem ARes.tmp{t:Tmp}{x:V1}(ht:S.t t=some x.av)(hi:zDx x=true):ARes P S (.tmp t) x:=fun b0 σ a w R=>⟨_,rfl,zJF hi (zH1 (R.sl t _ ht))⟩
inductive ARets(P:Program)(S:St):List ResultVar→AV→Prop
 |no:ARets P S [] (.tu [])
 |one {r:ResultVar} {x:V1} (h:ARes P S r x):ARets P S [r] x.av
 |two {r1 r2:ResultVar} {x y:V1} (h1:ARes P S r1 x) (h2:ARes P S r2 y):ARets P S [r1,r2] (.tu [x,y])
 |three {r1 r2 r3:ResultVar} {x y z:V1} (h1:ARes P S r1 x) (h2:ARes P S r2 y) (h3:ARes P S r3 z):ARets P S [r1,r2,r3] (.tu [x,y,z])
 |four {r1 r2 r3 r4:ResultVar} {x y z u:V1} (h1:ARes P S r1 x) (h2:ARes P S r2 y) (h3:ARes P S r3 z) (h4:ARes P S r4 u):ARets P S [r1,r2,r3,r4] (.tu [x,y,z,u])
def zFp(P:Program)(rs:List ResultVar)(r:AV)(hs':List (Nat×AB)):Exit→St→Prop
 | .ret,S=>∃S' loc,Wk S S'∧S'.h=zD (loc++hs')∧loc.all (fun p=>Nat.blt p.1 1000)=true∧ARets P S' rs r
 | .normal,S=>∃S' loc,Wk S S'∧S'.h=zD (loc++hs')∧loc.all (fun p=>Nat.blt p.1 1000)=true∧ARets P S' rs r
 |_,_=>False

def HCalls(P:Program)(f:FuncId)(args:List V1)(hs:List (Nat×AB))(r:AV)(hs':List (Nat×AB)):Prop:=
 ∀ (b0:zN) (vals:List Value),HRel b0 b0.fix (zD hs) b0.w→(∀i v,b0.fix i=some v→i<1000+hs.length)→(∀b,b0.Y b→own b0.fix (zD hs) b)→RepL (RepV b0.fix (out b0 b0.fix (zD hs)) b0.w) args vals→
   Calls P f vals.toArray b0.w fun e w'=>∃v,e=.returned v∧RepA (fun _=>none) (out b0 b0.fix (zD hs)) w' r v∧HRel b0 b0.fix (zD hs') w'∧Keep b0.Y b0.w w'
def ACalls(P:Program)(f:FuncId)(args:List V1)(r:AV):Prop:=HCalls P f args [] r []

theorem zEZ(fn:Func)(tmps:Array Value):results fn tmps=(do let vs ←fn.results.mapM (fun rv=>zBJ rv tmps);pure (if h:vs.size=1 then vs[0]else .tuple vs)):=by
 unfold results
 congr
theorem ARets.run{b0:zN}{σ:Nat→Option Value}{a:Act}{w:World}{fn:Func}{rs:List ResultVar}{r:AV}(hfn:fn.results=rs.toArray)(h:ARets P S rs r)(R:Rel0 b0 σ S a w):
 ∃v,(results fn a.tmps).run P w=.ok v w∧RepA (fun _=>none) (out b0 σ S.h) w r v:=by
 rw[zEZ,hfn];generalize hf:(fun rv=>zBJ rv a.tmps)=f;have hfr:∀r,zBJ r a.tmps=f r:=fun r=>by rw[←hf]
 cases h with
 |no=>exact⟨.tuple #[],by simp,[],rfl,trivial⟩
 | @one r x h=>
   obtain⟨v,h1,h2⟩:=h b0 σ a w R
   rw[hfr]at h1
   exact⟨v,by simp[h1],h2.av⟩
 | @two r1 r2 x y h1 h2=>
   obtain⟨v,a1,a2⟩:=h1 b0 σ a w R
   obtain⟨u,c1,c2⟩:=h2 b0 σ a w R
   rw[hfr]at a1 c1
   exact⟨.tuple #[v,u],by simp[a1,c1],[v,u],rfl,a2,c2,trivial⟩
 | @three r1 r2 r3 x y z h1 h2 h3=>
   obtain⟨v,a1,a2⟩:=h1 b0 σ a w R
   obtain⟨u,c1,c2⟩:=h2 b0 σ a w R
   obtain⟨t,d1,d2⟩:=h3 b0 σ a w R
   rw[hfr]at a1 c1 d1
   exact⟨.tuple #[v,u,t],by simp[a1,c1,d1],[v,u,t],rfl,a2,c2,d2,trivial⟩
 | @four r1 r2 r3 r4 x y z q h1 h2 h3 h4=>
   obtain⟨v,a1,a2⟩:=h1 b0 σ a w R
   obtain⟨u,c1,c2⟩:=h2 b0 σ a w R
   obtain⟨t,d1,d2⟩:=h3 b0 σ a w R
   obtain⟨p,g1,g2⟩:=h4 b0 σ a w R
   rw[hfr]at a1 c1 d1 g1
   exact⟨.tuple #[v,u,t,p],by simp[a1,c1,d1,g1],[v,u,t,p],rfl,a2,c2,d2,g2,trivial⟩

def zBQ(n:Nat)(args:List V1)(hs:List (Nat×AB)):St:={n,ln:=hs.length,t:=fun i=>(args[i]?).map V1.av,h:=zD hs,fr:=fun id=>Nat.blt id 1000,G:=fun b=>b.rd=none,gs:=0,dd:=false}
abbrev zIE(n:Nat)(args:List V1):St:=zBQ n args []
def zDS(hs:List (Nat×AB)):Bool:=hs.all fun p=>Nat.ble 1000 p.1
theorem zDe{b0:zN}{σ:Nat→Option Value}{hs:List (Nat×AB)}{w:World}(H:HRel b0 σ (zD hs) w)(hk:zDS hs=true){i:Nat}(hi:zD hs i≠none):b0.fix i=σ i∧σ i≠none:=by
 cases hB:zD hs i with
 |none=>exact absurd hB hi
 | some B=>
   have h1:=Nat.ble_eq.mp (List.all_eq_true.1 hk _ (zBe hB))
   obtain⟨v,e1,_⟩:=H.blk i B hB
   cases hf:b0.fix i with
   |none=>have:=H.big i h1 hf;rw[e1]at this;cases this
   |some v'=>rw[(H.fx i v' hf).1];exact⟨rfl,by simp⟩
theorem zCC{α:Type}:∀{l m:List (Nat×α)} {i:Nat},zD (l++m) i=match zD l i with|some x=>some x|none=>zD m i
 | [],m,i=>rfl
 | p::l,m,i=>by
   simp only[List.cons_append,zD]
   cases Nat.beq i p.1 with
   |true=>rfl
   |false=>exact zCC
theorem HRel.lent{b0:zN}{σ:Nat→Option Value}{loc hs:List (Nat×AB)}{w:World}(H:HRel b0 σ (zD (loc++hs)) w)(hl:loc.all (fun p=>Nat.blt p.1 1000)=true)(hk:zDS hs=true):
 HRel b0 σ (zD hs) w∧∀b,own σ (zD hs) b→own σ (zD (loc++hs)) b:=by
 have up:∀i,zD hs i≠none→zD (loc++hs) i=zD hs i:=fun i hi=>by
  cases hB:zD hs i with
  |none=>exact absurd hB hi
  | some B=>
    have h1:=Nat.ble_eq.mp (List.all_eq_true.1 hk _ (zBe hB));rw[zCC]
    cases hc:zD loc i with
    |none=>exact hB
    | some B'=>
      have h2:=Nat.blt_eq.mp (List.all_eq_true.1 hl _ (zBe hc))
      simp only at h1 h2
      omega
 have upn:∀i,zD hs i≠none→zD (loc++hs) i≠none:=fun i hi=>by rw[up i hi];exact hi
 have hown:∀b,own σ (zD hs) b→own σ (zD (loc++hs)) b:=fun b ⟨i,v,h1,h2,h3⟩=>⟨i,v,upn i h1,h2,h3⟩
 refine⟨⟨fun i B hB=> ?_,fun i j v1 v2 b hi hj=>H.inj i j v1 v2 b (upn i hi) (upn j hj),fun b hb=>H.new b (hown b hb),fun i v hi=>⟨(H.fx i v hi).1,?_⟩,H.big⟩,hown⟩
 ·have hne:zD hs i≠none:=by rw[hB];simp
  obtain⟨v,e1,e2⟩:=H.blk i B ((up i hne).trans hB)
  refine⟨v,e1,?_⟩
  rcases e2 with h0|⟨b,cap,cs,k1,k2,k3,k4⟩|hm
  ·exact .inl h0
  ·exact .inr (.inl ⟨b,cap,cs,k1,k2,k3,fun k hk j hj=>let ⟨u,g1,g2⟩:=k4 k hk j hj;⟨u,g1,g2.keep ⟨rfl,rfl,rfl,Nat.le_refl _,fun _ _ _=>rfl⟩ (fun b hb=>.inl (hb.imp (hown b) fun h=>h)) fun _ _ h=>h⟩⟩)
  ·exact .inr (.inr hm)
 ·have h1:=(H.fx i v hi).2
  rw[zCC]at h1
  cases hc:zD loc i with
  |none=>rw[hc]at h1;exact h1
  | some B'=>
    have h2:=Nat.blt_eq.mp (List.all_eq_true.1 hl _ (zBe hc));have:=(b0.one i v hi).1
    simp only at h2
    omega
theorem zSx{b0:zN}{σ:Nat→Option Value}{hs:List (Nat×AB)}{w:World}(H:HRel b0 σ (zD hs) w)(hk:zDS hs=true)(hb:∀p∈hs,∀k j,k<p.2.n→j<p.2.sz→zM (p.2.F k j)=true):HRel b0 b0.fix (zD hs) w∧∀b,own σ (zD hs) b↔own b0.fix (zD hs) b:=by
 have hown:∀b,own σ (zD hs) b↔own b0.fix (zD hs) b:=fun b=>⟨fun ⟨i,v,h1,h2,h3⟩=>⟨i,v,h1,by rw[(zDe H hk h1).1];exact h2,h3⟩,fun ⟨i,v,h1,h2,h3⟩=>⟨i,v,h1,by rw[←(zDe H hk h1).1];exact h2,h3⟩⟩
 have hout:∀b,out b0 b0.fix (zD hs) b→out b0 σ (zD hs) b:=fun b hb=>hb.imp (hown b).2 fun h=>h
 refine⟨⟨fun i B hB=> ?_,fun i j v1 v2 b hi hj h1 h2=>H.inj i j v1 v2 b hi hj (by rw[←(zDe H hk hi).1];exact h1) (by rw[←(zDe H hk hj).1];exact h2),fun b hb=>H.new b ((hown b).2 hb),fun i v hi=>⟨hi,(H.fx i v hi).2⟩,fun i _ hf=>hf⟩,hown⟩
 have hne:zD hs i≠none:=by rw[hB];simp
 obtain⟨v,e1,e2⟩:=H.blk i B hB
 refine⟨v,(zDe H hk hne).1.trans e1,?_⟩
 rcases e2 with h0|⟨b,cap,cs,k1,k2,k3,k4⟩|hm
 ·exact .inl h0
 rotate_left
 ·exact .inr (.inr hm)
 ·refine .inr (.inl ⟨b,cap,cs,k1,k2,k3,fun k hk' j hj=> ?_⟩)
  obtain⟨u,g1,g2⟩:=k4 k hk' j hj
  have him:=hb _ (zBe hB) k j hk' hj
  exact⟨u,g1,zBF him g2.1 ((zBo him g2).less hout)⟩
theorem RepI.cells{O:Nat→Prop}{w w':World}(hc:∀a v,w.cell? a=some v→w'.cell? a=some v):∀{x:CV} {u:Value},RepI O w x u→RepI O w' x u:=by
 intro x
 induction x with
 | ls n sz F ih=>
   rintro u ⟨A,cap,rfl,hcap,h⟩
   exact⟨A,cap,rfl,hcap,fun k hk j hj=>let ⟨ad,v,e1,e2,e3,e4,e5⟩:=h k hk j hj;⟨ad,v,e1,e2,hc _ _ e3,e4,ih k j e5⟩⟩
 | pl n sz F k j ih=>
   rintro u ⟨ad,rfl,hkn,h⟩
   exact⟨ad,rfl,hkn,fun k hk j hj=>let ⟨v,e2,e3,e4,e5⟩:=h k hk j hj;⟨v,e2,hc _ _ e3,e4,ih k j e5⟩⟩
 | lf n sz F ih=>
   rintro u ⟨A,rfl,h⟩
   exact⟨A,rfl,fun k hk j hj=>let ⟨ad,v,e1,e2,e3,e4,e5⟩:=h k hk j hj;⟨ad,v,e1,e2,hc _ _ e3,e4,ih k j e5⟩⟩
 | fs f m C ih=>
   rintro u ⟨vs,e1,e2,e3⟩
   exact⟨vs,e1,e2,fun i hi=>let ⟨v,a,b,c⟩:=e3 i hi;⟨v,a,b,ih i c⟩⟩
 | fi f m C ih=>
   rintro u ⟨vs,e1,e2,e3⟩
   exact⟨vs,e1,e2,fun i hi=>let ⟨v,a,b,c⟩:=e3 i hi;⟨v,a,b,ih i c⟩⟩
 |_=>exact fun h=>h
theorem RepB.cells{σ:Nat→Option Value}{O:Nat→Prop}{w w':World}(hc:∀a v,w.cell? a=some v→w'.cell? a=some v){x:CV}{u:Value}(hx:RepB σ O w x u):RepB σ O w' x u:=by
 cases x with
 |pt id sz k j=>exact hx
 |ow id=>exact hx
 |_=>exact RepI.cells hc hx
theorem RepC.cells{σ:Nat→Option Value}{O:Nat→Prop}{w w':World}(hc:∀a v,w.cell? a=some v→w'.cell? a=some v){x:CV}{u:Value}(hx:RepC σ O w x u):RepC σ O w' x u:=by
 refine⟨hx.1,?_⟩
 have h2:=hx.2
 cases x with
 | fn f m C=>
   obtain⟨vs,e1,e2,e3⟩:=h2
   exact⟨vs,e1,e2,fun i hi=>let ⟨v,a,b,c⟩:=e3 i hi;⟨v,a,b,c.cells hc⟩⟩
 |_=>exact RepB.cells hc h2
theorem RepV.cells{σ:Nat→Option Value}{O:Nat→Prop}{w w':World}(hc:∀a v,w.cell? a=some v→w'.cell? a=some v){x:V1}{u:Value}(hx:RepV σ O w x u):RepV σ O w' x u:=by
 cases x with
 |c x=>exact RepC.cells hc hx
 |ag l=>obtain⟨vs,e,hl⟩:=hx;exact⟨vs,e,hl.mono fun _ _ h1=>h1.cells hc⟩
theorem RepA.cells{σ:Nat→Option Value}{O:Nat→Prop}{w w':World}(hc:∀a v,w.cell? a=some v→w'.cell? a=some v){x:AV}{u:Value}(hx:RepA σ O w x u):RepA σ O w' x u:=by
 cases x with
 |c x=>exact RepC.cells hc hx
 |ag l=>obtain⟨vs,e,hl⟩:=hx;exact⟨vs,e,hl.mono fun _ _ h1=>h1.cells hc⟩
 |tu l=>obtain⟨vs,e,hl⟩:=hx;exact⟨vs,e,hl.mono fun _ _ h1=>h1.cells hc⟩
theorem HRel.turn{b0:zN}{σ:Nat→Option Value}{h:Nat→Option AB}{w w':World}(H:HRel b0 σ h w){D:Nat}(hD:∀cs t p,w.heap[D]?≠some (.cells cs t p))(hM:∀o,w.heap[D]?=some o→zMQ o=false)(hb:∀k,k≠D→w'.heap[k]?=w.heap[k]?)(hc:∀a v,w.cell? a=some v→w'.cell? a=some v):HRel b0 σ h w':=by
 refine⟨fun i B hi=> ?_,H.inj,H.new,H.fx,H.big⟩
 obtain⟨v,e1,e2⟩:=H.blk i B hi
 refine⟨v,e1,?_⟩
 rcases e2 with h0|⟨b,cap,cs,h1,h2,h3,h4⟩|⟨h1,h2,h3,b,o,rfl,h4,h5⟩
 ·exact .inl h0
 ·exact .inr (.inl ⟨b,cap,cs,h1,(hb b fun e=>by subst e;exact hD _ _ _ h2).trans h2,h3,fun k hk j hj=>let ⟨u,a1,a2⟩:=h4 k hk j hj;⟨u,a1,a2.cells hc⟩⟩)
 ·exact .inr (.inr ⟨h1,h2,h3,b,o,rfl,(hb b fun e=>by subst e;have:=hM _ h4;rw[h5.1]at this;cases this).trans h4,h5⟩)
theorem zFz{w:World}{D:Nat}{o:Obj}(hD:∀cs t p,w.heap[D]?≠some (.cells cs t p)):∀a v,w.cell? a=some v→(w.putObj D o).cell? a=some v:=fun a v h=>by
 refine(World.cell?_of_block (World.putObj_heap_other fun e=> ?_)).trans h
 unfold World.cell? at h
 cases ho:w.heap[a.block]? with
 |none=>simp[ho]at h
 | some o=>
   rw[ho]at h
   cases o with
   |cells cs t p=>exact hD cs t p (by rw[←e];exact ho)
   |_=>simp at h
theorem Rel0.unmark{b0:zN}{σ:Nat→Option Value}{S:St}{a:Act}{w:World}{d:Deferred}{ds:List Deferred}(R:Rel0 b0 σ S a w)(hd:a.defers=d::ds):
 ∃D,d={target:=.collected D,args:= #[]}∧(Instr.takeDeferred D).run P w=.ok [] (w.putObj D (.deferred none))∧Rel0 b0 σ S {a with defers:=ds} (w.putObj D (.deferred none)):=by
 have hm:=R.df;rw[hd]at hm
 obtain⟨⟨D,e1,e2,e3,e4⟩,hm⟩:=hm
 have hD:∀cs t p,w.heap[D]?≠some (.cells cs t p):=fun cs t p h=>by rw[e3]at h;cases h
 have hc:=zFz (o:=.deferred none) hD;have hb:∀k,k≠D→(w.putObj D (.deferred none)).heap[k]?=w.heap[k]?:=fun k hk=>World.putObj_heap_other hk
 refine⟨D,e1,run_takeDeferred e3,?_,R.sz,⟨R.ext.os,R.ext.tape,R.ext.output,by rw[World.putObj_size];exact R.ext.size,fun k hk hn=>(hb k (by omega)).trans (R.ext.block k hk hn)⟩,R.hp.turn hD (fun o h=>by rw[e3]at h;cases h;rfl) hb hc,fun t x hx=>(R.sl t x hx).cells hc,R.fr,R.le,R.gd,b0.jk _ _ (fun k=>k=D) _ _ R.gh ⟨rfl,rfl,rfl,by rw[World.putObj_size];exact Nat.le_refl _,fun k _ hk=>hb k hk⟩ fun k hk=>.inl (by rw[hk];exact e2)⟩
 have:∀{ds:List Deferred},(∀d'∈ds,d'≠{target:=.collected D,args:= #[]})→Marks b0.w.heap.size ds w→Marks b0.w.heap.size ds (w.putObj D (.deferred none)):=fun {ds}=>by
  induction ds with
  |nil=>exact fun _ _=>trivial
  | cons d' ds ih=>
    rintro h4 ⟨⟨D',f1,f2,f3,f4⟩,hm⟩
    refine⟨⟨D',f1,f2,(hb D' fun e=> ?_).trans f3,f4⟩,ih (fun d hd=>h4 d (List.mem_cons_of_mem _ hd)) hm⟩
    subst e;exact h4 d' (by simp) f1
 exact this e4 hm
theorem zI3{b0:zN}{S:St}{fn:Func}{R:Ending→World→Prop}(fin:∀a w,Rel b0 S a w→a.defers= []→∃v,(results fn a.tmps).run P w=.ok v w∧R (.returned v) w):
 ∀(ds:List Deferred) (a:Act) (w:World),a.defers=ds→Rel b0 S a w→LeavesInM Fence.wide 0 P fn a.tmps R ds .returning w
 | [],a,w,hd,hR=>fin a w hR hd
 | d::ds,a,w,hd,⟨σ,hR⟩=>by
   obtain⟨D,e1,e2,e3⟩:=hR.unmark (P:=P) hd
   refine⟨by simp,.inl ⟨D,_,by rw[e1],e2,?_⟩⟩
   exact zI3 fin ds {a with defers:=ds} _ rfl ⟨σ,e3⟩
theorem zDL{f:FuncId}{fn:Func}{c:Code}{vals:Array Value}{w:World}{R:Ending→World→Prop}{b0:zN}{Q:Exit→St→Prop}{S:St}(hf:P.funcs[f]?=some fn)(hb:fn.body=some c)(hrd:b0.rd=none)
 (h:AWp P c Q S) (hR:Rel b0 S {tmps:=vals++Array.replicate (fn.ntmps-vals.size) undef,defers:= []} w) (hQ:∀e S,Q e S→e=.normal∨e=.ret)
 (fin:∀e a w S,Rel b0 S a w→Q e S→a.defers= []→∃v,(results fn a.tmps).run P w=.ok v w∧R (.returned v) w):Calls P f vals w R:=by
 refine callsIn_wide.1 (callsIn_of_wp_marks (F:=Fence.wide) (n:=0) hf hb trivial ?_);have:=h.get b0 _ w hR;rw[hrd]at this;refine wpIn_mono this fun e a w ⟨S',h1,h2⟩=> ?_
 rcases hQ e S' h2 with rfl|rfl
 ·exact zI3 (fun a w hR hd=>fin _ a w S' hR h2 hd) _ a w rfl h1
 ·exact zI3 (fun a w hR hd=>fin _ a w S' hR h2 hd) _ a w rfl h1
theorem zMr{f:FuncId}{fn:Func}{c:Code}{rs:List ResultVar}{args:List V1}{hs hs':List (Nat×AB)}{r:AV}(hf:P.funcs[f]?=some fn)(hb:fn.body=some c)(hr:fn.results=rs.toArray)(hn:args.length≤fn.ntmps)
 (hk:zDS hs'=true) (him:∀p∈hs',∀k j,k<p.2.n→j<p.2.sz→zM (p.2.F k j)=true)
 (h:AWp P c (zFp P rs r hs') (zBQ fn.ntmps args hs)):HCalls P f args hs r hs':=fun b0 vals hH hle hY hv=>by
 have hl:=hv.length
 let b2:zN:=⟨b0.w,b0.X,b0.Y,b0.fix,b0.lt,b0.ylt,b0.dis,b0.one,fun _ _=>False,fun _ _ _=>True,none,fun _ _ h=>h.elim,fun _ _ _ _ _ _ _ _=>trivial⟩
 have up:∀{σ h w},HRel b0 σ h w→HRel b2 σ h w:=fun H=>⟨H.blk,H.inj,H.new,H.fx,H.big⟩
 have dn:∀{σ h w},HRel b2 σ h w→HRel b0 σ h w:=fun H=>⟨H.blk,H.inj,H.new,H.fx,H.big⟩
 refine zDL (b0:=b2) hf hb rfl h ⟨b0.fix,trivial,?_,⟨rfl,rfl,rfl,Nat.le_refl _,fun _ _ _=>rfl⟩,up hH,fun t x hx=> ?_,fun id hid=> ?_,hle,rfl,trivial⟩ (fun e S hQ=>by cases e<;>first|exact .inl rfl|exact .inr rfl|exact hQ.elim) fun e a w S hR hQ hd=> ?_
 ·simp[zBQ,hl];omega
 ·obtain⟨y,e1,rfl⟩:∃y,args[t]?=some y∧y.av=x:=by simpa[zBQ,Option.map_eq_some_iff]using hx
  obtain⟨v,e2,e3⟩:=hv.get e1
  have ht:(vals.toArray++Array.replicate (fn.ntmps-vals.toArray.size) undef).getD t undef=v:=by
   have hlt:=(List.getElem?_eq_some_iff.1 e2).1;have:=(List.getElem?_eq_some_iff.1 e2).2
   simp[Array.getD_eq_getD_getElem?,Array.getElem?_append,hlt,this]
  rw[ht];exact e3.av
 ·have h1:id<1000:=Nat.blt_eq.mp hid
  refine⟨?_,h1⟩
  cases hc:b0.fix id with
  |none=>rfl
  |some v=>have:=(b0.one id v hc).1;omega
 ·obtain⟨S',loc,hw,hS',hlc,hS⟩:∃S' loc,Wk S S'∧S'.h=zD (loc++hs')∧loc.all (fun p=>Nat.blt p.1 1000)=true∧ARets P S' rs r:=by cases e<;>first|exact hQ|exact hQ.elim
  obtain⟨σ,R⟩:=hw b2 a w hR
  obtain⟨v,h1,h2⟩:=hS.run hr R
  have hH0:=R.hp;rw[hS']at hH0 h2
  obtain⟨hH',hsub⟩:=hH0.lent hlc hk
  replace h2:=h2.keep (σ':=fun _=>none) ⟨rfl,rfl,rfl,Nat.le_refl _,fun _ _ _=>rfl⟩ (fun b (hb:out b2 σ (zD hs') b)=>.inl (hb.imp (hsub b) fun h=>h)) fun _ _ h=>h
  obtain⟨g1,g2⟩:=zSx hH' hk him
  refine⟨v,h1,v,rfl,h2.keep ⟨rfl,rfl,rfl,Nat.le_refl _,fun _ _ _=>rfl⟩ (fun b hb=>.inl ?_) (fun _ _ h=>h),dn g1,R.ext.less fun b hb=>hb.elim id fun h=>h.elim⟩
  rcases hb with ⟨i,u,k1,k2,k3⟩|hb
  ·exact .inl ((g2 b).2 ⟨i,u,(g1.fx i u k2).2,k2,k3⟩)
  ·exact .inr hb
end
section
variable{P:Program}

inductive TK where
 |one
 |st (parts:List (Nat×Nat))
 |arr (n:Nat) (e:TypeId)
 |sl (e:TypeId)
structure TD where
 k:TK
 size:Nat
 bytes:Nat
 zero:List Value
def zEk:TypeDesc→Bool
 | .struct _| .array _ _=>true
 |_=>false
def vEq:Value→Value→Bool
 | .int k n,.int k' n'=>decide (k=k') && decide (n=n')
 | .bool a,.bool b=>a==b
 | .string s,.string t=>decide (s.data.toList=t.data.toList)
 | .slice none 0 0,.slice none 0 0=>true
 | .pointer none,.pointer none=>true
 | .map none,.map none=>true
 | .nilFunc,.nilFunc=>true
 | .nilIface,.nilIface=>true
 |_,_=>false
theorem zSS{a b:Value}(h:vEq a b=true):a=b:=by
 unfold vEq at h
 split at h<;>first|rfl|cases h|skip
 ·simp only[Bool.and_eq_true,decide_eq_true_eq]at h;rw[h.1,h.2]
 ·rw[eq_of_beq h]
 ·have:=of_decide_eq_true h
  congr 1
  exact ByteArray.ext (Array.ext' this)
def zHB:List Value→List Value→Bool
 | [],[]=>true
 |a::l,b::m=>vEq a b && zHB l m
 |_,_=>false
theorem zN8:∀{l m:List Value},zHB l m=true→l=m
 | [],[],_=>rfl
 | a::l,b::m,h=>by
   unfold zHB at h;rw[Bool.and_eq_true]at h;rw[zSS h.1,zN8 h.2]
 | [],_::_,h=>by cases h
 |_::_,[],h=>by cases h
def zDm(P:Program)(t:TypeId):Nat:=match P.info? t with|some i=>i.size|none=>0
def zFX(P:Program)(fs:Array Field):List (Nat×Nat):=fs.toList.map fun f=>(f.offset,zDm P f.type)
def zJT(P:Program)(t:TypeId)(d:TD):Bool:=
 match P.info? t,P.underlying t with
 |some i,some u=>Nat.beq i.size d.size && Nat.beq i.bytes d.bytes && (match i.zero with|some z=>zHB z.cells.toList d.zero|none=>false) && Nat.beq d.zero.length d.size &&
    (match d.k,u with
     | .one,u=> !zEk u
     | .st parts,.struct fs=>decide (zFX P fs=parts)
     | .arr n e,.array n' e'=>decide (n=n') && decide (e=e')
     | .sl e,.slice e'=>decide (e=e')
     |_,_=>false)
 |_,_=>false
def zAq(P:Program):List (TypeId×TD)→Bool
 | []=>true
 |p::r=>zJT P p.1 p.2 && zAq P r
theorem zN0:∀{tab:List (TypeId×TD)},zAq P tab=true→∀p∈tab,zJT P p.1 p.2=true
 | q::r,h,p,hp=>by
   unfold zAq at h;rw[Bool.and_eq_true]at h
   rcases List.mem_cons.1 hp with rfl|hp
   ·exact h.1
   ·exact zN0 h.2 p hp
theorem zAS{tab:List (TypeId×TD)}(h:zAq P tab=true){t:TypeId}{d:TD}(ht:zD tab t=some d):
 ∃ i z u,P.info? t=some i∧i.size=d.size∧i.bytes=d.bytes∧i.zero=some z∧z.cells=d.zero.toArray∧d.zero.length=d.size∧P.underlying t=some u∧
   (match d.k,u with
    | .one,u=> !zEk u
    | .st parts,.struct fs=>decide (zFX P fs=parts)
    | .arr n e,.array n' e'=>decide (n=n') && decide (e=e')
    | .sl e,.slice e'=>decide (e=e')
    |_,_=>false)=true:=by
 have:=zN0 h _ (zBe ht);unfold zJT at this
 cases hi:P.info? t with
 |none=>simp[hi]at this
 | some i=>
   cases hu:P.underlying t with
   |none=>simp[hi,hu]at this
   | some u=>
     simp only[hi,hu,Bool.and_eq_true]at this
     obtain⟨⟨⟨⟨h1,h2⟩,h3⟩,h4⟩,h5⟩:=this
     cases hz:i.zero with
     |none=>simp[hz]at h3
     | some z=>
       rw[hz]at h3
       exact⟨i,z,u,rfl,Nat.eq_of_beq_eq_true h1,Nat.eq_of_beq_eq_true h2,hz,Array.ext' (by simpa using zN8 h3),Nat.eq_of_beq_eq_true h4,rfl,h5⟩
theorem zSE{tab:List (TypeId×TD)}(h:zAq P tab=true){t:TypeId}{d:TD}(ht:zD tab t=some d)(hk:d.k=.one):∃u,P.underlying t=some u∧zEk u=false:=by
 obtain⟨i,z,u,-,-,-,-,-,-,h6,h7⟩:=zAS h ht
 rw[hk]at h7
 exact⟨u,h6,by simpa using h7⟩
theorem zHA{tab:List (TypeId×TD)}(h:zAq P tab=true){t:TypeId}{d:TD}{parts:List (Nat×Nat)}(ht:zD tab t=some d)(hk:d.k=.st parts):∃fs,P.underlying t=some (.struct fs)∧zFX P fs=parts:=by
 obtain⟨i,z,u,-,-,-,-,-,-,h6,h7⟩:=zAS h ht
 rw[hk]at h7
 cases u<;>first|cases h7|exact⟨_,h6,of_decide_eq_true h7⟩
theorem zE7{tab:List (TypeId×TD)}(h:zAq P tab=true){t:TypeId}{d:TD}{n:Nat}{e:TypeId}(ht:zD tab t=some d)(hk:d.k=.arr n e):P.underlying t=some (.array n e):=by
 obtain⟨i,z,u,-,-,-,-,-,-,h6,h7⟩:=zAS h ht
 rw[hk]at h7
 cases u<;>first|cases h7|skip
 simp only[Bool.and_eq_true,decide_eq_true_eq]at h7
 rw[h6,h7.1,h7.2]
theorem zBL{tab:List (TypeId×TD)}(h:zAq P tab=true){t:TypeId}{d:TD}{e:TypeId}(ht:zD tab t=some d)(hk:d.k=.sl e):P.underlying t=some (.slice e):=by
 obtain⟨i,z,u,-,-,-,-,-,-,h6,h7⟩:=zAS h ht
 rw[hk]at h7
 cases u<;>first|cases h7|skip
 rw[h6,of_decide_eq_true h7]

def St.wants(S:St)(ops:Array Oper)(o:Oper):Option Bool:=
 match o.guard with
 |none=>some true
 | some (j,want)=>match zAL ops j with
   |none=>none
   | some t=>match S.t t with
     |some (.c (.p (.bool b)))=>some (b==want)
     |some (.tu [])=>some false
     |_=>none
theorem zC8{b0:zN}{σ:Nat→Option Value}{S:St}{a:Act}{w:World}{ops:Array Oper}{o:Oper}{b:Bool}(R:Rel0 b0 σ S a w)(h:S.wants ops o=some b):Region.wanted o (yielded ops a.tmps)=b:=by
 unfold St.wants at h;unfold Region.wanted
 cases hg:o.guard with
 |none=>rw[hg]at h;exact Option.some.inj h
 | some p =>
   obtain⟨j,want⟩:=p
   rw[hg]at h
   simp only at h⊢
   unfold yielded;have hd:(ops[j]?).bind (·.dst)=zAL ops j:=rfl;rw[hd]
   cases hj:zAL ops j with
   |none=>rw[hj]at h;cases h
   | some t=>
     rw[hj]at h
     simp only[Option.bind_some]at h⊢
     cases ht:S.t t with
     |none=>rw[ht]at h;cases h
     | some x=>
       rw[ht]at h;have hx:=R.sl t x ht
       simp only[Array.getD_eq_getD_getElem?]at hx
       split at h
       ·rename_i b' e
        cases e
        have hv:=hx.2
        cases hc:a.tmps[t]? with
        |none=>rw[hc]at hv;cases hv
        | some v=>
          rw[hc]at hv;obtain rfl:v=.bool b':=hv;rw[←Option.some.inj h]
          cases b'<;>cases want<;>rfl
       ·rename_i e
        cases e
        obtain⟨vs,e1,e2⟩:=hx
        have:vs= []:=by cases vs<;>first|rfl|exact e2.elim
        subst this;rw[←Option.some.inj h]
        cases hc:a.tmps[t]? with
        |none=>rfl
        | some v=>
          rw[hc]at e1;obtain rfl:v=.tuple #[]:=e1
          rfl
       ·cases h

structure zKu(ops:Array Oper)(o:Oper)(S S1:St):Prop where
 n:S1.n=S.n
 G:S1.G=S.G
 op:∀x∈o.op.operands.toList,S1.opd x=S.opd x
 gd:S1.wants ops o=S.wants ops o
theorem zH6{ops:Array Oper}{o:Oper}{S S1:St}(hn':S1.n=S.n∧S1.G=S.G)(h:∀t∈o.looksAt ops,S1.t t=S.t t):zKu ops o S S1:=by
 refine⟨hn'.1,hn'.2,fun x hx=> ?_,?_⟩
 ·cases x with
  |tmp t=>exact h t (List.mem_append_left _ (List.mem_filterMap.2 ⟨.tmp t,hx,rfl⟩))
  |_=>rfl
 ·unfold St.wants
  cases hg:o.guard with
  |none=>rfl
  | some p=>
    obtain⟨j,want⟩:=p
    simp only
    cases hj:zAL ops j with
    |none=>rfl
    | some t=>
      simp only
      rw[h t (List.mem_append_right _ (by rw[hg];simp only;rw[show(ops[j]?).bind (·.dst)=some t from hj];simp))]

theorem LStep.of{ops:Array Oper}{o:Oper}{rd:List Nat}{e:Eff}{S:St}(hw:S.wants ops o=some true)
 (h:∀S1,zKu ops o S S1→(∀id∈rd,S1.h id=S.h id)→(∀id∈e.al,S1.fr id=S.fr id)→∀b0 σ a w,Rel0 b0 σ S1 a w→Goes P (fun u w'=>Rel b0 (S1.eff o.dst e) (a.put o.dst u) w') ((execOp a.eval o).run P w)):LStep P ops o rd e S:=
 fun S1 hn ht hr hf b0 a w ⟨σ,R⟩=>.inl ⟨zC8 R ((zH6 hn ht).gd.trans hw),.inl<|h S1 (zH6 hn ht) hr hf b0 σ a w R⟩
theorem AList.ext{ops:Array Oper}{o:Oper}{rest:List Oper}{acc:List (List Nat×List Nat)}{S:St}{Q:List (List Nat×List Nat)→St→Prop}(rd:List Nat)(x:AV)(hw:S.wants ops o=some true)(hd:dOk S.n o.dst=true)
 (h:∀S1,(∀y∈o.op.operands.toList,S1.opd y=S.opd y)→(∀id∈rd,S1.h id=S.h id)→∀b0 σ a w,Rel0 b0 σ S1 a w→Goes P (fun u w'=>RepA σ (out b0 σ S1.h) w' x u∧Ext w w') ((execOp a.eval o).run P w))
 (hk:AList P ops rest ((rd++ [],[])::acc) (S.eff o.dst ⟨x,[],[]⟩) Q):AList P ops (o::rest) acc S Q:=
 AList.cons rd ⟨x,[],[]⟩ (LStep.of hw fun S1 hA hr _ b0 σ a w R=>(h S1 hA.op hr b0 σ a w R).mono fun u w' ⟨h1,h2⟩=>⟨σ,R.val (by rw[hA.n];exact hd) h2 fun _=>h1⟩) hk
theorem AList.val{ops:Array Oper}{o:Oper}{rest:List Oper}{acc:List (List Nat×List Nat)}{S:St}{Q:List (List Nat×List Nat)→St→Prop}(rd:List Nat)(x:AV)(hw:S.wants ops o=some true)(hd:dOk S.n o.dst=true)
 (h:∀S1,(∀y∈o.op.operands.toList,S1.opd y=S.opd y)→(∀id∈rd,S1.h id=S.h id)→∀b0 σ a w,Rel0 b0 σ S1 a w→∃u,(execOp a.eval o).run P w=.ok (.value u) w∧RepA σ (out b0 σ S1.h) w x u)
 (hk:AList P ops rest ((rd++ [],[])::acc) (S.eff o.dst ⟨x,[],[]⟩) Q):AList P ops (o::rest) acc S Q:=
 AList.ext rd x hw hd (fun S1 h1 h2 b0 σ a w R=>by obtain⟨u,e1,e2⟩:=h S1 h1 h2 b0 σ a w R;rw[e1];exact⟨e2,Ext.refl w⟩) hk
theorem AList.skip{ops:Array Oper}{o:Oper}{rest:List Oper}{acc:List (List Nat×List Nat)}{S:St}{Q:List (List Nat×List Nat)→St→Prop}(hw:S.wants ops o=some false)(hd:dOk S.n o.dst=true)
 (hk:AList P ops rest (([],[])::acc) (S.eff o.dst ⟨.tu [],[],[]⟩) Q):AList P ops (o::rest) acc S Q:=
 AList.cons [] ⟨.tu [],[],[]⟩ (fun S1 hn ht _ _ b0 a w ⟨σ,R⟩=>.inr ⟨zC8 R ((zH6 hn ht).gd.trans hw),σ,R.val (by rw[hn.1];exact hd) (Ext.refl w) fun _=>⟨[],rfl,trivial⟩⟩) hk

section ops
variable{ops:Array Oper}{rest:List Oper}{acc:List (List Nat×List Nat)}{S:St}{Q:List (List Nat×List Nat)→St→Prop}{dst:Option Tmp}{ty:TypeId}{pos:String}{after:Array Edge}{guard:Option (Nat×Bool)}
theorem AList.move{x:Operand}{y:AV}(hw:S.wants ops {dst,op:=.move x,type:=ty,pos,after,guard}=some true)(hd:dOk S.n dst=true)(hx:S.opd x=some y)
 (hk:AList P ops rest (([],[])::acc) (S.eff dst ⟨y,[],[]⟩) Q):AList P ops ({dst,op:=.move x,type:=ty,pos,after,guard}::rest) acc S Q:=
 AList.val [] y hw hd (fun S1 h1 _ b0 σ a w R=>⟨a.eval x,rfl,zW R ((h1 x (by simp[Op.operands])).trans hx)⟩) hk
theorem AList.assign{x:Operand}{y:AV}(hw:S.wants ops {dst,op:=.assign x,type:=ty,pos,after,guard}=some true)(hd:dOk S.n dst=true)(hx:S.opd x=some y)
 (hk:AList P ops rest (([],[])::acc) (S.eff dst ⟨y,[],[]⟩) Q):AList P ops ({dst,op:=.assign x,type:=ty,pos,after,guard}::rest) acc S Q:=
 AList.val [] y hw hd (fun S1 h1 _ b0 σ a w R=>⟨a.eval x,rfl,zW R ((h1 x (by simp[Op.operands])).trans hx)⟩) hk
theorem zAU{σ:Nat→Option Value}{O:Nat→Prop}{w:World}{v u:Value}(h:RepA σ O w (.c (.p v)) u):u=v:=h.2
theorem zCb{σ:Nat→Option Value}{O:Nat→Prop}{w:World}{v:Value}(h:v.oneCell'=true):RepA σ O w (.c (.p v)) v:=⟨h,rfl⟩
theorem AList.pick{c x y:Operand}{b:Bool}{p q:AV}(hw:S.wants ops {dst,op:=.pick c x y,type:=ty,pos,after,guard}=some true)(hd:dOk S.n dst=true)(hc:S.opd c=some (.c (.p (.bool b))))(hx:S.opd x=some p)(hy:S.opd y=some q)
 (hk:AList P ops rest (([],[])::acc) (S.eff dst ⟨bif b then p else q,[],[]⟩) Q):AList P ops ({dst,op:=.pick c x y,type:=ty,pos,after,guard}::rest) acc S Q:=
 AList.val [] _ hw hd (fun S1 h1 _ b0 σ a w R=>by
  have e1:=zAU (zW R ((h1 c (by simp[Op.operands])).trans hc))
  refine⟨if b then a.eval x else a.eval y,?_,?_⟩
  ·cases b<;>simp[execOp,e1,asBool]
  ·cases b
   ·exact zW R ((h1 y (by simp[Op.operands])).trans hy)
   ·exact zW R ((h1 x (by simp[Op.operands])).trans hx)) hk
theorem zKn{c x y:Operand}{p:AV}(hw:S.wants ops {dst,op:=.pick c x y,type:=ty,pos,after,guard}=some true)(hd:dOk S.n dst=true)(hc:S.opd c=some (.c (.p (.bool true))))(hx:S.opd x=some p)
 (hk:AList P ops rest (([],[])::acc) (S.eff dst ⟨p,[],[]⟩) Q):AList P ops ({dst,op:=.pick c x y,type:=ty,pos,after,guard}::rest) acc S Q:=
 AList.val [] _ hw hd (fun S1 h1 _ b0 σ a w R=>by
  have e1:=zAU (zW R ((h1 c (by simp[Op.operands])).trans hc))
  exact⟨a.eval x,by simp[execOp,e1,asBool],zW R ((h1 x (by simp[Op.operands])).trans hx)⟩) hk
theorem zKm{c x y:Operand}{p:AV}(hw:S.wants ops {dst,op:=.pick c x y,type:=ty,pos,after,guard}=some true)(hd:dOk S.n dst=true)(hc:S.opd c=some (.c (.p (.bool false))))(hx:S.opd y=some p)
 (hk:AList P ops rest (([],[])::acc) (S.eff dst ⟨p,[],[]⟩) Q):AList P ops ({dst,op:=.pick c x y,type:=ty,pos,after,guard}::rest) acc S Q:=
 AList.val [] _ hw hd (fun S1 h1 _ b0 σ a w R=>by
  have e1:=zAU (zW R ((h1 c (by simp[Op.operands])).trans hc))
  exact⟨a.eval y,by simp[execOp,e1,asBool],zW R ((h1 y (by simp[Op.operands])).trans hx)⟩) hk
theorem AList.extract{x:Operand}{i:Nat}{l:List V1}{y:V1}(hw:S.wants ops {dst,op:=.extract x i,type:=ty,pos,after,guard}=some true)(hd:dOk S.n dst=true)(hx:S.opd x=some (.tu l))(hi:l[i]?=some y)
 (hk:AList P ops rest (([],[])::acc) (S.eff dst ⟨y.av,[],[]⟩) Q):AList P ops ({dst,op:=.extract x i,type:=ty,pos,after,guard}::rest) acc S Q:=
 AList.val [] _ hw hd (fun S1 h1 _ b0 σ a w R=>by
  obtain⟨vs,e1,e2⟩:=zW R ((h1 x (by simp[Op.operands])).trans hx)
  obtain⟨v,e3,e4⟩:=e2.get hi
  exact⟨v,by simp[execOp,e1,Instr.extract,e3],e4.av⟩) hk
theorem zCo{x y:Operand}{u v r:Value}{op:BinOp}{xt yt:TypeId}(hw:S.wants ops {dst,op:=.binOp op xt x y yt,type:=ty,pos,after,guard}=some true)(hd:dOk S.n dst=true)(hx:S.opd x=some (.c (.p u)))(hy:S.opd y=some (.c (.p v)))
 (hg:(match u with| .nilIface| .agg _=>false|_=>true)=true) (hr:∀w,(Go.binOp op xt u v).run P w=.ok r w) (h1:r.oneCell'=true)
 (hk:AList P ops rest (([],[])::acc) (S.eff dst ⟨.c (.p r),[],[]⟩) Q):AList P ops ({dst,op:=.binOp op xt x y yt,type:=ty,pos,after,guard}::rest) acc S Q:=
 AList.val [] _ hw hd (fun S1 g1 _ b0 σ a w R=>by
  have e1:=zAU (zW R ((g1 x (by simp[Op.operands])).trans hx));have e2:=zAU (zW R ((g1 y (by simp[Op.operands])).trans hy))
  refine⟨r,?_,zCb h1⟩
  have hgd:(eqGuard op xt x y u v).run P w=.ok () w:=by
   unfold eqGuard
   cases op<;>first|rfl|(cases u<;>first|rfl|cases hg)
  simp only[execOp,e1,e2,Sem.run_bind,hgd,hr,Result.andThen_ok,Sem.run_pure]) hk
theorem zHM{x:Operand}{u r:Value}{op:UnOp}{xt:TypeId}(hw:S.wants ops {dst,op:=.unOp op xt x,type:=ty,pos,after,guard}=some true)(hd:dOk S.n dst=true)(hx:S.opd x=some (.c (.p u)))
 (hr:∀w,(Op.unary op u).run P w=.ok r w) (h1:r.oneCell'=true)
 (hk:AList P ops rest (([],[])::acc) (S.eff dst ⟨.c (.p r),[],[]⟩) Q):AList P ops ({dst,op:=.unOp op xt x,type:=ty,pos,after,guard}::rest) acc S Q:=
 AList.val [] _ hw hd (fun S1 g1 _ b0 σ a w R=>by
  have e1:=zAU (zW R ((g1 x (by simp[Op.operands])).trans hx))
  exact⟨r,by simp only[execOp,e1,Sem.run_bind,hr,Result.andThen_ok,Sem.run_pure],zCb h1⟩) hk
end ops
end
end Go.AV
end
