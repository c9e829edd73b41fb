/- Parts of the proof: AV. -/
import Derived.Test.YtpefnljgalpllaaG01
set_option linter.unusedSimpArgs false
set_option linter.unusedVariables false
set_option maxHeartbeats 0
section
namespace Go.AV
open Go Go.RowKit Go.Flow
inductive CV where
 |p (v:Value)
 |ls (n sz:Nat) (F:Nat→Nat→CV)
 |pl (n sz:Nat) (F:Nat→Nat→CV) (k j:Nat)
 |pt (id sz k j:Nat)
 |ow (id:Nat)
 |fn (f:FuncId) (cs:Nat) (C:Nat→CV)
 |fi (f:FuncId) (cs:Nat) (C:Nat→CV)
 |mo (K:Nat→Obj→Prop)
 |lf (n sz:Nat) (F:Nat→Nat→CV)
 |fs (f:FuncId) (cs:Nat) (C:Nat→CV)
 |any

def RepI(O:Nat→Prop)(w:World):CV→Value→Prop
 | .p v,u=>u=v
 | .ls n sz F,u=>∃A cap,u=.slice A n cap∧n≤cap∧∀k,k<n→∀j,j<sz→∃(ad:Addr) (v:Value),A=some ad∧¬O ad.block∧w.cell? (ad.add (k*sz+j))=some v∧v.oneCell'=true∧RepI O w (F k j) v
 | .pl n sz F k j,u=>∃ad:Addr,u=.pointer (some (ad.add (k*sz+j)))∧k<n∧∀k,k<n→∀j,j<sz→∃v,¬O ad.block∧w.cell? (ad.add (k*sz+j))=some v∧v.oneCell'=true∧RepI O w (F k j) v
 | .fi f m C,u=>∃vs:List Value,u=.func (.func f) #[] vs.toArray∧vs.length=m∧∀i,i<m→∃v,vs[i]?=some v∧v.oneCell'=true∧RepI O w (C i) v
 | .fs f m C,u=>∃vs:List Value,u=.func (.func f) #[.agg vs.toArray] #[]∧vs.length=m∧∀i,i<m→∃v,vs[i]?=some v∧v.oneCell'=true∧RepI O w (C i) v
 | .lf n sz F,u=>∃A,u=.slice A n n∧∀k,k<n→∀j,j<sz→∃(ad:Addr) (v:Value),A=some ad∧¬O ad.block∧w.cell? (ad.add (k*sz+j))=some v∧v.oneCell'=true∧RepI O w (F k j) v
 | .any,_=>True
 |_,_=>False

structure Keep(O:Nat→Prop)(w w':World):Prop where
 os:w'.os=w.os
 tape:w'.tape=w.tape
 output:w'.output=w.output
 size:w.heap.size≤w'.heap.size
 block:∀k,k<w.heap.size→¬O k→w'.heap[k]?=w.heap[k]?
theorem Keep.of_ext{O:Nat→Prop}{w w':World}(h:Ext w w'):Keep O w w':=⟨h.os,h.tape,h.output,h.size,fun k hk _=>Below.block h k hk⟩
theorem Keep.trans{O O':Nat→Prop}{a b c:World}(h:Keep O a b)(k:Keep O' b c)(hO:∀i,O' i→a.heap.size≤i∨O i):Keep O a c:=
 ⟨k.os.trans h.os,k.tape.trans h.tape,k.output.trans h.output,Nat.le_trans h.size k.size,fun i hi hno=>(k.block i (Nat.lt_of_lt_of_le hi h.size) fun ho=>(hO i ho).elim (fun h=>by omega) hno).trans (h.block i hi hno)⟩
theorem Keep.ext{O:Nat→Prop}{w0 w w':World}(h:Keep O w w')(hE:Ext w0 w)(hO:∀b,O b→w0.heap.size≤b):Ext w0 w':=
 ⟨h.os.trans hE.os,h.tape.trans hE.tape,h.output.trans hE.output,Nat.le_trans hE.size h.size,fun k hk=>(h.block k (Nat.lt_of_lt_of_le hk hE.size) (fun ho=>by have:=hO k ho;omega)).trans (Below.block hE k hk)⟩
theorem Keep.cell{O:Nat→Prop}{w w':World}(h:Keep O w w'){a:Addr}{v:Value}(hc:w.cell? a=some v)(hO:¬O a.block):w'.cell? a=some v:=
 (World.cell?_of_block (h.block _ (World.block_lt_of_cell? w a hc) hO)).trans hc

theorem RepI.keep{O O':Nat→Prop}{w w':World}(h:Keep O w w')(hO:∀b,O' b→O b∨w.heap.size≤b):∀{x:CV} {u:Value},RepI O w x u→RepI O' w' x u:=by
 intro x
 induction x with
 |p v=>exact fun h=>h
 | ls n sz F ih=>
   rintro u ⟨A,cap,rfl,hcap,hc⟩
   refine⟨A,cap,rfl,hcap,fun k hk j hj=> ?_⟩
   obtain⟨ad,v,e1,e2,e3,e4,e5⟩:=hc k hk j hj
   have hb:=World.block_lt_of_cell? w _ e3
   rw[block_add]at hb
   exact⟨ad,v,e1,fun ho=>(hO _ ho).elim e2 (fun h=>by omega),h.cell e3 (by rw[block_add];exact e2),e4,ih k j e5⟩
 | pl n sz F k j ih=>
   rintro u ⟨ad,rfl,hkn,hc⟩
   refine⟨ad,rfl,hkn,fun k hk j hj=> ?_⟩
   obtain⟨v,e2,e3,e4,e5⟩:=hc k hk j hj
   have hb:=World.block_lt_of_cell? w _ e3
   rw[block_add]at hb
   exact⟨v,fun ho=>(hO _ ho).elim e2 (fun h=>by omega),h.cell e3 (by rw[block_add];exact e2),e4,ih k j e5⟩
 |pt=>exact fun h=>h.elim
 |ow=>exact fun h=>h.elim
 |fn=>exact fun h=>h.elim
 | fi f m C ih=>
   rintro u ⟨vs,e1,e2,e3⟩
   exact⟨vs,e1,e2,fun i hi=>let ⟨v,a,b,c⟩:=e3 i hi;⟨v,a,b,ih i c⟩⟩
 | fs f m C ih=>
   rintro u ⟨vs,e1,e2,e3⟩
   exact⟨vs,e1,e2,fun i hi=>let ⟨v,a,b,c⟩:=e3 i hi;⟨v,a,b,ih i c⟩⟩
 |mo=>exact fun h=>h.elim
 | lf n sz F ih=>
   rintro u ⟨A,rfl,hc⟩
   refine⟨A,rfl,fun k hk j hj=> ?_⟩
   obtain⟨ad,v,e1,e2,e3,e4,e5⟩:=hc k hk j hj
   have hb:=World.block_lt_of_cell? w _ e3
   rw[block_add]at hb
   exact⟨ad,v,e1,fun ho=>(hO _ ho).elim e2 (fun h=>by omega),h.cell e3 (by rw[block_add];exact e2),e4,ih k j e5⟩
 |any=>exact fun _=>trivial
theorem RepI.less{O O':Nat→Prop}{w:World}(hO:∀b,O' b→O b){x:CV}{u:Value}(h:RepI O w x u):RepI O' w x u:=
 h.keep ⟨rfl,rfl,rfl,Nat.le_refl _,fun _ _ _=>rfl⟩ fun b hb=>.inl (hO b hb)

def baseBlk:Value→Option Nat
 | .pointer (some a)=>some a.block
 | .slice (some a) _ _=>some a.block
 | .map (some b)=>some b
 |_=>none
def baseC:Value→Option Nat
 | .map _=>none
 |v=>baseBlk v
theorem baseC_up{v:Value}{b:Nat}(h:baseC v=some b):baseBlk v=some b:=by cases v<;>first|exact h|cases h
def RepB(σ:Nat→Option Value)(O:Nat→Prop)(w:World):CV→Value→Prop
 | .pt id sz k j,u=>∃v b,σ id=some v∧baseC v=some b∧u=.pointer (some ⟨b,k*sz+j,none⟩)
 | .ow id,u=>σ id=some u∧((∃A n c,u=.slice A n c)∨∃b,u=.map (some b))
 |x,u=>RepI O w x u
def RepC(σ:Nat→Option Value)(O:Nat→Prop)(w:World)(x:CV)(u:Value):Prop:=
 u.oneCell'=true∧match x with
  | .fn f m C=>∃vs:List Value,u=.func (.func f) #[] vs.toArray∧vs.length=m∧∀i,i<m→∃v,vs[i]?=some v∧v.oneCell'=true∧RepB σ O w (C i) v
  |x=>RepB σ O w x u
theorem RepB.keep{σ σ':Nat→Option Value}{O O':Nat→Prop}{w w':World}(h:Keep O w w')(hO:∀b,O' b→O b∨w.heap.size≤b)(hs:∀i v,σ i=some v→σ' i=some v){x:CV}{u:Value}(hx:RepB σ O w x u):RepB σ' O' w' x u:=by
 cases x with
 |pt id sz k j=>obtain⟨v,b,h1,h2,h3⟩:=hx;exact⟨v,b,hs _ _ h1,h2,h3⟩
 |ow id=>obtain⟨h1,h2⟩:=hx;exact⟨hs _ _ h1,h2⟩
 |_=>exact RepI.keep h hO hx
theorem RepC.keep{σ σ':Nat→Option Value}{O O':Nat→Prop}{w w':World}(h:Keep O w w')(hO:∀b,O' b→O b∨w.heap.size≤b)(hs:∀i v,σ i=some v→σ' i=some v){x:CV}{u:Value}(hx:RepC σ O w x u):RepC σ' O' w' x u:=by
 refine⟨hx.1,?_⟩
 have h2:=hx.2
 cases x with
 | fn f m C=>
   obtain⟨vs,e1,e2,e3⟩:=h2
   exact⟨vs,e1,e2,fun i hi=>let ⟨v,a,b,c⟩:=e3 i hi;⟨v,a,b,c.keep h hO hs⟩⟩
 |_=>exact RepB.keep h hO hs h2

def RepL{α:Type}(R:α→Value→Prop):List α→List Value→Prop
 | [],[]=>True
 |x::l,v::vs=>R x v∧RepL R l vs
 |_,_=>False
theorem RepL.mono{α:Type}{R R':α→Value→Prop}(hR:∀x v,R x v→R' x v):∀{l:List α} {vs:List Value},RepL R l vs→RepL R' l vs
 | [],[],_=>trivial
 |_::_,_::_,h=>⟨hR _ _ h.1,RepL.mono hR h.2⟩
 | [],_::_,h=>h.elim
 |_::_,[],h=>h.elim
theorem RepL.length{α:Type}{R:α→Value→Prop}:∀{l:List α} {vs:List Value},RepL R l vs→vs.length=l.length
 | [],[],_=>rfl
 |_::_,_::_,h=>by simp[RepL.length h.2]
 | [],_::_,h=>h.elim
 |_::_,[],h=>h.elim
theorem RepL.get{α:Type}{R:α→Value→Prop}:∀{l:List α} {vs:List Value} {i:Nat} {x:α},RepL R l vs→l[i]?=some x→∃v,vs[i]?=some v∧R x v
 |_::_,_::_,0,_,h,hx=>⟨_,rfl,by simp at hx;exact hx▸h.1⟩
 |_::l,_::vs,i+1,_,h,hx=>by simpa using RepL.get (l:=l) (vs:=vs) (i:=i) h.2 (by simpa using hx)
 | [],[],_,_,_,hx=>by simp at hx
 | [],_::_,_,_,h,_=>h.elim
 |_::_,[],_,_,h,_=>h.elim
theorem RepL.of_get{α:Type}{R:α→Value→Prop}:∀{l:List α} {vs:List Value},vs.length=l.length→(∀(i:Nat) (x:α) (v:Value),l[i]?=some x→vs[i]?=some v→R x v)→RepL R l vs
 | [],[],_,_=>trivial
 |x::l,v::vs,hl,h=>⟨h 0 x v rfl rfl,RepL.of_get (by simpa using hl) fun i x v h1 h2=>h (i+1) x v (by simpa using h1) (by simpa using h2)⟩
 | [],_::_,hl,_=>by simp at hl
 |_::_,[],hl,_=>by simp at hl

inductive V1 where
 |c (x:CV)
 |ag (l:List CV)
inductive AV where
 |c (x:CV)
 |ag (l:List CV)
 |tu (l:List V1)
def V1.av:V1→AV
 | .c x=>.c x
 | .ag l=>.ag l
def RepV(σ:Nat→Option Value)(O:Nat→Prop)(w:World):V1→Value→Prop
 | .c x,u=>RepC σ O w x u
 | .ag l,u=>∃vs:List Value,u=.agg vs.toArray∧RepL (RepC σ O w) l vs
def RepA(σ:Nat→Option Value)(O:Nat→Prop)(w:World):AV→Value→Prop
 | .c x,u=>RepC σ O w x u
 | .ag l,u=>∃vs:List Value,u=.agg vs.toArray∧RepL (RepC σ O w) l vs
 | .tu l,u=>∃vs:List Value,u=.tuple vs.toArray∧RepL (RepV σ O w) l vs
theorem RepV.av{σ:Nat→Option Value}{O:Nat→Prop}{w:World}{x:V1}{u:Value}(h:RepV σ O w x u):RepA σ O w x.av u:=by cases x<;>exact h
theorem RepV.of_av{σ:Nat→Option Value}{O:Nat→Prop}{w:World}{x:V1}{u:Value}(h:RepA σ O w x.av u):RepV σ O w x u:=by cases x<;>exact h
theorem RepV.keep{σ σ':Nat→Option Value}{O O':Nat→Prop}{w w':World}(h:Keep O w w')(hO:∀b,O' b→O b∨w.heap.size≤b)(hs:∀i v,σ i=some v→σ' i=some v){x:V1}{u:Value}(hx:RepV σ O w x u):RepV σ' O' w' x u:=by
 cases x with
 |c x=>exact RepC.keep h hO hs hx
 |ag l=>obtain⟨vs,e,hl⟩:=hx;exact⟨vs,e,hl.mono fun _ _ h1=>h1.keep h hO hs⟩
theorem RepA.keep{σ σ':Nat→Option Value}{O O':Nat→Prop}{w w':World}(h:Keep O w w')(hO:∀b,O' b→O b∨w.heap.size≤b)(hs:∀i v,σ i=some v→σ' i=some v){x:AV}{u:Value}(hx:RepA σ O w x u):RepA σ' O' w' x u:=by
 cases x with
 |c x=>exact RepC.keep h hO hs hx
 |ag l=>obtain⟨vs,e,hl⟩:=hx;exact⟨vs,e,hl.mono fun _ _ h1=>h1.keep h hO hs⟩
 |tu l=>obtain⟨vs,e,hl⟩:=hx;exact⟨vs,e,hl.mono fun _ _ h1=>h1.keep h hO hs⟩

structure AB where
 row:Bool
 n:Nat
 sz:Nat
 ty:TypeId
 F:Nat→Nat→CV
def OBase(B:AB)(v:Value)(b cap:Nat):Prop:=
 (B.row=true∧v=.slice (some ⟨b,0,none⟩) B.n cap∧B.n≤cap∧cap≤maxLen)∨(B.row=false∧v=.pointer (some ⟨b,0,none⟩)∧cap=B.n)
theorem OBase.blk{B:AB}{v:Value}{b cap:Nat}(h:OBase B v b cap):baseBlk v=some b:=by
 rcases h with ⟨_,rfl,_⟩|⟨_,rfl,_⟩<;>rfl
theorem OBase.le{B:AB}{v:Value}{b cap:Nat}(h:OBase B v b cap):B.n≤cap:=by
 rcases h with ⟨_,_,h,_⟩|⟨_,_,h⟩<;>omega
def moKind:Obj→Bool
 | .map _ _=>true
 | .stringIter _ _=>true
 |_=>false
def MoOk(x:CV)(b:Nat)(o:Obj):Prop:=moKind o=true∧(x=.any∨∃K,x=.mo K∧K b o)
def OBk(σ:Nat→Option Value)(O:Nat→Prop)(w:World)(v:Value)(B:AB):Prop:=
 (B.row=true∧v=.slice none 0 0∧B.n=0)∨
 (∃b cap cs,OBase B v b cap∧w.heap[b]?=some (.cells cs B.ty (0,0))∧cs.size=cap*B.sz∧∀k,k<B.n→∀j,j<B.sz→∃u,cs[k*B.sz+j]?=some u∧RepC σ O w (B.F k j) u)∨
 (B.row=false∧B.n=1∧B.sz=1∧∃b o,v=.map (some b)∧w.heap[b]?=some o∧MoOk (B.F 0 0) b o)
theorem OBk.row{σ:Nat→Option Value}{O:Nat→Prop}{w:World}{v:Value}{B:AB}(h:OBk σ O w v B)(hr:B.row=true):(B.row=true∧v=.slice none 0 0∧B.n=0)∨
 ∃b cap cs,OBase B v b cap∧w.heap[b]?=some (.cells cs B.ty (0,0))∧cs.size=cap*B.sz∧∀k,k<B.n→∀j,j<B.sz→∃u,cs[k*B.sz+j]?=some u∧RepC σ O w (B.F k j) u:=by
 rcases h with h|h|⟨h,_⟩
 ·exact .inl h
 ·exact .inr h
 ·rw[hr]at h;cases h
theorem OBk.ofC{σ:Nat→Option Value}{O:Nat→Prop}{w:World}{v:Value}{B:AB}{b:Nat}(h:OBk σ O w v B)(hb:baseC v=some b):
 ∃b cap cs,OBase B v b cap∧w.heap[b]?=some (.cells cs B.ty (0,0))∧cs.size=cap*B.sz∧∀k,k<B.n→∀j,j<B.sz→∃u,cs[k*B.sz+j]?=some u∧RepC σ O w (B.F k j) u:=by
 rcases h with ⟨_,rfl,_⟩|h|⟨_,_,_,b',o,rfl,_⟩
 ·cases hb
 ·exact h
 ·cases hb
theorem OBk.keep{σ σ':Nat→Option Value}{O O':Nat→Prop}{w w':World}{v:Value}{B:AB}(hB:OBk σ O w v B)(h:Keep O w w')(hO:∀b,O' b→O b∨w.heap.size≤b)(hs:∀i v,σ i=some v→σ' i=some v)
 (hb:∀b,baseBlk v=some b→w'.heap[b]?=w.heap[b]?):OBk σ' O' w' v B:=by
 rcases hB with h0|⟨b,cap,cs,h1,h2,h3,h4⟩|⟨h1,h2,h3,b,o,rfl,h4,h5⟩
 ·exact .inl h0
 ·exact .inr (.inl ⟨b,cap,cs,h1,(hb b h1.blk).trans h2,h3,fun k hk j hj=>let ⟨u,e1,e2⟩:=h4 k hk j hj;⟨u,e1,e2.keep h hO hs⟩⟩)
 ·exact .inr (.inr ⟨h1,h2,h3,b,o,rfl,(hb b rfl).trans h4,h5⟩)

def own(σ:Nat→Option Value)(h:Nat→Option AB)(b:Nat):Prop:=∃id v,h id≠none∧σ id=some v∧baseBlk v=some b

structure Base where
 w:World
 X:Nat→Prop
 Y:Nat→Prop
 fix:Nat→Option Value
 lt:∀b,X b→b<w.heap.size
 ylt:∀b,Y b→b<w.heap.size
 dis:∀b,X b→¬Y b
 one:∀i v,fix i=some v→1000≤i∧∃b,baseBlk v=some b
 V:Bool→Nat→Prop
 J:Nat→Bool→World→Prop
 rd:Option Nat
 vx:∀d b,V d b→X b
 jk:∀i d O a b,J i d a→Keep O a b→(∀k,O k→w.heap.size≤k∨Y k)→J i d b
def out(b0:Base)(σ:Nat→Option Value)(h:Nat→Option AB)(b:Nat):Prop:=own σ h b∨b0.X b
theorem Keep.out{b0:Base}{σ:Nat→Option Value}{h:Nat→Option AB}{w w':World}(hK:Keep (own σ h) w w'):Keep (out b0 σ h) w w':=
 ⟨hK.os,hK.tape,hK.output,hK.size,fun k hk ho=>hK.block k hk fun h=>ho (.inl h)⟩

structure HRel(b0:Base)(σ:Nat→Option Value)(h:Nat→Option AB)(w:World):Prop where
 blk:∀id B,h id=some B→∃v,σ id=some v∧OBk σ (out b0 σ h) w v B
 inj:∀i j v1 v2 b,h i≠none→h j≠none→σ i=some v1→σ j=some v2→baseBlk v1=some b→baseBlk v2=some b→i=j
 new:∀b,own σ h b→b0.w.heap.size≤b∨b0.Y b
 fx:∀i v,b0.fix i=some v→σ i=some v∧h i≠none
 big:∀i,1000≤i→b0.fix i=none→σ i=none

theorem HRel.lt{b0:Base}{σ:Nat→Option Value}{h:Nat→Option AB}{w:World}(H:HRel b0 σ h w){b:Nat}(hb:own σ h b):b<w.heap.size:=by
 obtain⟨i,v,h1,h2,h3⟩:=hb
 cases hB:h i with
 |none=>exact absurd hB h1
 | some B=>
   obtain⟨v',e1,e2⟩:=H.blk i B hB
   rw[h2]at e1
   cases e1
   rcases e2 with ⟨_,rfl,_⟩|⟨b',cap,cs,g1,g2,_⟩|⟨_,_,_,b',o,rfl,g2,_⟩
   ·cases h3
   ·rw[g1.blk]at h3
    cases h3
    exact(Array.getElem?_eq_some_iff.1 g2).1
   ·cases h3
    exact(Array.getElem?_eq_some_iff.1 g2).1
theorem HRel.put{b0:Base}{σ σ':Nat→Option Value}{h h':Nat→Option AB}{w w':World}{id:Nat}{B':AB}{v':Value}(H:HRel b0 σ h w)
 (hs:∀i v,σ i=some v→σ' i=some v) (hid:h' id=some B') (hv:σ' id=some v') (hh:∀i,i≠id→h' i=none∨h' i=h i) (hK:Keep (own σ h) w w')
 (hfx:∀i v,b0.fix i=some v→h' i≠none) (hbig:∀i,1000≤i→σ' i=σ i)
 (hsame:∀i v b,i≠id→h' i≠none→σ i=some v→baseBlk v=some b→w'.heap[b]?=w.heap[b]?)
 (hB:OBk σ' (out b0 σ' h') w' v' B')
 (hnew:∀b,baseBlk v'=some b→(b0.w.heap.size≤b∨b0.Y b)∧(own σ h b∨w.heap.size≤b)∧∀i v,i≠id→h' i≠none→σ i=some v→baseBlk v≠some b):
 HRel b0 σ' h' w'∧(∀b,own σ' h' b→own σ h b∨w.heap.size≤b)∧∀b,out b0 σ' h' b→out b0 σ h b∨w.heap.size≤b:=by
 have back:∀i v,i≠id→h' i≠none→σ' i=some v→σ i=some v∧h i≠none:=fun i v hi hn hv=>by
  rcases hh i hi with h0|h0
  ·exact absurd h0 hn
  ·rw[h0]at hn
   cases hb:h i with
   |none=>exact absurd hb hn
   | some B=>
     obtain⟨v0,e,_⟩:=H.blk i B hb
     have:=hs i v0 e
     rw[hv]at this
     cases this
     exact⟨e,by simp⟩
 have hown:∀b,own σ' h' b→own σ h b∨w.heap.size≤b:=fun b ⟨i,v,h1,h2,h3⟩=>by
  by_cases hi:i=id
  ·subst hi
   rw[hv]at h2
   cases h2
   exact(hnew b h3).2.1
  ·obtain⟨e1,e2⟩:=back i v hi h1 h2
   exact .inl ⟨i,v,e2,e1,h3⟩
 have hout:∀b,out b0 σ' h' b→out b0 σ h b∨w.heap.size≤b:=fun b hb=>hb.elim (fun h=>(hown b h).imp .inl fun h=>h) fun h=>.inl (.inr h)
 refine⟨⟨fun i B hi=> ?_,fun i j v1 v2 b hi hj h1 h2 e1 e2=> ?_,fun b hb=> ?_,fun i v hi=>⟨hs i v (H.fx i v hi).1,hfx i v hi⟩,fun i hi hn=>(hbig i hi).trans (H.big i hi hn)⟩,hown,hout⟩
 ·by_cases hne:i=id
  ·subst hne
   rw[hid]at hi
   cases hi
   exact⟨v',hv,hB⟩
  ·rcases hh i hne with h0|h0
   ·rw[h0]at hi;cases hi
   ·have hn:h' i≠none:=by rw[hi];simp
    rw[h0]at hi
    obtain⟨v,e1,e2⟩:=H.blk i B hi
    exact⟨v,hs _ _ e1,e2.keep hK.out hout hs fun b hb=>hsame i v b hne hn e1 hb⟩
 ·by_cases c1:i=id
  ·by_cases c2:j=id
   ·exact c1.trans c2.symm
   ·subst c1
    rw[hv]at h1
    cases h1
    exact absurd e2 ((hnew b e1).2.2 j v2 c2 hj (back j v2 c2 hj h2).1)
  ·by_cases c2:j=id
   ·subst c2
    rw[hv]at h2
    cases h2
    exact absurd e1 ((hnew b e2).2.2 i v1 c1 hi (back i v1 c1 hi h1).1)
   ·obtain⟨a1,a2⟩:=back i v1 c1 hi h1
    obtain⟨b1,b2⟩:=back j v2 c2 hj h2
    exact H.inj i j v1 v2 b a2 b2 a1 b1 e1 e2
 ·obtain⟨i,v,h1,h2,h3⟩:=hb
  by_cases hi:i=id
  ·subst hi
   rw[hv]at h2
   cases h2
   exact(hnew b h3).1
  ·obtain⟨e1,e2⟩:=back i v hi h1 h2
   exact H.new b ⟨i,v,e2,e1,h3⟩
theorem HRel.keep{b0:Base}{σ:Nat→Option Value}{h:Nat→Option AB}{w w':World}(H:HRel b0 σ h w)(hE:Ext w w'):HRel b0 σ h w':=by
 refine⟨fun i B hi=> ?_,H.inj,H.new,H.fx,H.big⟩
 obtain⟨v,e1,e2⟩:=H.blk i B hi
 refine⟨v,e1,?_⟩
 rcases e2 with h0|⟨b,cap,cs,h1,h2,h3,h4⟩|⟨h1,h2,h3,b,o,rfl,h4,h5⟩
 ·exact .inl h0
 ·exact .inr (.inl ⟨b,cap,cs,h1,Ext.block hE h2,h3,fun k hk j hj=>let ⟨u,a1,a2⟩:=h4 k hk j hj;⟨u,a1,a2.keep (Keep.of_ext hE) (fun b hb=>.inl hb) fun _ _ h=>h⟩⟩)
 ·exact .inr (.inr ⟨h1,h2,h3,b,o,rfl,Ext.block hE h4,h5⟩)

structure St where
 n:Nat
 ln:Nat
 t:Nat→Option AV
 h:Nat→Option AB
 fr:Nat→Bool
 G:Base→Prop
 gs:Nat
 dd:Bool
def put{α:Type}(f:Nat→Option α)(i:Nat)(v:Option α):Nat→Option α:=fun k=>cond (Nat.beq k i) v (f k)
theorem put_same{α:Type}(f:Nat→Option α)(i:Nat)(v:Option α):put f i v i=v:=by
 unfold put;rw[show Nat.beq i i=true from Nat.beq_refl i];rfl
theorem put_ne{α:Type}(f:Nat→Option α){i k:Nat}(v:Option α)(h:k≠i):put f i v k=f k:=by
 unfold put
 cases hb:Nat.beq k i with
 |false=>rfl
 |true=>exact absurd (Nat.eq_of_beq_eq_true hb) h

def Marks(n0:Nat):List Deferred→World→Prop
 | [],_=>True
 |d::ds,w=>(∃D,d={target:=.collected D,args:= #[]}∧n0≤D∧w.heap[D]?=some (.deferred (some []))∧∀d'∈ds,d'≠{target:=.collected D,args:= #[]})∧Marks n0 ds w
theorem Marks.keep{n0:Nat}{O:Nat→Prop}{w w':World}(hK:Keep O w w')(hO:∀D,O D→w.heap[D]?≠some (.deferred (some []))):∀{ds:List Deferred},Marks n0 ds w→Marks n0 ds w'
 | [],_=>trivial
 |_::_,⟨⟨D,e1,e2,e3,e4⟩,h⟩=>⟨⟨D,e1,e2,(hK.block D (Array.getElem?_eq_some_iff.1 e3).1 fun ho=>hO D ho e3).trans e3,e4⟩,h.keep hK hO⟩
theorem HRel.nodef{b0:Base}{σ:Nat→Option Value}{h:Nat→Option AB}{w:World}(H:HRel b0 σ h w){b:Nat}(hb:own σ h b):w.heap[b]?≠some (.deferred (some [])):=by
 obtain⟨i,v,h1,h2,h3⟩:=hb
 cases hB:h i with
 |none=>exact absurd hB h1
 | some B=>
   obtain⟨v',e1,e2⟩:=H.blk i B hB
   rw[h2]at e1
   cases e1
   rcases e2 with ⟨_,rfl,_⟩|⟨b',cap,cs,g1,g2,_⟩|⟨_,_,_,b',o,rfl,g2,g5⟩
   ·cases h3
   ·rw[g1.blk]at h3
    cases h3
    rw[g2]
    intro e
    cases e
   ·cases h3
    rw[g2]
    intro e
    cases e
    exact absurd g5.1 (by decide)
theorem Keep.less{O O':Nat→Prop}{w w':World}(h:Keep O w w')(hO:∀b,O b→O' b):Keep O' w w':=⟨h.os,h.tape,h.output,h.size,fun k hk hn=>h.block k hk fun ho=>hn (hO k ho)⟩
def wild(w0:Base)(S:St)(b:Nat):Prop:=w0.Y b∨w0.V S.dd b
structure Rel0(w0:Base)(σ:Nat→Option Value)(S:St)(a:Act)(w:World):Prop where
 df:Marks w0.w.heap.size a.defers w
 sz:a.tmps.size=S.n
 ext:Keep (wild w0 S) w0.w w
 hp:HRel w0 σ S.h w
 sl:∀t x,S.t t=some x→RepA σ (out w0 σ S.h) w x (a.tmps.getD t undef)
 fr:∀id,S.fr id=true→σ id=none∧id<1000
 le:∀i v,w0.fix i=some v→i<1000+S.ln
 gd:S.G w0
 gh:w0.J S.gs S.dd w
def Rel(w0:Base)(S:St)(a:Act)(w:World):Prop:=∃σ,Rel0 w0 σ S a w

structure Eff where
 x:AV
 hs:List (Nat×Option AB)
 al:List Nat
def look(hs:List (Nat×Option AB))(h:Nat→Option AB):Nat→Option AB:=hs.foldr (fun p f=>put f p.1 p.2) h
def St.eff(S:St)(d:Option Tmp)(e:Eff):St:=
 {n:=S.n,ln:=S.ln,t:=match d with|some d=>put S.t d (some e.x)|none=>S.t,h:=look e.hs S.h,fr:=fun id=>S.fr id && !(e.al.any (Nat.beq id)),G:=S.G,gs:=S.gs,dd:=S.dd}
def dOk(n:Nat):Option Tmp→Bool
 |some d=>Nat.blt d n
 |none=>true

theorem getD_put{a:Act}{d t:Nat}{u:Value}(h:d<a.tmps.size):(a.put (some d) u).tmps.getD t undef=if t=d then u else a.tmps.getD t undef:=by
 simp only[Act.put,Array.getD_eq_getD_getElem?]
 by_cases e:t=d
 ·subst e;simp[h]
 ·rw[if_neg e,Array.getElem?_setIfInBounds_ne (Ne.symm e)]
theorem size_put{a:Act}{d:Option Tmp}{u:Value}:(a.put d u).tmps.size=a.tmps.size:=by cases d<;>simp[Act.put]
theorem defers_put{a:Act}{d:Option Tmp}{u:Value}:(a.put d u).defers=a.defers:=by cases d<;>rfl

theorem Rel0.step{w0:Base}{σ σ':Nat→Option Value}{S:St}{a:Act}{w w':World}{d:Option Tmp}{e:Eff}{u:Value}(R:Rel0 w0 σ S a w)(hd:dOk S.n d=true)
 (hs:∀i v,σ i=some v→σ' i=some v) (hK:Keep (own σ S.h) w w') (hH:HRel w0 σ' (look e.hs S.h) w') (hO:∀b,out w0 σ' (look e.hs S.h) b→out w0 σ S.h b∨w.heap.size≤b)
 (hx:d≠none→RepA σ' (out w0 σ' (look e.hs S.h)) w' e.x u) (hf:∀id,σ' id≠none→σ id≠none∨id∈e.al):Rel0 w0 σ' (S.eff d e) (a.put d u) w':=by
 refine⟨by rw[defers_put];exact R.df.keep hK fun D=>R.hp.nodef,size_put.trans R.sz,R.ext.trans hK fun i h=>(R.hp.new i h).imp id .inl,hH,fun t x ht=> ?_,fun id hid=> ?_,R.le,R.gd,w0.jk _ _ _ _ _ R.gh hK R.hp.new⟩
 ·cases d with
  |none=>exact(R.sl t x ht).keep hK.out hO hs
  | some d=>
    have hlt:d<a.tmps.size:=by rw[R.sz];exact Nat.blt_eq.mp hd
    rw[getD_put hlt]
    simp only[St.eff]at ht
    by_cases e:t=d
    ·subst e
     rw[put_same]at ht
     cases ht
     rw[if_pos rfl]
     exact hx (by simp)
    ·rw[put_ne _ _ e]at ht
     rw[if_neg e]
     exact(R.sl t x ht).keep hK.out hO hs
 ·simp only[St.eff,Bool.and_eq_true,Bool.not_eq_true']at hid
  refine⟨?_,(R.fr id hid.1).2⟩
  cases hc:σ' id with
  |none=>rfl
  | some v=>
    rcases hf id (by simp[hc])with h1|h1
    ·exact absurd (R.fr id hid.1).1 h1
    ·have h2:e.al.any (Nat.beq id)=true:=List.any_eq_true.2 ⟨id,h1,Nat.beq_refl id⟩
     rw[h2]at hid
     cases hid.2
theorem Rel0.val{w0:Base}{σ:Nat→Option Value}{S:St}{a:Act}{w w':World}{d:Option Tmp}{x:AV}{u:Value}(R:Rel0 w0 σ S a w)(hd:dOk S.n d=true)(hE:Ext w w')
 (hx:d≠none→RepA σ (out w0 σ S.h) w' x u):Rel0 w0 σ (S.eff d ⟨x,[],[]⟩) (a.put d u) w':=by
 have h1:=R.hp.keep hE
 exact R.step (e:=⟨x,[],[]⟩) hd (fun _ _ h=>h) (Keep.of_ext hE) h1 (fun b hb=>.inl hb) hx (fun id h=>.inl h)
theorem Rel0.drew{w0:Base}{σ:Nat→Option Value}{S:St}{a:Act}{w w':World}(R:Rel0 w0 σ S a w)(hE:Ext w w'):Rel0 w0 σ S a w':=by
 have h1:=R.hp.keep hE
 exact⟨R.df.keep (Keep.of_ext (O:=own σ S.h) hE) fun D=>R.hp.nodef,R.sz,R.ext.trans (Keep.of_ext (O:=own σ S.h) hE) fun i h=>(R.hp.new i h).imp id .inl,h1,fun t x ht=>(R.sl t x ht).keep (Keep.of_ext hE) (fun b hb=>.inl hb) fun _ _ h=>h,R.fr,R.le,R.gd,w0.jk _ _ _ _ _ R.gh (Keep.of_ext (O:=own σ S.h) hE) R.hp.new⟩
end Go.AV
end
