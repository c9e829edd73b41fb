/- Parts of the proof: AOps, AMem, AMem2. -/
import Derived.Test.YtpefnljgalpllaaG04
set_option linter.unusedSimpArgs false
set_option linter.unusedVariables false
set_option maxHeartbeats 0
section
namespace Go.AV
open Go Go.RowKit Go.Flow
section
variable{P:Program}

inductive TK where
 |one
 |st (parts:List (Nat×Nat))
 |arr (n:Nat) (e:TypeId)
 |sl (e:TypeId)
structure TD where
 k:TK
 size:Nat
 bytes:Nat
 zero:List Value
def aggDesc:TypeDesc→Bool
 | .struct _| .array _ _=>true
 |_=>false
def vEq:Value→Value→Bool
 | .int k n,.int k' n'=>decide (k=k') && decide (n=n')
 | .bool a,.bool b=>a==b
 | .string s,.string t=>decide (s.data.toList=t.data.toList)
 | .slice none 0 0,.slice none 0 0=>true
 | .pointer none,.pointer none=>true
 | .map none,.map none=>true
 | .nilFunc,.nilFunc=>true
 | .nilIface,.nilIface=>true
 |_,_=>false
theorem vEq_eq{a b:Value}(h:vEq a b=true):a=b:=by
 unfold vEq at h
 split at h<;>first|rfl|cases h|skip
 ·simp only[Bool.and_eq_true,decide_eq_true_eq]at h;rw[h.1,h.2]
 ·rw[eq_of_beq h]
 ·have:=of_decide_eq_true h
  congr 1
  exact ByteArray.ext (Array.ext' this)
def vsEq:List Value→List Value→Bool
 | [],[]=>true
 |a::l,b::m=>vEq a b && vsEq l m
 |_,_=>false
theorem vsEq_eq:∀{l m:List Value},vsEq l m=true→l=m
 | [],[],_=>rfl
 | a::l,b::m,h=>by
   unfold vsEq at h
   rw[Bool.and_eq_true]at h
   rw[vEq_eq h.1,vsEq_eq h.2]
 | [],_::_,h=>by cases h
 |_::_,[],h=>by cases h
def sizeIs(P:Program)(t:TypeId):Nat:=match P.info? t with|some i=>i.size|none=>0
def partsOf(P:Program)(fs:Array Field):List (Nat×Nat):=fs.toList.map fun f=>(f.offset,sizeIs P f.type)
def tyOkB(P:Program)(t:TypeId)(d:TD):Bool:=
 match P.info? t,P.underlying t with
 |some i,some u=>Nat.beq i.size d.size && Nat.beq i.bytes d.bytes && (match i.zero with|some z=>vsEq z.cells.toList d.zero|none=>false) && Nat.beq d.zero.length d.size &&
    (match d.k,u with
     | .one,u=> !aggDesc u
     | .st parts,.struct fs=>decide (partsOf P fs=parts)
     | .arr n e,.array n' e'=>decide (n=n') && decide (e=e')
     | .sl e,.slice e'=>decide (e=e')
     |_,_=>false)
 |_,_=>false
def tabOk(P:Program):List (TypeId×TD)→Bool
 | []=>true
 |p::r=>tyOkB P p.1 p.2 && tabOk P r
theorem tabOk_at:∀{tab:List (TypeId×TD)},tabOk P tab=true→∀p∈tab,tyOkB P p.1 p.2=true
 | q::r,h,p,hp=>by
   unfold tabOk at h
   rw[Bool.and_eq_true]at h
   rcases List.mem_cons.1 hp with rfl|hp
   ·exact h.1
   ·exact tabOk_at h.2 p hp
theorem ty_info{tab:List (TypeId×TD)}(h:tabOk P tab=true){t:TypeId}{d:TD}(ht:assoc tab t=some d):
 ∃ i z u,P.info? t=some i∧i.size=d.size∧i.bytes=d.bytes∧i.zero=some z∧z.cells=d.zero.toArray∧d.zero.length=d.size∧P.underlying t=some u∧
   (match d.k,u with
    | .one,u=> !aggDesc u
    | .st parts,.struct fs=>decide (partsOf P fs=parts)
    | .arr n e,.array n' e'=>decide (n=n') && decide (e=e')
    | .sl e,.slice e'=>decide (e=e')
    |_,_=>false)=true:=by
 have:=tabOk_at h _ (assoc_mem ht)
 unfold tyOkB at this
 cases hi:P.info? t with
 |none=>simp[hi]at this
 | some i=>
   cases hu:P.underlying t with
   |none=>simp[hi,hu]at this
   | some u=>
     simp only[hi,hu,Bool.and_eq_true]at this
     obtain⟨⟨⟨⟨h1,h2⟩,h3⟩,h4⟩,h5⟩:=this
     cases hz:i.zero with
     |none=>simp[hz]at h3
     | some z=>
       rw[hz]at h3
       exact⟨i,z,u,rfl,Nat.eq_of_beq_eq_true h1,Nat.eq_of_beq_eq_true h2,hz,Array.ext' (by simpa using vsEq_eq h3),Nat.eq_of_beq_eq_true h4,rfl,h5⟩
theorem ty_one{tab:List (TypeId×TD)}(h:tabOk P tab=true){t:TypeId}{d:TD}(ht:assoc tab t=some d)(hk:d.k=.one):∃u,P.underlying t=some u∧aggDesc u=false:=by
 obtain⟨i,z,u,-,-,-,-,-,-,h6,h7⟩:=ty_info h ht
 rw[hk]at h7
 exact⟨u,h6,by simpa using h7⟩
theorem ty_st{tab:List (TypeId×TD)}(h:tabOk P tab=true){t:TypeId}{d:TD}{parts:List (Nat×Nat)}(ht:assoc tab t=some d)(hk:d.k=.st parts):∃fs,P.underlying t=some (.struct fs)∧partsOf P fs=parts:=by
 obtain⟨i,z,u,-,-,-,-,-,-,h6,h7⟩:=ty_info h ht
 rw[hk]at h7
 cases u<;>first|cases h7|exact⟨_,h6,of_decide_eq_true h7⟩
theorem ty_arr{tab:List (TypeId×TD)}(h:tabOk P tab=true){t:TypeId}{d:TD}{n:Nat}{e:TypeId}(ht:assoc tab t=some d)(hk:d.k=.arr n e):P.underlying t=some (.array n e):=by
 obtain⟨i,z,u,-,-,-,-,-,-,h6,h7⟩:=ty_info h ht
 rw[hk]at h7
 cases u<;>first|cases h7|skip
 simp only[Bool.and_eq_true,decide_eq_true_eq]at h7
 rw[h6,h7.1,h7.2]
theorem ty_sl{tab:List (TypeId×TD)}(h:tabOk P tab=true){t:TypeId}{d:TD}{e:TypeId}(ht:assoc tab t=some d)(hk:d.k=.sl e):P.underlying t=some (.slice e):=by
 obtain⟨i,z,u,-,-,-,-,-,-,h6,h7⟩:=ty_info h ht
 rw[hk]at h7
 cases u<;>first|cases h7|skip
 rw[h6,of_decide_eq_true h7]

def St.wants(S:St)(ops:Array Oper)(o:Oper):Option Bool:=
 match o.guard with
 |none=>some true
 | some (j,want)=>match dstOf ops j with
   |none=>none
   | some t=>match S.t t with
     |some (.c (.p (.bool b)))=>some (b==want)
     |some (.tu [])=>some false
     |_=>none
theorem wants_rep{b0:Base}{σ:Nat→Option Value}{S:St}{a:Act}{w:World}{ops:Array Oper}{o:Oper}{b:Bool}(R:Rel0 b0 σ S a w)(h:S.wants ops o=some b):Region.wanted o (yielded ops a.tmps)=b:=by
 unfold St.wants at h
 unfold Region.wanted
 cases hg:o.guard with
 |none=>rw[hg]at h;exact Option.some.inj h
 | some p =>
   obtain⟨j,want⟩:=p
   rw[hg]at h
   simp only at h⊢
   unfold yielded
   have hd:(ops[j]?).bind (·.dst)=dstOf ops j:=rfl
   rw[hd]
   cases hj:dstOf ops j with
   |none=>rw[hj]at h;cases h
   | some t=>
     rw[hj]at h
     simp only[Option.bind_some]at h⊢
     cases ht:S.t t with
     |none=>rw[ht]at h;cases h
     | some x=>
       rw[ht]at h
       have hx:=R.sl t x ht
       simp only[Array.getD_eq_getD_getElem?]at hx
       split at h
       ·rename_i b' e
        cases e
        have hv:=hx.2
        cases hc:a.tmps[t]? with
        |none=>rw[hc]at hv;cases hv
        | some v=>
          rw[hc]at hv
          obtain rfl:v=.bool b':=hv
          rw[←Option.some.inj h]
          cases b'<;>cases want<;>rfl
       ·rename_i e
        cases e
        obtain⟨vs,e1,e2⟩:=hx
        have:vs= []:=by cases vs<;>first|rfl|exact e2.elim
        subst this
        rw[←Option.some.inj h]
        cases hc:a.tmps[t]? with
        |none=>rfl
        | some v=>
          rw[hc]at e1
          obtain rfl:v=.tuple #[]:=e1
          rfl
       ·cases h

structure Agree(ops:Array Oper)(o:Oper)(S S1:St):Prop where
 n:S1.n=S.n
 G:S1.G=S.G
 op:∀x∈o.op.operands.toList,S1.opd x=S.opd x
 gd:S1.wants ops o=S.wants ops o
theorem agree_of{ops:Array Oper}{o:Oper}{S S1:St}(hn':S1.n=S.n∧S1.G=S.G)(h:∀t∈o.looksAt ops,S1.t t=S.t t):Agree ops o S S1:=by
 refine⟨hn'.1,hn'.2,fun x hx=> ?_,?_⟩
 ·cases x with
  |tmp t=>exact h t (List.mem_append_left _ (List.mem_filterMap.2 ⟨.tmp t,hx,rfl⟩))
  |_=>rfl
 ·unfold St.wants
  cases hg:o.guard with
  |none=>rfl
  | some p=>
    obtain⟨j,want⟩:=p
    simp only
    cases hj:dstOf ops j with
    |none=>rfl
    | some t=>
      simp only
      rw[h t (List.mem_append_right _ (by rw[hg];simp only;rw[show(ops[j]?).bind (·.dst)=some t from hj];simp))]

theorem LStep.of{ops:Array Oper}{o:Oper}{rd:List Nat}{e:Eff}{S:St}(hw:S.wants ops o=some true)
 (h:∀S1,Agree ops o S S1→(∀id∈rd,S1.h id=S.h id)→(∀id∈e.al,S1.fr id=S.fr id)→∀b0 σ a w,Rel0 b0 σ S1 a w→Goes P (fun u w'=>Rel b0 (S1.eff o.dst e) (a.put o.dst u) w') ((execOp a.eval o).run P w)):LStep P ops o rd e S:=
 fun S1 hn ht hr hf b0 a w ⟨σ,R⟩=>.inl ⟨wants_rep R ((agree_of hn ht).gd.trans hw),.inl<|h S1 (agree_of hn ht) hr hf b0 σ a w R⟩
theorem AList.ext{ops:Array Oper}{o:Oper}{rest:List Oper}{acc:List (List Nat×List Nat)}{S:St}{Q:List (List Nat×List Nat)→St→Prop}(rd:List Nat)(x:AV)(hw:S.wants ops o=some true)(hd:dOk S.n o.dst=true)
 (h:∀S1,(∀y∈o.op.operands.toList,S1.opd y=S.opd y)→(∀id∈rd,S1.h id=S.h id)→∀b0 σ a w,Rel0 b0 σ S1 a w→Goes P (fun u w'=>RepA σ (out b0 σ S1.h) w' x u∧Ext w w') ((execOp a.eval o).run P w))
 (hk:AList P ops rest ((rd++ [],[])::acc) (S.eff o.dst ⟨x,[],[]⟩) Q):AList P ops (o::rest) acc S Q:=
 AList.cons rd ⟨x,[],[]⟩ (LStep.of hw fun S1 hA hr _ b0 σ a w R=>(h S1 hA.op hr b0 σ a w R).mono fun u w' ⟨h1,h2⟩=>⟨σ,R.val (by rw[hA.n];exact hd) h2 fun _=>h1⟩) hk
theorem AList.val{ops:Array Oper}{o:Oper}{rest:List Oper}{acc:List (List Nat×List Nat)}{S:St}{Q:List (List Nat×List Nat)→St→Prop}(rd:List Nat)(x:AV)(hw:S.wants ops o=some true)(hd:dOk S.n o.dst=true)
 (h:∀S1,(∀y∈o.op.operands.toList,S1.opd y=S.opd y)→(∀id∈rd,S1.h id=S.h id)→∀b0 σ a w,Rel0 b0 σ S1 a w→∃u,(execOp a.eval o).run P w=.ok (.value u) w∧RepA σ (out b0 σ S1.h) w x u)
 (hk:AList P ops rest ((rd++ [],[])::acc) (S.eff o.dst ⟨x,[],[]⟩) Q):AList P ops (o::rest) acc S Q:=
 AList.ext rd x hw hd (fun S1 h1 h2 b0 σ a w R=>by obtain⟨u,e1,e2⟩:=h S1 h1 h2 b0 σ a w R;rw[e1];exact⟨e2,Ext.refl w⟩) hk
theorem AList.skip{ops:Array Oper}{o:Oper}{rest:List Oper}{acc:List (List Nat×List Nat)}{S:St}{Q:List (List Nat×List Nat)→St→Prop}(hw:S.wants ops o=some false)(hd:dOk S.n o.dst=true)
 (hk:AList P ops rest (([],[])::acc) (S.eff o.dst ⟨.tu [],[],[]⟩) Q):AList P ops (o::rest) acc S Q:=
 AList.cons [] ⟨.tu [],[],[]⟩ (fun S1 hn ht _ _ b0 a w ⟨σ,R⟩=>.inr ⟨wants_rep R ((agree_of hn ht).gd.trans hw),σ,R.val (by rw[hn.1];exact hd) (Ext.refl w) fun _=>⟨[],rfl,trivial⟩⟩) hk

section ops
variable{ops:Array Oper}{rest:List Oper}{acc:List (List Nat×List Nat)}{S:St}{Q:List (List Nat×List Nat)→St→Prop}{dst:Option Tmp}{ty:TypeId}{pos:String}{after:Array Edge}{guard:Option (Nat×Bool)}
theorem AList.move{x:Operand}{y:AV}(hw:S.wants ops {dst,op:=.move x,type:=ty,pos,after,guard}=some true)(hd:dOk S.n dst=true)(hx:S.opd x=some y)
 (hk:AList P ops rest (([],[])::acc) (S.eff dst ⟨y,[],[]⟩) Q):AList P ops ({dst,op:=.move x,type:=ty,pos,after,guard}::rest) acc S Q:=
 AList.val [] y hw hd (fun S1 h1 _ b0 σ a w R=>⟨a.eval x,rfl,opd_rep R ((h1 x (by simp[Op.operands])).trans hx)⟩) hk
theorem AList.assign{x:Operand}{y:AV}(hw:S.wants ops {dst,op:=.assign x,type:=ty,pos,after,guard}=some true)(hd:dOk S.n dst=true)(hx:S.opd x=some y)
 (hk:AList P ops rest (([],[])::acc) (S.eff dst ⟨y,[],[]⟩) Q):AList P ops ({dst,op:=.assign x,type:=ty,pos,after,guard}::rest) acc S Q:=
 AList.val [] y hw hd (fun S1 h1 _ b0 σ a w R=>⟨a.eval x,rfl,opd_rep R ((h1 x (by simp[Op.operands])).trans hx)⟩) hk
theorem rep_int{σ:Nat→Option Value}{O:Nat→Prop}{w:World}{v u:Value}(h:RepA σ O w (.c (.p v)) u):u=v:=h.2
theorem rep_p{σ:Nat→Option Value}{O:Nat→Prop}{w:World}{v:Value}(h:v.oneCell'=true):RepA σ O w (.c (.p v)) v:=⟨h,rfl⟩
theorem AList.pick{c x y:Operand}{b:Bool}{p q:AV}(hw:S.wants ops {dst,op:=.pick c x y,type:=ty,pos,after,guard}=some true)(hd:dOk S.n dst=true)(hc:S.opd c=some (.c (.p (.bool b))))(hx:S.opd x=some p)(hy:S.opd y=some q)
 (hk:AList P ops rest (([],[])::acc) (S.eff dst ⟨bif b then p else q,[],[]⟩) Q):AList P ops ({dst,op:=.pick c x y,type:=ty,pos,after,guard}::rest) acc S Q:=
 AList.val [] _ hw hd (fun S1 h1 _ b0 σ a w R=>by
  have e1:=rep_int (opd_rep R ((h1 c (by simp[Op.operands])).trans hc))
  refine⟨if b then a.eval x else a.eval y,?_,?_⟩
  ·cases b<;>simp[execOp,e1,asBool]
  ·cases b
   ·exact opd_rep R ((h1 y (by simp[Op.operands])).trans hy)
   ·exact opd_rep R ((h1 x (by simp[Op.operands])).trans hx)) hk
theorem AList.pickT{c x y:Operand}{p:AV}(hw:S.wants ops {dst,op:=.pick c x y,type:=ty,pos,after,guard}=some true)(hd:dOk S.n dst=true)(hc:S.opd c=some (.c (.p (.bool true))))(hx:S.opd x=some p)
 (hk:AList P ops rest (([],[])::acc) (S.eff dst ⟨p,[],[]⟩) Q):AList P ops ({dst,op:=.pick c x y,type:=ty,pos,after,guard}::rest) acc S Q:=
 AList.val [] _ hw hd (fun S1 h1 _ b0 σ a w R=>by
  have e1:=rep_int (opd_rep R ((h1 c (by simp[Op.operands])).trans hc))
  exact⟨a.eval x,by simp[execOp,e1,asBool],opd_rep R ((h1 x (by simp[Op.operands])).trans hx)⟩) hk
theorem AList.pickF{c x y:Operand}{p:AV}(hw:S.wants ops {dst,op:=.pick c x y,type:=ty,pos,after,guard}=some true)(hd:dOk S.n dst=true)(hc:S.opd c=some (.c (.p (.bool false))))(hx:S.opd y=some p)
 (hk:AList P ops rest (([],[])::acc) (S.eff dst ⟨p,[],[]⟩) Q):AList P ops ({dst,op:=.pick c x y,type:=ty,pos,after,guard}::rest) acc S Q:=
 AList.val [] _ hw hd (fun S1 h1 _ b0 σ a w R=>by
  have e1:=rep_int (opd_rep R ((h1 c (by simp[Op.operands])).trans hc))
  exact⟨a.eval y,by simp[execOp,e1,asBool],opd_rep R ((h1 y (by simp[Op.operands])).trans hx)⟩) hk
theorem AList.extract{x:Operand}{i:Nat}{l:List V1}{y:V1}(hw:S.wants ops {dst,op:=.extract x i,type:=ty,pos,after,guard}=some true)(hd:dOk S.n dst=true)(hx:S.opd x=some (.tu l))(hi:l[i]?=some y)
 (hk:AList P ops rest (([],[])::acc) (S.eff dst ⟨y.av,[],[]⟩) Q):AList P ops ({dst,op:=.extract x i,type:=ty,pos,after,guard}::rest) acc S Q:=
 AList.val [] _ hw hd (fun S1 h1 _ b0 σ a w R=>by
  obtain⟨vs,e1,e2⟩:=opd_rep R ((h1 x (by simp[Op.operands])).trans hx)
  obtain⟨v,e3,e4⟩:=e2.get hi
  exact⟨v,by simp[execOp,e1,Instr.extract,e3],e4.av⟩) hk
theorem AList.bin{x y:Operand}{u v r:Value}{op:BinOp}{xt yt:TypeId}(hw:S.wants ops {dst,op:=.binOp op xt x y yt,type:=ty,pos,after,guard}=some true)(hd:dOk S.n dst=true)(hx:S.opd x=some (.c (.p u)))(hy:S.opd y=some (.c (.p v)))
 (hg:(match u with| .nilIface| .agg _=>false|_=>true)=true) (hr:∀w,(Go.binOp op xt u v).run P w=.ok r w) (h1:r.oneCell'=true)
 (hk:AList P ops rest (([],[])::acc) (S.eff dst ⟨.c (.p r),[],[]⟩) Q):AList P ops ({dst,op:=.binOp op xt x y yt,type:=ty,pos,after,guard}::rest) acc S Q:=
 AList.val [] _ hw hd (fun S1 g1 _ b0 σ a w R=>by
  have e1:=rep_int (opd_rep R ((g1 x (by simp[Op.operands])).trans hx))
  have e2:=rep_int (opd_rep R ((g1 y (by simp[Op.operands])).trans hy))
  refine⟨r,?_,rep_p h1⟩
  have hgd:(eqGuard op xt x y u v).run P w=.ok () w:=by
   unfold eqGuard
   cases op<;>first|rfl|(cases u<;>first|rfl|cases hg)
  simp only[execOp,e1,e2,Sem.run_bind,hgd,hr,Result.andThen_ok,Sem.run_pure]) hk
theorem AList.un{x:Operand}{u r:Value}{op:UnOp}{xt:TypeId}(hw:S.wants ops {dst,op:=.unOp op xt x,type:=ty,pos,after,guard}=some true)(hd:dOk S.n dst=true)(hx:S.opd x=some (.c (.p u)))
 (hr:∀w,(Op.unary op u).run P w=.ok r w) (h1:r.oneCell'=true)
 (hk:AList P ops rest (([],[])::acc) (S.eff dst ⟨.c (.p r),[],[]⟩) Q):AList P ops ({dst,op:=.unOp op xt x,type:=ty,pos,after,guard}::rest) acc S Q:=
 AList.val [] _ hw hd (fun S1 g1 _ b0 σ a w R=>by
  have e1:=rep_int (opd_rep R ((g1 x (by simp[Op.operands])).trans hx))
  exact⟨r,by simp only[execOp,e1,Sem.run_bind,hr,Result.andThen_ok,Sem.run_pure],rep_p h1⟩) hk
end ops
end
section
variable{P:Program}{tab:List (TypeId×TD)}
theorem add_off(b o j:Nat):(⟨b,o,none⟩:Addr).add j=⟨b,o+j,none⟩:=by unfold Addr.add;split<;>simp_all
theorem add_two(a:Addr)(m n:Nat):(a.add m).add n=a.add (m+n):=by
 unfold Addr.add
 split<;>split<;>split<;>first|rfl|omega|(simp_all;done)|(simp;omega)
def isOne:TK→Bool
 | .one| .sl _=>true
 |_=>false
def isAg:TK→Bool
 | .st _| .arr _ _=>true
 |_=>false
theorem ty_na(h:tabOk P tab=true){t:TypeId}{d:TD}(ht:assoc tab t=some d)(hk:isOne d.k=true):∃u,P.underlying t=some u∧aggDesc u=false:=by
 cases hd:d.k with
 |one=>exact ty_one h ht hd
 |sl e=>exact⟨_,ty_sl h ht hd,rfl⟩
 |_=>rw[hd]at hk;cases hk
theorem ty_ag(h:tabOk P tab=true){t:TypeId}{d:TD}(ht:assoc tab t=some d)(hk:isAg d.k=true):∃u,P.underlying t=some u∧aggDesc u=true:=by
 cases hd:d.k with
 |st p=>obtain⟨fs,e,_⟩:=ty_st h ht hd;exact⟨_,e,rfl⟩
 |arr n e=>exact⟨_,ty_arr h ht hd,rfl⟩
 |_=>rw[hd]at hk;cases hk
theorem run_one{t:TypeId}{u:TypeDesc}(hu:P.underlying t=some u)(ha:aggDesc u=false){w:World}{a:Addr}{v:Value}(hc:w.cell? a=some v):(loadVar t a).run P w=.ok v w:=by
 cases u<;>first|(simp[loadVar,isAgg,run_underlying hu,hc];done)|cases ha
theorem run_agg{t:TypeId}{u:TypeDesc}(hu:P.underlying t=some u)(ha:aggDesc u=true){i:TypeInfo}(hi:P.info? t=some i){w:World}{a:Addr}{f:Nat→Value}(hc:∀j,j<i.size→w.cell? (a.add j)=some (f j)):
 (loadVar t a).run P w=.ok (.agg ((List.range i.size).map f).toArray) w:=by
 have hl:=run_loadCells (P:=P) w a i.size f hc
 cases u<;>first|(simp[loadVar,isAgg,run_underlying hu,sizeOf,typeInfo,hi,hl];done)|cases ha
theorem run_field{t:TypeId}{fs:Array Field}(hu:P.underlying t=some (.struct fs)){f off size:Nat}(hp:(partsOf P fs)[f]?=some (off,size))(hs:size≠0)(w:World)(a:Addr):
 (Instr.fieldAt t (.pointer (some a)) f).run P w=.ok (.pointer (some (a.add off))) w:=by
 obtain⟨fd,e1,e2,e3⟩:∃fd,fs[f]?=some fd∧fd.offset=off∧sizeIs P fd.type=size:=by
  unfold partsOf at hp
  rw[List.getElem?_map,Option.map_eq_some_iff]at hp
  obtain⟨fd,h1,h2⟩:=hp
  exact⟨fd,by simpa using h1,(Prod.ext_iff.1 h2).1,(Prod.ext_iff.1 h2).2⟩
 cases hi:P.info? fd.type with
 |none=>simp[sizeIs,hi]at e3;omega
 | some i=>
   have hsz:i.size≠0:=by simp[sizeIs,hi]at e3;omega
   simp[Instr.fieldAt,run_underlying hu,e1,Instr.sureAddr,fieldPlace,sizeOf,typeInfo,hi,hsz,e2]

def cellsFrom(F:Nat→CV)(j:Nat):Nat→List CV
 |0=> []
 |m+1=>F j::cellsFrom F (j+1) m
theorem cellsFrom_get(F:Nat→CV):∀(m j i:Nat),i<m→(cellsFrom F j m)[i]?=some (F (j+i))
 |m+1,j,0,_=>rfl
 | m+1,j,i+1,h=>by
   rw[cellsFrom,List.getElem?_cons_succ,cellsFrom_get F m (j+1) i (by omega)]
   congr 2
   omega
theorem cellsFrom_length(F:Nat→CV):∀(m j:Nat),(cellsFrom F j m).length=m
 |0,_=>rfl
 |m+1,j=>by simp[cellsFrom,cellsFrom_length F m]
theorem rep_cells{R:CV→Value→Prop}{F:Nat→CV}{j m:Nat}{f:Nat→Value}(h:∀i,i<m→R (F (j+i)) (f i)):RepL R (cellsFrom F j m) ((List.range m).map f):=
 RepL.of_get (by simp[cellsFrom_length]) fun i x v h1 h2=>by
  have hi:i<m:=by have:=(List.getElem?_eq_some_iff.1 h1).1;rwa [cellsFrom_length]at this
  rw[cellsFrom_get F m j i hi]at h1
  cases h1
  rw[List.getElem?_map,List.getElem?_range hi]at h2
  cases h2
  exact h i hi

theorem at_pt{b0:Base}{σ:Nat→Option Value}{S:St}{a:Act}{w:World}(R:Rel0 b0 σ S a w){id sz k j:Nat}{B:AB}{u:Value}(hu:RepA σ (out b0 σ S.h) w (.c (.pt id sz k j)) u)(hh:S.h id=some B)(hs:B.sz=sz)(hk:k<B.n):
 ∃ b cap cs,OBase B ((σ id).getD undef) b cap∧u=.pointer (some ⟨b,k*sz+j,none⟩)∧σ id=some ((σ id).getD undef)∧w.heap[b]?=some (.cells cs B.ty (0,0))∧cs.size=cap*B.sz∧k*B.sz+B.sz≤cs.size∧
   ∀k,k<B.n→∀j,j<B.sz→∃u,cs[k*B.sz+j]?=some u∧RepC σ (out b0 σ S.h) w (B.F k j) u:=by
 obtain⟨-,v,b,e1,e2,e3⟩:=hu
 obtain⟨v',g1,g2⟩:=R.hp.blk id B hh
 rw[e1]at g1
 cases g1
 obtain⟨b',cap,cs,h1,h2,h3,h4⟩:=g2.ofC e2
 have e2':=baseC_up e2
 rw[h1.blk]at e2'
 cases e2'
 refine⟨b,cap,cs,by rw[e1];exact h1,e3,by rw[e1];rfl,h2,h3,?_,h4⟩
 rw[h3,←Nat.succ_mul]
 exact Nat.mul_le_mul_right _ (by have:=h1.le;omega)

section ops
variable{ops:Array Oper}{rest:List Oper}{acc:List (List Nat×List Nat)}{S:St}{Q:List (List Nat×List Nat)→St→Prop}{dst:Option Tmp}{ty:TypeId}{pos:String}{after:Array Edge}{guard:Option (Nat×Bool)}
theorem AList.fieldPt(T:tabOk P tab=true){s:TypeId}{x:Operand}{f id sz k j off size:Nat}{d:TD}{parts:List (Nat×Nat)}(hw:S.wants ops {dst,op:=.fieldAddr s x f,type:=ty,pos,after,guard}=some true)(hd:dOk S.n dst=true)
 (hx:S.opd x=some (.c (.pt id sz k j))) (ht:assoc tab s=some d) (hk:d.k=.st parts) (hp:parts[f]?=some (off,size)) (hs:Nat.beq size 0=false)
 (hn:AList P ops rest (([],[])::acc) (S.eff dst ⟨.c (.pt id sz k (j+off)),[],[]⟩) Q):AList P ops ({dst,op:=.fieldAddr s x f,type:=ty,pos,after,guard}::rest) acc S Q:=
 AList.val [] _ hw hd (fun S1 h1 _ b0 σ a w R=>by
  obtain⟨-,v,b,e1,e2,e3⟩:=opd_rep R ((h1 x (by simp[Op.operands])).trans hx)
  obtain⟨fs,g1,g2⟩:=ty_st T ht hk
  refine⟨.pointer (some ⟨b,k*sz+(j+off),none⟩),?_,rfl,v,b,e1,e2,rfl⟩
  have:=run_field (P:=P) g1 (f:=f) (off:=off) (size:=size) (by rw[g2];exact hp) (fun h=>by rw[h]at hs;cases hs) w ⟨b,k*sz+j,none⟩
  rw[add_off,Nat.add_assoc]at this
  simp only[execOp,e3,this,Sem.run_bind,Result.andThen_ok,Sem.run_pure]) hn
theorem AList.fieldPl(T:tabOk P tab=true){s:TypeId}{x:Operand}{f n sz k j off size:Nat}{F:Nat→Nat→CV}{d:TD}{parts:List (Nat×Nat)}(hw:S.wants ops {dst,op:=.fieldAddr s x f,type:=ty,pos,after,guard}=some true)(hd:dOk S.n dst=true)
 (hx:S.opd x=some (.c (.pl n sz F k j))) (ht:assoc tab s=some d) (hk:d.k=.st parts) (hp:parts[f]?=some (off,size)) (hs:Nat.beq size 0=false)
 (hn:AList P ops rest (([],[])::acc) (S.eff dst ⟨.c (.pl n sz F k (j+off)),[],[]⟩) Q):AList P ops ({dst,op:=.fieldAddr s x f,type:=ty,pos,after,guard}::rest) acc S Q:=
 AList.val [] _ hw hd (fun S1 h1 _ b0 σ a w R=>by
  obtain⟨-,ad,e1,e2⟩:=opd_rep R ((h1 x (by simp[Op.operands])).trans hx)
  obtain⟨fs,g1,g2⟩:=ty_st T ht hk
  refine⟨.pointer (some (ad.add (k*sz+(j+off)))),?_,rfl,ad,rfl,e2⟩
  have:=run_field (P:=P) g1 (f:=f) (off:=off) (size:=size) (by rw[g2];exact hp) (fun h=>by rw[h]at hs;cases hs) w (ad.add (k*sz+j))
  rw[add_two,Nat.add_assoc]at this
  simp only[execOp,e1,this,Sem.run_bind,Result.andThen_ok,Sem.run_pure]) hn
theorem AList.idx(T:tabOk P tab=true){t:TypeId}{x y:Operand}{n sz k:Nat}{F:Nat→Nat→CV}{d e:TD}{el:TypeId}{ki:IntKind}{i:Int}(hw:S.wants ops {dst,op:=.indexAddr t x y,type:=ty,pos,after,guard}=some true)(hd:dOk S.n dst=true)
 (hx:S.opd x=some (.c (.ls n sz F))) (hy:S.opd y=some (.c (.p (.int ki i)))) (ht:assoc tab t=some d) (hk:d.k=.sl el) (he:assoc tab el=some e) (hs:e.size=sz) (hi:i=(k:Int)) (hlt:k<n) (hz:0<sz)
 (hn:AList P ops rest (([],[])::acc) (S.eff dst ⟨.c (.pl n sz F k 0),[],[]⟩) Q):AList P ops ({dst,op:=.indexAddr t x y,type:=ty,pos,after,guard}::rest) acc S Q:=
 AList.val [] _ hw hd (fun S1 h1 _ b0 σ a w R=>by
  obtain⟨-,A,cap,e1,e0,e2⟩:=opd_rep R ((h1 x (by simp[Op.operands])).trans hx)
  have e3:=rep_int (opd_rep R ((h1 y (by simp[Op.operands])).trans hy))
  have g1:=ty_sl T ht hk
  obtain⟨inf,z,u,i1,i2,i3,-⟩:=ty_info T he
  obtain⟨ad,v0,rfl,-⟩:=e2 k hlt 0 hz
  subst hi
  refine⟨.pointer (some (ad.add (k*sz+0))),?_,rfl,ad,rfl,hlt,fun k hk j hj=> ?_⟩
  ·have hlt':(k:Int)<n:=by omega
   simp only[execOp,e1,e3,Instr.indexAt,asIntOf,run_underlying g1,Sem.run_bind,Sem.run_pure,Result.andThen_ok]
   simp[sizeOf,typeInfo,i1,i2,hs,hlt']
  ·obtain⟨ad',v,h1,h2,h3,h4,h5⟩:=e2 k hk j hj
   cases h1
   exact⟨v,h2,h3,h4,h5⟩) hn
theorem AList.idxOw(T:tabOk P tab=true){t:TypeId}{x y:Operand}{id k:Nat}{B:AB}{d e:TD}{el:TypeId}{ki:IntKind}{i:Int}(hw:S.wants ops {dst,op:=.indexAddr t x y,type:=ty,pos,after,guard}=some true)(hd:dOk S.n dst=true)
 (hx:S.opd x=some (.c (.ow id))) (hh:S.h id=some B) (hy:S.opd y=some (.c (.p (.int ki i)))) (ht:assoc tab t=some d) (hk:d.k=.sl el) (he:assoc tab el=some e) (hs:e.size=B.sz) (hr:B.row=true) (hi:i=(k:Int)) (hlt:k<B.n)
 (hn:AList P ops rest (([id],[])::acc) (S.eff dst ⟨.c (.pt id B.sz k 0),[],[]⟩) Q):AList P ops ({dst,op:=.indexAddr t x y,type:=ty,pos,after,guard}::rest) acc S Q:=
 AList.val [id] _ hw hd (fun S1 h1 hr1 b0 σ a w R=>by
  obtain⟨-,e0,-⟩:=opd_rep R ((h1 x (by simp[Op.operands])).trans hx)
  have e3:=rep_int (opd_rep R ((h1 y (by simp[Op.operands])).trans hy))
  have g1:=ty_sl T ht hk
  obtain⟨inf,z,u,i1,i2,i3,-⟩:=ty_info T he
  obtain⟨v,f1,f2⟩:=R.hp.blk id B ((hr1 id (by simp)).trans hh)
  rw[e0]at f1
  cases f1
  rcases f2.row hr with ⟨_,_,h0⟩|⟨b,cap,cs,h1,h2,h3,h4⟩
  ·omega
  ·rcases h1 with ⟨_,h1,_⟩|⟨h1,_⟩
   ·refine⟨.pointer (some ⟨b,k*B.sz+0,none⟩),?_,rfl,_,b,e0,by rw[h1];rfl,rfl⟩
    subst hi
    have hlt':(k:Int)<B.n:=by omega
    simp only[execOp,h1,e3,Instr.indexAt,asIntOf,run_underlying g1,Sem.run_bind,Sem.run_pure,Result.andThen_ok]
    simp[sizeOf,typeInfo,i1,i2,hs,hlt',add_off]
   ·rw[hr]at h1;cases h1) hn
theorem AList.load1(T:tabOk P tab=true){t:TypeId}{x:Operand}{id sz k j:Nat}{B:AB}{d:TD}(hw:S.wants ops {dst,op:=.load t x,type:=ty,pos,after,guard}=some true)(hd:dOk S.n dst=true)
 (hx:S.opd x=some (.c (.pt id sz k j))) (hh:S.h id=some B) (hs:B.sz=sz) (ht:assoc tab t=some d) (hk:isOne d.k=true) (hkn:k<B.n) (hj:j<B.sz)
 (hn:AList P ops rest (([id],[])::acc) (S.eff dst ⟨.c (B.F k j),[],[]⟩) Q):AList P ops ({dst,op:=.load t x,type:=ty,pos,after,guard}::rest) acc S Q:=
 AList.val [id] _ hw hd (fun S1 h1 hr1 b0 σ a w R=>by
  obtain⟨b,cap,cs,-,e1,-,e2,-,-,e3⟩:=at_pt R (opd_rep R ((h1 x (by simp[Op.operands])).trans hx)) ((hr1 id (by simp)).trans hh) hs hkn
  obtain⟨u,f1,f2⟩:=e3 k hkn j hj
  obtain⟨ud,g1,g2⟩:=ty_na T ht hk
  subst hs
  refine⟨u,?_,f2⟩
  have hc:w.cell? ⟨b,k*B.sz+j,none⟩=some u:=(cell_of_row w b _ cs B.ty (0,0) e2).trans f1
  simp only[execOp,e1,Instr.loadAt,Instr.sureAddr,Sem.run_bind,Sem.run_pure,Result.andThen_ok,run_one g1 g2 hc]) hn
theorem AList.loadA(T:tabOk P tab=true){t:TypeId}{x:Operand}{id sz k j:Nat}{B:AB}{d:TD}(hw:S.wants ops {dst,op:=.load t x,type:=ty,pos,after,guard}=some true)(hd:dOk S.n dst=true)
 (hx:S.opd x=some (.c (.pt id sz k j))) (hh:S.h id=some B) (hs:B.sz=sz) (ht:assoc tab t=some d) (hk:isAg d.k=true) (hkn:k<B.n) (hj:j+d.size≤B.sz)
 (hn:AList P ops rest (([id],[])::acc) (S.eff dst ⟨.ag (cellsFrom (B.F k) j d.size),[],[]⟩) Q):AList P ops ({dst,op:=.load t x,type:=ty,pos,after,guard}::rest) acc S Q:=
 AList.val [id] _ hw hd (fun S1 h1 hr1 b0 σ a w R=>by
  obtain⟨b,cap,cs,-,e1,-,e2,-,-,e3⟩:=at_pt R (opd_rep R ((h1 x (by simp[Op.operands])).trans hx)) ((hr1 id (by simp)).trans hh) hs hkn
  obtain⟨ud,g1,g2⟩:=ty_ag T ht hk
  obtain⟨inf,z,u',i1,i2,i3,-⟩:=ty_info T ht
  subst hs
  have hcell:∀i,i<d.size→w.cell? (Addr.add ⟨b,k*B.sz+j,none⟩ i)=some (cs.getD (k*B.sz+(j+i)) undef)∧RepC σ (out b0 σ S1.h) w (B.F k (j+i)) (cs.getD (k*B.sz+(j+i)) undef):=fun i hi=>by
   obtain⟨u,f1,f2⟩:=e3 k hkn (j+i) (by omega)
   rw[add_off,Nat.add_assoc,Array.getD_eq_getD_getElem?,f1]
   exact⟨(cell_of_row w b _ cs B.ty (0,0) e2).trans f1,f2⟩
  refine⟨.agg ((List.range d.size).map fun i=>cs.getD (k*B.sz+(j+i)) undef).toArray,?_,_,rfl,rep_cells fun i hi=>(hcell i hi).2⟩
  have:=run_agg (P:=P) g1 g2 i1 (w:=w) (a:=⟨b,k*B.sz+j,none⟩) (f:=fun i=>cs.getD (k*B.sz+(j+i)) undef) (fun i hi=>(hcell i (by omega)).1)
  rw[i2]at this
  simp only[execOp,e1,Instr.loadAt,Instr.sureAddr,Sem.run_bind,Sem.run_pure,Result.andThen_ok,this]) hn
theorem AList.load1l(T:tabOk P tab=true){t:TypeId}{x:Operand}{n sz k j:Nat}{F:Nat→Nat→CV}{d:TD}(hw:S.wants ops {dst,op:=.load t x,type:=ty,pos,after,guard}=some true)(hd:dOk S.n dst=true)
 (hx:S.opd x=some (.c (.pl n sz F k j))) (ht:assoc tab t=some d) (hk:isOne d.k=true) (hj:j<sz)
 (hn:AList P ops rest (([],[])::acc) (S.eff dst ⟨.c (F k j),[],[]⟩) Q):AList P ops ({dst,op:=.load t x,type:=ty,pos,after,guard}::rest) acc S Q:=
 AList.val [] _ hw hd (fun S1 h1 _ b0 σ a w R=>by
  obtain⟨-,ad,e1,hkn,e3⟩:=opd_rep R ((h1 x (by simp[Op.operands])).trans hx)
  obtain⟨u,f1,f2,f3,f4⟩:=e3 k hkn j hj
  obtain⟨ud,g1,g2⟩:=ty_na T ht hk
  refine⟨u,?_,?_⟩
  ·simp only[execOp,e1,Instr.loadAt,Instr.sureAddr,Sem.run_bind,Sem.run_pure,Result.andThen_ok,run_one g1 g2 f2]
  ·show RepC _ _ _ (F k j) u
   cases hF:F k j<;>rw[hF]at f4<;>first|exact⟨f3,f4⟩|exact f4.elim) hn
theorem AList.loadAl(T:tabOk P tab=true){t:TypeId}{x:Operand}{n sz k j:Nat}{F:Nat→Nat→CV}{d:TD}(hw:S.wants ops {dst,op:=.load t x,type:=ty,pos,after,guard}=some true)(hd:dOk S.n dst=true)
 (hx:S.opd x=some (.c (.pl n sz F k j))) (ht:assoc tab t=some d) (hk:isAg d.k=true) (hj:j+d.size≤sz)
 (hn:AList P ops rest (([],[])::acc) (S.eff dst ⟨.ag (cellsFrom (F k) j d.size),[],[]⟩) Q):AList P ops ({dst,op:=.load t x,type:=ty,pos,after,guard}::rest) acc S Q:=
 AList.val [] _ hw hd (fun S1 h1 _ b0 σ a w R=>by
  obtain⟨-,ad,e1,hkn,e3⟩:=opd_rep R ((h1 x (by simp[Op.operands])).trans hx)
  obtain⟨ud,g1,g2⟩:=ty_ag T ht hk
  obtain⟨inf,z,u',i1,i2,i3,-⟩:=ty_info T ht
  have hcell:∀i,i<d.size→w.cell? ((ad.add (k*sz+j)).add i)=some ((w.cell? ((ad.add (k*sz+j)).add i)).getD undef)∧RepC σ (out b0 σ S1.h) w (F k (j+i)) ((w.cell? ((ad.add (k*sz+j)).add i)).getD undef):=fun i hi=>by
   obtain⟨u,f1,f2,f3,f4⟩:=e3 k hkn (j+i) (by omega)
   rw[add_two,Nat.add_assoc,f2]
   refine⟨rfl,?_⟩
   cases hF:F k (j+i)<;>rw[hF]at f4<;>first|exact⟨f3,f4⟩|exact f4.elim
  refine⟨.agg ((List.range d.size).map fun i=>(w.cell? ((ad.add (k*sz+j)).add i)).getD undef).toArray,?_,_,rfl,rep_cells fun i hi=>(hcell i hi).2⟩
  have:=run_agg (P:=P) g1 g2 i1 (w:=w) (a:=ad.add (k*sz+j)) (f:=fun i=>(w.cell? ((ad.add (k*sz+j)).add i)).getD undef) (fun i hi=>(hcell i (by omega)).1)
  rw[i2]at this
  simp only[execOp,e1,Instr.loadAt,Instr.sureAddr,Sem.run_bind,Sem.run_pure,Result.andThen_ok,this]) hn
theorem AList.len{x:Operand}{v:CV}{n:Nat}{rd:List Nat}{t1:TypeId}(hw:S.wants ops {dst,op:=.call {callee:=.builtin .len,args:= #[x],argTypes:= #[t1]},type:=ty,pos,after,guard}=some true)(hd:dOk S.n dst=true){el:TypeId}(hu:P.underlying t1=some (.slice el))
 (hx:S.opd x=some (.c v)) (hl:∀S1:St,(∀id∈rd,S1.h id=S.h id)→∀b0 σ a w,Rel0 b0 σ S1 a w→∀u,RepC σ (out b0 σ S1.h) w v u→∃A c,u=.slice A n c)
 (hn:AList P ops rest ((rd++ [],[])::acc) (S.eff dst ⟨.c (.p (.int .i64 n)),[],[]⟩) Q):AList P ops ({dst,op:=.call {callee:=.builtin .len,args:= #[x],argTypes:= #[t1]},type:=ty,pos,after,guard}::rest) acc S Q:=
 AList.val rd _ hw hd (fun S1 h1 hr1 b0 σ a w R=>by
  obtain⟨A,c,e⟩:=hl S1 hr1 b0 σ a w R _ (opd_rep R ((h1 x (by simp[Op.operands,Call.operands])).trans hx))
  refine⟨.int .i64 n,?_,rep_p rfl⟩
  simp[execOp,resolve,invoke,builtin,Builtin.len_,e,run_underlying hu,goInt]) hn
theorem AList.lenLs(T:tabOk P tab=true){x:Operand}{n sz:Nat}{F:Nat→Nat→CV}{t1:TypeId}{d:TD}{el:TypeId}(hw:S.wants ops {dst,op:=.call {callee:=.builtin .len,args:= #[x],argTypes:= #[t1]},type:=ty,pos,after,guard}=some true)(hd:dOk S.n dst=true)
 (hx:S.opd x=some (.c (.ls n sz F))) (ht:assoc tab t1=some d) (hk:d.k=.sl el)
 (hn:AList P ops rest (([],[])::acc) (S.eff dst ⟨.c (.p (.int .i64 n)),[],[]⟩) Q):AList P ops ({dst,op:=.call {callee:=.builtin .len,args:= #[x],argTypes:= #[t1]},type:=ty,pos,after,guard}::rest) acc S Q:=
 AList.len (rd:= []) hw hd (ty_sl T ht hk) hx (fun S1 _ b0 σ a w R u hu=>let ⟨A,c,e,_⟩:=hu.2;⟨A,c,e⟩) hn
theorem AList.lenNil(T:tabOk P tab=true){x:Operand}{t1:TypeId}{d:TD}{el:TypeId}(hw:S.wants ops {dst,op:=.call {callee:=.builtin .len,args:= #[x],argTypes:= #[t1]},type:=ty,pos,after,guard}=some true)(hd:dOk S.n dst=true)
 (hx:S.opd x=some (.c (.p (.slice none 0 0)))) (ht:assoc tab t1=some d) (hk:d.k=.sl el)
 (hn:AList P ops rest (([],[])::acc) (S.eff dst ⟨.c (.p (.int .i64 0)),[],[]⟩) Q):AList P ops ({dst,op:=.call {callee:=.builtin .len,args:= #[x],argTypes:= #[t1]},type:=ty,pos,after,guard}::rest) acc S Q:=
 AList.len (rd:= []) (n:=0) hw hd (ty_sl T ht hk) hx (fun S1 _ b0 σ a w R u hu=>⟨none,0,hu.2⟩) hn
theorem AList.lenOw(T:tabOk P tab=true){x:Operand}{id:Nat}{B:AB}{t1:TypeId}{d:TD}{el:TypeId}(hw:S.wants ops {dst,op:=.call {callee:=.builtin .len,args:= #[x],argTypes:= #[t1]},type:=ty,pos,after,guard}=some true)(hd:dOk S.n dst=true)
 (hx:S.opd x=some (.c (.ow id))) (hh:S.h id=some B) (hr:B.row=true) (ht:assoc tab t1=some d) (hk:d.k=.sl el)
 (hn:AList P ops rest (([id],[])::acc) (S.eff dst ⟨.c (.p (.int .i64 B.n)),[],[]⟩) Q):AList P ops ({dst,op:=.call {callee:=.builtin .len,args:= #[x],argTypes:= #[t1]},type:=ty,pos,after,guard}::rest) acc S Q:=
 AList.len (rd:= [id]) hw hd (ty_sl T ht hk) hx (fun S1 hr1 b0 σ a w R u hu=>by
  obtain⟨v,f1,f2⟩:=R.hp.blk id B ((hr1 id (by simp)).trans hh)
  have e0:=hu.2.1
  rw[e0]at f1
  cases f1
  rcases f2.row hr with ⟨_,h1,h0⟩|⟨b,cap,cs,h1,h2,h3,h4⟩
  ·exact⟨none,0,by rw[h1,h0]⟩
  ·rcases h1 with ⟨_,h1,_⟩|⟨h1,_⟩
   ·exact⟨_,_,h1⟩
   ·rw[hr]at h1;cases h1) hn
end ops
end
section
variable{P:Program}{tab:List (TypeId×TD)}
theorem own_lt{b0:Base}{σ:Nat→Option Value}{S:St}{a:Act}{w:World}(R:Rel0 b0 σ S a w){b:Nat}(hb:out b0 σ S.h b):b<w.heap.size:=by
 rcases hb with hb|hb
 ·exact R.hp.lt hb
 ·exact Nat.lt_of_lt_of_le (b0.lt b hb) R.ext.size
theorem look_one{id:Nat}{B:Option AB}{h:Nat→Option AB}:look [(id,B)] h=put h id B:=rfl
theorem Rel0.new{b0:Base}{σ:Nat→Option Value}{S:St}{a:Act}{w:World}{dst:Option Tmp}(R:Rel0 b0 σ S a w)(hd:dOk S.n dst=true){id:Nat}(hf:S.fr id=true){B:AB}{v:Value}{cap:Nat}{cs:Array Value}{x:CV}
 (hv:OBase B v w.heap.size cap) (hs:cs.size=cap*B.sz) (hc:∀k,k<B.n→∀j,j<B.sz→∃u,cs[k*B.sz+j]?=some u∧RepC σ (out b0 σ S.h) w (B.F k j) u)
 (hx:∀σ' O' w',σ' id=some v→RepC σ' O' w' x v):Rel b0 (S.eff dst ⟨.c x,[(id,some B)],[id]⟩) (a.put dst v) (w.alloc (.cells cs B.ty)):=by
 obtain⟨hno,hlow⟩:=R.fr id hf
 have hE:Ext w (w.alloc (.cells cs B.ty)):=(Ext.refl w).alloc _
 have hsub:∀i u,σ i=some u→put σ id (some v) i=some u:=fun i u h=>by
  rw[put_ne _ _ (fun e=>by rw[e,hno]at h;cases h)];exact h
 have hout:∀b,out b0 (put σ id (some v)) (put S.h id (some B)) b→out b0 σ S.h b∨w.heap.size≤b:=fun b hb=>by
  rcases hb with ⟨i,u,h1,h2,h3⟩|hb
  ·by_cases hi:i=id
   ·subst hi
    rw[put_same]at h2
    cases h2
    rw[hv.blk]at h3
    cases h3
    exact .inr (Nat.le_refl _)
   ·rw[put_ne _ _ hi]at h1 h2
    exact .inl (.inl ⟨i,u,h1,h2,h3⟩)
  ·exact .inl (.inr hb)
 obtain⟨H,_,hO⟩:=R.hp.put (id:=id) (B':=B) (v':=v) (σ':=put σ id (some v)) (h':=look [(id,some B)] S.h) (w':=w.alloc (.cells cs B.ty)) hsub (put_same _ _ _) (put_same _ _ _) (fun i hi=>.inr (put_ne _ _ hi)) (Keep.of_ext hE)
  (fun i u hi=>by
    have h1:=(b0.one i u hi).1
    rw[look_one,put_ne _ _ (by omega)]
    exact(R.hp.fx i u hi).2) (fun i hi=>put_ne _ _ (by omega))
  (fun i u b hi h1 h2 h3=>by
    have h1':S.h i≠none:=by rw[look_one,put_ne _ _ hi]at h1;exact h1
    exact Below.block hE b (R.hp.lt ⟨i,u,h1',h2,h3⟩))
  (.inr (.inl ⟨w.heap.size,cap,cs,hv,heap_alloc_new w _,hs,fun k hk j hj=>let ⟨u,e1,e2⟩:=hc k hk j hj;⟨u,e1,e2.keep (Keep.of_ext hE) hout hsub⟩⟩))
  (fun b hb=>by
    rw[hv.blk]at hb
    cases hb
    refine⟨.inl R.ext.size,.inr (Nat.le_refl _),fun i u hi h1 h2 h3=> ?_⟩
    have h1':S.h i≠none:=by rw[look_one,put_ne _ _ hi]at h1;exact h1
    have:=R.hp.lt ⟨i,u,h1',h2,h3⟩
    omega)
 exact⟨put σ id (some v),R.step (e:=⟨.c x,[(id,some B)],[id]⟩) hd hsub (Keep.of_ext hE) H hO (fun _=>hx _ _ _ (put_same _ _ _)) (fun i hi=>by
  by_cases e:i=id
  ·exact .inr (by simp[e])
  ·rw[put_ne _ _ e]at hi;exact .inl hi)⟩

section ops
variable{ops:Array Oper}{rest:List Oper}{acc:List (List Nat×List Nat)}{S:St}{Q:List (List Nat×List Nat)→St→Prop}{dst:Option Tmp}{ty:TypeId}{pos:String}{after:Array Edge}{guard:Option (Nat×Bool)}
theorem AList.new{o:Oper}{id:Nat}{B:AB}{x:CV}(rd:List Nat)(hw:S.wants ops o=some true)(hd:dOk S.n o.dst=true)(hf:S.fr id=true)
 (h:∀S1,(∀y∈o.op.operands.toList,S1.opd y=S.opd y)→(∀id∈rd,S1.h id=S.h id)→∀b0 σ a w,Rel0 b0 σ S1 a w→∃v cap cs,(execOp a.eval o).run P w=.ok (.value v) (w.alloc (.cells cs B.ty))∧OBase B v w.heap.size cap∧cs.size=cap*B.sz∧
   (∀k,k<B.n→∀j,j<B.sz→∃u,cs[k*B.sz+j]?=some u∧RepC σ (out b0 σ S1.h) w (B.F k j) u)∧∀σ' O' w',σ' id=some v→RepC σ' O' w' x v)
 (hk:AList P ops rest ((rd++ [id],[id]++ [id])::acc) (S.eff o.dst ⟨.c x,[(id,some B)],[id]⟩) Q):AList P ops (o::rest) acc S Q:=
 AList.cons rd ⟨.c x,[(id,some B)],[id]⟩ (LStep.of hw fun S1 hA hr hal b0 σ a w R=>by
  obtain⟨v,cap,cs,h1,h2,h3,h4,h5⟩:=h S1 hA.op hr b0 σ a w R
  rw[h1]
  exact R.new (by rw[hA.n];exact hd) ((hal id (by simp)).trans hf) h2 h3 h4 h5) hk
def zF(z:List Value)(_:Nat)(j:Nat):CV:=.p (z.getD j undef)
theorem rep_pt{σ:Nat→Option Value}{O:Nat→Prop}{w:World}{id sz b:Nat}(h:σ id=some (.pointer (some ⟨b,0,none⟩))):RepC σ O w (.pt id sz 0 0) (.pointer (some ⟨b,0,none⟩)):=
 ⟨rfl,_,b,h,rfl,by simp⟩
def vsOne(l:List Value):Bool:=l.all (·.oneCell')
theorem AList.alloc(T:tabOk P tab=true){id:Nat}{el:TypeId}{d:TD}(hw:S.wants ops {dst:=some id,op:=.alloc el,type:=ty,pos,after,guard}=some true)(hd:dOk S.n (some id)=true)(hf:S.fr id=true)(ht:assoc tab el=some d)(ho:vsOne d.zero=true)
 (hn:AList P ops rest (([id],[id,id])::acc) (S.eff (some id) ⟨.c (.pt id d.size 0 0),[(id,some ⟨false,1,d.size,el,zF d.zero⟩)],[id]⟩) Q):AList P ops ({dst:=some id,op:=.alloc el,type:=ty,pos,after,guard}::rest) acc S Q:=
 AList.new (B:=⟨false,1,d.size,el,zF d.zero⟩) [] hw hd hf (fun S1 h1 _ b0 σ a w R=>by
  obtain⟨inf,z,u,i1,i2,i3,i4,i5,i6,-⟩:=ty_info T ht
  refine⟨.pointer (some ⟨w.heap.size,0,none⟩),1,d.zero.toArray,?_,.inr ⟨rfl,rfl,rfl⟩,by simp[i6],fun k hk j hj=> ?_,fun σ' O' w' h=>rep_pt h⟩
  ·simp[execOp,Instr.alloc,zeroValue,typeInfo,i1,i4,newVar,newRow,i5]
  ·obtain rfl:k=0:=by simp at hk;omega
   have hj':j<d.zero.length:=by simp at hj;omega
   refine⟨d.zero[j],by simp[hj'],?_⟩
   have:=List.all_eq_true.1 ho d.zero[j] (List.getElem_mem hj')
   simp only[zF]
   rw[show d.zero.getD j undef=d.zero[j] by simp[List.getD,hj']]
   exact⟨this,rfl⟩) hn
def AV.cells:AV→Option (List CV)
 | .c x=>some [x]
 | .ag l=>some l
 | .tu _=>none
theorem cells_rep{σ:Nat→Option Value}{O:Nat→Prop}{w:World}{y:AV}{l:List CV}{u:Value}(h:y.cells=some l)(hu:RepA σ O w y u):u.cells.toList.length=l.length∧∀(j:Nat) (x:CV),l[j]?=some x→∃v,u.cells[j]?=some v∧RepC σ O w x v:=by
 cases y with
 | c x=>
   cases h
   have hc:u.cells= #[u]:=by cases u<;>first|rfl|(have:=hu.1;simp[Value.oneCell']at this)
   rw[hc]
   refine⟨rfl,fun j x' hx=> ?_⟩
   cases j with
   |zero=>cases hx;exact⟨u,rfl,hu⟩
   |succ j=>simp at hx
 | ag m=>
   cases h
   obtain⟨vs,rfl,hl⟩:=hu
   exact⟨by simp[Value.cells,hl.length],fun j x hx=>by obtain⟨v,e1,e2⟩:=hl.get hx;exact⟨v,by simpa[Value.cells]using e1,e2⟩⟩
 |tu m=>cases h
def lF(l:List CV)(_:Nat)(j:Nat):CV:=l.getD j .any
theorem AList.box{id:Nat}{el:TypeId}{x:Operand}{y:AV}{l:List CV}(hw:S.wants ops {dst:=some id,op:=.box el x,type:=ty,pos,after,guard}=some true)(hd:dOk S.n (some id)=true)(hf:S.fr id=true)(hx:S.opd x=some y)(hl:y.cells=some l)
 (hn:AList P ops rest (([id],[id,id])::acc) (S.eff (some id) ⟨.c (.pt id l.length 0 0),[(id,some ⟨false,1,l.length,el,lF l⟩)],[id]⟩) Q):AList P ops ({dst:=some id,op:=.box el x,type:=ty,pos,after,guard}::rest) acc S Q:=
 AList.new (B:=⟨false,1,l.length,el,lF l⟩) [] hw hd hf (fun S1 h1 _ b0 σ a w R=>by
  obtain⟨e1,e2⟩:=cells_rep hl (opd_rep R ((h1 x (by simp[Op.operands])).trans hx))
  refine⟨.pointer (some ⟨w.heap.size,0,none⟩),1,(a.eval x).cells,?_,.inr ⟨rfl,rfl,rfl⟩,by simpa using e1,fun k hk j hj=> ?_,fun σ' O' w' h=>rep_pt h⟩
  ·simp[execOp,Instr.box,newVar,newRow]
  ·obtain rfl:k=0:=by simp at hk;omega
   have hj':j<l.length:=hj
   obtain⟨v,f1,f2⟩:=e2 j l[j] (List.getElem?_eq_getElem hj')
   refine⟨v,by simpa using f1,?_⟩
   simp only[lF]
   rw[show l.getD j .any=l[j] by simp[List.getD,hj']]
   exact f2) hn
def setF(F:Nat→Nat→CV)(k j m:Nat)(l:List CV)(k' j':Nat):CV:=bif Nat.beq k' k && (Nat.ble j j' && Nat.blt j' (j+m))then l.getD (j'-j) .any else F k' j'
theorem AList.store(T:tabOk P tab=true){t:TypeId}{x v:Operand}{id sz k j:Nat}{B:AB}{d:TD}{y:AV}{l:List CV}(hw:S.wants ops {dst:=none,op:=.store t x v,type:=ty,pos,after,guard}=some true)
 (hx:S.opd x=some (.c (.pt id sz k j))) (hv:S.opd v=some y) (hl:y.cells=some l) (hh:S.h id=some B) (hs:B.sz=sz) (ht:assoc tab t=some d) (hz:l.length=d.size) (hkn:k<B.n) (hj:j+d.size≤B.sz)
 (hn:AList P ops rest (([id],[id])::acc) (S.eff none ⟨.tu [],[(id,some ⟨B.row,B.n,B.sz,B.ty,setF B.F k j d.size l⟩)],[]⟩) Q):AList P ops ({dst:=none,op:=.store t x v,type:=ty,pos,after,guard}::rest) acc S Q:=
 AList.cons [id] ⟨.tu [],[(id,some ⟨B.row,B.n,B.sz,B.ty,setF B.F k j d.size l⟩)],[]⟩ (LStep.of hw fun S1 hA hr1 _ b0 σ a w R=>by
  have hh1:=(hr1 id (by simp)).trans hh
  obtain⟨b,cap,cs,hb0,e1,hσ,e2,e3,hsz,e4⟩:=at_pt R (opd_rep R ((hA.op x (by simp[Op.operands])).trans hx)) hh1 hs hkn
  obtain⟨inf,z,ud,i1,i2,i3,-⟩:=ty_info T ht
  obtain⟨c1,c2⟩:=cells_rep hl (opd_rep R ((hA.op v (by simp[Op.operands])).trans hv))
  subst hs
  have hone:∀u∈(a.eval v).cells.toList,u.oneCell'=true:=fun u hu=>by
   obtain⟨i,hi,rfl⟩:=List.getElem_of_mem hu
   obtain⟨u',f1,f2⟩:=c2 i (l[i]'(by omega)) (List.getElem?_eq_getElem (by omega))
   have h3:(a.eval v).cells.toList[i]?=some u':=by simpa using f1
   rw[List.getElem?_eq_getElem hi]at h3
   cases h3
   exact f2.1
  have hlen:(a.eval v).cells.toList.length=d.size:=by omega
  have hk1:k*B.sz+j+d.size≤cs.size:=by omega
  have hcz:(a.eval v).cells.size=d.size:=by simpa using hlen
  have hrun:=run_storeCells_at (P:=P) b (k*B.sz+j) B.ty (a.eval v).cells.toList 0 cs w e2 (by omega) hone
  simp only[Nat.add_zero]at hrun
  generalize hncs:(cs.toList.take (k*B.sz+j)++(a.eval v).cells.toList++cs.toList.drop (k*B.sz+j+(a.eval v).cells.toList.length)).toArray=ncs at hrun
  have hget:∀i:Nat,ncs[i]?=if k*B.sz+j≤i∧i<k*B.sz+j+d.size then (a.eval v).cells[i-(k*B.sz+j)]? else cs[i]?:=fun i=>by
   rw[←hncs,List.getElem?_toArray]
   by_cases h1:i<k*B.sz+j
   ·rw[if_neg (by omega),List.append_assoc,List.getElem?_append_left (by simp;omega),List.getElem?_take_of_lt h1];simp
   ·by_cases h2:i<k*B.sz+j+d.size
    ·rw[if_pos (by omega),List.getElem?_append_left (by simp;omega),List.getElem?_append_right (by simp;omega)]
     simp only[List.length_take,Array.length_toList]
     rw[show min (k*B.sz+j) cs.size=k*B.sz+j by omega]
     simp
    ·rw[if_neg (by omega),List.getElem?_append_right (by simp;omega),List.getElem?_drop]
     simp only[List.length_append,List.length_take,Array.length_toList]
     rw[show min (k*B.sz+j) cs.size=k*B.sz+j by omega]
     have:(a.eval v).cells.size=d.size:=by simpa using hlen
     rw[this]
     simp
     congr 1
     omega
  have hnsz:ncs.size=cs.size:=by
   rw[←hncs]
   have:(a.eval v).cells.size=d.size:=by simpa using hlen
   simp[this]
   omega
  have hobj:(w.setRow b ncs).heap[b]?=some (.cells ncs B.ty (0,0)):=setRow_heap w b cs ncs B.ty (0,0) e2
  have hoth:∀i,i≠b→(w.setRow b ncs).heap[i]?=w.heap[i]?:=fun i hi=>setRow_other w b i ncs hi
  have hbo:own σ S1.h b:=⟨id,_,by rw[hh1];simp,hσ,hb0.blk⟩
  have hK:Keep (own σ S1.h) w (w.setRow b ncs):=⟨rfl,rfl,rfl,by simp,fun i _ ho=>hoth i fun e=>ho (e▸hbo)⟩
  have hout:∀c,out b0 σ (put S1.h id (some ⟨B.row,B.n,B.sz,B.ty,setF B.F k j d.size l⟩)) c→out b0 σ S1.h c∨w.heap.size≤c:=fun c hc=>by
   rcases hc with ⟨i,u,h1,h2,h3⟩|hc
   ·by_cases hi:i=id
    ·subst hi;exact .inl (.inl ⟨i,u,by rw[hh1];simp,h2,h3⟩)
    ·rw[put_ne _ _ hi]at h1;exact .inl (.inl ⟨i,u,h1,h2,h3⟩)
   ·exact .inl (.inr hc)
  obtain ⟨H,_,hO⟩:=R.hp.put (id:=id) (B':=⟨B.row,B.n,B.sz,B.ty,setF B.F k j d.size l⟩) (v':=(σ id).getD undef) (σ':=σ) (h':=look [(id,some ⟨B.row,B.n,B.sz,B.ty,setF B.F k j d.size l⟩)] S1.h) (w':=w.setRow b ncs)
   (fun _ _ h=>h) (put_same _ _ _) hσ (fun i hi=>.inr (put_ne _ _ hi)) hK
   (fun i u hi=>by
     by_cases h1:i=id
     ·subst h1;rw[look_one,put_same];simp
     ·rw[look_one,put_ne _ _ h1];exact(R.hp.fx i u hi).2) (fun _ _=>rfl)
   (fun i u c hi h1 h2 h3=>hoth c fun e=>by
     subst e
     have h1':S1.h i≠none:=by rw[look_one,put_ne _ _ hi]at h1;exact h1
     exact hi (R.hp.inj i id u _ c h1' (by rw[hh1];simp) h2 hσ h3 hb0.blk))
   (.inr <| .inl ⟨b,cap,ncs,hb0,hobj,by rw[hnsz];exact e3,fun k' hk' j' hj'=>by
     have hk'B:k'<B.n:=hk'
     have hj'B:j'<B.sz:=hj'
     obtain⟨u,f1,f2⟩:=e4 k' hk'B j' hj'B
     show ∃u,ncs[k'*B.sz+j']?=some u∧RepC σ _ _ (setF B.F k j d.size l k' j') u
     rw[hget]
     by_cases hc:k'=k∧(j≤j'∧j'<j+d.size)
     ·obtain⟨rfl,hc1,hc2⟩:=hc
      rw[if_pos (by omega)]
      obtain⟨u',g1,g2⟩:=c2 (j'-j) (l[j'-j]'(by omega)) (List.getElem?_eq_getElem (by omega))
      refine⟨u',by rw[←g1];congr 1;omega,?_⟩
      unfold setF
      rw[Nat.beq_refl,show Nat.ble j j'=true from Nat.ble_eq.mpr hc1,show Nat.blt j' (j+d.size)=true from Nat.blt_eq.mpr hc2]
      simp only[Bool.and_self,cond_true]
      rw[show l.getD (j'-j) .any=l[j'-j]'(by omega) by simp[List.getD,show j'-j<l.length by omega]]
      exact g2.keep hK.out hout fun _ _ h=>h
     ·rw [if_neg (by
       intro ⟨h1,h2⟩
       refine hc ?_
       have hkk:k'=k:=by
        rcases Nat.lt_trichotomy k' k with h|h|h
        ·have:=Nat.mul_le_mul_right B.sz (show k'+1≤k by omega)
         rw[Nat.succ_mul]at this
         omega
        ·exact h
        ·have:=Nat.mul_le_mul_right B.sz (show k+1≤k' by omega)
         rw[Nat.succ_mul]at this
         omega
       subst hkk
       exact⟨rfl,by omega,by omega⟩)]
      refine⟨u,f1,?_⟩
      unfold setF
      rw[show(Nat.beq k' k && (Nat.ble j j' && Nat.blt j' (j+d.size)))=false from Bool.eq_false_iff.2 fun h=>by
       simp only[Bool.and_eq_true]at h
       exact hc ⟨Nat.eq_of_beq_eq_true h.1,Nat.ble_eq.mp h.2.1,Nat.blt_eq.mp h.2.2⟩]
      exact f2.keep hK.out hout fun _ _ h=>h⟩)
   (fun c hc=>by
     rw[hb0.blk]at hc
     cases hc
     refine⟨R.hp.new b hbo,.inl hbo,fun i u hi h1 h2 h3=> ?_⟩
     have h1':S1.h i≠none:=by rw[look_one,put_ne _ _ hi]at h1;exact h1
     exact hi (R.hp.inj i id u _ b h1' (by rw[hh1];simp) h2 hσ h3 hb0.blk))
  have hex:(execOp a.eval {dst:=none,op:=.store t x v,type:=ty,pos,after,guard}).run P w=.ok .skip (w.setRow b ncs):=by
   have hsz2:(a.eval v).cells.size=inf.size:=by rw[i2];simpa using hlen
   simp only[execOp,e1,Instr.storeAt,Instr.sureAddr,Sem.run_bind,Sem.run_pure,Result.andThen_ok]
   simp[storeVar,sizeOf,typeInfo,i1,hsz2,hrun]
  rw[hex]
  exact⟨σ,R.step (e:=⟨.tu [],[(id,some ⟨B.row,B.n,B.sz,B.ty,setF B.F k j d.size l⟩)],[]⟩) rfl (fun _ _ h=>h) hK H hO (fun h=>absurd rfl h) (fun i h=>.inl h)⟩) hn
end ops
end
end Go.AV
end
