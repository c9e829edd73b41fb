/- Parts of the proof: AYap, ADr9. -/
import Derived.Test.YtpefnljgalpllaaG41
set_option linter.unusedSimpArgs false
set_option linter.unusedVariables false
set_option maxHeartbeats 0
section
namespace Go.AV
open Go Go.RowKit Go.Flow
section
variable{P:Program}{tab:List (TypeId×TD)}
inductive LentN(ids:List Nat):CV→CV→Prop
 |b {x y:CV} (h:LentB ids [] x y):LentN ids x y
 |fn (f m:Nat) (C D:Nat→CV) (h:∀i,i<m→LentB ids [] (C i) (D i)):LentN ids (.fn f m C) (.fn f m D)
theorem LentN.m{ids:List Nat}{x y:CV}(h:LentN ids x y):LentM ids [] x y:=by
 cases h with
 |b h=>exact .b h
 |fn f m C D h=>exact .fn f m C D h
theorem LentB.self{ids:List Nat}{σ σ1:Nat→Option Value}{O:Nat→Prop}{w:World}(hs:∀id∈ids,∀u,σ id=some u→σ1 id=some u){x y:CV}{u:Value}(h:LentB ids [] x y)(hu:RepC σ O w x u):RepC σ1 O w x u:=by
 cases h with
 |imm x hi=>exact repC_imm hi hu.1 (repI_imm hi hu)
 |ow id i hp=>exact⟨hu.1,hs id (List.mem_of_getElem? (posOf_at hp)) _ hu.2.1,hu.2.2⟩
 |mv id i hp=>cases hp
 |pt id i sz k j hp=>obtain⟨g,v,b,e1,e2,e3⟩:=hu;exact⟨g,v,b,hs id (List.mem_of_getElem? (posOf_at hp)) _ e1,e2,e3⟩
theorem LentN.self{ids:List Nat}{σ σ1:Nat→Option Value}{O:Nat→Prop}{w:World}(hs:∀id∈ids,∀u,σ id=some u→σ1 id=some u){x y:CV}{u:Value}(h:LentN ids x y)(hu:RepC σ O w x u):RepC σ1 O w x u:=by
 cases h with
 |b h=>exact h.self hs hu
 | fn f m C D hc=>
   obtain⟨g,vs,e1,e2,e3⟩:=hu
   refine⟨g,vs,e1,e2,fun i hi=> ?_⟩
   obtain⟨v,k1,k2,k3⟩:=e3 i hi
   have n1:=(hc i hi).noFn.1
   exact⟨v,k1,k2,repB_of n1 ((hc i hi).self hs (repC_of n1 k2 k3))⟩
theorem LentB.more{ids:List Nat}(d:Nat){x y:CV}(h:LentB ids [] x y):LentB (ids++ [d]) [] x y:=by
 cases h with
 |imm x hi=>exact .imm x hi
 |ow id i hp=>exact .ow id i (posOf_app hp)
 |mv id i hp=>cases hp
 |pt id i sz k j hp=>exact .pt id i sz k j (posOf_app hp)
theorem LentN.more{ids:List Nat}(d:Nat){x y:CV}(h:LentN ids x y):LentN (ids++ [d]) x y:=by
 cases h with
 |b h=>exact .b (h.more d)
 |fn f m C D hc=>exact .fn f m C D fun i hi=>(hc i hi).more d
def LendOkN(S:St)(ids:List Nat):List Nat→List AB→Prop
 | [],[]=>True
 |id::l,B::bs=>(∃F,S.h id=some ⟨B.row,B.n,B.sz,B.ty,F⟩∧(B.row=true→0<B.n)∧∀k,k<B.n→∀j,j<B.sz→LentN ids (F k j) (B.F k j))∧LendOkN S ids l bs
 |_,_=>False
theorem lendOkN_at{S:St}{ids:List Nat}:∀{l:List Nat} {bs:List AB},LendOkN S ids l bs→l.length=bs.length∧∀(i id:Nat),l[i]?=some id→∃B F,bs[i]?=some B∧S.h id=some ⟨B.row,B.n,B.sz,B.ty,F⟩∧(B.row=true→0<B.n)∧∀k,k<B.n→∀j,j<B.sz→LentN ids (F k j) (B.F k j)
 | [],[],_=>⟨rfl,fun i id h=>by simp at h⟩
 | id::l,B::bs,h=>by
   obtain⟨h1,h2⟩:=lendOkN_at h.2
   refine⟨by simp[h1],fun i id' hi=> ?_⟩
   cases i with
   |zero=>cases hi;obtain⟨F,hF⟩:=h.1;exact⟨B,F,rfl,hF⟩
   |succ i=>simpa using h2 i id' (by simpa using hi)
 | [],_::_,h=>h.elim
 |_::_,[],h=>h.elim
theorem lendOkM_of{S:St}{all mids:List Nat}:∀{l:List Nat} {bs:List AB},l.length=bs.length→(∀(i id:Nat),l[i]?=some id→∃B F,bs[i]?=some B∧S.h id=some ⟨B.row,B.n,B.sz,B.ty,F⟩∧(B.row=true→0<B.n)∧∀k,k<B.n→∀j,j<B.sz→LentM all mids (F k j) (B.F k j))→LendOkM S all mids l bs
 | [],[],_,_=>trivial
 | id::l,B::bs,hl,h=>by
   obtain⟨B',F,e1,e2⟩:=h 0 id rfl
   cases e1
   exact⟨⟨F,e2⟩,lendOkM_of (by simpa using hl) fun i id' hi=>by simpa using h (i+1) id' (by simpa using hi)⟩
 | [],_::_,hl,_=>by simp at hl
 |_::_,[],hl,_=>by simp at hl
def argB(ids:List Nat)(d1:Nat):CV→Bool
 | .ow id=>ids.any (Nat.beq id)||Nat.beq id d1
 | .pt id _ _ _=>ids.any (Nat.beq id)
 | .any=>true
 |_=>false
def argOk(ids:List Nat)(d1:Nat):V1→Bool
 | .c x=>immC x||argB ids d1 x
 | .ag l=>l.all immC
theorem mem_any{ids:List Nat}{id:Nat}(h:ids.any (Nat.beq id)=true):id∈ids:=by
 obtain⟨x,h1,h2⟩:=List.any_eq_true.1 h
 rw[Nat.eq_of_beq_eq_true h2]
 exact h1
theorem argOk_rep{ids:List Nat}{d1:Nat}{σ σ1:Nat→Option Value}{O O1:Nat→Prop}{w:World}(hO:∀b,O1 b→O b)(hs:∀id∈ids,∀u,σ id=some u→σ1 id=some u)(hd:σ d1=none){x:V1}{u:Value}(h:argOk ids d1 x=true)(hu:RepV σ O w x u):RepV σ1 O1 w x u:=by
 have im:∀{x:CV} {u:Value},immC x=true→RepC σ O w x u→RepC σ1 O1 w x u:=fun hi hu=>repC_imm hi hu.1 ((repI_imm hi hu).less hO)
 cases x with
 | c x =>
   have h0:(immC x||argB ids d1 x)=true:=h
   rw[Bool.or_eq_true]at h0
   rcases h0 with h0|h0
   ·exact im h0 hu
   ·cases x with
    | ow id=>
      have h:(ids.any (Nat.beq id)||Nat.beq id d1)=true:=h0
      rw[Bool.or_eq_true]at h
      rcases h with h|h
      ·exact⟨hu.1,hs id (mem_any h) _ hu.2.1,hu.2.2⟩
      ·have h2:σ id=some u:=hu.2.1
       rw[Nat.eq_of_beq_eq_true h,hd]at h2
       cases h2
    |pt id sz k j=>obtain⟨g,v,b,e1,e2,e3⟩:=hu;exact⟨g,v,b,hs id (mem_any h0) _ e1,e2,e3⟩
    |any=>exact⟨hu.1,trivial⟩
    |_=>cases h0
 | ag l=>
   obtain⟨vs,rfl,e⟩:=hu
   refine⟨vs,rfl,RepL.of_get e.length fun i x v h1 h2=> ?_⟩
   obtain⟨v',k1,k2⟩:=e.get h1
   rw[h2]at k1
   cases k1
   exact im (List.all_eq_true.1 h x (List.mem_of_getElem? h1)) k2
def St.fk(S:St):St:={n:=S.n,ln:=S.ln,t:=S.t,h:=S.h,fr:=fun _=>false,G:=fun _=>True,gs:=0,dd:=false}
theorem opd_t{S S1:St}(h:S1.t=S.t)(x:Operand):S1.opd x=S.opd x:=by
 cases x with
 |tmp t=>exact congrFun h t
 |_=>rfl
def dstNe(d1:Nat):Option Tmp→Bool
 |some d=> !(Nat.beq d d1)
 |none=>true
def AMid(P:Program)(ops:Array Oper)(d1:Nat):List Oper→St→St→Prop
 | [],S,S'=>S'=S
 | o ::l,S,S'=>∃x,S.wants ops o=some true∧(dOk S.n o.dst && dstNe d1 o.dst)=true∧
     (∀S1:St,S1.t=S.t→∀b0 σ a w,Rel0 b0 σ S1 a w→∃u,(execOp a.eval o).run P w=.ok (.value u) w∧RepA σ (out b0 σ S1.h) w x u)∧AMid P ops d1 l (S.eff o.dst ⟨x,[],[]⟩) S'
structure Alike(S S':St):Prop where
 n:S'.n=S.n
 ln:S'.ln=S.ln
 h:S'.h=S.h
 G:S'.G=S.G
 gs:S'.gs=S.gs
 dd:S'.dd=S.dd
 fr:∀id,S'.fr id=S.fr id
theorem AMid.alike{ops:Array Oper}{d1:Nat}:∀{l:List Oper} {S S':St},AMid P ops d1 l S S'→Alike S S'
 | [],S,S',h=>by cases h;exact⟨rfl,rfl,rfl,rfl,rfl,rfl,fun _=>rfl⟩
 | o::l,S,S',⟨x,_,_,_,h⟩=>by
   have:=AMid.alike h
   exact⟨this.n,this.ln,this.h,this.G,this.gs,this.dd,fun id=>(this.fr id).trans (by simp[St.eff])⟩
theorem AMid.run{ops:Array Oper}{d1:Nat}{rd:Option Nat}{K:Exit→Act→World→Prop}{b0:Base}{σ:Nat→Option Value}{w:World}{u:Value}{tl:List Oper}{ds:List Deferred}:∀{l:List Oper} {S S':St} {a:Act},AMid P ops d1 l S S'→d1<S.n→Rel0 b0 σ S.fk {a with defers:= []} w→a.defers=ds→a.tmps.getD d1 undef=u→
 (∀a',Rel0 b0 σ S'.fk {a' with defers:= []} w→a'.defers=ds→a'.tmps.getD d1 undef=u→wpListIn (fnc rd) 0 P ops K tl a' w)→wpListIn (fnc rd) 0 P ops K (l++tl) a w
 | [],S,S',a,h,_,R,hds,hu,hk=>by cases h;exact hk a R hds hu
 | o ::l,S,S',a,⟨x,h1,h2,h3,h⟩,hd1,R,hds,hu,hk=>by
   rw[Bool.and_eq_true]at h2
   rw[List.cons_append]
   unfold wpListIn
   have hwt:Region.wanted o (yielded ops a.tmps)=true:=wants_rep (S:=S.fk) (a:={a with defers:= []}) R h1
   rw[if_pos hwt]
   obtain⟨v,e1,e2⟩:=h3 S.fk rfl b0 σ {a with defers:= []} w R
   replace e1:(execOp a.eval o).run P w=.ok (.value v) w:=e1
   refine GoesA.wpIn (K0:=fun v' w'=>v'=v∧w'=w) (.inl (by rw[e1];exact⟨rfl,rfl⟩)) fun v' w' ⟨q1,q2⟩=> ?_
   subst q1 q2
   have RF':Rel0 b0 σ (S.eff o.dst ⟨x,[],[]⟩).fk {(a.put o.dst v')with defers:= []} w':=by
    have:=R.val (S:=S.fk) (d:=o.dst) (x:=x) (u:=v') h2.1 (Ext.refl w') fun _=>e2
    cases hd:o.dst with
    |none=>rw[hd]at this;exact this
    |some d=>rw[hd]at this;exact this
   refine AMid.run h hd1 RF' (by rw[defers_put];exact hds) ?_ hk
   cases hd:o.dst with
   |none=>exact hu
   | some d=>
     rw[hd]at h2
     have hlt:d<a.tmps.size:=by have:=R.sz;simp only[St.fk]at this;rw[this];exact Nat.blt_eq.mp h2.1
     rw[getD_put hlt,if_neg (fun e=>by have h3:(!(Nat.beq d d1))=true:=h2.2;rw[e,Nat.beq_refl]at h3;cases h3)]
     exact hu
section mids
variable{ops:Array Oper}{d1:Nat}{l:List Oper}{S S':St}{dst:Option Tmp}{ty:TypeId}{pos:String}{after:Array Edge}{guard:Option (Nat×Bool)}
theorem AMid.nil:AMid P ops d1 [] S S:=rfl
theorem AMid.load1l(T:tabOk P tab=true){t:TypeId}{x:Operand}{n sz:Nat}{F:Nat→Nat→CV}{k j:Nat}{d:TD}(hw:S.wants ops {dst,op:=.load t x,type:=ty,pos,after,guard}=some true)(hd:(dOk S.n dst && dstNe d1 dst)=true)(hx:S.opd x=some (.c (.pl n sz F k j)))(ht:assoc tab t=some d)(hk1:isOne d.k=true)(hj:j<sz)
 (hk:AMid P ops d1 l (S.eff dst ⟨.c (F k j),[],[]⟩) S'):AMid P ops d1 ({dst,op:=.load t x,type:=ty,pos,after,guard}::l) S S':=
 ⟨_,hw,hd,fun S1 hS b0 σ a w R=>by
   obtain⟨-,ad,e1,hkn,e3⟩:=opd_rep R ((opd_t hS x).trans hx)
   obtain⟨u,f1,f2,f3,f4⟩:=e3 k hkn j hj
   obtain⟨ud,g1,g2⟩:=ty_na T ht hk1
   refine⟨u,?_,?_⟩
   ·simp only[execOp,e1,Instr.loadAt,Instr.sureAddr,Sem.run_bind,Sem.run_pure,Result.andThen_ok,run_one g1 g2 f2]
   ·show RepC _ _ _ (F k j) u
    cases hF:F k j<;>rw[hF]at f4<;>first|exact⟨f3,f4⟩|exact f4.elim,hk⟩
end mids
section txt
variable{ops:Array Oper}{rest:List Oper}{S:St}{Q:St→Prop}{dst:Option Tmp}{ty ty1:TypeId}{pos pos1:String}{after after1:Array Edge}{guard guard1:Option (Nat×Bool)}
theorem AText.appCallY(T:tabOk P tab=true)(mid:List Oper){S2:St}{l N g g':Nat}{stop d':Bool}{A:RM}{d1:Tmp}{f:FuncId}{fn:Func}{z:Operand}{cap:List V1}{xs:Array Operand}{ats:Array TypeId}{args args1:List V1}{r r':AV}(ids:List Nat)(bs hs' bs':List AB)
 {s x:Operand} {t el:TypeId} {d e:TD} {o:Option Nat} {vs:CV} {n m:Nat} {F G:Nat→Nat→CV}
 (hw1:S.wants ops {dst:=some d1,op:=.call {callee:=.builtin .append,args:= #[s,x],argTypes:= #[t,t]},type:=ty1,pos:=pos1,after:=after1,guard:=guard1}=some true)
 (hmid:AMid P ops d1 mid (S.eff (some d1) ⟨.c .any,[],[d1]⟩) S2) (hw:S2.wants ops {dst,op:=.call {callee:=.value z,args:=xs,argTypes:=ats},type:=ty,pos,after,guard}=some true) (hd1:(dOk S.n (some d1) && dOk S.n dst && S.fr d1)=true)
 (hs:S.opd s=some (.c vs)) (hx:S.opd x=some (.c (.ls m e.size G))) (ht:assoc tab t=some d) (hk:d.k=.sl el) (he:assoc tab el=some e) (hsz:Nat.blt 0 e.size=true)
 (ho:(o=none∧vs=.p (.slice none 0 0)∧n=0)∨∃i,o=some i∧vs=.ow i∧S.h i=some ⟨true,n,e.size,el,F⟩∧i∉ids) (hF:∀k,k<n→∀j,j<e.size→isP (F k j)=true) (hG:∀k,k<m→∀j,j<e.size→isP (G k j)=true) (hnm:0<n+m)
 (h63:n+m≤4611686018427387904) (hb0:(n+m)*e.bytes≤140737488355328)
 (hz:FnV S2 z f cap) (ha:({S2 with t:=put S2.t d1 (some (.c (.ow d1)))}:St).opds xs.toList=some args) (hf:P.funcs[f]?=some fn) (hb:fn.body.isNone=false) (hnm':(fn.name== "runtime.NumGoroutine")=false)
 (hGd:∀b,S.G b→itM P l A N stop b) (hgs:S.gs=g) (hdd:S.dd=false) (hids:∀k,k<A.nb→ids[k]?=some (1000+k)) (hL:LendOkN S ids ids bs) (hok:((args++cap).all (argOk ids d1) && nodupB ids && !(ids.any (Nat.beq d1)) && Nat.beq bs'.length ids.length)=true)
 (hla:LeL (LentV (ids++ [d1]) []) (args++cap) args1) (hr:BackA (ids++ [d1]) [] r r') (hbk:BackBM (ids++ [d1]) [] (hs'++ [⟨true,n+m,e.size,el,appF F n G⟩]) (bs'++ [⟨true,n+m,e.size,el,appF F n G⟩]))
 (hc:FY P f l A N stop g g' d' args1 (bs++ [⟨true,n+m,e.size,el,appF F n G⟩]) [] r (hs'++ [⟨true,n+m,e.size,el,appF F n G⟩]) [])
 (hn:AText P ops rest (S2.goneY dst r' (zipW ids bs') [] g' d') Q):
 AText P ops ({dst:=some d1,op:=.call {callee:=.builtin .append,args:= #[s,x],argTypes:= #[t,t]},type:=ty1,pos:=pos1,after:=after1,guard:=guard1}::(mid++{dst,op:=.call {callee:=.value z,args:=xs,argTypes:=ats},type:=ty,pos,after,guard}::rest)) S Q:=⟨fun rd b0 a w K hR hK=>by
 obtain⟨σ,R0⟩:=hR
 simp only[Bool.and_eq_true,Bool.not_eq_true']at hd1 hok
 obtain⟨⟨hdA,hdB⟩,hfr⟩:=hd1
 obtain⟨⟨⟨hao,n1⟩,hd1n⟩,hbl⟩:=hok
 have hbl:=Nat.eq_of_beq_eq_true hbl
 have hd1i:d1∉ids:=fun h=>by rw[List.any_eq_true.2 ⟨d1,h,Nat.beq_refl d1⟩]at hd1n;cases hd1n
 have hGb:=hGd b0 R0.gd
 have hVL:=hGb.2.1
 have r1:=opd_rep R0 hs
 have r2:=opd_rep R0 hx
 obtain⟨u,w1,hrun,hE⟩:=app_ex (ty:=ty1) (d1:=d1) (ids:=ids) (u1:=a.eval s) (u2:=a.eval x) (o:=o) (F:=F) (G:=G) T R0 hfr ht hk he (Nat.blt_eq.mp hsz) hnm
  (by
    rcases ho with ⟨h1,rfl,h3⟩|⟨i,h1,rfl,h3,h4⟩
    ·exact .inl ⟨h1,r1.2,h3⟩
    ·exact .inr ⟨i,h1,r1.2.1,h3,h4⟩) hF hG r2 h63 hb0
 have hex:(execOp a.eval {dst:=some d1,op:=.call {callee:=.builtin .append,args:= #[s,x],argTypes:= #[t,t]},type:=ty1,pos:=pos1,after:=after1,guard:=guard1}).run P w=.ok (.value u) w1:=by
  simp only[execOp,resolve,invoke,builtin,Sem.run_bind,Sem.run_pure,Result.andThen_ok,List.map_toArray,List.map_cons,List.map_nil,hrun]
 obtain⟨hno,hlo⟩:=R0.fr d1 hfr
 generalize hB:(⟨true,n+m,e.size,el,appF F n G⟩:AB)=B at hE hc hbk
 have hBn:B.n=n+m:=by rw[←hB]
 obtain⟨hEno,hrow,b,cap',cs,q1,q2,q3,q4,q5,q6⟩:=hE
 obtain⟨hu,hBc,hcap⟩:u=.slice (some ⟨b,0,none⟩) B.n cap'∧B.n≤cap'∧cap'≤maxLen:=by
  rcases q1 with ⟨_,h1,h2,h3⟩|⟨h1,_⟩
  ·exact⟨h1,h2,h3⟩
  ·rw[hrow]at h1;cases h1
 have hub:baseBlk u=some b:=by rw[hu];rfl
 have hSd:S.h d1=none:=by
  cases hB:S.h d1 with
  |none=>rfl
  |some B'=>obtain⟨v,e,_⟩:=R0.hp.blk d1 B' hB;rw[hno]at e;cases e
 have hown1:own σ S.h b∨w.heap.size≤b:=by
  rcases q6 with h|⟨o,n0,F0,h1,h2,_⟩
  ·exact .inr h
  ·exact .inl ⟨o,_,by rw[h1];simp,h2,rfl⟩
 have hK1:Keep (own σ S.h) w w1:=⟨q5.os,q5.tape,q5.output,q5.size,fun k hk hn=>q5.block k hk fun e=>by
  subst e
  exact hown1.elim hn fun h=>by omega⟩
 have hext:=R0.ext
 unfold wild at hext
 rw[hdd]at hext
 have hshare:∀i v,S.h i≠none→σ i=some v→baseBlk v=some b→i∉ids∧∃n0 F0,S.h i=some ⟨true,n0,B.sz,B.ty,F0⟩∧v=.slice (some ⟨b,0,none⟩) n0 cap'∧n0≤B.n∧∀k,k<n0→∀j,j<B.sz→F0 k j=B.F k j:=fun i v h1 h2 h3=>by
  rcases q6 with h|⟨o,n0,F0,k1,k2,k3,k4,k5⟩
  ·have:=R0.hp.lt ⟨i,v,h1,h2,h3⟩;omega
  ·have:=R0.hp.inj i o v _ b h1 (by rw[k1];simp) h2 k2 h3 rfl
   subst this
   rw[k2]at h2
   cases h2
   exact⟨k4,n0,F0,k1,rfl,k3,k5⟩
 obtain⟨hl1,hat⟩:=lendOkN_at hL
 let h1:Nat→Option AB:=fun i=>if i=d1 then some B else if i∈ids then S.h i else none
 let σ1:Nat→Option Value:=fun i=>if i=d1 then some u else if i∈ids then σ i else none
 let fix:Nat→Option Value:=fun i=>if i∈ids then b0.fix i else none
 have hd:h1 d1=some B:=if_pos rfl
 have sd:σ1 d1=some u:=if_pos rfl
 have hid:∀i,i∈ids→h1 i=S.h i∧σ1 i=σ i∧fix i=b0.fix i:=fun i hi=>by
  have hne:i≠d1:=fun e=>hd1i (e▸hi)
  simp only[h1,σ1,fix]
  rw[if_neg hne,if_pos hi,if_neg hne,if_pos hi,if_pos hi]
  exact⟨rfl,rfl,rfl⟩
 have hou:∀i,i≠d1→i∉ids→h1 i=none∧σ1 i=none∧fix i=none:=fun i h2 h3=>by
  simp only[h1,σ1,fix]
  rw[if_neg h2,if_neg h3,if_neg h2,if_neg h3,if_neg h3]
  exact⟨rfl,rfl,rfl⟩
 have hfx:∀{i v},fix i=some v→i∈ids∧b0.fix i=some v:=fun {i v} h=>by
  by_cases hi:i∈ids
  ·exact⟨hi,by rw[←(hid i hi).2.2];exact h⟩
  ·simp only[fix]at h
   rw[if_neg hi]at h
   cases h
 have cls:∀i v b',h1 i≠none→σ1 i=some v→baseBlk v=some b'→(i=d1∧b'=b)∨(i∈ids∧i≠d1∧S.h i≠none∧σ i=some v∧b'≠b):=fun i v b' k1 k2 k3=>by
  by_cases e:i=d1
  ·subst e
   rw[sd]at k2
   cases k2
   rw[hub]at k3
   cases k3
   exact .inl ⟨rfl,rfl⟩
  ·by_cases e2:i∈ids
   ·obtain⟨g1,g2,_⟩:=hid i e2
    rw[g1]at k1
    rw[g2]at k2
    refine .inr ⟨e2,e,k1,k2,fun e3=> ?_⟩
    subst e3
    exact(hshare i v k1 k2 k3).1 e2
   ·rw[(hou i e e2).1]at k1
    exact absurd rfl k1
 have ownD:∀b',own σ1 h1 b'→own σ S.h b'∨w.heap.size≤b':=fun b' ⟨i,v,k1,k2,k3⟩=>by
  rcases cls i v b' k1 k2 k3 with ⟨_,rfl⟩|⟨_,_,k4,k5,_⟩
  ·exact hown1
  ·exact .inl ⟨i,v,k4,k5,k3⟩
 have ownLt:∀b',own σ1 h1 b'→b'<w1.heap.size:=fun b' ⟨i,v,k1,k2,k3⟩=>by
  rcases cls i v b' k1 k2 k3 with ⟨_,rfl⟩|⟨_,_,k4,k5,_⟩
  ·exact(Array.getElem?_eq_some_iff.1 q2).1
  ·exact Nat.lt_of_lt_of_le (R0.hp.lt ⟨i,v,k4,k5,k3⟩) q5.size
 have hXno:∀k,b0.X k→¬own σ1 h1 k:=fun k hX ho=>by
  rcases ownD k ho with h|h
  ·rcases R0.hp.new k h with h2|h2
   ·have:=b0.lt k hX;omega
   ·exact b0.dis k hX h2
  ·have:=b0.lt k hX;have:=R0.ext.size;omega
 have hs1:∀id∈ids,∀u,σ id=some u→σ1 id=some u:=fun id hi u hu=>by rw[(hid id hi).2.1];exact hu
 let bA:Base:=⟨w1,fun k=>(out b0 σ S.h k∨k=b)∧¬own σ1 h1 k,own σ1 h1,fix,fun k hk=>hk.1.elim (fun h=>Nat.lt_of_lt_of_le (own_lt R0 h) q5.size) (fun h=>by rw[h];exact(Array.getElem?_eq_some_iff.1 q2).1),ownLt,fun k hk hy=>hk.2 hy,fun i v h=>b0.one i v (hfx h).2,fun _ _=>False,fun _ _ _=>True,none,fun _ _ h=>h.elim,fun _ _ _ _ _ _ _ _=>trivial⟩
 let S1:St:=⟨0,S.ln,fun _=>none,h1,fun _=>false,fun _=>True,0,false⟩
 have outA:∀k,out bA σ1 h1 k↔(out b0 σ S.h k∨k=b):=fun k=>by
  constructor
  ·rintro(h|h)
   ·obtain⟨i,v,k1,k2,k3⟩:=h
    rcases cls i v k k1 k2 k3 with ⟨_,rfl⟩|⟨_,_,k4,k5,_⟩
    ·exact .inr rfl
    ·exact .inl (.inl ⟨i,v,k4,k5,k3⟩)
   ·exact h.1
  ·intro h
   by_cases ho:own σ1 h1 k
   ·exact .inl ho
   ·exact .inr ⟨h,ho⟩
 have outW:∀k,out bA σ1 h1 k→out b0 σ S.h k∨w.heap.size≤k:=fun k hk=>by
  rcases(outA k).1 hk with h|h
  ·exact .inl h
  ·subst h;exact hown1.imp .inl id
 have H1:HRel bA σ1 h1 w1:=by
  refine⟨fun i B' hB=> ?_,fun i j v1 v2 b' hi hj k1 k2 k3 k4=> ?_,fun b' hb=>.inr hb,fun i v hi=> ?_,fun i hi hf=> ?_⟩
  ·by_cases e:i=d1
   ·subst e
    rw[hd]at hB
    cases hB
    exact⟨u,sd,.inr (.inl ⟨b,cap',cs,q1,q2,q3,fun k hk j hj=>by obtain⟨p,c,r1,r2⟩:=q4 k hk j hj;exact⟨c,r1,isP_rep p r2⟩⟩)⟩
   ·by_cases e2:i∈ids
    ·obtain⟨g1,g2,_⟩:=hid i e2
     rw[g1]at hB
     obtain⟨v,k1,k2⟩:=R0.hp.blk i B' hB
     have k3:OBk σ (out bA σ1 h1) w1 v B':=k2.keep (Keep.out (b0:=b0) hK1) outW (fun _ _ h=>h) fun b' hb=>q5.block b' (R0.hp.lt ⟨i,v,by rw[hB];simp,k1,hb⟩) fun e3=>by
      subst e3
      exact(hshare i v (by rw[hB];simp) k1 hb).1 e2
     refine⟨v,g2.trans k1,?_⟩
     obtain⟨k,hk,rfl⟩:=List.getElem_of_mem e2
     obtain⟨B2,F2,m1,m2,m3,m4⟩:=hat k _ (List.getElem?_eq_getElem hk)
     rw[hB]at m2
     cases m2
     exact OBk.lendM (F:=F2) (fun k hk j hj u hu=>(m4 k hk j hj).self hs1 hu) (fun k hk j hj b o h=>h) k3
    ·rw[(hou i e e2).1]at hB;cases hB
  ·rcases cls i v1 b' hi k1 k3 with ⟨rfl,rfl⟩|⟨a1,a2,a3,a4,a5⟩
   ·rcases cls j v2 _ hj k2 k4 with ⟨rfl,_⟩|⟨_,_,_,_,c5⟩
    ·rfl
    ·exact absurd rfl c5
   ·rcases cls j v2 b' hj k2 k4 with ⟨rfl,c5⟩|⟨c1,c2,c3,c4,c5⟩
    ·exact absurd c5 a5
    ·exact R0.hp.inj i j v1 v2 b' a3 c3 a4 c4 k3 k4
  ·obtain⟨f1,f2⟩:=hfx hi
   obtain⟨g1,g2,_⟩:=hid i f1
   obtain⟨k1,k2⟩:=R0.hp.fx i v f2
   exact⟨g2.trans k1,by rw[g1];exact k2⟩
  ·by_cases e2:i∈ids
   ·obtain⟨_,g2,g3⟩:=hid i e2
    exact g2.trans (R0.hp.big i hi (g3.symm.trans hf))
   ·exact(hou i (fun e=>by have:(i:Nat)=d1:=e;omega) e2).2.1
 have R1:Rel0 bA σ1 S1 {tmps:= #[],defers:= []} w1:=⟨trivial,rfl,⟨rfl,rfl,rfl,Nat.le_refl _,fun _ _ _=>rfl⟩,H1,fun t x ht=>(by cases ht),fun id hid=>(by cases hid),fun i v hi=>R0.le i v (hfx hi).2,trivial,trivial⟩
 have hgh:=R0.gh
 rw[hgs,hdd]at hgh
 have hVt:∀k,b0.V d' k→b0.V true k:=fun k hk=>by
  cases d' with
  |false=>exact hVL.1 k hk
  |true=>exact hk
 have hVl0:∀k,b0.V d' k→∃o:Loop,w.heap[k]?=some (.loop o):=fun k hk=>hVL.2 _ _ _ hgh k (hVt k hk)
 have hJ1:b0.J g false w1:=b0.jk _ _ _ _ _ hgh hK1 R0.hp.new
 have hVl:∀k,b0.V d' k→∃o:Loop,w1.heap[k]?=some (.loop o):=fun k hk=>hVL.2 _ _ _ hJ1 k (hVt k hk)
 have hVn:NoCells (b0.V d') w:=fun b hb cs t p h=>by obtain⟨o,ho⟩:=hVl0 b hb;rw[ho]at h;cases h
 unfold wpListIn
 rw[if_pos (wants_rep R0 hw1)]
 refine GoesA.wpIn (K0:=fun v w'=>v=u∧w'=w1) (.inl (by rw[hex];exact⟨rfl,rfl⟩)) fun v w' ⟨e1,e2⟩=> ?_
 subst e1 e2
 have hut:v.oneCell'=true:=by rw[hu];rfl
 have hlt:d1<a.tmps.size:=by rw[R0.sz];exact Nat.blt_eq.mp hdA
 have hput:(a.put (some d1) v).tmps.getD d1 undef=v:=by rw[getD_put hlt,if_pos rfl]
 let bF:Base:=⟨w',fun k=>b0.X k∨(k=b∧¬own σ S.h k),own σ S.h,b0.fix,fun k hk=>hk.elim (fun h=>by have:=b0.lt k h;have:=R0.ext.size;have:=q5.size;omega) (fun h=>by rw[h.1];exact(Array.getElem?_eq_some_iff.1 q2).1),fun k hk=>Nat.lt_of_lt_of_le (R0.hp.lt hk) q5.size,fun k hk hy=>hk.elim (fun h=>(R0.hp.new k hy).elim (fun h2=>by have:=b0.lt k h;omega) (fun h2=>b0.dis k h h2)) (fun h=>h.2 hy),b0.one,fun _ _=>False,fun _ _ _=>True,none,fun _ _ h=>h.elim,fun _ _ _ _ _ _ _ _=>trivial⟩
 have hOF:∀k,out bF σ S.h k→out b0 σ S.h k∨w.heap.size≤k:=fun k hk=>by
  rcases hk with h|h|⟨h,hno⟩
  ·exact .inl (.inl h)
  ·exact .inl (.inr h)
  ·subst h;exact hown1.imp .inl id
 have hOb:out bF σ S.h b:=(Classical.em (own σ S.h b)).elim .inl fun h=>.inr (.inr ⟨rfl,h⟩)
 have RF:Rel0 bF σ (S.eff (some d1) ⟨.c .any,[],[d1]⟩).fk {(a.put (some d1) v)with defers:= []} w':=by
  refine⟨trivial,size_put.trans R0.sz,⟨rfl,rfl,rfl,Nat.le_refl _,fun _ _ _=>rfl⟩,⟨fun i B' hB=> ?_,R0.hp.inj,fun k hk=>.inr hk,R0.hp.fx,R0.hp.big⟩,fun t x ht=> ?_,fun id hid'=>(by cases hid'),R0.le,trivial,trivial⟩
  ·have hne:S.h i≠none:=by rw[show S.h i=some B' from hB];simp
   obtain⟨u0,k1,k2⟩:=R0.hp.blk i B' hB
   refine⟨u0,k1,?_⟩
   by_cases hbb:baseBlk u0=some b
   ·obtain⟨_,n0,F0,m1,m2,m3,m4⟩:=hshare i u0 hne k1 hbb
    rw[show S.h i=some B' from hB]at m1
    cases m1
    refine .inr (.inl ⟨b,cap',cs,.inl ⟨rfl,m2,by show n0≤cap';omega,hcap⟩,q2,q3,fun k hk j hj=> ?_⟩)
    have hk:k<n0:=hk
    obtain⟨y1,c,y2,y3⟩:=q4 k (by omega) j hj
    refine⟨c,y2,?_⟩
    show RepC _ _ _ (F0 k j) c
    rw[m4 k hk j hj]
    exact isP_rep y1 y3
   ·exact k2.keep (Keep.out (b0:=b0) hK1) hOF (fun _ _ h=>h) fun b' hb=>q5.block b' (R0.hp.lt ⟨i,u0,hne,k1,hb⟩) fun e=>by subst e;exact hbb hb
  ·replace ht:put S.t d1 (some (AV.c .any)) t=some x:=ht
   show RepA σ (out bF σ S.h) w' x ((a.put (some d1) v).tmps.getD t undef)
   rw[getD_put hlt]
   by_cases e:t=d1
   ·subst e
    rw[put_same]at ht
    cases ht
    rw[if_pos rfl]
    exact⟨hut,trivial⟩
   ·rw[put_ne _ _ e]at ht
    rw[if_neg e]
    exact(R0.sl t x ht).keep (Keep.out (b0:=b0) hK1) hOF fun _ _ h=>h
 refine hmid.run (by show d1<S.n;exact Nat.blt_eq.mp hdA) RF (by rw[defers_put]) hput fun a2 R2 hds2 hput2=> ?_
 have hal:=hmid.alike
 have hS2h:S2.h=S.h:=hal.h
 unfold wpListIn
 have hwt:Region.wanted {dst,op:=.call {callee:=.value z,args:=xs,argTypes:=ats},type:=ty,pos,after,guard} (yielded ops a2.tmps)=true:=wants_rep (S:=S2.fk) (a:={a2 with defers:= []}) R2 hw
 rw[if_pos hwt]
 refine⟨fun _ _=>trivial,?_⟩
 obtain⟨cv,e1,e2⟩:=(hz.congr (S1:=S2.fk) (opd_t rfl z)).rep R2
 replace e1:a2.eval z=.func (.func f) #[] cv.toArray:=e1
 have ha2:({S2.fk with t:=put S2.t d1 (some (.c (.ow d1)))}:St).opds xs.toList=some args:=by
  have h0:({S2.fk with t:=put S2.t d1 (some (.c (.ow d1)))}:St).opds xs.toList=({S2 with t:=put S2.t d1 (some (.c (.ow d1)))}:St).opds xs.toList:=opds_congr fun x _=>opd_t rfl x
  exact h0.trans ha
 have hargs:=opds_ex (ty:=()) (S:={S2.fk with t:=put S2.t d1 (some (.c (.ow d1)))}) (S1:=S2.fk) (d1:=d1) (fun t ht=>put_ne _ _ ht) (put_same _ _ _) R2 (ex:=some (d1,v,B)) rfl hput2 ha2
 have hargs2:RepL (fun x v'=>RepV σ (out bF σ S.h) w' x v'∨∃d u B',some (d1,v,B)=some (d,u,B')∧x=.c (.ow d)∧v'=u) (args++cap) (xs.toList.map a2.eval++cv):=by rw[←hS2h];exact RepL.append hargs (e2.mono fun x v h=>.inl h)
 have hOA:∀k,out bA σ1 h1 k→out bF σ S.h k:=fun k hk=>by
  rcases(outA k).1 hk with (h|h)|h
  ·exact .inl h
  ·exact .inr (.inl h)
  ·subst h;exact hOb
 have hv1:RepL (RepV σ1 (out bA σ1 h1) w') (args++cap) (xs.toList.map a2.eval++cv):=RepL.of_get hargs2.length fun i x v' g1 g2=>by
  obtain⟨v2,k1,k2⟩:=hargs2.get g1
  rw[g2]at k1
  cases k1
  rcases k2 with k2|⟨d,u',B',k3,k4,k5⟩
  ·have ka:=List.all_eq_true.1 hao x (List.mem_of_getElem? g1)
   exact argOk_rep hOA hs1 hno ka k2
  ·cases k3
   subst k4 k5
   exact⟨hut,sd,.inl ⟨_,_,_,hu⟩⟩
 have hLM:LendOkM S1 (ids++ [d1]) [] (ids++ [d1]) (bs++ [B]):=lendOkM_of (by simp[hl1]) fun i id hi=>by
  by_cases hil:i<ids.length
  ·rw[List.getElem?_append_left hil]at hi
   obtain⟨B',F',m1,m3,m8,m9⟩:=hat i id hi
   refine⟨B',F',by rw[List.getElem?_append_left (by omega)];exact m1,?_,m8,fun k hk j hj=>((m9 k hk j hj).more d1).m⟩
   show h1 id=_
   rw[(hid id (List.mem_of_getElem? hi)).1,m3]
  ·have hlt:=(List.getElem?_eq_some_iff.1 hi).1
   simp at hlt
   obtain rfl:i=ids.length:=by omega
   rw[List.getElem?_append_right (Nat.le_refl _),Nat.sub_self]at hi
   cases hi
   refine⟨B,B.F,by rw[List.getElem?_append_right (by omega),hl1,Nat.sub_self];rfl,hd,fun _=>by omega,fun k hk j hj=> ?_⟩
   have:=(q4 k hk j hj).1
   cases hc:B.F k j<;>rw[hc]at this<;>first|exact .b (.imm _ rfl)|cases this
 have ndup:nodupB ((ids++ [d1])++ [])=true:=by
  rw[List.append_nil]
  have key:∀l:List Nat,nodupB l=true→d1∉l→nodupB (l++ [d1])=true:=fun l=>by
   induction l with
   |nil=>intro _ _;rfl
   | cons x l ih=>
     intro h1 h2
     rw[List.cons_append]
     unfold nodupB at h1⊢
     rw[Bool.and_eq_true]at h1⊢
     simp only[List.mem_cons,not_or]at h2
     refine⟨?_,ih h1.2 h2.2⟩
     rw[List.any_append,Bool.not_or,Bool.and_eq_true]
     refine⟨h1.1,?_⟩
     simp only[List.any_cons,List.any_nil,Bool.or_false,Bool.not_eq_true']
     exact Bool.eq_false_iff.2 fun h=>h2.1 (Nat.eq_of_beq_eq_true h).symm
  exact key ids n1 hd1i
 have hcore:=GMc.core (ids:=ids++ [d1]) (mids:= []) (ni:= []) (Cl:=fCl P b0 f g' d') (fun vals w Q Q' hq h=>Calls.mono h fun e w' h=>⟨hq _ _ h.1,h.2⟩) (hc b0 hGb) hVl (fun b1 p1 p2 p3 p4 p5=>by
  refine⟨⟨by rw[p1];exact hJ1,by rw[p1];exact hext.trans hK1 fun i h=>(R0.hp.new i h).imp id .inl,fun k hk=> ?_,fun k hk=> ?_,fun k hk=> ?_⟩,fun k hk=> ?_⟩
  ·have hi:=hids k hk
   rw[p2 k _ (by rw[List.getElem?_append_left (List.getElem?_eq_some_iff.1 hi).1];exact hi),(hid _ (List.mem_of_getElem? hi)).2.1]
   cases hf:b0.fix (1000+k)with
   |none=>exact R0.hp.big _ (by omega) hf
   |some v=>exact(R0.hp.fx _ v hf).1
  ·rcases p3 k hk with h|h
   ·rcases outW k h with (h|h)|h
    ·exact(R0.hp.new k h).elim (fun h=>.inr (.inr h)) fun h=>.inr (.inl h)
    ·exact .inl h
    ·have:=R0.ext.size;exact .inr (.inr (by omega))
   ·exact .inl (b0.vx _ _ h)
  ·have hX:=b0.vx _ _ hk
   refine(p5 k ((outA k).2 (.inl (.inr hX)))).resolve_right fun h=>hXno k hX (p4 k h)
  ·rcases ownD k (p4 k hk)with h|h
   ·exact(R0.hp.new k h).symm
   ·have:=R0.ext.size;exact .inr (by omega)) R1 hv1 hla hLM trivial ndup rfl (by simp) rfl (fun id hid=>(by cases hid))
 rw[Oper.semAt_eq _ _ _ (fun c hc=>by cases hc),run_callf f fn hf hb hnm' #[] cv.toArray e1 w']
 rw[Oper.uponIn_enter]
 refine⟨fun hd=>(by cases hd),?_⟩
 rw[show(#[]++xs.map a2.eval++cv.toArray:Array Value)=(xs.toList.map a2.eval++cv).toArray from Array.ext' (by simp)]
 exact (wide_fnc rd).calls (Calls.mono hcore fun e w2 ⟨⟨rv',r0,hs0,nw0,g1,⟨g2,g3,g4⟩,g5⟩,hJ⟩=>by
  subst g1 g2 g3 g4
  obtain⟨σ',C⟩:=g5 r' (bs'++ [B]) [] hr hbk trivial (by simp[←hl1,hbl]) rfl
  have hlk2:∀k id B',(ids++ [d1])[k]?=some id→(bs'++ [B])[k]?=some B'→look (zipW (ids++ [d1]) (bs'++ [B])++(zipW [] []++dropL [])) h1 id=some B':=fun k id B' k1 k2=>by
   rw[look_app]
   exact zipW_in (by simp[hbl]) (by simpa using ndup) k id B' _ k1 k2
  have s1up:=C.up
  have sd':σ' d1=some v:=s1up _ _ sd
  have hKc:Keep (fun b'=>own σ1 h1 b'∨b0.V d' b') w' w2:=C.keep
  have hKw:Keep (fun b'=>own σ S.h b'∨b0.V d' b') w w2:=(hK1.less fun b' hb=>.inl hb).trans hKc fun i h=>by
   rcases h with h|h
   ·exact(ownD i h).elim (fun h=>.inr (.inl h)) .inl
   ·exact .inr (.inr h)
  let σ2:Nat→Option Value:=put σ d1 (some v)
  have s2:∀i u,σ i=some u→σ2 i=some u:=fun i u h=>by
   show put σ d1 _ i=_
   rw[put_ne _ _ (fun e=>by rw[e,hno]at h;cases h)];exact h
  have s2':∀i,i≠d1→σ2 i=σ i:=fun i h=>put_ne _ _ h
  have s3:∀i u,σ' i=some u→σ2 i=some u:=fun i u h=>by
   have h0:σ1 i≠none:=(C.dom i (by rw[h];simp)).resolve_right (fun h=>by cases h)
   cases hu1:σ1 i with
   |none=>exact absurd hu1 h0
   | some u1=>
     have:=s1up i u1 hu1
     rw[h]at this
     cases this
     by_cases e:i=d1
     ·subst e
      rw[sd]at hu1
      cases hu1
      exact put_same _ _ _
     ·by_cases e2:i∈ids
      ·rw[(hid i e2).2.1]at hu1
       exact s2 i u hu1
      ·rw[(hou i e e2).2.1]at hu1;cases hu1
  have hneS:∀i,S.h i≠none→i≠d1:=fun i h e=>h (e▸hSd)
  let h2:Nat→Option AB:=look (zipW ids bs') S.h
  have hin2:∀k id B',ids[k]?=some id→bs'[k]?=some B'→h2 id=some B':=fun k id B' k1 k2=>zipW_in hbl.symm n1 k id B' _ k1 k2
  have hno2:∀i,i∉ids→h2 i=S.h i:=fun i hi=>zipW_out i _ hi
  have hdom:∀i,h2 i≠none→S.h i≠none:=fun i hi=>by
   by_cases e:i∈ids
   ·obtain⟨k,hk,rfl⟩:=List.getElem_of_mem e
    obtain⟨B',F',_,m,_⟩:=hat k _ (List.getElem?_eq_getElem hk)
    rw[m];simp
   ·rw[←hno2 i e];exact hi
  have own2:∀b',own σ2 h2 b'→own σ S.h b':=fun b' ⟨i,u,k1,k2,k3⟩=>⟨i,u,hdom i k1,by rw[←s2' i (hneS i (hdom i k1))];exact k2,k3⟩
  have out2:∀b',out b0 σ2 h2 b'→out b0 σ S.h b':=fun b' hb=>hb.imp (own2 b') fun h=>h
  have out3:∀b',out b0 σ2 h2 b'→out bA σ' (look (zipW (ids++ [d1]) (bs'++ [B])++(zipW [] []++dropL [])) h1) b':=fun b' hb=>by
   have h0:=(outA b').2 (.inl (out2 b' hb))
   rcases h0 with ⟨i,u,k1,k2,k3⟩|h0
   ·refine .inl ⟨i,u,?_,s1up _ _ k2,k3⟩
    rcases cls i u b' k1 k2 k3 with ⟨rfl,_⟩|⟨c1,_⟩
    ·rw[hlk2 ids.length _ B (by rw[List.getElem?_append_right (Nat.le_refl _),Nat.sub_self];rfl) (by rw[List.getElem?_append_right (by omega),hbl,Nat.sub_self];rfl)]
     simp
    ·obtain⟨k,hk,rfl⟩:=List.getElem_of_mem c1
     rw[hlk2 k _ (bs'[k]'(by omega)) (by rw[List.getElem?_append_left hk];exact List.getElem?_eq_getElem hk) (by rw[List.getElem?_append_left (by omega)];exact List.getElem?_eq_getElem (by omega))]
     simp
   ·exact .inr h0
  have H2:HRel b0 σ2 h2 w2:=by
   refine⟨fun i B' hB=> ?_,fun i j v1 v2 b' hi hj k1 k2 k3 k4=>R0.hp.inj i j v1 v2 b' (hdom i hi) (hdom j hj) (by rw[←s2' i (hneS i (hdom i hi))];exact k1) (by rw[←s2' j (hneS j (hdom j hj))];exact k2) k3 k4,fun b' hb=>R0.hp.new b' (own2 b' hb),fun i u hi=> ?_,fun i hi hf=> ?_⟩
   ·by_cases hi:i∈ids
    · -- a lent box
      obtain⟨k,hk,rfl⟩:=List.getElem_of_mem hi
      have e4:bs'[k]?=some (bs'[k]'(by omega)):=List.getElem?_eq_getElem (by omega)
      have e5:=hin2 k _ _ (List.getElem?_eq_getElem hk) e4
      rw[show h2 ids[k]=some B' from hB]at e5
      cases e5
      have e3:=hlk2 k ids[k] (bs'[k]'(by omega)) (by rw[List.getElem?_append_left hk];exact List.getElem?_eq_getElem hk) (by rw[List.getElem?_append_left (by omega)];exact e4)
      obtain⟨u1,f1,f2⟩:=C.hp.blk _ _ e3
      exact⟨u1,s3 _ _ f1,f2.keep ⟨rfl,rfl,rfl,Nat.le_refl _,fun _ _ _=>rfl⟩ (fun b' hb=>.inl (out3 b' hb)) s3 fun _ _=>rfl⟩
    ·have hB:S.h i=some B':=by rw[←hno2 i hi];exact hB
     have hne:S.h i≠none:=by rw[hB];simp
     obtain⟨u0,k1,k2⟩:=R0.hp.blk i B' hB
     refine⟨u0,s2 _ _ k1,?_⟩
     by_cases hbb:baseBlk u0=some b
     · -- the old row
       obtain⟨_,n0,F0,m1,m2,m3,m4⟩:=hshare i u0 hne k1 hbb
       rw[hB]at m1
       cases m1
       have e3:=hlk2 ids.length d1 B (by rw[List.getElem?_append_right (Nat.le_refl _),Nat.sub_self];rfl) (by rw[List.getElem?_append_right (by omega),hbl,Nat.sub_self];rfl)
       obtain⟨u1,f1,f2⟩:=C.hp.blk d1 B e3
       rw[sd']at f1
       cases f1
       rcases f2.row hrow with ⟨_,z1,_⟩|⟨b2,c2,cs2,z1,z2,z3,z4⟩
       ·rw[hu]at z1;cases z1
       ·rcases z1 with ⟨_,z1,z5,z6⟩|⟨z1,_⟩
        rotate_left
        ·rw[hrow]at z1;cases z1
        rw[hu]at z1
        cases z1
        refine .inr (.inl ⟨b,cap',cs2,.inl ⟨rfl,m2,by show n0≤cap';omega,z6⟩,z2,z3,fun k hk j hj=> ?_⟩)
        have hk:k<n0:=hk
        obtain⟨c,y1,y2⟩:=z4 k (by omega) j hj
        refine⟨c,y1,?_⟩
        show RepC _ _ _ (F0 k j) c
        rw[m4 k hk j hj]
        exact isP_rep (q4 k (by omega) j hj).1 y2
     · -- another one
       refine(k2.more hVn).keep (hKw.less fun b' hb=>hb.imp (fun h=>.inl h) id) (fun b' hb=>.inl (.inl (out2 b' hb))) s2 fun b' hb=> ?_
       have hbo:own σ S.h b':=⟨i,u0,hne,k1,hb⟩
       have g6:w'.heap[b']?=w.heap[b']?:=q5.block b' (R0.hp.lt hbo) fun e=>by subst e;exact hbb hb
       refine(hKc.block b' (Nat.lt_of_lt_of_le (R0.hp.lt hbo) q5.size) fun h=> ?_).trans g6
       rcases h with ⟨j,vj,j1,j2,j3⟩|h
       ·rcases cls j vj b' j1 j2 j3 with ⟨_,e⟩|⟨j4,j5,j6,j7,_⟩
        ·subst e;exact hbb hb
        ·have:=R0.hp.inj i j u0 vj b' hne j6 k1 j7 hb j3
         subst this
         exact hi j4
       ·obtain⟨oo,hoo⟩:=hVl0 b' h
        exact R0.hp.noLoop hoo hbo
   ·obtain⟨k1,k2⟩:=R0.hp.fx i u hi
    refine⟨s2 _ _ k1,?_⟩
    by_cases e:i∈ids
    ·obtain⟨k,hk,rfl⟩:=List.getElem_of_mem e
     rw[hin2 k _ (bs'[k]'(by omega)) (List.getElem?_eq_getElem hk) (List.getElem?_eq_getElem (by omega))]
     simp
    ·rw[hno2 i e];exact k2
   ·rw[s2' i (fun e=>by have:(i:Nat)=d1:=e;omega)]
    exact R0.hp.big i hi hf
  have hVn1:NoCells (b0.V d') w':=fun b hb cs t p h=>by obtain⟨o,ho⟩:=hVl b hb;rw[ho]at h;cases h
  have hKo:Keep (fun b'=>out bF σ S.h b'∨b0.V d' b') w' w2:=hKc.less fun b' hb=>by
   rcases hb with h|h
   ·exact .inl (hOA b' (.inl h))
   ·exact .inr h
  have sl:∀{t x},S2.t t=some x→RepA σ2 (out b0 σ2 h2) w2 x (a2.tmps.getD t undef):=fun {t x} h=>by
   have h1:RepA σ (out bF σ S2.h) w' x (a2.tmps.getD t undef):=R2.sl t x h
   rw[hS2h]at h1
   exact(h1.more hVn1).keep hKo (fun b' hb=>.inl (.inl ((out2 b' hb).imp id .inl))) s2
  have hdf:Marks b0.w.heap.size a.defers w2:=by
   refine R0.df.keep hKw fun D hD=> ?_
   rcases hD with h|h
   ·exact R0.hp.nodef h
   ·intro e
    obtain⟨o,ho⟩:=hVl0 D h
    rw[ho]at e
    cases e
  have hsz2:a2.tmps.size=S2.n:=R2.sz
  have hh:(S2.goneY dst r' (zipW ids bs') [] g' d').h=h2:=by show look (zipW ids bs') S2.h=h2;rw[hS2h]
  refine hn.get rd b0 _ _ K ⟨σ2,⟨by rw[defers_put,hds2];exact hdf,size_put.trans hsz2,?_,?_,fun t x ht=> ?_,fun id hid'=> ?_,fun i v hi=> ?_,?_,hJ⟩⟩ hK
  ·refine(hext.less (O':=wild b0 (S2.goneY dst r' (zipW ids bs') [] g' d')) fun b' hb=> ?_).trans hKw fun i h=> ?_
   ·refine hb.imp id fun h=> ?_
    show b0.V d' b'
    cases d' with
    |false=>exact h
    |true=>exact hVL.1 b' h
   ·rcases h with h|h
    ·exact(R0.hp.new i h).imp id .inl
    ·exact .inr (.inr h)
  ·rw[hh]
   exact H2
  ·rw [hh]
   cases dst with
   |none=>exact sl ht
   | some d2=>
     have hlt2:d2<a2.tmps.size:=by rw[hsz2,hal.n];exact Nat.blt_eq.mp hdB
     rw[getD_put hlt2]
     by_cases e:t=d2
     ·subst e
      have ht:put S2.t t (some r') t=some x:=ht
      rw[put_same]at ht
      cases ht
      rw[if_pos rfl]
      exact C.rep.keep ⟨rfl,rfl,rfl,Nat.le_refl _,fun _ _ _=>rfl⟩ (fun b' hb=>.inl (out3 b' hb)) s3
     ·have ht:put S2.t d2 (some r') t=some x:=ht
      rw[put_ne _ _ e]at ht
      rw[if_neg e]
      exact sl ht
  ·have hid':(S2.fr id && !(([]:List Nat).any (Nat.beq id)))=true:=hid'
   rw[hal.fr]at hid'
   have hid':((S.fr id && !([d1].any (Nat.beq id))) && !(([]:List Nat).any (Nat.beq id)))=true:=hid'
   simp only[Bool.and_eq_true,Bool.not_eq_true',List.any_cons,List.any_nil,Bool.or_false]at hid'
   have hne:id≠d1:=fun e=>by rw[e,Nat.beq_refl]at hid';cases hid'.1.2
   have:=R0.fr id hid'.1.1
   exact⟨(s2' id hne).trans this.1,this.2⟩
  ·show i<1000+S2.ln
   rw[hal.ln]
   exact R0.le i v hi
  ·show S2.G b0
   rw[hal.G]
   exact R0.gd)⟩
end txt
end
section
variable{P:Program}{ops:Array Oper}
def runB(ops:Array Oper):List Nat→Array Bool→Bool
 | [],listed=>(Region.ready .any ops listed).isEmpty
 |k::s,listed=>decide (Region.ready .any ops listed= [k]) && runB ops s (listed.setIfInBounds k true)
theorem wpAnyIn_of_run{F:Fence}{nd:Nat}{Q:Exit→Act→World→Prop}:∀(s:List Nat) (os:List Oper) (listed:Array Bool) (a:Act) (w:World),s.map (fun k=>ops[k]?)=os.map some→runB ops s listed=true→wpListIn F nd P ops Q os a w→wpAnyIn F nd P .any ops Q s.length listed a w
 | [],[],listed,a,w,_,hB,h=>⟨by simpa[runB]using hB,h⟩
 | k::s,o::os,listed,a,w,hl,hB,h=>by
   simp only[List.map_cons,List.cons.injEq]at hl
   obtain⟨h0,hl⟩:=hl
   simp only[runB,Bool.and_eq_true,decide_eq_true_eq]at hB
   refine⟨fun h1=>(by rw[hB.1]at h1;cases h1),fun i hi=> ?_⟩
   rw[hB.1]at hi
   have hik:i=k:=by simpa using hi
   subst hik
   have hw:wpOpIn F nd P ops Q i (wpListIn F nd P ops Q os) a w:=by unfold wpOpIn;simp only[h0];exact h
   exact wpOpIn_mono (fun a' w' h'=>wpAnyIn_of_run s os _ a' w' hl hB.2 h') hw
 | [],_::_,_,_,_,h,_,_=>by simp at h
 |_::_,[],_,_,_,h,_,_=>by simp at h
structure AHoist(P:Program)(ops:Array Oper)(o:Oper)(S S':St):Prop where
 wants:S.wants ops o=some true
 run:∃x,S'=S.eff o.dst ⟨x,[],[]⟩∧dOk S.n o.dst=true∧∀b0 σ a w,Rel0 b0 σ S a w→∃v,(∀w',(execOp a.eval o).run P w'=.ok (.value v) w')∧(∀w',o.about P w' a.eval=none)∧RepA σ (out b0 σ S.h) w x v
section
variable{S:St}{dst:Option Tmp}{ty:TypeId}{pos:String}{after:Array Edge}{guard:Option (Nat×Bool)}{x y:Operand}
theorem AHoist.move{z:AV}(hw:S.wants ops {dst,op:=.move x,type:=ty,pos,after,guard}=some true)(hd:dOk S.n dst=true)(hx:S.opd x=some z):AHoist P ops {dst,op:=.move x,type:=ty,pos,after,guard} S (S.eff dst ⟨z,[],[]⟩):=
 ⟨hw,_,rfl,hd,fun b0 σ a w R=>⟨a.eval x,fun _=>rfl,fun _=>rfl,opd_rep R hx⟩⟩
theorem AHoist.add{xt yt:TypeId}{i j:Int}(hw:S.wants ops {dst,op:=.binOp .add xt x y yt,type:=ty,pos,after,guard}=some true)(hd:dOk S.n dst=true)(hx:S.opd x=some (.c (.p (.int .i64 i))))(hy:S.opd y=some (.c (.p (.int .i64 j))))(h1:-9223372036854775808≤i+j)(h2:i+j≤9223372036854775807):
 AHoist P ops {dst,op:=.binOp .add xt x y yt,type:=ty,pos,after,guard} S (S.eff dst ⟨.c (.p (.int .i64 (i+j))),[],[]⟩):=
 ⟨hw,_,rfl,hd,fun b0 σ a w R=>by
   have e1:=rep_int (opd_rep R hx)
   have e2:=rep_int (opd_rep R hy)
   refine⟨.int .i64 (i+j),fun w'=> ?_,fun _=>rfl,rep_p rfl⟩
   have hgd:(eqGuard .add xt x y (.int .i64 i) (.int .i64 j)).run P w'=.ok () w':=by unfold eqGuard;rfl
   have hr:(Go.binOp .add xt (.int .i64 i) (.int .i64 j)).run P w'=.ok (.int .i64 (i+j)) w':=by rw[←show IntKind.i64.wrap (i+j)=i+j by rw[IntKind.wrap_i64];omega];rfl
   simp only[execOp,e1,e2,Sem.run_bind,hgd,hr,Result.andThen_ok,Sem.run_pure]⟩
end
theorem hoist{rd:Option Nat}{o:Oper}{i fuel:Nat}{listed:Array Bool}{K:Exit→Act→World→Prop}{b0:Base}{S S':St}{a:Act}{w:World}(hro:rd=none)(hi:ops[i]?=some o)(hs:Region.noSelect ops=true)(hf:Region.free .any ops listed i=true)(hr:(Region.ready .any ops listed).contains i=true)
 (y:AHoist P ops o S S') (hK:∀e a w,K e a w→e=.normal) (R:Rel b0 S a w) (h:∀a',Rel b0 S' a' w→wpAnyIn (fnc rd) 0 P .any ops K fuel (listed.setIfInBounds i true) a' w):wpAnyIn (fnc rd) 0 P .any ops K (fuel+1) listed a w:=by
 obtain⟨σ,R0⟩:=R
 obtain⟨x,rfl,hd,hv⟩:=y.run
 obtain⟨v,h1,h2,h3⟩:=hv b0 σ a w R0
 exact wpAnyIn_take (by rw[hro];rfl) hi hs hf hr (fun c a w hq=>by cases hK _ _ _ hq) ⟨.inl ⟨wants_rep R0 y.wants,h1⟩,h2⟩ (h _ ⟨σ,R0.val hd (Ext.refl w) fun _=>h3⟩)
abbrev l9:Nat→List Nat→Array Bool:=fun n s=>s.foldl (fun l i=>l.setIfInBounds i true) (Array.replicate n false)
def chk9(ops:Array Oper):Bool:=
 Region.noSelect ops && (Region.free .any ops (l9 9 []) 1 && (Region.ready .any ops (l9 9 [])).contains 1) && (Region.free .any ops (l9 9 [1]) 2 && (Region.ready .any ops (l9 9 [1])).contains 2) &&
  (Region.free .any ops (l9 9 [1,2]) 5 && (Region.ready .any ops (l9 9 [1,2])).contains 5) && (Region.free .any ops (l9 9 [1,2,5]) 6 && (Region.ready .any ops (l9 9 [1,2,5])).contains 6) &&
  decide (Region.ready .any ops (l9 9 [1,2,5,6])= [0,3]) && runB ops [3,4,7,8] (l9 9 [1,2,5,6,0]) && decide (Region.ready .any ops (l9 9 [1,2,5,6,3])= [0,4]) &&
  runB ops [4,7,8] (l9 9 [1,2,5,6,3,0]) && runB ops [0,7,8] (l9 9 [1,2,5,6,3,4])
theorem AWp.draw9{id:Nat}{o0 o1 o2 o3 o4 o5 o6 o7 o8:Oper}{S Sa Sb Sc Sd:St}{Q:Exit→St→Prop}(hm:P.follows .mixedOrders=true)(hrd:∀b,S.G b→b.rd=none)(hck:chk9 [o0,o1,o2,o3,o4,o5,o6,o7,o8].toArray=true)
 (y1:AHoist P [o0,o1,o2,o3,o4,o5,o6,o7,o8].toArray o1 S Sa) (y2:AHoist P [o0,o1,o2,o3,o4,o5,o6,o7,o8].toArray o2 Sa Sb) (y5:AHoist P [o0,o1,o2,o3,o4,o5,o6,o7,o8].toArray o5 Sb Sc) (y6:AHoist P [o0,o1,o2,o3,o4,o5,o6,o7,o8].toArray o6 Sc Sd)
 (h0:AText P [o0,o1,o2,o3,o4,o5,o6,o7,o8].toArray [o0,o3,o4,o7,o8] Sd (Q .normal))
 (h3:AList P [o0,o1,o2,o3,o4,o5,o6,o7,o8].toArray [o3] [] Sd (fun _ S'=>AText P [o0,o1,o2,o3,o4,o5,o6,o7,o8].toArray [o0,o4,o7,o8] S' (Q .normal)∧AText P [o0,o1,o2,o3,o4,o5,o6,o7,o8].toArray [o4,o0,o7,o8] S' (Q .normal))):
 AWp P (.region id [o0,o1,o2,o3,o4,o5,o6,o7,o8].toArray true) Q S:=⟨fun b0 a w hR=>by
 generalize hops: [o0,o1,o2,o3,o4,o5,o6,o7,o8].toArray=ops at *
 have e:∀k o,[o0,o1,o2,o3,o4,o5,o6,o7,o8][k]?=some o→ops[k]?=some o:=fun k o h=>by rw[←hops,List.getElem?_toArray];exact h
 have hsz:ops.size=9:=by rw[←hops];rfl
 obtain⟨σ,R0⟩:=hR
 have hrd0:b0.rd=none:=hrd b0 R0.gd
 simp only[chk9,Bool.and_eq_true,decide_eq_true_eq]at hck
 obtain⟨⟨⟨⟨⟨⟨⟨⟨⟨k0,ka,kb⟩,kc,kd⟩,ke,kf⟩,kg,kh⟩,ki⟩,kj⟩,kk⟩,kl⟩,km⟩:=hck
 let K:Exit→Act→World→Prop:=fun e a' w'=>e=.normal∧∃S',Rel b0 S' a' w'∧Q .normal S'
 have hK:∀e a w,K e a w→e=.normal:=fun e a w h=>h.1
 have hfin:∀S a w,Rel b0 S a w→Q .normal S→K .normal a w:=fun S a w h1 h2=>⟨rfl,S,h1,h2⟩
 refine wpIn_mono (Q:=K) ?_ (fun e a w ⟨h,h2⟩=>by subst h;exact h2)
 refine wpIn_region_any hm ?_
 rw[hsz]
 refine hoist hrd0 (e 1 o1 rfl) k0 ka kb y1 hK ⟨σ,R0.drew (Ext.refl w).drew⟩ fun a1 R1=> ?_
 refine hoist hrd0 (e 2 o2 rfl) k0 kc kd y2 hK R1 fun a2 R2=> ?_
 refine hoist hrd0 (e 5 o5 rfl) k0 ke kf y5 hK R2 fun a3 R3=> ?_
 refine hoist hrd0 (e 6 o6 rfl) k0 kg kh y6 hK R3 fun a4 R4=> ?_
 have op:∀{i:Nat} {o:Oper} {os:List Oper} {a:Act} {w:World},ops[i]?=some o→wpListIn (fnc b0.rd) 0 P ops K (o::os) a w→wpOpIn (fnc b0.rd) 0 P ops K i (wpListIn (fnc b0.rd) 0 P ops K os) a w:=fun hi h=>by unfold wpOpIn;simp only[hi];exact h
 refine wpAnyIn_all ki (by simp) fun i hi=> ?_
 simp only[List.mem_cons,List.not_mem_nil,or_false]at hi
 rcases hi with rfl|rfl
 ·exact wpOpIn_mono (fun a' w' h'=>wpAnyIn_of_run [3,4,7,8] [o3,o4,o7,o8] _ a' w' (by simp only[List.map_cons,List.map_nil];rw[e 3 o3 rfl,e 4 o4 rfl,e 7 o7 rfl,e 8 o8 rfl]) kj h') (op (e 0 o0 rfl) (h0.get _ b0 a4 _ K R4 hfin))
 · -- the slice first
   have h3':=h3.get
   obtain⟨rd3,e3,hs3,hk3⟩:=h3'
   have hw3:wpOpIn (fnc b0.rd) 0 P ops K 3 (fun a' w'=>∃S',Rel b0 S' a' w'∧AText P ops [o0,o4,o7,o8] S' (Q .normal)∧AText P ops [o4,o0,o7,o8] S' (Q .normal)) a4 w.drew:=by
    unfold wpOpIn
    simp only[e 3 o3 rfl]
    rcases hs3.at R4 with ⟨hw,hg⟩|⟨hw,hR'⟩
    ·rw[if_pos hw]
     exact hg.wpIn fun v w' hR'=>⟨_,hR',hk3⟩
    ·rw[if_neg (by simp[hw])]
     exact⟨fun _ _=>trivial,_,hR',hk3⟩
   refine wpOpIn_mono (fun a5 w5 ⟨S5,R5,g1,g2⟩=> ?_) hw3
   refine wpAnyIn_all kk (by simp) fun i hi=> ?_
   simp only[List.mem_cons,List.not_mem_nil,or_false]at hi
   rcases hi with rfl|rfl
   ·exact wpOpIn_mono (fun a' w' h'=>wpAnyIn_of_run [4,7,8] [o4,o7,o8] _ a' w' (by simp only[List.map_cons,List.map_nil];rw[e 4 o4 rfl,e 7 o7 rfl,e 8 o8 rfl]) kl h') (op (e 0 o0 rfl) (g1.get _ b0 a5 _ K R5 hfin))
   ·exact wpOpIn_mono (fun a' w' h'=>wpAnyIn_of_run [0,7,8] [o0,o7,o8] _ a' w' (by simp only[List.map_cons,List.map_nil];rw[e 0 o0 rfl,e 7 o7 rfl,e 8 o8 rfl]) km h') (op (e 4 o4 rfl) (g2.get _ b0 a5 _ K R5 hfin))⟩
def selfC(o:Nat)(y:CV):CV→CV
 | .pt id sz k j=>bif Nat.beq id o then y else .pt id sz k j
 |x=>x
def fiR(f m:Nat)(C:Nat→CV)(o:Nat):Nat→CV
 |0=>.any
 |d+1=>.fi f m (fun i=>selfC o (.pl 1 1 (lF [fiR f m C o d]) 0 0) (C i))
theorem selfC_imm{o:Nat}{x y:CV}(h:immC x=true):selfC o y x=x:=by
 cases x<;>first|rfl|cases h
theorem AWp.frzRec{c:Code}{Q:Exit→St→Prop}{S:St}{t o f m:Nat}{ty:TypeId}{C:Nat→CV}(d:Nat)(ht:S.t t=some (.c (.pt o 1 0 0)))(hh:S.h o=some ⟨false,1,1,ty,lF [.fn f m C]⟩)(hC:∀i,i<m→immC (C i)=true∨C i=.pt o 1 0 0)(ho:Nat.blt o 1000=true)
 (h:AWp P c Q {S with h:=put S.h o none,t:=put S.t t (some (.c (.pl 1 1 (lF [fiR f m C o d]) 0 0)))}):AWp P c Q S:=⟨fun b0 a w ⟨σ,R⟩=>by
 have ho:=Nat.blt_eq.mp ho
 obtain⟨v,e1,e2⟩:=R.hp.blk o _ hh
 have hne:S.h o≠none:=by rw[hh];simp
 obtain⟨b,cs,hv,hcs,u,hu1,hu2⟩:∃b cs,v=.pointer (some ⟨b,0,none⟩)∧w.heap[b]?=some (.cells cs ty (0,0))∧∃u,cs[0]?=some u∧RepC σ (out b0 σ S.h) w (.fn f m C) u:=by
  rcases e2 with ⟨h0,_⟩|⟨b,cap,cs,q1,q2,q3,q4⟩|⟨_,_,_,b,o',rfl,_,q5⟩
  ·cases h0
  ·rcases q1 with ⟨q1,_⟩|⟨_,q1,_⟩
   ·cases q1
   ·obtain⟨u,r1,r2⟩:=q4 0 (by show 0<1;omega) 0 (by show 0<1;omega)
    exact⟨b,cs,q1,q2,u,by simpa using r1,r2⟩
  ·rcases q5.2 with h|⟨K,h,_⟩<;>cases h
 subst hv
 obtain⟨hone,vs,f1,f2,f3⟩:=hu2
 have hcell:w.cell? ⟨b,0,none⟩=some u:=(cell_of_row w b 0 cs ty (0,0) hcs).trans hu1
 have hob:own σ S.h b:=⟨o,_,hne,e1,rfl⟩
 let h':Nat→Option AB:=put S.h o none
 have hsub:∀i,h' i≠none→i≠o∧h' i=S.h i:=fun i hi=>by
  by_cases e:i=o
  ·subst e;exact absurd (put_same _ _ _) hi
  ·exact⟨e,put_ne _ _ e⟩
 have hbo:¬out b0 σ h' b:=fun hb=>by
  rcases hb with ⟨i,v',k1,k2,k3⟩|hb
  ·obtain⟨g1,g2⟩:=hsub i k1
   exact g1 (R.hp.inj i o v' _ b (by rw[←g2];exact k1) hne k2 e1 k3 rfl)
  ·rcases R.hp.new b hob with h|h
   ·have:=b0.lt b hb;omega
   ·exact b0.dis b hb h
 obtain⟨H',hown⟩:=R.hp.part (h':=h') (fun i hi=>(hsub i hi).2) (fun i v hi=>by
  have h1:=(b0.one i v hi).1
  have h2:=(R.hp.fx i v hi).2
  show put S.h o none i≠none
  rw[put_ne _ _ (by omega)]
  exact h2)
 have hout:∀k,out b0 σ h' k→out b0 σ S.h k:=fun k hk=>hk.imp (hown k) id
 have key:∀d,RepI (out b0 σ h') w (fiR f m C o d) u:=fun d=>by
  induction d with
  |zero=>exact trivial
  | succ d ih=>
    refine⟨vs,f1,f2,fun i hi=> ?_⟩
    obtain⟨vi,g1,g2,g3⟩:=f3 i hi
    refine⟨vi,g1,g2,?_⟩
    show RepI _ w (selfC o (.pl 1 1 (lF [fiR f m C o d]) 0 0) (C i)) vi
    rcases hC i hi with hc|hc
    ·rw[selfC_imm hc]
     have:RepC σ (out b0 σ S.h) w (C i) vi:=by
      refine⟨g2,?_⟩
      cases hCi:C i<;>rw[hCi]at hc g3<;>first|exact g3|cases hc
     exact(repI_imm hc this).less hout
    ·rw[hc]at g3⊢
     obtain⟨v',b',k1,k2,k3⟩:=g3
     rw[e1]at k1
     cases k1
     cases k2
     show RepI _ w (bif Nat.beq o o then _ else _) vi
     rw[show Nat.beq o o=true from Nat.beq_refl o]
     refine⟨⟨b,0,none⟩,by rw[k3,add_off],by omega,fun k hk j hj=>⟨u,hbo,?_,hone,?_⟩⟩
     ·obtain rfl:k=0:=by omega
      obtain rfl:j=0:=by omega
      rw[add_off]
      exact hcell
     ·obtain rfl:k=0:=by omega
      obtain rfl:j=0:=by omega
      exact ih
 refine h.get b0 a w ⟨σ,R.df,R.sz,R.ext,H',fun t' x hx=> ?_,R.fr,R.le,R.gd,R.gh⟩
 by_cases et:t'=t
 ·subst et
  have hx:put S.t t' (some (AV.c (.pl 1 1 (lF [fiR f m C o d]) 0 0))) t'=some x:=hx
  rw[put_same]at hx
  cases hx
  obtain⟨k0,v',b',k1,k2,k3⟩:=R.sl t' _ ht
  rw[e1]at k1
  cases k1
  cases k2
  refine⟨k0,⟨b,0,none⟩,by rw[k3,add_off],by omega,fun k hk j hj=>⟨u,hbo,?_,hone,?_⟩⟩
  ·obtain rfl:k=0:=by omega
   obtain rfl:j=0:=by omega
   rw[add_off]
   exact hcell
  ·obtain rfl:k=0:=by omega
   obtain rfl:j=0:=by omega
   exact key d
 ·have hx:put S.t t (some (AV.c (.pl 1 1 (lF [fiR f m C o d]) 0 0))) t'=some x:=hx
  rw[put_ne _ _ et]at hx
  exact(R.sl t' x hx).less hout⟩
end
end Go.AV
end
