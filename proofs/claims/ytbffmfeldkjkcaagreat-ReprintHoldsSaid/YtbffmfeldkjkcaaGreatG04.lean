/- Parts of the proof: AMem, AMem2, AMem3, AMem4. -/
import Derived.Test.YtbffmfeldkjkcaaGreatG03
import Derived.Great.BuildSlice
set_option linter.unusedSimpArgs false
set_option linter.unusedVariables false
set_option maxHeartbeats 0
section
namespace Go.AV
open Go Go.RowKit Go.Flow
section
variable{P:Program}{tab:List (TypeId×TD)}
theorem zCS(b o j:Nat):(⟨b,o,none⟩:Addr).add j=⟨b,o+j,none⟩:=by unfold Addr.add;split<;>simp_all
theorem zFr(a:Addr)(m n:Nat):(a.add m).add n=a.add (m+n):=by
 unfold Addr.add
 split<;>split<;>split<;>first|rfl|omega|(simp_all;done)|(simp;omega)
def zDy:TK→Bool
 | .one| .sl _=>true
 |_=>false
def zCZ:TK→Bool
 | .st _| .arr _ _=>true
 |_=>false
theorem zGl(h:zAq P tab=true){t:TypeId}{d:TD}(ht:zD tab t=some d)(hk:zDy d.k=true):∃u,P.underlying t=some u∧zEk u=false:=by
 cases hd:d.k with
 |one=>exact zSE h ht hd
 |sl e=>exact⟨_,zBL h ht hd,rfl⟩
 |_=>rw[hd]at hk;cases hk
theorem zE6(h:zAq P tab=true){t:TypeId}{d:TD}(ht:zD tab t=some d)(hk:zCZ d.k=true):∃u,P.underlying t=some u∧zEk u=true:=by
 cases hd:d.k with
 |st p=>obtain⟨fs,e,_⟩:=zHA h ht hd;exact⟨_,e,rfl⟩
 |arr n e=>exact⟨_,zE7 h ht hd,rfl⟩
 |_=>rw[hd]at hk;cases hk
theorem zHo{t:TypeId}{u:TypeDesc}(hu:P.underlying t=some u)(ha:zEk u=false){w:World}{a:Addr}{v:Value}(hc:w.cell? a=some v):(loadVar t a).run P w=.ok v w:=by
 cases u<;>first|(simp[loadVar,isAgg,run_underlying hu,hc];done)|cases ha
theorem zF8{t:TypeId}{u:TypeDesc}(hu:P.underlying t=some u)(ha:zEk u=true){i:TypeInfo}(hi:P.info? t=some i){w:World}{a:Addr}{f:Nat→Value}(hc:∀j,j<i.size→w.cell? (a.add j)=some (f j)):
 (loadVar t a).run P w=.ok (.agg ((List.range i.size).map f).toArray) w:=by
 have hl:=run_loadCells (P:=P) w a i.size f hc
 cases u<;>first|(simp[loadVar,isAgg,run_underlying hu,sizeOf,typeInfo,hi,hl];done)|cases ha
theorem zNA{t:TypeId}{fs:Array Field}(hu:P.underlying t=some (.struct fs)){f off size:Nat}(hp:(zFX P fs)[f]?=some (off,size))(hs:size≠0)(w:World)(a:Addr):
 (Instr.fieldAt t (.pointer (some a)) f).run P w=.ok (.pointer (some (a.add off))) w:=by
 obtain⟨fd,e1,e2,e3⟩:∃fd,fs[f]?=some fd∧fd.offset=off∧zDm P fd.type=size:=by
  unfold zFX at hp;rw[List.getElem?_map,Option.map_eq_some_iff]at hp
  obtain⟨fd,h1,h2⟩:=hp
  exact⟨fd,by simpa using h1,(Prod.ext_iff.1 h2).1,(Prod.ext_iff.1 h2).2⟩
 cases hi:P.info? fd.type with
 |none=>simp[zDm,hi]at e3;omega
 | some i=>
   have hsz:i.size≠0:=by simp[zDm,hi]at e3;omega
   simp[Instr.fieldAt,run_underlying hu,e1,Instr.sureAddr,fieldPlace,sizeOf,typeInfo,hi,hsz,e2]

def zAD(F:Nat→CV)(j:Nat):Nat→List CV
 |0=> []
 |m+1=>F j::zAD F (j+1) m
theorem zDM(F:Nat→CV):∀(m j i:Nat),i<m→(zAD F j m)[i]?=some (F (j+i))
 |m+1,j,0,_=>rfl
 | m+1,j,i+1,h=>by
   rw[zAD,List.getElem?_cons_succ,zDM F m (j+1) i (by omega)]
   congr 2
   omega
theorem zIj(F:Nat→CV):∀(m j:Nat),(zAD F j m).length=m
 |0,_=>rfl
 |m+1,j=>by simp[zAD,zIj F m]
theorem zF4{R:CV→Value→Prop}{F:Nat→CV}{j m:Nat}{f:Nat→Value}(h:∀i,i<m→R (F (j+i)) (f i)):RepL R (zAD F j m) ((List.range m).map f):=
 zA5 (by simp[zIj]) fun i x v h1 h2=>by
  have hi:i<m:=by have:=(List.getElem?_eq_some_iff.1 h1).1;rwa [zIj]at this
  rw[zDM F m j i hi]at h1
  cases h1
  rw[List.getElem?_map,List.getElem?_range hi]at h2
  cases h2
  exact h i hi

theorem zEm{b0:zN}{σ:Nat→Option Value}{S:St}{a:Act}{w:World}(R:Rel0 b0 σ S a w){id sz k j:Nat}{B:AB}{u:Value}(hu:RepA σ (out b0 σ S.h) w (.c (.pt id sz k j)) u)(hh:S.h id=some B)(hs:B.sz=sz)(hk:k<B.n):
 ∃ b cap cs,OBase B ((σ id).getD undef) b cap∧u=.pointer (some ⟨b,k*sz+j,none⟩)∧σ id=some ((σ id).getD undef)∧w.heap[b]?=some (.cells cs B.ty (0,0))∧cs.size=cap*B.sz∧k*B.sz+B.sz≤cs.size∧
   ∀k,k<B.n→∀j,j<B.sz→∃u,cs[k*B.sz+j]?=some u∧RepC σ (out b0 σ S.h) w (B.F k j) u:=by
 obtain⟨-,v,b,e1,e2,e3⟩:=hu
 obtain⟨v',g1,g2⟩:=R.hp.blk id B hh
 rw[e1]at g1
 cases g1
 obtain⟨b',cap,cs,h1,h2,h3,h4⟩:=g2.ofC e2
 have e2':=zIe e2;rw[h1.blk]at e2'
 cases e2'
 refine⟨b,cap,cs,by rw[e1];exact h1,e3,by rw[e1];rfl,h2,h3,?_,h4⟩
 rw[h3,←Nat.succ_mul];exact Nat.mul_le_mul_right _ (by have:=h1.le;omega)

section ops
variable{ops:Array Oper}{rest:List Oper}{acc:List (List Nat×List Nat)}{S:St}{Q:List (List Nat×List Nat)→St→Prop}{dst:Option Tmp}{ty:TypeId}{pos:String}{after:Array Edge}{guard:Option (Nat×Bool)}
theorem zOp(T:zAq P tab=true){s:TypeId}{x:Operand}{f id sz k j off size:Nat}{d:TD}{parts:List (Nat×Nat)}(hw:S.wants ops {dst,op:=.fieldAddr s x f,type:=ty,pos,after,guard}=some true)(hd:dOk S.n dst=true)
 (hx:S.opd x=some (.c (.pt id sz k j))) (ht:zD tab s=some d) (hk:d.k=.st parts) (hp:parts[f]?=some (off,size)) (hs:Nat.beq size 0=false)
 (hn:AList P ops rest (([],[])::acc) (S.eff dst ⟨.c (.pt id sz k (j+off)),[],[]⟩) Q):AList P ops ({dst,op:=.fieldAddr s x f,type:=ty,pos,after,guard}::rest) acc S Q:=
 AList.val [] _ hw hd (fun S1 h1 _ b0 σ a w R=>by
  obtain⟨-,v,b,e1,e2,e3⟩:=zW R ((h1 x (by simp[Op.operands])).trans hx)
  obtain⟨fs,g1,g2⟩:=zHA T ht hk
  refine⟨.pointer (some ⟨b,k*sz+(j+off),none⟩),?_,rfl,v,b,e1,e2,rfl⟩
  have:=zNA (P:=P) g1 (f:=f) (off:=off) (size:=size) (by rw[g2];exact hp) (fun h=>by rw[h]at hs;cases hs) w ⟨b,k*sz+j,none⟩
  rw[zCS,Nat.add_assoc]at this
  simp only[execOp,e3,this,Sem.run_bind,Result.andThen_ok,Sem.run_pure]) hn
theorem zJ8(T:zAq P tab=true){s:TypeId}{x:Operand}{f n sz k j off size:Nat}{F:Nat→Nat→CV}{d:TD}{parts:List (Nat×Nat)}(hw:S.wants ops {dst,op:=.fieldAddr s x f,type:=ty,pos,after,guard}=some true)(hd:dOk S.n dst=true)
 (hx:S.opd x=some (.c (.pl n sz F k j))) (ht:zD tab s=some d) (hk:d.k=.st parts) (hp:parts[f]?=some (off,size)) (hs:Nat.beq size 0=false)
 (hn:AList P ops rest (([],[])::acc) (S.eff dst ⟨.c (.pl n sz F k (j+off)),[],[]⟩) Q):AList P ops ({dst,op:=.fieldAddr s x f,type:=ty,pos,after,guard}::rest) acc S Q:=
 AList.val [] _ hw hd (fun S1 h1 _ b0 σ a w R=>by
  obtain⟨-,ad,e1,e2⟩:=zW R ((h1 x (by simp[Op.operands])).trans hx)
  obtain⟨fs,g1,g2⟩:=zHA T ht hk
  refine⟨.pointer (some (ad.add (k*sz+(j+off)))),?_,rfl,ad,rfl,e2⟩
  have:=zNA (P:=P) g1 (f:=f) (off:=off) (size:=size) (by rw[g2];exact hp) (fun h=>by rw[h]at hs;cases hs) w (ad.add (k*sz+j))
  rw[zFr,Nat.add_assoc]at this
  simp only[execOp,e1,this,Sem.run_bind,Result.andThen_ok,Sem.run_pure]) hn
theorem zJ9(T:zAq P tab=true){t:TypeId}{x y:Operand}{n sz k:Nat}{F:Nat→Nat→CV}{d e:TD}{el:TypeId}{ki:IntKind}{i:Int}(hw:S.wants ops {dst,op:=.indexAddr t x y,type:=ty,pos,after,guard}=some true)(hd:dOk S.n dst=true)
 (hx:S.opd x=some (.c (.ls n sz F))) (hy:S.opd y=some (.c (.p (.int ki i)))) (ht:zD tab t=some d) (hk:d.k=.sl el) (he:zD tab el=some e) (hs:e.size=sz) (hi:i=(k:Int)) (hlt:k<n) (hz:0<sz)
 (hn:AList P ops rest (([],[])::acc) (S.eff dst ⟨.c (.pl n sz F k 0),[],[]⟩) Q):AList P ops ({dst,op:=.indexAddr t x y,type:=ty,pos,after,guard}::rest) acc S Q:=
 AList.val [] _ hw hd (fun S1 h1 _ b0 σ a w R=>by
  obtain⟨-,A,cap,e1,e0,e2⟩:=zW R ((h1 x (by simp[Op.operands])).trans hx)
  have e3:=zAU (zW R ((h1 y (by simp[Op.operands])).trans hy));have g1:=zBL T ht hk
  obtain⟨inf,z,u,i1,i2,i3,-⟩:=zAS T he
  obtain⟨ad,v0,rfl,-⟩:=e2 k hlt 0 hz
  subst hi
  refine⟨.pointer (some (ad.add (k*sz+0))),?_,rfl,ad,rfl,hlt,fun k hk j hj=> ?_⟩
  ·have hlt':(k:Int)<n:=by omega
   simp only[execOp,e1,e3,Instr.indexAt,asIntOf,run_underlying g1,Sem.run_bind,Sem.run_pure,Result.andThen_ok]
   simp[sizeOf,typeInfo,i1,i2,hs,hlt']
  ·obtain⟨ad',v,h1,h2,h3,h4,h5⟩:=e2 k hk j hj
   cases h1
   exact⟨v,h2,h3,h4,h5⟩) hn
theorem zH(T:zAq P tab=true){t:TypeId}{x y:Operand}{id k:Nat}{B:AB}{d e:TD}{el:TypeId}{ki:IntKind}{i:Int}(hw:S.wants ops {dst,op:=.indexAddr t x y,type:=ty,pos,after,guard}=some true)(hd:dOk S.n dst=true)
 (hx:S.opd x=some (.c (.ow id))) (hh:S.h id=some B) (hy:S.opd y=some (.c (.p (.int ki i)))) (ht:zD tab t=some d) (hk:d.k=.sl el) (he:zD tab el=some e) (hs:e.size=B.sz) (hr:B.row=true) (hi:i=(k:Int)) (hlt:k<B.n)
 (hn:AList P ops rest (([id],[])::acc) (S.eff dst ⟨.c (.pt id B.sz k 0),[],[]⟩) Q):AList P ops ({dst,op:=.indexAddr t x y,type:=ty,pos,after,guard}::rest) acc S Q:=
 AList.val [id] _ hw hd (fun S1 h1 hr1 b0 σ a w R=>by
  obtain⟨-,e0,-⟩:=zW R ((h1 x (by simp[Op.operands])).trans hx)
  have e3:=zAU (zW R ((h1 y (by simp[Op.operands])).trans hy));have g1:=zBL T ht hk
  obtain⟨inf,z,u,i1,i2,i3,-⟩:=zAS T he
  obtain⟨v,f1,f2⟩:=R.hp.blk id B ((hr1 id (by simp)).trans hh)
  rw[e0]at f1
  cases f1
  rcases f2.row hr with ⟨_,_,h0⟩|⟨b,cap,cs,h1,h2,h3,h4⟩
  ·omega
  ·rcases h1 with ⟨_,h1,_⟩|⟨h1,_⟩
   ·refine⟨.pointer (some ⟨b,k*B.sz+0,none⟩),?_,rfl,_,b,e0,by rw[h1];rfl,rfl⟩
    subst hi;have hlt':(k:Int)<B.n:=by omega
    simp only[execOp,h1,e3,Instr.indexAt,asIntOf,run_underlying g1,Sem.run_bind,Sem.run_pure,Result.andThen_ok]
    simp[sizeOf,typeInfo,i1,i2,hs,hlt',zCS]
   ·rw[hr]at h1;cases h1) hn
theorem zHH(T:zAq P tab=true){t:TypeId}{x:Operand}{id sz k j:Nat}{B:AB}{d:TD}(hw:S.wants ops {dst,op:=.load t x,type:=ty,pos,after,guard}=some true)(hd:dOk S.n dst=true)
 (hx:S.opd x=some (.c (.pt id sz k j))) (hh:S.h id=some B) (hs:B.sz=sz) (ht:zD tab t=some d) (hk:zDy d.k=true) (hkn:k<B.n) (hj:j<B.sz)
 (hn:AList P ops rest (([id],[])::acc) (S.eff dst ⟨.c (B.F k j),[],[]⟩) Q):AList P ops ({dst,op:=.load t x,type:=ty,pos,after,guard}::rest) acc S Q:=
 AList.val [id] _ hw hd (fun S1 h1 hr1 b0 σ a w R=>by
  obtain⟨b,cap,cs,-,e1,-,e2,-,-,e3⟩:=zEm R (zW R ((h1 x (by simp[Op.operands])).trans hx)) ((hr1 id (by simp)).trans hh) hs hkn
  obtain⟨u,f1,f2⟩:=e3 k hkn j hj
  obtain⟨ud,g1,g2⟩:=zGl T ht hk
  subst hs
  refine⟨u,?_,f2⟩
  have hc:w.cell? ⟨b,k*B.sz+j,none⟩=some u:=(cell_of_row w b _ cs B.ty (0,0) e2).trans f1
  simp only[execOp,e1,Instr.loadAt,Instr.sureAddr,Sem.run_bind,Sem.run_pure,Result.andThen_ok,zHo g1 g2 hc]) hn
theorem zKf(T:zAq P tab=true){t:TypeId}{x:Operand}{id sz k j:Nat}{B:AB}{d:TD}(hw:S.wants ops {dst,op:=.load t x,type:=ty,pos,after,guard}=some true)(hd:dOk S.n dst=true)
 (hx:S.opd x=some (.c (.pt id sz k j))) (hh:S.h id=some B) (hs:B.sz=sz) (ht:zD tab t=some d) (hk:zCZ d.k=true) (hkn:k<B.n) (hj:j+d.size≤B.sz)
 (hn:AList P ops rest (([id],[])::acc) (S.eff dst ⟨.ag (zAD (B.F k) j d.size),[],[]⟩) Q):AList P ops ({dst,op:=.load t x,type:=ty,pos,after,guard}::rest) acc S Q:=
 AList.val [id] _ hw hd (fun S1 h1 hr1 b0 σ a w R=>by
  obtain⟨b,cap,cs,-,e1,-,e2,-,-,e3⟩:=zEm R (zW R ((h1 x (by simp[Op.operands])).trans hx)) ((hr1 id (by simp)).trans hh) hs hkn
  obtain⟨ud,g1,g2⟩:=zE6 T ht hk
  obtain⟨inf,z,u',i1,i2,i3,-⟩:=zAS T ht
  subst hs;have hcell:∀i,i<d.size→w.cell? (Addr.add ⟨b,k*B.sz+j,none⟩ i)=some (cs.getD (k*B.sz+(j+i)) undef)∧RepC σ (out b0 σ S1.h) w (B.F k (j+i)) (cs.getD (k*B.sz+(j+i)) undef):=fun i hi=>by
   obtain⟨u,f1,f2⟩:=e3 k hkn (j+i) (by omega)
   rw[zCS,Nat.add_assoc,Array.getD_eq_getD_getElem?,f1]
   exact⟨(cell_of_row w b _ cs B.ty (0,0) e2).trans f1,f2⟩
  refine⟨.agg ((List.range d.size).map fun i=>cs.getD (k*B.sz+(j+i)) undef).toArray,?_,_,rfl,zF4 fun i hi=>(hcell i hi).2⟩
  have:=zF8 (P:=P) g1 g2 i1 (w:=w) (a:=⟨b,k*B.sz+j,none⟩) (f:=fun i=>cs.getD (k*B.sz+(j+i)) undef) (fun i hi=>(hcell i (by omega)).1);rw[i2]at this
  simp only[execOp,e1,Instr.loadAt,Instr.sureAddr,Sem.run_bind,Sem.run_pure,Result.andThen_ok,this]) hn
theorem AList.load1l(T:zAq P tab=true){t:TypeId}{x:Operand}{n sz k j:Nat}{F:Nat→Nat→CV}{d:TD}(hw:S.wants ops {dst,op:=.load t x,type:=ty,pos,after,guard}=some true)(hd:dOk S.n dst=true)
 (hx:S.opd x=some (.c (.pl n sz F k j))) (ht:zD tab t=some d) (hk:zDy d.k=true) (hj:j<sz)
 (hn:AList P ops rest (([],[])::acc) (S.eff dst ⟨.c (F k j),[],[]⟩) Q):AList P ops ({dst,op:=.load t x,type:=ty,pos,after,guard}::rest) acc S Q:=
 AList.val [] _ hw hd (fun S1 h1 _ b0 σ a w R=>by
  obtain⟨-,ad,e1,hkn,e3⟩:=zW R ((h1 x (by simp[Op.operands])).trans hx)
  obtain⟨u,f1,f2,f3,f4⟩:=e3 k hkn j hj
  obtain⟨ud,g1,g2⟩:=zGl T ht hk
  refine⟨u,?_,?_⟩
  ·simp only[execOp,e1,Instr.loadAt,Instr.sureAddr,Sem.run_bind,Sem.run_pure,Result.andThen_ok,zHo g1 g2 f2]
  ·show RepC _ _ _ (F k j) u
   cases hF:F k j<;>rw[hF]at f4<;>first|exact⟨f3,f4⟩|exact f4.elim) hn
theorem zHJ(T:zAq P tab=true){t:TypeId}{x:Operand}{n sz k j:Nat}{F:Nat→Nat→CV}{d:TD}(hw:S.wants ops {dst,op:=.load t x,type:=ty,pos,after,guard}=some true)(hd:dOk S.n dst=true)
 (hx:S.opd x=some (.c (.pl n sz F k j))) (ht:zD tab t=some d) (hk:zCZ d.k=true) (hj:j+d.size≤sz)
 (hn:AList P ops rest (([],[])::acc) (S.eff dst ⟨.ag (zAD (F k) j d.size),[],[]⟩) Q):AList P ops ({dst,op:=.load t x,type:=ty,pos,after,guard}::rest) acc S Q:=
 AList.val [] _ hw hd (fun S1 h1 _ b0 σ a w R=>by
  obtain⟨-,ad,e1,hkn,e3⟩:=zW R ((h1 x (by simp[Op.operands])).trans hx)
  obtain⟨ud,g1,g2⟩:=zE6 T ht hk
  obtain⟨inf,z,u',i1,i2,i3,-⟩:=zAS T ht
  have hcell:∀i,i<d.size→w.cell? ((ad.add (k*sz+j)).add i)=some ((w.cell? ((ad.add (k*sz+j)).add i)).getD undef)∧RepC σ (out b0 σ S1.h) w (F k (j+i)) ((w.cell? ((ad.add (k*sz+j)).add i)).getD undef):=fun i hi=>by
   obtain⟨u,f1,f2,f3,f4⟩:=e3 k hkn (j+i) (by omega)
   rw[zFr,Nat.add_assoc,f2]
   refine⟨rfl,?_⟩
   cases hF:F k (j+i)<;>rw[hF]at f4<;>first|exact⟨f3,f4⟩|exact f4.elim
  refine⟨.agg ((List.range d.size).map fun i=>(w.cell? ((ad.add (k*sz+j)).add i)).getD undef).toArray,?_,_,rfl,zF4 fun i hi=>(hcell i hi).2⟩
  have:=zF8 (P:=P) g1 g2 i1 (w:=w) (a:=ad.add (k*sz+j)) (f:=fun i=>(w.cell? ((ad.add (k*sz+j)).add i)).getD undef) (fun i hi=>(hcell i (by omega)).1);rw[i2]at this
  simp only[execOp,e1,Instr.loadAt,Instr.sureAddr,Sem.run_bind,Sem.run_pure,Result.andThen_ok,this]) hn
theorem AList.len{x:Operand}{v:CV}{n:Nat}{rd:List Nat}{t1:TypeId}(hw:S.wants ops {dst,op:=.call {callee:=.builtin .len,args:= #[x],argTypes:= #[t1]},type:=ty,pos,after,guard}=some true)(hd:dOk S.n dst=true){el:TypeId}(hu:P.underlying t1=some (.slice el))
 (hx:S.opd x=some (.c v)) (hl:∀S1:St,(∀id∈rd,S1.h id=S.h id)→∀b0 σ a w,Rel0 b0 σ S1 a w→∀u,RepC σ (out b0 σ S1.h) w v u→∃A c,u=.slice A n c)
 (hn:AList P ops rest ((rd++ [],[])::acc) (S.eff dst ⟨.c (.p (.int .i64 n)),[],[]⟩) Q):AList P ops ({dst,op:=.call {callee:=.builtin .len,args:= #[x],argTypes:= #[t1]},type:=ty,pos,after,guard}::rest) acc S Q:=
 AList.val rd _ hw hd (fun S1 h1 hr1 b0 σ a w R=>by
  obtain⟨A,c,e⟩:=hl S1 hr1 b0 σ a w R _ (zW R ((h1 x (by simp[Op.operands,Call.operands])).trans hx))
  refine⟨.int .i64 n,?_,zCb rfl⟩
  simp[execOp,resolve,invoke,builtin,Builtin.len_,e,run_underlying hu,goInt]) hn
theorem zKb(T:zAq P tab=true){x:Operand}{n sz:Nat}{F:Nat→Nat→CV}{t1:TypeId}{d:TD}{el:TypeId}(hw:S.wants ops {dst,op:=.call {callee:=.builtin .len,args:= #[x],argTypes:= #[t1]},type:=ty,pos,after,guard}=some true)(hd:dOk S.n dst=true)
 (hx:S.opd x=some (.c (.ls n sz F))) (ht:zD tab t1=some d) (hk:d.k=.sl el)
 (hn:AList P ops rest (([],[])::acc) (S.eff dst ⟨.c (.p (.int .i64 n)),[],[]⟩) Q):AList P ops ({dst,op:=.call {callee:=.builtin .len,args:= #[x],argTypes:= #[t1]},type:=ty,pos,after,guard}::rest) acc S Q:=
 AList.len (rd:= []) hw hd (zBL T ht hk) hx (fun S1 _ b0 σ a w R u hu=>let ⟨A,c,e,_⟩:=hu.2;⟨A,c,e⟩) hn
theorem zKc(T:zAq P tab=true){x:Operand}{t1:TypeId}{d:TD}{el:TypeId}(hw:S.wants ops {dst,op:=.call {callee:=.builtin .len,args:= #[x],argTypes:= #[t1]},type:=ty,pos,after,guard}=some true)(hd:dOk S.n dst=true)
 (hx:S.opd x=some (.c (.p (.slice none 0 0)))) (ht:zD tab t1=some d) (hk:d.k=.sl el)
 (hn:AList P ops rest (([],[])::acc) (S.eff dst ⟨.c (.p (.int .i64 0)),[],[]⟩) Q):AList P ops ({dst,op:=.call {callee:=.builtin .len,args:= #[x],argTypes:= #[t1]},type:=ty,pos,after,guard}::rest) acc S Q:=
 AList.len (rd:= []) (n:=0) hw hd (zBL T ht hk) hx (fun S1 _ b0 σ a w R u hu=>⟨none,0,hu.2⟩) hn
theorem zKd(T:zAq P tab=true){x:Operand}{id:Nat}{B:AB}{t1:TypeId}{d:TD}{el:TypeId}(hw:S.wants ops {dst,op:=.call {callee:=.builtin .len,args:= #[x],argTypes:= #[t1]},type:=ty,pos,after,guard}=some true)(hd:dOk S.n dst=true)
 (hx:S.opd x=some (.c (.ow id))) (hh:S.h id=some B) (hr:B.row=true) (ht:zD tab t1=some d) (hk:d.k=.sl el)
 (hn:AList P ops rest (([id],[])::acc) (S.eff dst ⟨.c (.p (.int .i64 B.n)),[],[]⟩) Q):AList P ops ({dst,op:=.call {callee:=.builtin .len,args:= #[x],argTypes:= #[t1]},type:=ty,pos,after,guard}::rest) acc S Q:=
 AList.len (rd:= [id]) hw hd (zBL T ht hk) hx (fun S1 hr1 b0 σ a w R u hu=>by
  obtain⟨v,f1,f2⟩:=R.hp.blk id B ((hr1 id (by simp)).trans hh)
  have e0:=hu.2.1;rw[e0]at f1
  cases f1
  rcases f2.row hr with ⟨_,h1,h0⟩|⟨b,cap,cs,h1,h2,h3,h4⟩
  ·exact⟨none,0,by rw[h1,h0]⟩
  ·rcases h1 with ⟨_,h1,_⟩|⟨h1,_⟩
   ·exact⟨_,_,h1⟩
   ·rw[hr]at h1;cases h1) hn
end ops
end
section
variable{P:Program}{tab:List (TypeId×TD)}
theorem zDh{b0:zN}{σ:Nat→Option Value}{S:St}{a:Act}{w:World}(R:Rel0 b0 σ S a w){b:Nat}(hb:out b0 σ S.h b):b<w.heap.size:=by
 rcases hb with hb|hb
 ·exact R.hp.lt hb
 ·exact Nat.lt_of_lt_of_le (b0.lt b hb) R.ext.size
theorem zBS{id:Nat}{B:Option AB}{h:Nat→Option AB}:zAb [(id,B)] h=put h id B:=rfl
theorem Rel0.new{b0:zN}{σ:Nat→Option Value}{S:St}{a:Act}{w:World}{dst:Option Tmp}(R:Rel0 b0 σ S a w)(hd:dOk S.n dst=true){id:Nat}(hf:S.fr id=true){B:AB}{v:Value}{cap:Nat}{cs:Array Value}{x:CV}
 (hv:OBase B v w.heap.size cap) (hs:cs.size=cap*B.sz) (hc:∀k,k<B.n→∀j,j<B.sz→∃u,cs[k*B.sz+j]?=some u∧RepC σ (out b0 σ S.h) w (B.F k j) u)
 (hx:∀σ' O' w',σ' id=some v→RepC σ' O' w' x v):Rel b0 (S.eff dst ⟨.c x,[(id,some B)],[id]⟩) (a.put dst v) (w.alloc (.cells cs B.ty)):=by
 obtain⟨hno,hlow⟩:=R.fr id hf
 have hE:Ext w (w.alloc (.cells cs B.ty)):=(Ext.refl w).alloc _;have hsub:∀i u,σ i=some u→put σ id (some v) i=some u:=fun i u h=>by
  rw[zX _ _ (fun e=>by rw[e,hno]at h;cases h)];exact h
 have hout:∀b,out b0 (put σ id (some v)) (put S.h id (some B)) b→out b0 σ S.h b∨w.heap.size≤b:=fun b hb=>by
  rcases hb with ⟨i,u,h1,h2,h3⟩|hb
  ·by_cases hi:i=id
   ·subst hi
    rw[zAn]at h2
    cases h2
    rw[hv.blk]at h3
    cases h3
    exact .inr (Nat.le_refl _)
   ·rw[zX _ _ hi]at h1 h2
    exact .inl (.inl ⟨i,u,h1,h2,h3⟩)
  ·exact .inl (.inr hb)
 obtain⟨H,_,hO⟩:=R.hp.put (id:=id) (B':=B) (v':=v) (σ':=put σ id (some v)) (h':=zAb [(id,some B)] S.h) (w':=w.alloc (.cells cs B.ty)) hsub (zAn _ _ _) (zAn _ _ _) (fun i hi=>.inr (zX _ _ hi)) (Keep.of_ext hE)
  (fun i u hi=>by
    have h1:=(b0.one i u hi).1;rw[zBS,zX _ _ (by omega)]
    exact(R.hp.fx i u hi).2) (fun i hi=>zX _ _ (by omega))
  (fun i u b hi h1 h2 h3=>by
    have h1':S.h i≠none:=by rw[zBS,zX _ _ hi]at h1;exact h1
    exact Below.block hE b (R.hp.lt ⟨i,u,h1',h2,h3⟩))
  (.inr (.inl ⟨w.heap.size,cap,cs,hv,heap_alloc_new w _,hs,fun k hk j hj=>let ⟨u,e1,e2⟩:=hc k hk j hj;⟨u,e1,e2.keep (Keep.of_ext hE) hout hsub⟩⟩))
  (fun b hb=>by
    rw[hv.blk]at hb
    cases hb
    refine⟨.inl R.ext.size,.inr (Nat.le_refl _),fun i u hi h1 h2 h3=> ?_⟩
    have h1':S.h i≠none:=by rw[zBS,zX _ _ hi]at h1;exact h1
    have:=R.hp.lt ⟨i,u,h1',h2,h3⟩
    omega)
 exact⟨put σ id (some v),R.step (e:=⟨.c x,[(id,some B)],[id]⟩) hd hsub (Keep.of_ext hE) H hO (fun _=>hx _ _ _ (zAn _ _ _)) (fun i hi=>by
  by_cases e:i=id
  ·exact .inr (by simp[e])
  ·rw[zX _ _ e]at hi;exact .inl hi)⟩

section ops
variable{ops:Array Oper}{rest:List Oper}{acc:List (List Nat×List Nat)}{S:St}{Q:List (List Nat×List Nat)→St→Prop}{dst:Option Tmp}{ty:TypeId}{pos:String}{after:Array Edge}{guard:Option (Nat×Bool)}
theorem AList.new{o:Oper}{id:Nat}{B:AB}{x:CV}(rd:List Nat)(hw:S.wants ops o=some true)(hd:dOk S.n o.dst=true)(hf:S.fr id=true)
 (h:∀S1,(∀y∈o.op.operands.toList,S1.opd y=S.opd y)→(∀id∈rd,S1.h id=S.h id)→∀b0 σ a w,Rel0 b0 σ S1 a w→∃v cap cs,(execOp a.eval o).run P w=.ok (.value v) (w.alloc (.cells cs B.ty))∧OBase B v w.heap.size cap∧cs.size=cap*B.sz∧
   (∀k,k<B.n→∀j,j<B.sz→∃u,cs[k*B.sz+j]?=some u∧RepC σ (out b0 σ S1.h) w (B.F k j) u)∧∀σ' O' w',σ' id=some v→RepC σ' O' w' x v)
 (hk:AList P ops rest ((rd++ [id],[id]++ [id])::acc) (S.eff o.dst ⟨.c x,[(id,some B)],[id]⟩) Q):AList P ops (o::rest) acc S Q:=
 AList.cons rd ⟨.c x,[(id,some B)],[id]⟩ (LStep.of hw fun S1 hA hr hal b0 σ a w R=>by
  obtain⟨v,cap,cs,h1,h2,h3,h4,h5⟩:=h S1 hA.op hr b0 σ a w R
  rw[h1];exact R.new (by rw[hA.n];exact hd) ((hal id (by simp)).trans hf) h2 h3 h4 h5) hk
def zF(z:List Value)(_:Nat)(j:Nat):CV:=.p (z.getD j undef)
theorem zNs{σ:Nat→Option Value}{O:Nat→Prop}{w:World}{id sz b:Nat}(h:σ id=some (.pointer (some ⟨b,0,none⟩))):RepC σ O w (.pt id sz 0 0) (.pointer (some ⟨b,0,none⟩)):=
 ⟨rfl,_,b,h,rfl,by simp⟩
def zEF(l:List Value):Bool:=l.all (·.oneCell')
theorem AList.alloc(T:zAq P tab=true){id:Nat}{el:TypeId}{d:TD}(hw:S.wants ops {dst:=some id,op:=.alloc el,type:=ty,pos,after,guard}=some true)(hd:dOk S.n (some id)=true)(hf:S.fr id=true)(ht:zD tab el=some d)(ho:zEF d.zero=true)
 (hn:AList P ops rest (([id],[id,id])::acc) (S.eff (some id) ⟨.c (.pt id d.size 0 0),[(id,some ⟨false,1,d.size,el,zF d.zero⟩)],[id]⟩) Q):AList P ops ({dst:=some id,op:=.alloc el,type:=ty,pos,after,guard}::rest) acc S Q:=
 AList.new (B:=⟨false,1,d.size,el,zF d.zero⟩) [] hw hd hf (fun S1 h1 _ b0 σ a w R=>by
  obtain⟨inf,z,u,i1,i2,i3,i4,i5,i6,-⟩:=zAS T ht
  refine⟨.pointer (some ⟨w.heap.size,0,none⟩),1,d.zero.toArray,?_,.inr ⟨rfl,rfl,rfl⟩,by simp[i6],fun k hk j hj=> ?_,fun σ' O' w' h=>zNs h⟩
  ·simp[execOp,Instr.alloc,zeroValue,typeInfo,i1,i4,newVar,newRow,i5]
  ·obtain rfl:k=0:=by simp at hk;omega
   have hj':j<d.zero.length:=by simp at hj;omega
   refine⟨d.zero[j],by simp[hj'],?_⟩
   have:=List.all_eq_true.1 ho d.zero[j] (List.getElem_mem hj')
   simp only[zF]
   rw[show d.zero.getD j undef=d.zero[j] by simp[List.getD,hj']]
   exact⟨this,rfl⟩) hn
def AV.cells:AV→Option (List CV)
 | .c x=>some [x]
 | .ag l=>some l
 | .tu _=>none
theorem zIl{σ:Nat→Option Value}{O:Nat→Prop}{w:World}{y:AV}{l:List CV}{u:Value}(h:y.cells=some l)(hu:RepA σ O w y u):u.cells.toList.length=l.length∧∀(j:Nat) (x:CV),l[j]?=some x→∃v,u.cells[j]?=some v∧RepC σ O w x v:=by
 cases y with
 | c x=>
   cases h
   have hc:u.cells= #[u]:=by cases u<;>first|rfl|(have:=hu.1;simp[Value.oneCell']at this)
   rw[hc]
   refine⟨rfl,fun j x' hx=> ?_⟩
   cases j with
   |zero=>cases hx;exact⟨u,rfl,hu⟩
   |succ j=>simp at hx
 | ag m=>
   cases h
   obtain⟨vs,rfl,hl⟩:=hu
   exact⟨by simp[Value.cells,hl.length],fun j x hx=>by obtain⟨v,e1,e2⟩:=hl.get hx;exact⟨v,by simpa[Value.cells]using e1,e2⟩⟩
 |tu m=>cases h
def lF(l:List CV)(_:Nat)(j:Nat):CV:=l.getD j .any
theorem AList.box{id:Nat}{el:TypeId}{x:Operand}{y:AV}{l:List CV}(hw:S.wants ops {dst:=some id,op:=.box el x,type:=ty,pos,after,guard}=some true)(hd:dOk S.n (some id)=true)(hf:S.fr id=true)(hx:S.opd x=some y)(hl:y.cells=some l)
 (hn:AList P ops rest (([id],[id,id])::acc) (S.eff (some id) ⟨.c (.pt id l.length 0 0),[(id,some ⟨false,1,l.length,el,lF l⟩)],[id]⟩) Q):AList P ops ({dst:=some id,op:=.box el x,type:=ty,pos,after,guard}::rest) acc S Q:=
 AList.new (B:=⟨false,1,l.length,el,lF l⟩) [] hw hd hf (fun S1 h1 _ b0 σ a w R=>by
  obtain⟨e1,e2⟩:=zIl hl (zW R ((h1 x (by simp[Op.operands])).trans hx))
  refine⟨.pointer (some ⟨w.heap.size,0,none⟩),1,(a.eval x).cells,?_,.inr ⟨rfl,rfl,rfl⟩,by simpa using e1,fun k hk j hj=> ?_,fun σ' O' w' h=>zNs h⟩
  ·simp[execOp,Instr.box,newVar,newRow]
  ·obtain rfl:k=0:=by simp at hk;omega
   have hj':j<l.length:=hj
   obtain⟨v,f1,f2⟩:=e2 j l[j] (List.getElem?_eq_getElem hj')
   refine⟨v,by simpa using f1,?_⟩
   simp only[lF]
   rw[show l.getD j .any=l[j] by simp[List.getD,hj']];exact f2) hn
def zAw(F:Nat→Nat→CV)(k j m:Nat)(l:List CV)(k' j':Nat):CV:=bif Nat.beq k' k && (Nat.ble j j' && Nat.blt j' (j+m))then l.getD (j'-j) .any else F k' j'
theorem AList.store(T:zAq P tab=true){t:TypeId}{x v:Operand}{id sz k j:Nat}{B:AB}{d:TD}{y:AV}{l:List CV}(hw:S.wants ops {dst:=none,op:=.store t x v,type:=ty,pos,after,guard}=some true)
 (hx:S.opd x=some (.c (.pt id sz k j))) (hv:S.opd v=some y) (hl:y.cells=some l) (hh:S.h id=some B) (hs:B.sz=sz) (ht:zD tab t=some d) (hz:l.length=d.size) (hkn:k<B.n) (hj:j+d.size≤B.sz)
 (hn:AList P ops rest (([id],[id])::acc) (S.eff none ⟨.tu [],[(id,some ⟨B.row,B.n,B.sz,B.ty,zAw B.F k j d.size l⟩)],[]⟩) Q):AList P ops ({dst:=none,op:=.store t x v,type:=ty,pos,after,guard}::rest) acc S Q:=
 AList.cons [id] ⟨.tu [],[(id,some ⟨B.row,B.n,B.sz,B.ty,zAw B.F k j d.size l⟩)],[]⟩ (LStep.of hw fun S1 hA hr1 _ b0 σ a w R=>by
  have hh1:=(hr1 id (by simp)).trans hh
  obtain⟨b,cap,cs,hb0,e1,hσ,e2,e3,hsz,e4⟩:=zEm R (zW R ((hA.op x (by simp[Op.operands])).trans hx)) hh1 hs hkn
  obtain⟨inf,z,ud,i1,i2,i3,-⟩:=zAS T ht
  obtain⟨c1,c2⟩:=zIl hl (zW R ((hA.op v (by simp[Op.operands])).trans hv))
  subst hs;have hone:∀u∈(a.eval v).cells.toList,u.oneCell'=true:=fun u hu=>by
   obtain⟨i,hi,rfl⟩:=List.getElem_of_mem hu
   obtain⟨u',f1,f2⟩:=c2 i (l[i]'(by omega)) (List.getElem?_eq_getElem (by omega))
   have h3:(a.eval v).cells.toList[i]?=some u':=by simpa using f1
   rw[List.getElem?_eq_getElem hi]at h3
   cases h3
   exact f2.1
  have hlen:(a.eval v).cells.toList.length=d.size:=by omega
  have hk1:k*B.sz+j+d.size≤cs.size:=by omega
  have hcz:(a.eval v).cells.size=d.size:=by simpa using hlen
  have hrun:=run_storeCells_at (P:=P) b (k*B.sz+j) B.ty (a.eval v).cells.toList 0 cs w e2 (by omega) hone
  simp only[Nat.add_zero]at hrun
  generalize hncs:(cs.toList.take (k*B.sz+j)++(a.eval v).cells.toList++cs.toList.drop (k*B.sz+j+(a.eval v).cells.toList.length)).toArray=ncs at hrun;have hget:∀i:Nat,ncs[i]?=if k*B.sz+j≤i∧i<k*B.sz+j+d.size then (a.eval v).cells[i-(k*B.sz+j)]? else cs[i]?:=fun i=>by
   rw[←hncs,List.getElem?_toArray];by_cases h1:i<k*B.sz+j
   ·rw[if_neg (by omega),List.append_assoc,List.getElem?_append_left (by simp;omega),List.getElem?_take_of_lt h1];simp
   ·by_cases h2:i<k*B.sz+j+d.size
    ·rw[if_pos (by omega),List.getElem?_append_left (by simp;omega),List.getElem?_append_right (by simp;omega)]
     simp only[List.length_take,Array.length_toList]
     rw[show min (k*B.sz+j) cs.size=k*B.sz+j by omega]
     simp
    ·rw[if_neg (by omega),List.getElem?_append_right (by simp;omega),List.getElem?_drop]
     simp only[List.length_append,List.length_take,Array.length_toList]
     rw[show min (k*B.sz+j) cs.size=k*B.sz+j by omega];have:(a.eval v).cells.size=d.size:=by simpa using hlen
     rw[this]
     simp
     congr 1
     omega
  have hnsz:ncs.size=cs.size:=by
   rw[←hncs];have:(a.eval v).cells.size=d.size:=by simpa using hlen
   simp[this]
   omega
  have hobj:(w.setRow b ncs).heap[b]?=some (.cells ncs B.ty (0,0)):=setRow_heap w b cs ncs B.ty (0,0) e2;have hoth:∀i,i≠b→(w.setRow b ncs).heap[i]?=w.heap[i]?:=fun i hi=>setRow_other w b i ncs hi
  have hbo:own σ S1.h b:=⟨id,_,by rw[hh1];simp,hσ,hb0.blk⟩
  have hK:Keep (own σ S1.h) w (w.setRow b ncs):=⟨rfl,rfl,rfl,by simp,fun i _ ho=>hoth i fun e=>ho (e▸hbo)⟩;have hout:∀c,out b0 σ (put S1.h id (some ⟨B.row,B.n,B.sz,B.ty,zAw B.F k j d.size l⟩)) c→out b0 σ S1.h c∨w.heap.size≤c:=fun c hc=>by
   rcases hc with ⟨i,u,h1,h2,h3⟩|hc
   ·by_cases hi:i=id
    ·subst hi;exact .inl (.inl ⟨i,u,by rw[hh1];simp,h2,h3⟩)
    ·rw[zX _ _ hi]at h1;exact .inl (.inl ⟨i,u,h1,h2,h3⟩)
   ·exact .inl (.inr hc)
  obtain ⟨H,_,hO⟩:=R.hp.put (id:=id) (B':=⟨B.row,B.n,B.sz,B.ty,zAw B.F k j d.size l⟩) (v':=(σ id).getD undef) (σ':=σ) (h':=zAb [(id,some ⟨B.row,B.n,B.sz,B.ty,zAw B.F k j d.size l⟩)] S1.h) (w':=w.setRow b ncs)
   (fun _ _ h=>h) (zAn _ _ _) hσ (fun i hi=>.inr (zX _ _ hi)) hK
   (fun i u hi=>by
     by_cases h1:i=id
     ·subst h1;rw[zBS,zAn];simp
     ·rw[zBS,zX _ _ h1];exact(R.hp.fx i u hi).2) (fun _ _=>rfl)
   (fun i u c hi h1 h2 h3=>hoth c fun e=>by
     subst e;have h1':S1.h i≠none:=by rw[zBS,zX _ _ hi]at h1;exact h1
     exact hi (R.hp.inj i id u _ c h1' (by rw[hh1];simp) h2 hσ h3 hb0.blk))
   (.inr <| .inl ⟨b,cap,ncs,hb0,hobj,by rw[hnsz];exact e3,fun k' hk' j' hj'=>by
     have hk'B:k'<B.n:=hk';have hj'B:j'<B.sz:=hj'
     obtain⟨u,f1,f2⟩:=e4 k' hk'B j' hj'B
     show ∃u,ncs[k'*B.sz+j']?=some u∧RepC σ _ _ (zAw B.F k j d.size l k' j') u;rw[hget];by_cases hc:k'=k∧(j≤j'∧j'<j+d.size)
     ·obtain⟨rfl,hc1,hc2⟩:=hc
      rw[if_pos (by omega)]
      obtain⟨u',g1,g2⟩:=c2 (j'-j) (l[j'-j]'(by omega)) (List.getElem?_eq_getElem (by omega))
      refine⟨u',by rw[←g1];congr 1;omega,?_⟩
      unfold zAw;rw[Nat.beq_refl,show Nat.ble j j'=true from Nat.ble_eq.mpr hc1,show Nat.blt j' (j+d.size)=true from Nat.blt_eq.mpr hc2]
      simp only[Bool.and_self,cond_true]
      rw[show l.getD (j'-j) .any=l[j'-j]'(by omega) by simp[List.getD,show j'-j<l.length by omega]];exact g2.keep hK.out hout fun _ _ h=>h
     ·rw [if_neg (by
       intro ⟨h1,h2⟩;refine hc ?_;have hkk:k'=k:=by
        rcases Nat.lt_trichotomy k' k with h|h|h
        ·have:=Nat.mul_le_mul_right B.sz (show k'+1≤k by omega)
         rw[Nat.succ_mul]at this
         omega
        ·exact h
        ·have:=Nat.mul_le_mul_right B.sz (show k+1≤k' by omega)
         rw[Nat.succ_mul]at this
         omega
       subst hkk
       exact⟨rfl,by omega,by omega⟩)]
      refine⟨u,f1,?_⟩
      unfold zAw;rw[show(Nat.beq k' k && (Nat.ble j j' && Nat.blt j' (j+d.size)))=false from Bool.eq_false_iff.2 fun h=>by
       simp only[Bool.and_eq_true]at h
       exact hc ⟨Nat.eq_of_beq_eq_true h.1,Nat.ble_eq.mp h.2.1,Nat.blt_eq.mp h.2.2⟩]
      exact f2.keep hK.out hout fun _ _ h=>h⟩)
   (fun c hc=>by
     rw[hb0.blk]at hc
     cases hc
     refine⟨R.hp.new b hbo,.inl hbo,fun i u hi h1 h2 h3=> ?_⟩
     have h1':S1.h i≠none:=by rw[zBS,zX _ _ hi]at h1;exact h1
     exact hi (R.hp.inj i id u _ b h1' (by rw[hh1];simp) h2 hσ h3 hb0.blk))
  have hex:(execOp a.eval {dst:=none,op:=.store t x v,type:=ty,pos,after,guard}).run P w=.ok .skip (w.setRow b ncs):=by
   have hsz2:(a.eval v).cells.size=inf.size:=by rw[i2];simpa using hlen
   simp only[execOp,e1,Instr.storeAt,Instr.sureAddr,Sem.run_bind,Sem.run_pure,Result.andThen_ok]
   simp[storeVar,sizeOf,typeInfo,i1,hsz2,hrun]
  rw[hex]
  exact⟨σ,R.step (e:=⟨.tu [],[(id,some ⟨B.row,B.n,B.sz,B.ty,zAw B.F k j d.size l⟩)],[]⟩) rfl (fun _ _ h=>h) hK H hO (fun h=>absurd rfl h) (fun i h=>.inl h)⟩) hn
end ops
end
section
variable{P:Program}{tab:List (TypeId×TD)}
theorem zD0{σ:Nat→Option Value}{O:Nat→Prop}{w:World}{id n c:Nat}{A:Option Addr}(h:σ id=some (.slice A n c)):RepC σ O w (.ow id) (.slice A n c):=⟨rfl,h,.inl ⟨A,n,c,rfl⟩⟩
section ops
variable{ops:Array Oper}{rest:List Oper}{acc:List (List Nat×List Nat)}{S:St}{Q:List (List Nat×List Nat)→St→Prop}{dst:Option Tmp}{ty:TypeId}{pos:String}{after:Array Edge}{guard:Option (Nat×Bool)}
theorem zQZ{z:Array Value}{n k j:Nat}(hj:j<z.size)(hk:k<n):(madeCells z (n*z.size))[k*z.size+j]?=some (z[j]'hj):=by
 have hlt:k*z.size+j<n*z.size:=by
  have:=Nat.mul_le_mul_right z.size (show k+1≤n by omega);rw[Nat.succ_mul]at this
  omega
 have hm:(k*z.size+j)%z.size=j:=by rw[Nat.add_comm,Nat.add_mul_mod_self_right];exact Nat.mod_eq_of_lt hj
 simp[madeCells,hlt,hm,hj]
theorem zCN(T:zAq P tab=true){id n:Nat}{t el:TypeId}{x y:Operand}{d e:TD}{kl kc:IntKind}{i i':Int}(hw:S.wants ops {dst:=some id,op:=.makeSlice t x y,type:=ty,pos,after,guard}=some true)(hd:dOk S.n (some id)=true)(hf:S.fr id=true)
 (hx:S.opd x=some (.c (.p (.int kl i)))) (hy:S.opd y=some (.c (.p (.int kc i')))) (ht:zD tab t=some d) (hk:d.k=.sl el) (he:zD tab el=some e) (ho:zEF e.zero=true) (hi:i=(n:Int)) (hi':i'=(n:Int)) (hb:e.bytes*n≤281474976710656) (h63:n≤4611686018427387904)
 (hn:AList P ops rest (([id],[id,id])::acc) (S.eff (some id) ⟨.c (.ow id),[(id,some ⟨true,n,e.size,el,zF e.zero⟩)],[id]⟩) Q):AList P ops ({dst:=some id,op:=.makeSlice t x y,type:=ty,pos,after,guard}::rest) acc S Q:=
 AList.new (B:=⟨true,n,e.size,el,zF e.zero⟩) [] hw hd hf (fun S1 h1 _ b0 σ a w R=>by
  obtain⟨inf,z,u,i1,i2,i3,i4,i5,i6,-⟩:=zAS T he
  have e1:=zAU (zW R ((h1 x (by simp[Op.operands])).trans hx));have e2:=zAU (zW R ((h1 y (by simp[Op.operands])).trans hy));have hb':(inf.bytes:Int)*(n:Int)≤281474976710656:=by
   rw[i3];have h:((e.bytes*n:Nat):Int)≤281474976710656:=by omega
   rwa [Int.natCast_mul]at h
  have hrun:=run_make (P:=P) w t el inf z (zBL T ht hk) i1 i4 kl kc n n (by omega) (by omega) hb' (by omega)
  simp only[Int.toNat_natCast]at hrun
  have hzs:z.cells.size=e.size:=by rw[i5];simp[i6]
  subst hi hi'
  refine⟨.slice (some ⟨w.heap.size,0,none⟩) n n,n,madeCells z.cells (n*inf.size),?_,.inl ⟨rfl,rfl,Nat.le_refl _,by simp only[maxLen];omega⟩,by simp[size_madeCells,i2],fun k hk j hj=> ?_,fun σ' O' w' h=>zD0 h⟩
  ·simp only[execOp,e1,e2,hrun,Sem.run_bind,Result.andThen_ok,Sem.run_pure]
  ·have hj':j<z.cells.size:=by rw[hzs];exact hj
   refine⟨z.cells[j],?_,?_⟩
   ·have:=zQZ (n:=n) hj' hk
    rw[hzs]at this;rw[i2];exact this
   ·have hjz:j<e.zero.length:=by rw[i6];exact hj
    have hzj:z.cells[j]=e.zero[j]:=by simp[i5]
    have:=List.all_eq_true.1 ho e.zero[j] (List.getElem_mem hjz)
    simp only[zF]
    rw[show e.zero.getD j undef=e.zero[j] by simp[List.getD,hjz],hzj]
    exact⟨this,rfl⟩) hn
theorem zJ6(T:zAq P tab=true){id:Nat}{t el:TypeId}{d e:TD}{parts:Array (Nat×Operand)}(hw:S.wants ops {dst:=some id,op:=.buildSlice t 0 parts,type:=ty,pos,after,guard}=some true)(hd:dOk S.n (some id)=true)(hf:S.fr id=true)
 (ht:zD tab t=some d) (hk:d.k=.sl el) (he:zD tab el=some e) (hp:parts= #[])
 (hn:AList P ops rest (([id],[id,id])::acc) (S.eff (some id) ⟨.c (.ow id),[(id,some ⟨true,0,e.size,el,zF e.zero⟩)],[id]⟩) Q):AList P ops ({dst:=some id,op:=.buildSlice t 0 parts,type:=ty,pos,after,guard}::rest) acc S Q:=
 AList.new (B:=⟨true,0,e.size,el,zF e.zero⟩) [] hw hd hf (fun S1 h1 _ b0 σ a w R=>by
  obtain⟨inf,z,u,i1,i2,i3,i4,i5,i6,-⟩:=zAS T he
  subst hp
  refine⟨.slice (some ⟨w.heap.size,0,none⟩) 0 0,0, #[],?_,.inl ⟨rfl,rfl,Nat.le_refl _,by simp[maxLen]⟩,by simp,fun k hk=>absurd hk (Nat.not_lt_zero _),fun σ' O' w' h=>zD0 h⟩
  simp[execOp,Instr.buildSlice,run_underlying (zBL T ht hk),sizeOf,typeInfo,i1,Instr.fill,newRow]
  rw[show Array.map (fun _=>default) (Array.range 0)=(#[]:Array Value)from Array.ext' (by simp)]) hn

def zB6(S:St):List (Nat×Operand)→Option (List (Nat×List CV))
 | []=>some []
 | p ::r=>match S.opd p.2 with
   |none=>none
   | some y=>match y.cells with
     |none=>none
     | some l=>match zB6 S r with
       |none=>none
       |some m=>some ((p.1,l)::m)
def zCV(place:Nat→Option (Nat×Nat))(cells:List CV):List (Nat×List CV)→Option (List CV)
 | []=>some cells
 | (i,l)::rest=>match place i with
   |none=>none
   |some (off,size)=>bif Nat.beq l.length size && Nat.ble (off+l.length) cells.length then zCV place (cells.take off++l++cells.drop (off+l.length)) rest else none
theorem zMh:∀(cs:Array Value) (vs:List Value) (off n:Nat) (i:Nat),off+n+vs.length≤cs.size→
 ((vs.zipIdx n).foldl (fun cs p=>cs.setIfInBounds (off+p.2) p.1) cs)[i]?=if off+n≤i∧i<off+n+vs.length then vs[i-(off+n)]? else cs[i]?
 |cs,[],off,n,i,_=>by simp;omega
 | cs,v::vs,off,n,i,h=>by
   rw[List.zipIdx_cons,List.foldl_cons,zMh (cs.setIfInBounds (off+n) v) vs off (n+1) i (by simp at h⊢;omega)]
   simp only[List.length_cons]at h⊢
   by_cases h1:off+(n+1)≤i∧i<off+(n+1)+vs.length
   ·rw[if_pos h1,if_pos (by omega),show i-(off+n)=(i-(off+(n+1)))+1 by omega]
    simp
   ·rw[if_neg h1]
    by_cases h2:i=off+n
    ·subst h2
     rw[if_pos (by omega),Array.getElem?_setIfInBounds_self_of_lt (by omega)]
     simp
    ·rw[if_neg (by omega),Array.getElem?_setIfInBounds_ne (by omega)]
theorem zMi:∀(cs:Array Value) (vs:List (Value×Nat)) (off:Nat),(vs.foldl (fun cs p=>cs.setIfInBounds (off+p.2) p.1) cs).size=cs.size
 |cs,[],off=>rfl
 |cs,v::vs,off=>by rw[List.foldl_cons,zMi];simp
theorem zFH{R:CV→Value→Prop}{place place':Nat→Option (Nat×Nat)}(hpl:∀i,place' i=place i):∀{pv:List (Nat×List CV)} {pr:List (Nat×Value)} {cells:List CV} {cs:Array Value} {l:List CV},
 zCV place cells pv=some l→RepL R cells cs.toList→pv.length=pr.length→(∀(i:Nat) (p:Nat×List CV) (q:Nat×Value),pv[i]?=some p→pr[i]?=some q→p.1=q.1∧q.2.cells.toList.length=p.2.length∧∀(j:Nat) (x:CV),p.2[j]?=some x→∃v,q.2.cells[j]?=some v∧R x v)→
 ∃cs',Instr.fill place' cs pr=some cs'∧RepL R l cs'.toList
 | [],[],cells,cs,l,h,hR,_,_=>⟨cs,rfl,by cases h;exact hR⟩
 | (i, pl) ::pv,(i',v)::pr,cells,cs,l,h,hR,hlen,hp=>by
   obtain⟨h1,h2,h3⟩:=hp 0 (i,pl) (i',v) rfl rfl
   simp only at h1 h2 h3
   subst h1;unfold zCV at h;unfold Instr.fill;rw[hpl]
   cases hc:place i with
   |none=>rw[hc]at h;cases h
   | some q=>
     obtain⟨off,size⟩:=q
     rw[hc]at h
     simp only at h⊢
     cases hb:(Nat.beq pl.length size && Nat.ble (off+pl.length) cells.length)with
     |false=>rw[hb]at h;cases h
     | true=>
       rw[hb]at h
       simp only[cond_true]at h
       simp only[Bool.and_eq_true]at hb
       have b1:=Nat.eq_of_beq_eq_true hb.1;have b2:=Nat.ble_eq.mp hb.2;have hvs:v.cells.size=size:=by rw[←b1,←h2];simp
       have hcl:=hR.length;have hcs:cs.size=cells.length:=by simpa using hcl
       rw[if_neg (by simp[hvs];omega)]
       refine zFH hpl h ?_ (by simpa using hlen) fun j p q e1 e2=>hp (j+1) p q (by simpa using e1) (by simpa using e2)
       have hfold:v.cells.zipIdx.foldl (fun cs (x:Value×Nat)=>match x with|(c,j)=>cs.setIfInBounds (off+j) c) cs=(v.cells.toList.zipIdx 0).foldl (fun cs p=>cs.setIfInBounds (off+p.2) p.1) cs:=by
        rw[←Array.foldl_toList]
        simp
       rw[hfold];refine zA5 ?_ fun j x u e1 e2=> ?_
       ·have:=zMi cs (v.cells.toList.zipIdx 0) off
        simp only[Array.length_toList,this]
        simp
        omega
       ·have hg:=zMh cs v.cells.toList off 0 j (by rw[h2];omega)
        simp only[Nat.add_zero]at hg
        rw[Array.getElem?_toList,hg]at e2;by_cases hin:off≤j∧j<off+v.cells.toList.length
        ·rw[if_pos hin]at e2
         rw[List.append_assoc,List.getElem?_append_right (by simp;omega),List.getElem?_append_left (by simp;omega)]at e1
         obtain⟨u',g1,g2⟩:=h3 _ _ e1
         rw[List.length_take,show min off cells.length=off by omega]at g1;have:v.cells.toList[j-off]?=some u':=by simpa using g1
         rw[this]at e2
         cases e2
         exact g2
        ·rw[if_neg hin]at e2
         have:cells[j]?=some x:=by
          by_cases hj:j<off
          ·rw[List.append_assoc,List.getElem?_append_left (by simp;omega),List.getElem?_take_of_lt hj]at e1
           exact e1
          ·rw[List.getElem?_append_right (by simp;omega),List.getElem?_drop]at e1
           rw[←e1]
           congr 1
           simp
           omega
         obtain⟨u',g1,g2⟩:=hR.get this
         rw[Array.getElem?_toList]at g1;rw[g1]at e2
         cases e2
         exact g2
 | [],_::_,_,_,_,_,_,hlen,_=>by simp at hlen
 |_::_,[],_,_,_,_,_,hlen,_=>by simp at hlen
theorem zFZ{b0:zN}{σ:Nat→Option Value}{S1:St}{a:Act}{w:World}(R:Rel0 b0 σ S1 a w):∀{ps:List (Nat×Operand)} {pv:List (Nat×List CV)},zB6 S1 ps=some pv→
 pv.length=(ps.map fun p=>(p.1,a.eval p.2)).length∧∀(i:Nat) (p:Nat×List CV) (q:Nat×Value),pv[i]?=some p→(ps.map fun p=>(p.1,a.eval p.2))[i]?=some q→p.1=q.1∧q.2.cells.toList.length=p.2.length∧∀(j:Nat) (x:CV),p.2[j]?=some x→∃v,q.2.cells[j]?=some v∧RepC σ (out b0 σ S1.h) w x v
 | [],pv,h=>by cases h;exact⟨rfl,fun i p q h=>by simp at h⟩
 | p :: r, pv,h=>by
   unfold zB6 at h
   cases hy:S1.opd p.2 with
   |none=>rw[hy]at h;cases h
   | some y=>
     rw[hy]at h
     simp only at h
     cases hl:y.cells with
     |none=>rw[hl]at h;cases h
     | some l=>
       rw[hl]at h
       simp only at h
       cases hm:zB6 S1 r with
       |none=>rw[hm]at h;cases h
       | some m=>
         rw[hm]at h
         cases h
         obtain⟨i1,i2⟩:=zFZ R hm
         refine⟨by simpa using i1,fun i p' q e1 e2=> ?_⟩
         cases i with
         | zero=>
           cases e1
           cases e2
           exact⟨rfl,zIl hl (zW R hy)⟩
         |succ i=>exact i2 i p' q (by simpa using e1) (by simpa using e2)
theorem zFY{S S1:St}:∀{ps:List (Nat×Operand)},(∀p∈ps,S1.opd p.2=S.opd p.2)→zB6 S1 ps=zB6 S ps
 | [],_=>rfl
 |p::r,h=>by unfold zB6;rw[h p (by simp),zFY fun q hq=>h q (by simp[hq])]
theorem zRs{fs:List Field}(hall:∀f∈fs,zDm P f.type≠0):fs.mapM (fun f=>(P.info? f.type).map fun i=>(f.offset,i.size))=some (fs.map fun f=>(f.offset,zDm P f.type)):=by
 induction fs with
 |nil=>rfl
 | cons f fs ih=>
   have hf:=hall f (by simp)
   cases hi:P.info? f.type with
   |none=>simp[zDm,hi]at hf
   | some i=>
     rw[List.mapM_cons,ih fun g hg=>hall g (by simp[hg])]
     simp[hi,zDm]
theorem zOk{σ:Nat→Option Value}{O:Nat→Prop}{w:World}{z:List Value}(h:zEF z=true):RepL (RepC σ O w) (z.map .p) z:=
 zA5 (by simp) fun i x v h1 h2=>by
  rw[List.getElem?_map,h2]at h1
  cases h1
  exact⟨List.all_eq_true.1 h v (List.mem_of_getElem? h2),rfl⟩
theorem zJ1(T:zAq P tab=true){t:TypeId}{d:TD}{pl:List (Nat×Nat)}{ps:Array (Nat×Operand)}{pv:List (Nat×List CV)}{l:List CV}(hw:S.wants ops {dst,op:=.build t ps,type:=ty,pos,after,guard}=some true)(hd:dOk S.n dst=true)
 (ht:zD tab t=some d) (hk:d.k=.st pl) (hz:pl.all (fun p=> !(Nat.beq p.2 0))=true) (ho:zEF d.zero=true) (hp:zB6 S ps.toList=some pv) (hl:zCV (fun i=>pl[i]?) (d.zero.map .p) pv=some l)
 (hn:AList P ops rest (([],[])::acc) (S.eff dst ⟨.ag l,[],[]⟩) Q):AList P ops ({dst,op:=.build t ps,type:=ty,pos,after,guard}::rest) acc S Q:=
 AList.val [] _ hw hd (fun S1 h1 _ b0 σ a w R=>by
  obtain⟨inf,z,u,i1,i2,i3,i4,i5,i6,-⟩:=zAS T ht
  obtain⟨fs,g1,g2⟩:=zHA T ht hk
  have hp1:zB6 S1 ps.toList=some pv:=(zFY fun p hp=>h1 p.2 (by simp only[Op.operands];simp;exact⟨p.1,by simpa using hp⟩)).trans hp
  obtain⟨q1,q2⟩:=zFZ R hp1
  have hplaces:=zRs (P:=P) (fs:=fs.toList) fun f hf h0=>by
   have:=List.all_eq_true.1 hz (f.offset,zDm P f.type) (by rw[←g2];exact List.mem_map_of_mem hf)
   rw[h0]at this
   cases this
  obtain⟨cs',r1,r2⟩:=zFH (R:=RepC σ (out b0 σ S1.h) w) (place':=fun i=>pl.toArray[i]?) (fun i=>by simp) (cs:=z.cells) hl (by rw[i5];exact zOk ho) q1 q2
  refine⟨.agg cs',?_,cs'.toList,rfl,r2⟩
  have hb:P.built t (ps.map fun p=>(p.1,a.eval p.2)).toList=some cs':=by
   unfold Program.built
   simp only[i1,g1,i4,hplaces]
   rw[show fs.toList.map (fun f=>(f.offset,zDm P f.type))=pl from g2]
   simpa using r1
  have:=run_build (P:=P) w t (ps.map fun p=>(p.1,a.eval p.2)) cs' hb
  simp only[execOp,this,Sem.run_bind,Result.andThen_ok,Sem.run_pure]) hn
theorem zJ0(T:zAq P tab=true){t el n:Nat}{d e:TD}{ps:Array (Nat×Operand)}{pv:List (Nat×List CV)}{l:List CV}(hw:S.wants ops {dst,op:=.build t ps,type:=ty,pos,after,guard}=some true)(hd:dOk S.n dst=true)
 (ht:zD tab t=some d) (hk:d.k=.arr n el) (he:zD tab el=some e) (ho:zEF d.zero=true) (hp:zB6 S ps.toList=some pv) (hl:zCV (fun i=>some (i*e.size,e.size)) (d.zero.map .p) pv=some l)
 (hn:AList P ops rest (([],[])::acc) (S.eff dst ⟨.ag l,[],[]⟩) Q):AList P ops ({dst,op:=.build t ps,type:=ty,pos,after,guard}::rest) acc S Q:=
 AList.val [] _ hw hd (fun S1 h1 _ b0 σ a w R=>by
  obtain⟨inf,z,u,i1,i2,i3,i4,i5,i6,-⟩:=zAS T ht
  obtain⟨inf',z',u',j1,j2,-⟩:=zAS T he
  have hp1:zB6 S1 ps.toList=some pv:=(zFY fun p hp=>h1 p.2 (by simp only[Op.operands];simp;exact⟨p.1,by simpa using hp⟩)).trans hp
  obtain⟨q1,q2⟩:=zFZ R hp1
  obtain⟨cs',r1,r2⟩:=zFH (R:=RepC σ (out b0 σ S1.h) w) (place':=fun i=>some (i*inf'.size,inf'.size)) (fun i=>by rw[j2]) (cs:=z.cells) hl (by rw[i5];exact zOk ho) q1 q2
  refine⟨.agg cs',?_,cs'.toList,rfl,r2⟩
  have hb:P.built t (ps.map fun p=>(p.1,a.eval p.2)).toList=some cs':=by
   unfold Program.built
   simp only[i1,zE7 T ht hk,i4,j1]
   simpa using r1
  have:=run_build (P:=P) w t (ps.map fun p=>(p.1,a.eval p.2)) cs' hb
  simp only[execOp,this,Sem.run_bind,Result.andThen_ok,Sem.run_pure]) hn
def sF(l:List CV)(sz k j:Nat):CV:=l.getD (k*sz+j) .any
theorem zKe(T:zAq P tab=true){t el len:Nat}{d e:TD}{ps:Array (Nat×Operand)}{pv:List (Nat×List CV)}{l:List CV}(hw:S.wants ops {dst,op:=.buildSlice t len ps,type:=ty,pos,after,guard}=some true)(hd:dOk S.n dst=true)
 (ht:zD tab t=some d) (hk:d.k=.sl el) (he:zD tab el=some e) (ho:zEF e.zero=true) (hp:zB6 S ps.toList=some pv) (hpos:Nat.beq (len*e.size) 0=false) (hsm:Nat.ble (len*e.size) 65536=true)
 (hl:zCV (fun i=>some (i*e.size,e.size)) ((List.range (len*e.size)).map fun p=>.p (e.zero.getD (p%e.size) undef)) pv=some l) (hi:l.all zM=true)
 (hn:AList P ops rest (([],[])::acc) (S.eff dst ⟨.c (.ls len e.size (sF l e.size)),[],[]⟩) Q):AList P ops ({dst,op:=.buildSlice t len ps,type:=ty,pos,after,guard}::rest) acc S Q:=
 AList.ext [] _ hw hd (fun S1 h1 _ b0 σ a w R=>by
  obtain⟨inf,z,u,i1,i2,i3,i4,i5,i6,-⟩:=zAS T he
  have hp1:zB6 S1 ps.toList=some pv:=(zFY fun p hp=>h1 p.2 (by simp only[Op.operands];simp;exact⟨p.1,by simpa using hp⟩)).trans hp
  obtain⟨q1,q2⟩:=zFZ R hp1
  have hne:¬len*e.size=0:=fun h=>by rw[h]at hpos;cases hpos
  have hzs:z.cells.size=e.size:=by rw[i5];simp[i6]
  have hep:0<e.size:=Nat.pos_of_ne_zero fun h=>hne (by rw[h,Nat.mul_zero])
  have hz0:RepL (RepC σ (out b0 σ S1.h) w) ((List.range (len*e.size)).map fun p=>CV.p (e.zero.getD (p%e.size) undef)) ((Array.range (len*inf.size)).map (z.cells[· % z.cells.size]!)).toList:=by
   rw[i2];refine zA5 (by simp) fun i x v g1 g2=> ?_
   have hi:i<len*e.size:=by have:=(List.getElem?_eq_some_iff.1 g1).1;simpa using this
   have hm:i%e.size<e.zero.length:=by rw[i6];exact Nat.mod_lt _ hep
   rw[List.getElem?_map,List.getElem?_range hi]at g1
   cases g1
   have:v=e.zero[i%e.size]:=by
    rw[Array.getElem?_toList]at g2;have hm2:i%z.cells.size<z.cells.size:=by rw[hzs];exact Nat.mod_lt _ hep
    simp[hi]at g2
    rw[←g2];have h3:i%z.cells.size=i%e.size:=by rw[hzs]
    simp only[h3]
    simp[i5,hm]
   subst this;show RepC _ _ _ (CV.p (e.zero.getD (i%e.size) undef)) _;rw[show e.zero.getD (i%e.size) undef=e.zero[i%e.size] by simp[List.getD,hm]]
   exact⟨List.all_eq_true.1 ho _ (List.getElem_mem hm),rfl⟩
  obtain⟨cs',r1,r2⟩:=zFH (R:=RepC σ (out b0 σ S1.h) w) (place':=fun i=>some (i*inf.size,inf.size)) (fun i=>by rw[i2]) hl hz0 q1 q2
  have hrun:=run_buildSlice (P:=P) w t el len (ps.map fun p=>(p.1,a.eval p.2)) cs' inf z (zBL T ht hk) i1 i4 (by rw[i2];have:=Nat.ble_eq.mp hsm;omega) (by rw[i2];exact hne) (by simpa using r1)
  have hex:(execOp a.eval {dst,op:=.buildSlice t len ps,type:=ty,pos,after,guard}).run P w=.ok (.value (.slice (some ⟨w.heap.size,0,none⟩) len len)) (w.alloc (.cells cs' el)):=by
   simp only[execOp,hrun,Sem.run_bind,Result.andThen_ok,Sem.run_pure]
  rw[hex]
  refine⟨⟨rfl,some ⟨w.heap.size,0,none⟩,len,rfl,Nat.le_refl _,fun k hk j hj=> ?_⟩,(Ext.refl w).alloc _⟩
  have hcl:=r2.length;have hll:l.length=len*e.size:=by
   have :∀(pv:List (Nat×List CV)) (c l:List CV),zCV (fun i=>some (i*e.size,e.size)) c pv=some l→l.length=c.length:=by
    intro pv
    induction pv with
    |nil=>intro c l h;cases h;rfl
    | cons p pv ih=>
      intro c l h;unfold zCV at h
      simp only at h
      cases hb:(Nat.beq p.2.length e.size && Nat.ble (p.1*e.size+p.2.length) c.length)with
      |false=>rw[hb]at h;cases h
      | true=>
        rw[hb]at h;rw[ih _ _ h]
        simp only[Bool.and_eq_true]at hb
        have:=Nat.ble_eq.mp hb.2
        simp
        omega
   rw[this _ _ _ hl]
   simp
  have hlt:k*e.size+j<l.length:=by
   rw[hll];have:=Nat.mul_le_mul_right e.size (show k+1≤len by omega);rw[Nat.succ_mul]at this
   omega
  obtain⟨v,f1,f2⟩:=r2.get (List.getElem?_eq_getElem hlt)
  refine⟨⟨w.heap.size,0,none⟩,v,rfl,fun ho=>Nat.lt_irrefl _ (zDh R ho),?_,f2.1,?_⟩
  ·rw[zCS,Nat.zero_add,World.cell?_alloc_new]
   simpa using f1
  ·have himm:=List.all_eq_true.1 hi _ (List.getElem_mem hlt)
   unfold sF;rw[show l.getD (k*e.size+j) .any=l[k*e.size+j] by simp[List.getD,hlt]]
   exact(zBo himm f2).keep (Keep.of_ext ((Ext.refl w).alloc _)) fun b hb=>.inl hb) hn
end ops
end
section
variable{P:Program}{tab:List (TypeId×TD)}
theorem zK7{w:World}(t ty e:TypeId)(i:TypeInfo)(z:Value)(size bytes:Nat)(ht:P.underlying t=some (.slice e))(hi:P.info? e=some i)(hz:i.zero=some z)
 (hsize:i.size=size) (hby:i.bytes=bytes) (hzs:z.cells.size=size) (hsz:0<size) (v:Value) (n:Nat) (xs:List Value) (hxs:xs.length=n*size)
 (hv:(v=.slice none 0 0∧n=0)∨∃g cap cur,v=.slice (some ⟨g,0,none⟩) n cap∧w.heap[g]?=some (.cells cur e (0,0))∧n≤cap∧cap≤maxLen∧cur.size=cap*size∧cur.toList.take (n*size)=xs)
 (A:Option Addr) (m c:Nat) (ys:List Value) (hl:ys.length=m*size) (hr:Lst w A ys) (h1:∀u∈ys,u.oneCell'=true) (h63:n+m≤maxLen) (hbytes:(n+m)*bytes≤140737488355328):
 ∃ v' w',(Builtin.append_ #[t,t] ty #[v,.slice A m c]).run P w=.ok v' w'∧w.grownBy w' v.ownBlock∧
   ((v'=.slice none 0 0∧n+m=0)∨∃b' cap' cs',v'=.slice (some ⟨b',0,none⟩) (n+m) cap'∧n+m≤cap'∧cap'≤maxLen∧w'.heap[b']?=some (.cells cs' e (0,0))∧cs'.size=cap'*size∧cs'.toList.take ((n+m)*size)=xs++ys∧((v.ownBlock=some b'∧∀A0 n0 c0,v=.slice A0 n0 c0→cap'=c0)∨(b'=w.heap.size∧w.grownBy w' none))):=by
 subst hsize hby;have hlen:(xs++ys).length=(n+m)*i.size:=by rw[List.length_append,hxs,hl,Nat.add_mul]
 have hown:w.ownsRow 0 e i.size v n xs:=⟨hxs,hv.imp (fun h=>h) fun ⟨g,cap,cur,a1,a2,a3,a4,a5,a6⟩=>⟨g,cap,cur,a1,Nat.zero_le _,a2,a3,a4,a5,a6⟩⟩;have same:m=0→(Builtin.append_ #[t,t] ty #[v,.slice A m c]).run P w=.ok v w→∃v' w',(Builtin.append_ #[t,t] ty #[v,.slice A m c]).run P w=.ok v' w'∧w.grownBy w' v.ownBlock∧
  ((v'=.slice none 0 0∧n+m=0)∨∃b' cap' cs',v'=.slice (some ⟨b',0,none⟩) (n+m) cap'∧n+m≤cap'∧cap'≤maxLen∧w'.heap[b']?=some (.cells cs' e (0,0))∧cs'.size=cap'*i.size∧cs'.toList.take ((n+m)*i.size)=xs++ys∧((v.ownBlock=some b'∧∀A0 n0 c0,v=.slice A0 n0 c0→cap'=c0)∨(b'=w.heap.size∧w.grownBy w' none))):=fun hm hrun=>by
  subst hm;have hy:ys= []:=List.eq_nil_of_length_eq_zero (by simpa using hl);subst hy
  refine⟨v,w,hrun,World.grownBy.refl w _,?_⟩
  rcases hv with ⟨rfl,rfl⟩|⟨g,cap,cur,rfl,a2,a3,a4,a5,a6⟩
  ·exact .inl ⟨rfl,rfl⟩
  ·exact .inr ⟨g,cap,cur,rfl,a3,a4,a2,a5,by simpa using a6,.inl ⟨rfl,fun _ _ _ h=>by cases h;rfl⟩⟩
 have grown:∀(old:Nat),old<n+m→∃cap' cs',n+m≤cap'∧cap'≤maxLen∧(w.drew.alloc (.cells (xs.toArray++ys.toArray++Builtin.zeroCells z.cells (grownCap w (n+m) old e-(n+m))) e)).heap[w.heap.size]?=some (.cells cs' e (0,0))∧cs'.size=cap'*i.size∧cs'.toList.take ((n+m)*i.size)=xs++ys∧cap'=grownCap w (n+m) old e:=fun old ho=>by
  have hge:=grownCap_ge w (n+m) old e;have hcm:grownCap w (n+m) old e≤maxLen:=grownCap_le_maxLen w (n+m) old e h63
  refine⟨_,_,hge,hcm,heap_alloc_new w.drew _,?_,?_,rfl⟩
  ·simp only[Array.size_append,List.size_toArray,size_zeroCells,hzs,hxs,hl,←Nat.add_mul]
   congr 1
   omega
  ·simp only[Array.toList_append,List.append_assoc]
   rw[←List.append_assoc,←hlen];exact List.take_left
 have gb:∀(o:Obj) (row:Option Nat),w.grownBy (w.drew.alloc o) row:=fun o row=>⟨rfl,rfl,rfl,by simp,fun k hk _=>Below.block ((Ext.refl w.drew).alloc o) k hk⟩
 rcases A with _|ad
 ·have hm:m=0:=by
   rcases Nat.eq_zero_or_pos m with h0|h0
   ·exact h0
   ·have:=Nat.mul_pos h0 hsz
    obtain⟨u,hu⟩:∃u,ys[0]?=some u:=⟨ys[0]'(by omega),List.getElem?_eq_getElem _⟩
    obtain⟨ad,h,_⟩:=hr 0 u hu
    cases h
  subst hm;exact same rfl (zRU t ty i ht hi hown c)
 ·have hcells:∀(j:Nat) (u:Value),ys[j]?=some u→w.cell? (ad.add j)=some u:=fun j u hj=>by obtain⟨ad',he,hc⟩:=hr j u hj;cases he;exact hc
  rcases hv with ⟨rfl,rfl⟩|⟨g,cap,cur,rfl,hg,hnc,hcm,hcs,htake⟩
  ·have hx:xs= []:=List.eq_nil_of_length_eq_zero (by simpa using hxs)
   subst hx;by_cases hm:m=0
   ·refine same hm ?_
    subst hm;have hn:ys= []:=List.eq_nil_of_length_eq_zero (by simpa using hl);subst hn
    simp[Builtin.append_,run_underlying ht,sizeOf,typeInfo,hi,Builtin.lenOf,Builtin.firstCells,loadCells,loadCellsFrom]
   ·have hr:=run_append_nil (P:=P) w t ty e i z ht hi hz ad m c ys hl hcells (by omega) (by simp only[maxLen]at h63;omega) (by have hb:=hbytes;simp only[Nat.zero_add]at hb;omega)
    obtain⟨cap',cs',k1,k2,k3,k4,k5,k6⟩:=grown 0 (by omega)
    simp only[Nat.zero_add,List.nil_append,Array.empty_append]at k1 k2 k3 k4 k5 k6⊢
    refine⟨_,_,hr,gb _ _,.inr ⟨w.heap.size,cap',cs',by rw[k6],k1,k2,k3,k4,k5,.inr ⟨rfl,gb _ _⟩⟩⟩
  ·by_cases hroom:n+m≤cap
   ·have hfit:n*i.size+ys.length≤cur.size:=by rw[hl,hcs,←Nat.add_mul];exact Nat.mul_le_mul_right _ hroom
    have hr:=run_append_room (P:=P) w t ty e i ht hi g n cap cur hg ad m c ys hl hcells h1 hroom hfit
    refine⟨_,_,hr,⟨rfl,rfl,rfl,by simp,fun k _ hk=>setRow_other w g k _ (fun e=>hk (by simp[Value.ownBlock,e]))⟩,.inr ⟨g,cap,_,rfl,hroom,hcm,setRow_heap w g cur _ e _ hg,?_,?_,.inl ⟨rfl,fun _ _ _ h=>by cases h;rfl⟩⟩⟩
    ·simp only[List.size_toArray,List.length_append,List.length_take,List.length_drop,Array.length_toList]
     omega
    ·rw[htake,←hlen]
     exact List.take_left
   ·have holds:∀j u,xs[j]?=some u→w.cell? ((⟨g,0,none⟩:Addr).add j)=some u:=hown.cells (g:=g) rfl
    have hr:=run_append_grow (P:=P) w t ty e i z ht hi hz ⟨g,0,none⟩ n cap xs hxs holds ad m c ys hl hcells (by omega) (by simp only[maxLen]at h63;omega) (growslice_fits (by omega) hbytes)
    obtain⟨cap',cs',k1,k2,k3,k4,k5,k6⟩:=grown cap (by omega)
    exact⟨_,_,hr,gb _ _,.inr ⟨w.heap.size,cap',cs',by rw[k6],k1,k2,k3,k4,k5,.inr ⟨rfl,gb _ _⟩⟩⟩
def zBn(o:Option Nat)(id:Nat)(B:AB):List (Nat×Option AB):=
 match o with
 |some i=> [(i,none),(id,some B)]
 |none=> [(id,some B)]
def zAj(F:Nat→Nat→CV)(n:Nat)(G:Nat→Nat→CV)(k j:Nat):CV:=bif Nat.blt k n then F k j else G (k-n) j
theorem zIi{n sz p:Nat}(hp:p<n*sz):p/sz<n∧p%sz<sz∧p/sz*sz+p%sz=p:=by
 have hsz:0<sz:=Nat.pos_of_ne_zero fun h=>by rw[h,Nat.mul_zero]at hp;omega
 exact⟨(Nat.div_lt_iff_lt_mul hsz).2 hp,Nat.mod_lt _ hsz,by rw[Nat.mul_comm];exact Nat.div_add_mod p sz⟩
theorem zCi{n sz k j:Nat}(hk:k<n)(hj:j<sz):k*sz+j<n*sz:=by
 have:=Nat.mul_le_mul_right sz (show k+1≤n by omega);rw[Nat.succ_mul]at this
 omega
def Src(σ:Nat→Option Value)(O:Nat→Prop)(w:World)(u:Value)(m sz:Nat)(G:Nat→Nat→CV):Prop:=
 ∃A c ys,u=.slice A m c∧ys.length=m*sz∧Lst w A ys∧∀k,k<m→∀j,j<sz→∃v,ys[k*sz+j]?=some v∧RepC σ O w (G k j) v
theorem zE2{σ:Nat→Option Value}{O:Nat→Prop}{w:World}{u:Value}{m sz:Nat}{G:Nat→Nat→CV}(h:RepA σ O w (.c (.ls m sz G)) u):Src σ O w u m sz G:=by
 obtain⟨-,A,cap,rfl,hcap,hc⟩:=h
 let g:Nat→Value:=fun p=>match A with|some ad=>(w.cell? (ad.add p)).getD undef|none=>undef
 refine⟨A,cap,(List.range (m*sz)).map g,rfl,by simp,fun p v hp=> ?_,fun k hk j hj=> ?_⟩
 ·have hlt:p<m*sz:=by have:=(List.getElem?_eq_some_iff.1 hp).1;simpa using this
  obtain⟨h1,h2,h3⟩:=zIi hlt
  obtain⟨ad,v',e1,e2,e3,e4,e5⟩:=hc _ h1 _ h2
  rw[h3]at e3;subst e1
  refine⟨ad,rfl,?_⟩
  rw[List.getElem?_map,List.getElem?_range hlt]at hp
  cases hp
  simp only[g,e3]
  rfl
 ·obtain⟨ad,v',e1,e2,e3,e4,e5⟩:=hc k hk j hj
  subst e1
  refine⟨v',?_,?_⟩
  ·rw[List.getElem?_map,List.getElem?_range (zCi hk hj)]
   simp only[g,e3,Option.map_some,Option.getD_some]
  ·show RepC σ O w (G k j) v'
   cases hG:G k j<;>rw[hG]at e5<;>first|exact⟨e4,e5⟩|exact e5.elim
theorem zR8{σ:Nat→Option Value}{O:Nat→Prop}{w:World}{u:Value}{sz:Nat}{G:Nat→Nat→CV}(h:RepA σ O w (.c (.p (.slice none 0 0))) u):Src σ O w u 0 sz G:=
 ⟨none,0,[],h.2,by simp,fun p v hp=>by simp at hp,fun k hk=>absurd hk (Nat.not_lt_zero _)⟩
theorem zR9{b0:zN}{σ:Nat→Option Value}{S:St}{a:Act}{w:World}(R:Rel0 b0 σ S a w){u:Value}{id:Nat}{B:AB}(h:RepA σ (out b0 σ S.h) w (.c (.ow id)) u)(hh:S.h id=some B)(hr:B.row=true):Src σ (out b0 σ S.h) w u B.n B.sz B.F:=by
 obtain⟨v,f1,f2⟩:=R.hp.blk id B hh
 have e0:=h.2.1;rw[e0]at f1
 cases f1
 rcases f2.row hr with ⟨_,h1,h0⟩|⟨b,cap,cs,h1,h2,h3,h4⟩
 ·exact⟨none,0,[],by rw[h1,h0],by rw[h0];simp,fun p v hp=>by simp at hp,fun k hk=>by omega⟩
 ·rcases h1 with ⟨_,h1,h5,h6⟩|⟨h1,_⟩
  ·have hle:B.n*B.sz≤cs.size:=by rw[h3];exact Nat.mul_le_mul_right _ h5
   refine⟨some ⟨b,0,none⟩,cap,cs.toList.take (B.n*B.sz),h1,by simp;omega,fun p v hp=>⟨⟨b,0,none⟩,rfl,?_⟩,fun k hk j hj=> ?_⟩
   ·have hlt:p<B.n*B.sz:=by have:=(List.getElem?_eq_some_iff.1 hp).1;simp at this;omega
    rw[List.getElem?_take_of_lt hlt]at hp;rw[zCS,Nat.zero_add]
    exact(cell_of_row w b _ cs B.ty (0,0) h2).trans (by simpa using hp)
   ·obtain⟨v,g1,g2⟩:=h4 k hk j hj
    exact⟨v,by rw[List.getElem?_take_of_lt (zCi hk hj)];simpa using g1,g2⟩
  ·rw[hr]at h1;cases h1
section ops
variable{ops:Array Oper}{rest:List Oper}{acc:List (List Nat×List Nat)}{S:St}{Q:List (List Nat×List Nat)→St→Prop}{dst:Option Tmp}{ty:TypeId}{pos:String}{after:Array Edge}{guard:Option (Nat×Bool)}
theorem LStep.app(T:zAq P tab=true){id:Nat}{s x:Operand}{t el:TypeId}{d e:TD}{vs:CV}{o:Option Nat}{n m:Nat}{F G:Nat→Nat→CV}{y:AV}(rd:List Nat)
 (hw:S.wants ops {dst:=some id,op:=.call {callee:=.builtin .append,args:= #[s,x],argTypes:= #[t,t]},type:=ty,pos,after,guard}=some true) (hd:dOk S.n (some id)=true) (hf:S.fr id=true)
 (hs:S.opd s=some (.c vs)) (hx:S.opd x=some y) (ht:zD tab t=some d) (hk:d.k=.sl el) (he:zD tab el=some e) (hsz:0<e.size)
 (ho:(o=none∧vs=.p (.slice none 0 0)∧n=0)∨∃id1,o=some id1∧vs=.ow id1∧S.h id1=some ⟨true,n,e.size,el,F⟩∧id1<1000)
 (hsrc:∀S1:St,(∀id∈rd,S1.h id=S.h id)→∀b0 σ a w,Rel0 b0 σ S1 a w→∀u,RepA σ (out b0 σ S1.h) w y u→Src σ (out b0 σ S1.h) w u m e.size G)
 (h63:n+m≤4611686018427387904) (hb:(n+m)*e.bytes≤140737488355328):
 LStep P ops {dst:=some id,op:=.call {callee:=.builtin .append,args:= #[s,x],argTypes:= #[t,t]},type:=ty,pos,after,guard} (o.toList++rd) ⟨.c (.ow id),zBn o id ⟨true,n+m,e.size,el,zAj F n G⟩,[id]⟩ S:=
 LStep.of hw fun S1 hA hr1 hal b0 σ a w R=>by
  obtain⟨inf,z,u,i1,i2,i3,i4,i5,i6,-⟩:=zAS T he
  have hzs:z.cells.size=e.size:=by rw[i5];simp[i6]
  obtain⟨hfr,hidl⟩:=R.fr id ((hal id (by simp)).trans hf)
  have rs:=zW R ((hA.op s (by simp[Op.operands,Call.operands])).trans hs)
  obtain⟨A,c,ys,y1,y2,y3,y4⟩:=hsrc S1 (fun i hi=>hr1 i (List.mem_append_right _ hi)) b0 σ a w R _ (zW R ((hA.op x (by simp[Op.operands,Call.operands])).trans hx))
  have yone:∀u∈ys,u.oneCell'=true:=fun u hu=>by
   obtain⟨p,hp,rfl⟩:=List.getElem_of_mem hu
   obtain⟨h1,h2,h3⟩:=zIi (show p<m*e.size by omega)
   obtain⟨v,g1,g2⟩:=y4 _ h1 _ h2
   rw[h3,List.getElem?_eq_getElem hp]at g1
   cases g1
   exact g2.1
  obtain⟨xs,hxl,hv,hxc,hown⟩:∃xs:List Value,xs.length=n*e.size∧((a.eval s=.slice none 0 0∧n=0)∨∃g cap cur,a.eval s=.slice (some ⟨g,0,none⟩) n cap∧w.heap[g]?=some (.cells cur el (0,0))∧n≤cap∧cap≤maxLen∧cur.size=cap*e.size∧cur.toList.take (n*e.size)=xs)∧
   (∀k,k<n→∀j,j<e.size→∃v,xs[k*e.size+j]?=some v∧RepC σ (out b0 σ S1.h) w (F k j) v)∧(∀b,(a.eval s).ownBlock=some b→∃id1,o=some id1∧S1.h id1≠none∧σ id1=some (a.eval s)∧zAl (a.eval s)=some b):=by
   rcases ho with ⟨rfl,rfl,rfl⟩|⟨id1,rfl,rfl,hB,-⟩
   ·have e0:a.eval s=.slice none 0 0:=rs.2
    exact⟨[],by simp,.inl ⟨e0,rfl⟩,fun k hk=>absurd hk (Nat.not_lt_zero _),fun b hb=>by rw[e0]at hb;cases hb⟩
   ·have hB1:=(hr1 id1 (by simp)).trans hB
    obtain⟨v,f1,f2⟩:=R.hp.blk id1 _ hB1
    have e0:=rs.2.1;rw[e0]at f1
    cases f1
    have hob:∀b,(a.eval s).ownBlock=some b→∃id,some id1=some id∧S1.h id≠none∧σ id=some (a.eval s)∧zAl (a.eval s)=some b:=fun b hb=>⟨id1,rfl,by rw[hB1];simp,e0,by
     cases hc:a.eval s with
     |slice A n c=>rw[hc]at hb;cases A<;>exact hb
     |_=>rw[hc]at hb;cases hb⟩
    rcases f2.row rfl with ⟨_,h1,h0⟩|⟨b,cap,cs,h1,h2,h3,h4⟩
    ·obtain rfl:n=0:=h0
     exact⟨[],by simp,.inl ⟨h1,rfl⟩,fun k hk=>absurd hk (Nat.not_lt_zero _),hob⟩
    ·rcases h1 with ⟨_,h1,h5,h6⟩|⟨h1,_⟩
     ·simp only at h1 h2 h3 h4 h5
      have hle:n*e.size≤cs.size:=by rw[h3];exact Nat.mul_le_mul_right _ h5
      refine⟨cs.toList.take (n*e.size),by simp;omega,.inr ⟨b,cap,cs,h1,h2,h5,h6,h3,rfl⟩,fun k hk j hj=> ?_,hob⟩
      obtain⟨v,g1,g2⟩:=h4 k hk j hj
      exact⟨v,by rw[List.getElem?_take_of_lt (zCi hk hj)];simpa using g1,g2⟩
     ·cases h1
  obtain⟨v',w',r1,r2,r3⟩:=zK7 (P:=P) (w:=w) t ty el inf z e.size e.bytes (zBL T ht hk) i1 i4 i2 i3 hzs hsz (a.eval s) n xs hxl hv A m c ys y2 y3 yone (by simp only[maxLen];omega) hb
  have hex:(execOp a.eval {dst:=some id,op:=.call {callee:=.builtin .append,args:= #[s,x],argTypes:= #[t,t]},type:=ty,pos,after,guard}).run P w=.ok (.value v') w':=by
   simp only[execOp,resolve,invoke,builtin,Sem.run_bind,Sem.run_pure,Result.andThen_ok,List.map_toArray,List.map_cons,List.map_nil,y1,r1]
  rw[hex];have hK:Keep (own σ S1.h) w w':=⟨r2.os,r2.tape,r2.output,r2.size,fun k hk hno=>r2.block k hk fun e=>by
   obtain⟨id1,_,g1,g2,g3⟩:=hown k e.symm
   exact hno ⟨id1,_,g1,g2,g3⟩⟩
  have hsub:∀i u,σ i=some u→put σ id (some v') i=some u:=fun i u h=>by
   rw[zX _ _ (fun e=>by rw[e,hfr]at h;cases h)];exact h
  generalize hB':(⟨true,n+m,e.size,el,zAj F n G⟩:AB)=B';have hlk:∀h:Nat→Option AB,zAb (zBn o id B') h=match o with|some i=>put (put h id (some B')) i none|none=>put h id (some B'):=fun h=>by cases o<;>rfl
  have hidne:∀id1,o=some id1→id1≠id:=fun id1 h1 e=>by
   rcases ho with ⟨h2,_⟩|⟨id2,h2,h3,h4⟩
   ·rw[h1]at h2;cases h2
   ·rw[h1]at h2
    cases h2
    subst h3;have:=rs.2.1;rw[e,hfr]at this
    cases this
  have hid:zAb (zBn o id B') S1.h id=some B':=by
   rw[hlk]
   cases o with
   |none=>exact zAn _ _ _
   |some i=>exact(zX _ _ (Ne.symm (hidne i rfl))).trans (zAn _ _ _)
  have hoth:∀i,i≠id→zAb (zBn o id B') S1.h i=none∨(zAb (zBn o id B') S1.h i=S1.h i∧o≠some i):=fun i hi=>by
   rw[hlk]
   cases o with
   |none=>exact .inr ⟨zX _ _ hi,by simp⟩
   | some i1=>
     by_cases h1:i=i1
     ·subst h1;exact .inl (zAn _ _ _)
     ·exact .inr ⟨(zX _ _ h1).trans (zX _ _ hi),fun h=>h1 (Option.some.inj h).symm⟩
  have holdblk:∀i u b,i≠id→zAb (zBn o id B') S1.h i≠none→σ i=some u→zAl u=some b→some b≠(a.eval s).ownBlock∧S1.h i≠none:=fun i u b hi h1 h2 h3=>by
   rcases hoth i hi with h0|⟨h0,hoi⟩
   ·exact absurd h0 h1
   ·rw[h0]at h1
    refine⟨fun e=> ?_,h1⟩
    obtain⟨id1,g0,g1,g2,g3⟩:=hown b e.symm
    have:=R.hp.inj i id1 u _ b h1 g1 h2 g2 h3 g3;subst this;exact hoi g0
  have hv'b:∀b,zAl v'=some b→(a.eval s).ownBlock=some b∨b=w.heap.size:=fun b hb=>by
   rcases r3 with ⟨rfl,_⟩|⟨b',cap',cs',rfl,_,_,_,_,_,h⟩
   ·cases hb
   ·cases hb;exact h.imp (fun h=>h.1) fun h=>h.1
  have hout:∀b,out b0 (put σ id (some v')) (zAb (zBn o id B') S1.h) b→out b0 σ S1.h b∨w.heap.size≤b:=fun b hb=>by
   rcases hb with ⟨i,u,h1,h2,h3⟩|hb
   ·by_cases hi:i=id
    ·subst hi
     rw[zAn]at h2
     cases h2
     rcases hv'b b h3 with h|h
     ·obtain⟨id1,_,g1,g2,g3⟩:=hown b h
      exact .inl (.inl ⟨id1,_,g1,g2,g3⟩)
     ·exact .inr (by omega)
    ·rw[zX _ _ hi]at h2
     exact .inl (.inl ⟨i,u,(holdblk i u b hi h1 h2 h3).2,h2,h3⟩)
   ·exact .inl (.inr hb)
  obtain⟨H,_,hO⟩:=R.hp.put (id:=id) (B':=B') (v':=v') (σ':=put σ id (some v')) (h':=zAb (zBn o id B') S1.h) (w':=w') hsub hid (zAn _ _ _)
   (fun i hi=>(hoth i hi).imp (fun h=>h) fun h=>h.1) hK
   (fun i u hi=>by
     obtain⟨h1,-⟩:=b0.one i u hi
     have h3:=R.hp.fx i u hi
     rcases hoth i (by omega)with h0|h0
     ·exfalso
      rw[hlk]at h0
      rcases ho with ⟨ho,_⟩|⟨id1,ho,hvs,_,hlo⟩
      ·subst ho
       exact h3.2 ((zX _ _ (by omega)).symm.trans h0)
      ·subst ho hvs
       exact h3.2 (((zX _ _ (by omega)).trans (zX _ _ (by omega))).symm.trans h0)
     ·rw[h0.1];exact h3.2) (fun i hi=>zX _ _ (by omega))
   (fun i u b hi h1 h2 h3=>by
     obtain⟨g1,g2⟩:=holdblk i u b hi h1 h2 h3
     exact r2.block b (R.hp.lt ⟨i,u,g2,h2,h3⟩) g1)
   (by
     subst hB'
     rcases r3 with ⟨rfl,h0⟩|⟨b',cap',cs',rfl,k1,k2,k3,k4,k5,_⟩
     ·exact .inl ⟨rfl,rfl,h0⟩
     ·refine .inr<| .inl ⟨b',cap',cs',.inl ⟨rfl,rfl,k1,k2⟩,k3,k4,fun k hk j hj=> ?_⟩
      have hk':k<n+m:=hk;have hj':j<e.size:=hj;have hget:cs'[k*e.size+j]?=(xs++ys)[k*e.size+j]?:=by
       rw[←k5,List.getElem?_take_of_lt (zCi hk' hj')];simp
      show ∃u,cs'[k*e.size+j]?=some u∧RepC _ _ w' (zAj F n G k j) u;rw[hget];unfold zAj;by_cases hkn:k<n
      ·rw[Nat.blt_eq.mpr hkn,List.getElem?_append_left (by rw[hxl];exact zCi hkn hj')]
       obtain⟨v,g1,g2⟩:=hxc k hkn j hj'
       exact⟨v,g1,g2.keep hK.out hout hsub⟩
      ·rw[show Nat.blt k n=false from Bool.eq_false_iff.2 fun h=>hkn (Nat.blt_eq.mp h)]
       have hge:n*e.size≤k*e.size:=Nat.mul_le_mul_right _ (by omega);rw[List.getElem?_append_right (by rw[hxl];omega),hxl]
       obtain⟨v,g1,g2⟩:=y4 (k-n) (by omega) j hj'
       refine⟨v,?_,g2.keep hK.out hout hsub⟩
       rw[←g1,Nat.sub_mul]
       congr 1
       omega)
   (fun b hb=>by
     refine⟨?_,?_,fun i u hi h1 h2 h3=> ?_⟩
     ·rcases hv'b b hb with h|h
      ·obtain⟨id1,_,g1,g2,g3⟩:=hown b h
       exact R.hp.new b ⟨id1,_,g1,g2,g3⟩
      ·rw[h];exact .inl R.ext.size
     ·rcases hv'b b hb with h|h
      ·obtain⟨id1,_,g1,g2,g3⟩:=hown b h
       exact .inl ⟨id1,_,g1,g2,g3⟩
      ·exact .inr (by omega)
     ·obtain⟨g1,g2⟩:=holdblk i u b hi h1 h2 h3
      rcases hv'b b hb with h|h
      ·exact g1 h.symm
      ·have:=R.hp.lt ⟨i,u,g2,h2,h3⟩
       omega)
  exact⟨put σ id (some v'),R.step (e:=⟨.c (.ow id),zBn o id B',[id]⟩) (by rw[hA.n];exact hd) hsub hK H hO (fun _=>by
   rcases r3 with ⟨rfl,_⟩|⟨b',cap',cs',rfl,_⟩
   ·exact zD0 (zAn _ _ _)
   ·exact zD0 (zAn _ _ _)) (fun i hi=>by
   by_cases e:i=id
   ·exact .inr (by simp[e])
   ·rw[zX _ _ e]at hi;exact .inl hi)⟩
theorem AList.app(T:zAq P tab=true){id:Nat}{s x:Operand}{t el:TypeId}{d e:TD}{vs:CV}{o:Option Nat}{n m:Nat}{F G:Nat→Nat→CV}{y:AV}(rd:List Nat)
 (hw:S.wants ops {dst:=some id,op:=.call {callee:=.builtin .append,args:= #[s,x],argTypes:= #[t,t]},type:=ty,pos,after,guard}=some true) (hd:dOk S.n (some id)=true) (hf:S.fr id=true)
 (hs:S.opd s=some (.c vs)) (hx:S.opd x=some y) (ht:zD tab t=some d) (hk:d.k=.sl el) (he:zD tab el=some e) (hsz:0<e.size)
 (ho:(o=none∧vs=.p (.slice none 0 0)∧n=0)∨∃id1,o=some id1∧vs=.ow id1∧S.h id1=some ⟨true,n,e.size,el,F⟩∧id1<1000)
 (hsrc:∀S1:St,(∀id∈rd,S1.h id=S.h id)→∀b0 σ a w,Rel0 b0 σ S1 a w→∀u,RepA σ (out b0 σ S1.h) w y u→Src σ (out b0 σ S1.h) w u m e.size G)
 (h63:n+m≤4611686018427387904) (hb:(n+m)*e.bytes≤140737488355328)
 (hn:AList P ops rest (((o.toList++rd)++ [id],(zBn o id ⟨true,n+m,e.size,el,zAj F n G⟩).map (·.1)++ [id])::acc)
   (S.eff (some id) ⟨.c (.ow id),zBn o id ⟨true,n+m,e.size,el,zAj F n G⟩,[id]⟩) Q):
 AList P ops ({dst:=some id,op:=.call {callee:=.builtin .append,args:= #[s,x],argTypes:= #[t,t]},type:=ty,pos,after,guard}::rest) acc S Q:=
 AList.cons (o.toList++rd) ⟨.c (.ow id),zBn o id ⟨true,n+m,e.size,el,zAj F n G⟩,[id]⟩ (LStep.app T rd hw hd hf hs hx ht hk he hsz ho hsrc h63 hb) hn
end ops
end
end Go.AV
end
