/- Parts of the proof: AAppZ, A30o, ADel. -/
import Derived.Lib.AppendZerosOnto
import Derived.Test.YtbffmfeldkjkcaaGreatG42
import Derived.Shelf.Slices.Delete
set_option linter.unusedSimpArgs false
set_option linter.unusedVariables false
set_option maxHeartbeats 0
set_option maxRecDepth 100000
section
namespace Go.AV
open Go Go.RowKit Go.Flow
section
variable{P:Program}{tab:List (TypeId×TD)}
theorem zOj(z0:Value)(m:Nat):(Builtin.zeroCells #[z0] m).toList=List.replicate m z0:=by
 simp[Builtin.zeroCells]
 apply List.ext_getElem
 ·simp
 ·intro i h1 h2
  simp[Nat.mod_one]
theorem zPs{w:World}(t tn ty e:TypeId)(kn:IntKind)(i:TypeInfo)(z z0:Value)(bytes:Nat)(ht:P.underlying t=some (.slice e))(htn:P.underlying tn=some (.int kn))(hi:P.info? e=some i)(hz:i.zero=some z)
 (hsize:i.size=1) (hby:i.bytes=bytes) (hzc:z.cells= #[z0]) (h1:z0.oneCell'=true) (v:Value) (n:Nat) (xs:List Value) (hxs:xs.length=n*1)
 (hv:(v=.slice none 0 0∧n=0)∨∃g cap cur,v=.slice (some ⟨g,0,none⟩) n cap∧w.heap[g]?=some (.cells cur e (0,0))∧n≤cap∧cap≤maxLen∧cur.size=cap*1∧cur.toList.take (n*1)=xs)
 (m:Nat) (h63:n+m≤maxLen) (hbytes:(n+m)*bytes≤140737488355328):
 ∃ v' w',(Builtin.append_ #[t,tn] ty #[v,.int .i64 (m:Int)]).run P w=.ok v' w'∧w.grownBy w' v.ownBlock∧
   ((v'=.slice none 0 0∧n+m=0)∨∃b' cap' cs',v'=.slice (some ⟨b',0,none⟩) (n+m) cap'∧n+m≤cap'∧cap'≤maxLen∧w'.heap[b']?=some (.cells cs' e (0,0))∧cs'.size=cap'*1∧cs'.toList.take ((n+m)*1)=xs++List.replicate m z0∧((v.ownBlock=some b'∧∀A0 n0 c0,v=.slice A0 n0 c0→cap'=c0)∨(b'=w.heap.size∧w.grownBy w' none))):=by
 subst hby
 simp only[Nat.mul_one]at hxs hv⊢
 have hm63:m≤9223372036854775807:=by simp only[maxLen]at h63;omega
 have hw:IntKind.i64.wrap (m:Int)=m:=by rw[IntKind.wrap_i64];omega
 have hneg:¬((m:Int)<0):=by omega
 have hzs:z.cells.size=1:=by rw[hzc];rfl
 have hmb:m*i.bytes≤140737488355328:=Nat.le_trans (Nat.mul_le_mul_right _ (by omega)) hbytes;have h48:¬(281474976710656<(m:Int)*(i.bytes:Int)):=by rw[←Int.natCast_mul];omega
 have gb:∀(o:Obj) (row:Option Nat),w.grownBy (w.drew.alloc o) row:=fun o row=>⟨rfl,rfl,rfl,by simp,fun k hk _=>Below.block ((Ext.refl w.drew).alloc o) k hk⟩
 have grown:∀(old:Nat),old<n+m→∃cap' cs',n+m≤cap'∧cap'≤maxLen∧(w.drew.alloc (.cells (xs.toArray++Builtin.zeroCells z.cells m++Builtin.zeroCells z.cells (grownCap w (n+m) old e-(n+m))) e)).heap[w.heap.size]?=some (.cells cs' e (0,0))∧cs'.size=cap'∧cs'.toList.take (n+m)=xs++List.replicate m z0∧cap'=grownCap w (n+m) old e:=fun old ho=>by
  have hge:=grownCap_ge w (n+m) old e;have hcm:grownCap w (n+m) old e≤maxLen:=grownCap_le_maxLen w (n+m) old e h63
  refine⟨_,_,hge,hcm,heap_alloc_new w.drew _,?_,?_,rfl⟩
  ·simp only[Array.size_append,List.size_toArray,size_zeroCells,hzs,hxs,Nat.mul_one]
   omega
  ·simp only[Array.toList_append,hzc,zOj]
   exact List.take_left' (by simp[hxs])
 by_cases hm:m=0
 ·subst hm
  refine⟨v,w,?_,World.grownBy.refl w _,?_⟩
  ·rcases hv with ⟨rfl,rfl⟩|⟨g,cap,cur,rfl,hg,hnc,hcm,hcs,htake⟩
   ·simp[Builtin.append_,run_underlying ht,run_underlying htn,sizeOf,typeInfo,hi,asInt,asIntOf,show IntKind.i64.wrap 0=0 from rfl]
   ·simp[Builtin.append_,run_underlying ht,run_underlying htn,sizeOf,typeInfo,hi,asInt,asIntOf,show IntKind.i64.wrap 0=0 from rfl,hnc,storeCells]
  ·rcases hv with ⟨rfl,rfl⟩|⟨g,cap,cur,rfl,hg,hnc,hcm,hcs,htake⟩
   ·exact .inl ⟨rfl,rfl⟩
   ·exact .inr ⟨g,cap,cur,rfl,hnc,hcm,hg,hcs,by simpa using htake,.inl ⟨rfl,fun _ _ _ h=>by cases h;rfl⟩⟩
 have hm0:0<m:=Nat.pos_of_ne_zero hm
 rcases hv with ⟨rfl,rfl⟩|⟨g,cap,cur,rfl,hg,hnc,hcm,hcs,htake⟩
 ·have hx:xs= []:=List.eq_nil_of_length_eq_zero hxs
  subst hx;have hr:=Lib.run_append_grow_zeros (P:=P) w t tn ty e i z .i64 kn ht htn hi hz none 0 0 [] (run_firstCells_none _ _ _ _ _) m hm0 (by omega) (by omega) (by omega) (by omega) (growslice_fits (by omega) hbytes)
  obtain⟨cap',cs',k1,k2,k3,k4,k5,k6⟩:=grown 0 (by omega)
  exact⟨_,_,hr,gb _ _,.inr ⟨w.heap.size,cap',cs',by rw[k6],k1,k2,k3,k4,k5,.inr ⟨rfl,gb _ _⟩⟩⟩
 ·by_cases hroom:n+m≤cap
  ·have hst:=run_storeCells_at P g n e (List.replicate m z0) 0 cur w hg (by simp;omega) (by intro v hv';rw[List.eq_of_mem_replicate hv'];exact h1)
   simp only[Nat.add_zero]at hst
   have hr:(Builtin.append_ #[t,tn] ty #[.slice (some ⟨g,0,none⟩) n cap,.int .i64 (m:Int)]).run P w=.ok (.slice (some ⟨g,0,none⟩) (n+m) cap) (w.setRow g (cur.toList.take n++List.replicate m z0++cur.toList.drop (n+(List.replicate m z0).length)).toArray):=by
    simp[Builtin.append_,run_underlying ht,run_underlying htn,sizeOf,typeInfo,zeroValue,hi,hz,asInt,asIntOf,hw,hneg,h48,hroom,hsize,hm,Addr.add_lit,hzc,zOj]at hst⊢
    rw[hst]
    rfl
   refine⟨_,_,hr,⟨rfl,rfl,rfl,by simp,fun k _ hk=>setRow_other w g k _ (fun e=>hk (by simp[Value.ownBlock,e]))⟩,.inr ⟨g,cap,_,rfl,hroom,hcm,setRow_heap w g cur _ e _ hg,?_,?_,.inl ⟨rfl,fun _ _ _ h=>by cases h;rfl⟩⟩⟩
   ·simp only[List.size_toArray,List.length_append,List.length_take,List.length_drop,Array.length_toList,List.length_replicate]
    omega
   ·rw[htake]
    exact List.take_left' (by simp[hxs])
  ·have holds:∀j u,xs[j]?=some u→w.drew.cell? ((⟨g,0,none⟩:Addr).add j)=some u:=fun j u hj=>by
    have hjl:j<n:=by have:=(List.getElem?_eq_some_iff.1 hj).1;omega
    rw[zCS,Nat.zero_add]
    refine(cell_of_row w.drew g j cur e (0,0) hg).trans ?_
    rw[←htake,List.getElem?_take_of_lt hjl]at hj
    simpa using hj
   have hr:=Lib.run_append_grow_zeros (P:=P) w t tn ty e i z .i64 kn ht htn hi hz (some ⟨g,0,none⟩) n cap xs (run_firstCells_some (P:=P) w.drew i.size n _ n cap xs (by rw[hsize,hxs,Nat.mul_one]) holds) m hm0 (by omega) (by omega) (by simp only[maxLen]at h63;omega) (by omega) (growslice_fits (by omega) hbytes)
   obtain⟨cap',cs',k1,k2,k3,k4,k5,k6⟩:=grown cap (by omega)
   exact⟨_,_,hr,gb _ _,.inr ⟨w.heap.size,cap',cs',by rw[k6],k1,k2,k3,k4,k5,.inr ⟨rfl,gb _ _⟩⟩⟩
section ops
variable{ops:Array Oper}{rest:List Oper}{acc:List (List Nat×List Nat)}{S:St}{Q:List (List Nat×List Nat)→St→Prop}{ty:TypeId}{pos:String}{after:Array Edge}{guard:Option (Nat×Bool)}
theorem LStep.appZ(T:zAq P tab=true){id:Nat}{s x:Operand}{t tn el:TypeId}{d e:TD}{vs:CV}{o:Option Nat}{n m:Nat}{i:Int}{F:Nat→Nat→CV}{kn:IntKind}
 (hw:S.wants ops {dst:=some id,op:=.call {callee:=.builtin .append,args:= #[s,x],argTypes:= #[t,tn]},type:=ty,pos,after,guard}=some true) (hd:dOk S.n (some id)=true) (hf:S.fr id=true)
 (hs:S.opd s=some (.c vs)) (hx:S.opd x=some (.c (.p (.int .i64 i)))) (him:i=(m:Int)) (ht:zD tab t=some d) (hk:d.k=.sl el) (he:zD tab el=some e) (hez:e.zero= [.int .i64 0]) (htn:P.underlying tn=some (.int kn))
 (ho:(o=none∧vs=.p (.slice none 0 0)∧n=0)∨∃id1,o=some id1∧vs=.ow id1∧S.h id1=some ⟨true,n,e.size,el,F⟩∧id1<1000)
 (h63:n+m≤4611686018427387904) (hb:(n+m)*e.bytes≤140737488355328):
 LStep P ops {dst:=some id,op:=.call {callee:=.builtin .append,args:= #[s,x],argTypes:= #[t,tn]},type:=ty,pos,after,guard} o.toList ⟨.c (.ow id),zBn o id ⟨true,n+m,e.size,el,zAj F n (fun _ _=>.p (.int .i64 0))⟩,[id]⟩ S:=
 LStep.of hw fun S1 hA hr1 hal b0 σ a w R=>by
  obtain⟨inf,z,u,i1,i2,i3,i4,i5,i6,-⟩:=zAS T he
  have hzs:z.cells.size=e.size:=by rw[i5];simp[i6]
  obtain⟨hfr,hidl⟩:=R.fr id ((hal id (by simp)).trans hf)
  have rs:=zW R ((hA.op s (by simp[Op.operands,Call.operands])).trans hs);have e1:a.eval x=.int .i64 i:=zAU (zW R ((hA.op x (by simp[Op.operands,Call.operands])).trans hx));have es:e.size=1:=by rw[←i6,hez];rfl
  have hsz:0<e.size:=by omega
  have hzc:z.cells= #[.int .i64 0]:=by rw[i5,hez]
  obtain⟨ys,hys⟩:∃ys:List Value,List.replicate m (Value.int .i64 0)=ys:=⟨_,rfl⟩
  have hl:ys.length=m*e.size:=by rw[←hys,es,List.length_replicate,Nat.mul_one]
  obtain⟨G,hG⟩:∃G:Nat→Nat→CV,G=fun _ _=>.p (.int .i64 0):=⟨_,rfl⟩
  rw[←hG];have y4:∀k,k<m→∀j,j<e.size→∃v,ys[k*e.size+j]?=some v∧RepC σ (out b0 σ S1.h) w (G k j) v:=fun k hk j hj=>by
   rw[es]at hj⊢;obtain rfl:j=0:=Nat.lt_one_iff.mp hj
   refine⟨.int .i64 0,?_,by rw[hG];exact⟨rfl,rfl⟩⟩
   rw[←hys,List.getElem?_replicate,if_pos (by omega)]
  subst him
  obtain⟨xs,hxl,hv,hxc,hown⟩:∃xs:List Value,xs.length=n*e.size∧((a.eval s=.slice none 0 0∧n=0)∨∃g cap cur,a.eval s=.slice (some ⟨g,0,none⟩) n cap∧w.heap[g]?=some (.cells cur el (0,0))∧n≤cap∧cap≤maxLen∧cur.size=cap*e.size∧cur.toList.take (n*e.size)=xs)∧
   (∀k,k<n→∀j,j<e.size→∃v,xs[k*e.size+j]?=some v∧RepC σ (out b0 σ S1.h) w (F k j) v)∧(∀b,(a.eval s).ownBlock=some b→∃id1,o=some id1∧S1.h id1≠none∧σ id1=some (a.eval s)∧zAl (a.eval s)=some b):=by
   rcases ho with ⟨rfl,rfl,rfl⟩|⟨id1,rfl,rfl,hB,-⟩
   ·have e0:a.eval s=.slice none 0 0:=rs.2
    exact⟨[],by simp,.inl ⟨e0,rfl⟩,fun k hk=>absurd hk (Nat.not_lt_zero _),fun b hb=>by rw[e0]at hb;cases hb⟩
   ·have hB1:=(hr1 id1 (by simp)).trans hB
    obtain⟨v,f1,f2⟩:=R.hp.blk id1 _ hB1
    have e0:=rs.2.1;rw[e0]at f1
    cases f1
    have hob:∀b,(a.eval s).ownBlock=some b→∃id,some id1=some id∧S1.h id≠none∧σ id=some (a.eval s)∧zAl (a.eval s)=some b:=fun b hb=>⟨id1,rfl,by rw[hB1];simp,e0,by
     cases hc:a.eval s with
     |slice A n c=>rw[hc]at hb;cases A<;>exact hb
     |_=>rw[hc]at hb;cases hb⟩
    rcases f2.row rfl with ⟨_,h1,h0⟩|⟨b,cap,cs,h1,h2,h3,h4⟩
    ·obtain rfl:n=0:=h0
     exact⟨[],by simp,.inl ⟨h1,rfl⟩,fun k hk=>absurd hk (Nat.not_lt_zero _),hob⟩
    ·rcases h1 with ⟨_,h1,h5,h6⟩|⟨h1,_⟩
     ·simp only at h1 h2 h3 h4 h5
      have hle:n*e.size≤cs.size:=by rw[h3];exact Nat.mul_le_mul_right _ h5
      refine⟨cs.toList.take (n*e.size),by simp;omega,.inr ⟨b,cap,cs,h1,h2,h5,h6,h3,rfl⟩,fun k hk j hj=> ?_,hob⟩
      obtain⟨v,g1,g2⟩:=h4 k hk j hj
      exact⟨v,by rw[List.getElem?_take_of_lt (zCi hk hj)];simpa using g1,g2⟩
     ·cases h1
  obtain⟨v',w',r1,r2,r3⟩:=(by
   have:=zPs (P:=P) (w:=w) t tn ty el kn inf z (.int .i64 0) e.bytes (zBL T ht hk) htn i1 i4 (i2.trans es) i3 hzc rfl (a.eval s) n xs (by rw[←es];exact hxl) (by rw[←es];exact hv) m (by simp only[maxLen];omega) hb
   rw[←es,hys]at this;exact this)
  have hex:(execOp a.eval {dst:=some id,op:=.call {callee:=.builtin .append,args:= #[s,x],argTypes:= #[t,tn]},type:=ty,pos,after,guard}).run P w=.ok (.value v') w':=by
   simp only[execOp,resolve,invoke,builtin,Sem.run_bind,Sem.run_pure,Result.andThen_ok,List.map_toArray,List.map_cons,List.map_nil,e1,r1]
  rw[hex];have hK:Keep (own σ S1.h) w w':=⟨r2.os,r2.tape,r2.output,r2.size,fun k hk hno=>r2.block k hk fun e=>by
   obtain⟨id1,_,g1,g2,g3⟩:=hown k e.symm
   exact hno ⟨id1,_,g1,g2,g3⟩⟩
  have hsub:∀i u,σ i=some u→put σ id (some v') i=some u:=fun i u h=>by
   rw[zX _ _ (fun e=>by rw[e,hfr]at h;cases h)];exact h
  generalize hB':(⟨true,n+m,e.size,el,zAj F n G⟩:AB)=B';have hlk:∀h:Nat→Option AB,zAb (zBn o id B') h=match o with|some i=>put (put h id (some B')) i none|none=>put h id (some B'):=fun h=>by cases o<;>rfl
  have hidne:∀id1,o=some id1→id1≠id:=fun id1 h1 e=>by
   rcases ho with ⟨h2,_⟩|⟨id2,h2,h3,h4⟩
   ·rw[h1]at h2;cases h2
   ·rw[h1]at h2
    cases h2
    subst h3;have:=rs.2.1;rw[e,hfr]at this
    cases this
  have hid:zAb (zBn o id B') S1.h id=some B':=by
   rw[hlk]
   cases o with
   |none=>exact zAn _ _ _
   |some i=>exact(zX _ _ (Ne.symm (hidne i rfl))).trans (zAn _ _ _)
  have hoth:∀i,i≠id→zAb (zBn o id B') S1.h i=none∨(zAb (zBn o id B') S1.h i=S1.h i∧o≠some i):=fun i hi=>by
   rw[hlk]
   cases o with
   |none=>exact .inr ⟨zX _ _ hi,by simp⟩
   | some i1=>
     by_cases h1:i=i1
     ·subst h1;exact .inl (zAn _ _ _)
     ·exact .inr ⟨(zX _ _ h1).trans (zX _ _ hi),fun h=>h1 (Option.some.inj h).symm⟩
  have holdblk:∀i u b,i≠id→zAb (zBn o id B') S1.h i≠none→σ i=some u→zAl u=some b→some b≠(a.eval s).ownBlock∧S1.h i≠none:=fun i u b hi h1 h2 h3=>by
   rcases hoth i hi with h0|⟨h0,hoi⟩
   ·exact absurd h0 h1
   ·rw[h0]at h1
    refine⟨fun e=> ?_,h1⟩
    obtain⟨id1,g0,g1,g2,g3⟩:=hown b e.symm
    have:=R.hp.inj i id1 u _ b h1 g1 h2 g2 h3 g3;subst this;exact hoi g0
  have hv'b:∀b,zAl v'=some b→(a.eval s).ownBlock=some b∨b=w.heap.size:=fun b hb=>by
   rcases r3 with ⟨rfl,_⟩|⟨b',cap',cs',rfl,_,_,_,_,_,h⟩
   ·cases hb
   ·cases hb;exact h.imp (fun h=>h.1) fun h=>h.1
  have hout:∀b,out b0 (put σ id (some v')) (zAb (zBn o id B') S1.h) b→out b0 σ S1.h b∨w.heap.size≤b:=fun b hb=>by
   rcases hb with ⟨i,u,h1,h2,h3⟩|hb
   ·by_cases hi:i=id
    ·subst hi
     rw[zAn]at h2
     cases h2
     rcases hv'b b h3 with h|h
     ·obtain⟨id1,_,g1,g2,g3⟩:=hown b h
      exact .inl (.inl ⟨id1,_,g1,g2,g3⟩)
     ·exact .inr (by omega)
    ·rw[zX _ _ hi]at h2
     exact .inl (.inl ⟨i,u,(holdblk i u b hi h1 h2 h3).2,h2,h3⟩)
   ·exact .inl (.inr hb)
  obtain⟨H,_,hO⟩:=R.hp.put (id:=id) (B':=B') (v':=v') (σ':=put σ id (some v')) (h':=zAb (zBn o id B') S1.h) (w':=w') hsub hid (zAn _ _ _)
   (fun i hi=>(hoth i hi).imp (fun h=>h) fun h=>h.1) hK
   (fun i u hi=>by
     obtain⟨h1,-⟩:=b0.one i u hi
     have h3:=R.hp.fx i u hi
     rcases hoth i (by omega)with h0|h0
     ·exfalso
      rw[hlk]at h0
      rcases ho with ⟨ho,_⟩|⟨id1,ho,hvs,_,hlo⟩
      ·subst ho
       exact h3.2 ((zX _ _ (by omega)).symm.trans h0)
      ·subst ho hvs
       exact h3.2 (((zX _ _ (by omega)).trans (zX _ _ (by omega))).symm.trans h0)
     ·rw[h0.1];exact h3.2) (fun i hi=>zX _ _ (by omega))
   (fun i u b hi h1 h2 h3=>by
     obtain⟨g1,g2⟩:=holdblk i u b hi h1 h2 h3
     exact r2.block b (R.hp.lt ⟨i,u,g2,h2,h3⟩) g1)
   (by
     subst hB'
     rcases r3 with ⟨rfl,h0⟩|⟨b',cap',cs',rfl,k1,k2,k3,k4,k5,_⟩
     ·exact .inl ⟨rfl,rfl,h0⟩
     ·refine .inr<| .inl ⟨b',cap',cs',.inl ⟨rfl,rfl,k1,k2⟩,k3,k4,fun k hk j hj=> ?_⟩
      have hk':k<n+m:=hk;have hj':j<e.size:=hj;have hget:cs'[k*e.size+j]?=(xs++ys)[k*e.size+j]?:=by
       rw[←k5,List.getElem?_take_of_lt (zCi hk' hj')];simp
      show ∃u,cs'[k*e.size+j]?=some u∧RepC _ _ w' (zAj F n G k j) u;rw[hget];unfold zAj;by_cases hkn:k<n
      ·rw[Nat.blt_eq.mpr hkn,List.getElem?_append_left (by rw[hxl];exact zCi hkn hj')]
       obtain⟨v,g1,g2⟩:=hxc k hkn j hj'
       exact⟨v,g1,g2.keep hK.out hout hsub⟩
      ·rw[show Nat.blt k n=false from Bool.eq_false_iff.2 fun h=>hkn (Nat.blt_eq.mp h)]
       have hge:n*e.size≤k*e.size:=Nat.mul_le_mul_right _ (by omega);rw[List.getElem?_append_right (by rw[hxl];omega),hxl]
       obtain⟨v,g1,g2⟩:=y4 (k-n) (by omega) j hj'
       refine⟨v,?_,g2.keep hK.out hout hsub⟩
       rw[←g1,Nat.sub_mul]
       congr 1
       omega)
   (fun b hb=>by
     refine⟨?_,?_,fun i u hi h1 h2 h3=> ?_⟩
     ·rcases hv'b b hb with h|h
      ·obtain⟨id1,_,g1,g2,g3⟩:=hown b h
       exact R.hp.new b ⟨id1,_,g1,g2,g3⟩
      ·rw[h];exact .inl R.ext.size
     ·rcases hv'b b hb with h|h
      ·obtain⟨id1,_,g1,g2,g3⟩:=hown b h
       exact .inl ⟨id1,_,g1,g2,g3⟩
      ·exact .inr (by omega)
     ·obtain⟨g1,g2⟩:=holdblk i u b hi h1 h2 h3
      rcases hv'b b hb with h|h
      ·exact g1 h.symm
      ·have:=R.hp.lt ⟨i,u,g2,h2,h3⟩
       omega)
  exact⟨put σ id (some v'),R.step (e:=⟨.c (.ow id),zBn o id B',[id]⟩) (by rw[hA.n];exact hd) hsub hK H hO (fun _=>by
   rcases r3 with ⟨rfl,_⟩|⟨b',cap',cs',rfl,_⟩
   ·exact zD0 (zAn _ _ _)
   ·exact zD0 (zAn _ _ _)) (fun i hi=>by
   by_cases e:i=id
   ·exact .inr (by simp[e])
   ·rw[zX _ _ e]at hi;exact .inl hi)⟩
theorem AList.appZ(T:zAq P tab=true){id id1:Nat}{s x:Operand}{t tn el:TypeId}{d e:TD}{n:Nat}{i:Int}{F:Nat→Nat→CV}{kn:IntKind}(m:Nat)
 (hw:S.wants ops {dst:=some id,op:=.call {callee:=.builtin .append,args:= #[s,x],argTypes:= #[t,tn]},type:=ty,pos,after,guard}=some true) (hd:dOk S.n (some id)=true) (hf:S.fr id=true)
 (hs:S.opd s=some (.c (.ow id1))) (hx:S.opd x=some (.c (.p (.int .i64 i)))) (him:i=(m:Int)) (ht:zD tab t=some d) (hk:d.k=.sl el) (he:zD tab el=some e) (hez:e.zero= [.int .i64 0]) (htn:P.underlying tn=some (.int kn))
 (hh:S.h id1=some ⟨true,n,e.size,el,F⟩) (hlo:Nat.blt id1 1000=true) (h63:n+m≤4611686018427387904) (hb:(n+m)*e.bytes≤140737488355328)
 (hn:AList P ops rest (([id1,id],[id1,id,id])::acc) (S.eff (some id) ⟨.c (.ow id),[(id1,none),(id,some ⟨true,n+m,e.size,el,zAj F n (fun _ _=>.p (.int .i64 0))⟩)],[id]⟩) Q):
 AList P ops ({dst:=some id,op:=.call {callee:=.builtin .append,args:= #[s,x],argTypes:= #[t,tn]},type:=ty,pos,after,guard}::rest) acc S Q:=
 AList.cons [id1] ⟨.c (.ow id),zBn (some id1) id ⟨true,n+m,e.size,el,zAj F n (fun _ _=>.p (.int .i64 0))⟩,[id]⟩ (LStep.appZ T (o:=some id1) hw hd hf hs hx him ht hk he hez htn (.inr ⟨id1,rfl,rfl,hh,Nat.blt_eq.mp hlo⟩) h63 hb) hn
end ops
end
end Go.AV
end
section
namespace Go.Proofs.YtbffmfeldkjkcaaGreat
open Go.RowKit Go.Flow Go.AV Go.Plain
theorem zKz(n:Nat)(F:Nat→Int)(hn:n≤1000000):zCg Tryz.prog 30 [.c (.ls n 1 (iF F))] [] (.c (.ow 900)) [] [zAc n F]:=by
 by_cases h0:n=0
 ·subst h0
  refine zBw Tryz.func30 rfl rfl Tryz.ntmps30 rfl ?_;refine zEc (t:=0) rfl fun A cap=> ?_
  refine AWp.weak (S':=zC 8 [(0,.c (.p (.slice A 0 cap)))] [] []) (Wk.mk [] rfl rfl rfl ⟨⟨_,rfl,.c (LeC.refl _ rfl)⟩,trivial⟩ trivial) ?_
  cases A with
  | none=>
    repeat (first
     |refine vB [0,2] ?_
     | (refine rG 1 ?_
        refine vA ?_
        first|refine zBc rfl rfl rfl Tryz.underlying23 oM oM ?_|refine zBl rfl rfl rfl Tryz.underlying23 ?_|refine zBk rfl rfl rfl Tryz.underlying23 ?_
        refine aB ?_)
     | (refine rG 3 ?_
        refine xE2 ?_
        first|refine zAT zA rfl rfl rfl rfl rfl rfl rfl rfl rfl rfl oM oM ?_|refine zBj zA rfl rfl rfl rfl rfl rfl rfl rfl rfl rfl oM oM ?_
        refine vA ?_;refine aB ?_))
    refine⟨zC 8 [(2,.c (.ow 900))] [(900,zAc 0 F)] [900],[],_,[],[zAc 0 F],⟨rfl,rfl,rfl⟩,rfl,Wk.mk [(900,none)] rfl rfl rfl ?_ ?_,rfl,rfl,GRets.one (x:=.c _) (GRes.tmp rfl)⟩
    ·exact zB
    ·exact⟨HeapOk.nil rfl rfl,trivial⟩
  | some ad=>
    repeat (first
     |refine vB [0,2] ?_
     | (refine rG 1 ?_
        refine vA ?_
        first|refine zBc rfl rfl rfl Tryz.underlying23 oM oM ?_|refine zBl rfl rfl rfl Tryz.underlying23 ?_|refine zBk rfl rfl rfl Tryz.underlying23 ?_
        refine aB ?_)
     | (refine rG 3 ?_
        refine xE2 ?_
        first|refine zAT zA rfl rfl rfl rfl rfl rfl rfl rfl rfl rfl oM oM ?_|refine zBj zA rfl rfl rfl rfl rfl rfl rfl rfl rfl rfl oM oM ?_
        refine vA ?_;refine aB ?_))
    refine⟨zC 8 [(2,.c (.ow 900))] [(900,zAc 0 F)] [900],[],_,[],[zAc 0 F],⟨rfl,rfl,rfl⟩,rfl,Wk.mk [(900,some 7)] rfl rfl rfl ?_ ?_,rfl,rfl,GRets.one (x:=.c _) (GRes.tmp rfl)⟩
    ·exact zB
    ·exact⟨.inr ⟨7,0,_,.inl rfl,rfl,rfl,fun i hi=>absurd hi (Nat.not_lt_zero _)⟩,trivial⟩
 ·have h0:0<n:=Nat.pos_of_ne_zero h0
  refine zBw Tryz.func30 rfl rfl Tryz.ntmps30 rfl ?_
  repeat (first
   |refine vB [0,2] ?_
   | (refine rG 1 ?_
      refine vA ?_
      first|refine zBc rfl rfl rfl Tryz.underlying23 oM oM ?_|refine zBl rfl rfl rfl Tryz.underlying23 ?_|refine zBk rfl rfl rfl Tryz.underlying23 ?_
      refine aB ?_)
   | (refine rG 3 ?_
      refine xE2 ?_
      first|refine zAT zA rfl rfl rfl rfl rfl rfl rfl rfl rfl rfl oM oM ?_|refine zBj zA rfl rfl rfl rfl rfl rfl rfl rfl rfl rfl oM oM ?_
      refine vA ?_;refine aB ?_))
  refine⟨zC 8 [(2,.c (.ow 900))] [(900,zAc n F)] [900],[],_,[],[zAc n F],⟨rfl,rfl,rfl⟩,rfl,Wk.mk [(900,some 7)] rfl rfl rfl ?_ ?_,rfl,rfl,GRets.one (x:=.c _) (GRes.tmp rfl)⟩
  ·exact zB
  ·exact⟨.inr ⟨7,n,_,.inl rfl,rfl,rfl,fun i hi j hj=>LeC.refl _ rfl⟩,trivial⟩
def wrF(m:Nat)(x:Pl):Nat→Nat→Int
 |0,j=>fI x.ch j
 |k+1,j=>if j=m+(fI x.rp k).toNat then fI x.an k else wrF m x k j
def zEr(p:Pb)(H:List Hg)(x:Pl):Bool:=
 if ((zAd p H x.rp).2=0∧x.ch.length=p.C.length)∧x.an.length=x.rp.length then zEO (zAd p H x.rp).1 (p.C.length+H.length) (wrF p.C.length x x.rp.length)else false
abbrev zKO(x:Pl):Prop:=x.rp.length≤1000000∧x.an.length≤1000000∧x.ch.length≤1000000
theorem zOh(x:Pl)(m:Nat)(hm:x.ch.length=m):∀i j,zAj (iF (fI x.ch)) m (fun _ _=>.p (.int .i64 0)) i j=iF (wrF m x 0) i j:=fun i j=>by
 unfold zAj;by_cases h:i<m
 ·rw[Nat.blt_eq.mpr h];rfl
 ·rw[show Nat.blt i m=false from Bool.eq_false_iff.2 fun e=>h (Nat.blt_eq.mp e)]
  show iC 0=iC (x.ch.getD i 0);rw[List.getD_eq_getElem?_getD,List.getElem?_eq_none xD]
  rfl
theorem zS1(x:Pl)(m k r:Nat)(hr:fI x.rp k=(r:Int)):∀i j,j<1→zAw (iF (wrF m x k)) (m+r) 0 1 [iC (fI x.an k)] i j=iF (wrF m x (k+1)) i j:=fun i j hj=>by
 obtain rfl:j=0:=Nat.lt_one_iff.mp hj;rw[zGa];show _=iC (wrF m x (k+1) i);rw[show wrF m x (k+1) i=if i=m+(fI x.rp k).toNat then fI x.an k else wrF m x k i from rfl,hr,Int.toNat_natCast];by_cases h:i=m+r
 ·subst h;rw[if_pos ⟨rfl,rfl⟩,if_pos rfl]
 ·rw[if_neg (fun q=>h q.1),if_neg h]
theorem zHU(p:Pb)(hp:p.ok)(H:List Hg)(hH:zCB H)(x:Pl)(hx:zKO x):ACalls Tryz.prog 15 [.ag (pbC p),.c (lsH H),.ag (plC x)] (.c (bC (zEr p H x))):=by
 obtain⟨hx1,hx2,hx3⟩:=hx
 have hW:=zFq p hp H hH x.rp hx1;have hwc:= @zFa p H x.rp
 obtain⟨V,hV⟩:∃V,zEr p H x=V:=⟨_,rfl⟩
 rw[hV];unfold zEr at hV;have hok:=fun h:(zAd p H x.rp).2=0=>show(zAd p H x.rp).1.ok by rw[(hwc h).1];exact zEl x.rp hp hH (hwc h).2.1
 have hfit:=fun h:(zAd p H x.rp).2=0=>zCE hp (hwc h).2.1
 have hnm:=fun h:(zAd p H x.rp).2=0=>(hwc h).2.2.1
 clear hwc;have lH:=hH.1;generalize zAd p H x.rp=w at *
 obtain⟨q,e⟩:=w
 dsimp only at hW hV hok hfit hnm;by_cases h0:e=0;rotate_left
 ·rw [if_neg (fun h=>h0 h.1.1)]at hV
  subst hV;refine zJ Tryz.func15 rfl rfl Tryz.ntmps15 rfl ?_
  repeat (first
   |refine vB [0,2,3] ?_
   | (refine rG 1 ?_
      refine xE4 ?_;refine xB Tryz.func27 hW ?_;refine xE6 ?_;refine aB ?_))
  refine⟨zC 70 [(6,.c (bC false))] [] [],[],Wk.mk [] rfl rfl rfl ?_ trivial,rfl,rfl,aR1⟩
  exact zB
 by_cases h1:x.ch.length=p.C.length;rotate_left
 ·rw [if_neg (fun h=>h1 h.1.2)]at hV
  subst hV;have h1':¬(x.ch.length:Int)=p.C.length:=by omega
  refine zJ Tryz.func15 rfl rfl Tryz.ntmps15 rfl ?_
  repeat (first
   |refine vB [0,2,3] ?_
   | (refine rG 1 ?_
      refine xE4 ?_;refine xB Tryz.func27 hW ?_;refine xE6 ?_;refine aB ?_))
  refine⟨zC 70 [(6,.c (bC false))] [] [],[],Wk.mk [] rfl rfl rfl ?_ trivial,rfl,rfl,aR1⟩
  exact zB
 by_cases h2:x.an.length=x.rp.length;rotate_left
 ·rw [if_neg (fun h=>h2 h.2)]at hV
  subst hV;have h1':(x.ch.length:Int)=p.C.length:=by omega
  have h2':¬(x.an.length:Int)=x.rp.length:=by omega
  refine zJ Tryz.func15 rfl rfl Tryz.ntmps15 rfl ?_
  repeat (first
   |refine vB [0,2,3] ?_
   | (refine rG 1 ?_
      refine xE4 ?_;refine xB Tryz.func27 hW ?_;refine xE6 ?_;refine aB ?_))
  refine⟨zC 70 [(6,.c (bC false))] [] [],[],Wk.mk [] rfl rfl rfl ?_ trivial,rfl,rfl,aR1⟩
  exact zB
 rw[if_pos ⟨⟨h0,h1⟩,h2⟩]at hV;have h1':(x.ch.length:Int)=p.C.length:=by omega
 have h2':(x.an.length:Int)=x.rp.length:=by omega
 have hok:=hok h0;have lC:=(hfit h0).c;have hnm:=hnm h0;have hHd:=zOQ q hok (p.C.length+H.length) (wrF p.C.length x x.rp.length) xD;rw[hV]at hHd;have hCl:=zKz x.ch.length (fI x.ch) hx3;refine zJ Tryz.func15 rfl rfl Tryz.ntmps15 rfl ?_
 repeat (first
  |refine vB [0,2,5] ?_
  | (refine rG 1 ?_
     refine xE4 ?_;refine xB Tryz.func27 hW ?_;refine xE6 ?_;refine aB ?_)
  | (refine rG 4 ?_
     refine xE2 ?_;refine AList.callG [] [42] [] [] [zAc x.ch.length (fI x.ch)] [] [zAc x.ch.length (fI x.ch)] rfl rfl FnV.func rfl Tryz.func30 rfl xC (trivial) rfl (.c (.owN 0 42 rfl)) (trivial) (⟨⟨_,rfl,fun i _ j _=>.imm _ rfl⟩,trivial⟩) (hCl) ?_;refine xE2 ?_;refine AList.appZ zA (H.length) rfl rfl rfl rfl rfl (by first|rfl|omega) rfl rfl rfl rfl Tryz.underlying3 rfl rfl oM oM ?_;refine vA ?_;refine aB ?_))
 refine AWp.round (fun k:Nat=>
  zC 70 [(1,.c (lsH H)),(3,.c (zC4 p)),(5,.c (.pl 1 3 (lF (plC x)) 0 0)),(7,.c (.pl 1 5 (lF (pbC q)) 0 0)),(9,.c (.ow 20)),(47,.c (lsI x.rp)),(48,.c (iC (x.rp.length:Nat))),(49,.c (iC (k:Nat)))] [(20,zAc (p.C.length+H.length) (wrF p.C.length x k))] [20]
  ) (fun k=>k≤x.rp.length) (fun k=>x.rp.length-k) 0 (Nat.zero_le _) ?_ (fun k hk=> ?_)
 ·refine Wk.mk [(20,some 45)] rfl rfl rfl ?_ ?_
  ·repeat (first|exact trivial|refine⟨⟨_,rfl,by first|exact LeA.c (zCp rfl rfl rfl rfl)|exact leT⟩,?_⟩)
  ·exact⟨HeapOk.row rfl rfl (by rw[h1]) (fun i _ j _=>⟨by rw[h1];exact zOh x _ h1 i j,by rw[h1,zOh x _ h1 i j];rfl⟩),trivial⟩
 by_cases hkl:k<x.rp.length
 ·have hkl':(k:Int)<x.rp.length:=by omega
  obtain⟨hv0,hv1,-⟩:=nmOk_iff.1 hnm k hkl
  obtain⟨r,hr⟩:=Int.eq_ofNat_of_zero_le hv0
  have hcy:iF (fI x.rp) k 0=iC (r:Nat):=by show iC (fI x.rp k)=_;rw[hr]
  repeat (first
   |refine vB [6,9] ?_
   | (refine rG 7 ?_
      refine vA ?_
      first|refine zG (aP (k:=k) zA) ?_|refine zI (zH (k:=k) zA) ?_
      first|refine zY zA (hcy) rfl rfl rfl rfl rfl oM ?_|refine zAp zA rfl rfl rfl rfl rfl rfl rfl oM oM (hcy) ?_
      refine xE2 ?_;refine aB ?_)
   |(refine AWp.draw (id:=8) zK ?_;refine xE9 ?_;(first|refine zG (aP (k:=k) zA) ?_|refine zI (zH (k:=k) zA) ?_);refine vA ?_;(first|refine zG (aP (k:=p.C.length+r) zA) ?_|refine zI (zH (k:=p.C.length+r) zA) ?_);refine vA ?_;refine aB ⟨by kernel_rfl,?_⟩))
  refine⟨k+1,hkl,Wk.mk [(20,some 20)] rfl rfl rfl ?_ ?_,by omega⟩
  ·exact zB
  ·exact⟨HeapOk.row rfl rfl rfl (fun i _ j hj=>by have e:=zS1 x p.C.length k r hr i j hj;exact⟨e,by rw[e];rfl⟩),trivial⟩
 have hkl':¬(k:Int)<x.rp.length:=by omega
 obtain rfl:k=x.rp.length:=by omega
 repeat (first
  |refine vB [6] ?_
  | (refine rG 10 ?_
     refine xE2 ?_;refine zFe [20] rfl rfl rfl Tryz.func40 rfl xC (hHd) (⟨.inl ⟨rfl,rfl⟩,zFL rfl (by simp),trivial⟩) ?_;refine vA ?_;refine aB ?_))
 refine⟨zC 70 [(6,.c (bC V))] [] [],[],Wk.mk [] rfl rfl rfl ?_ trivial,rfl,rfl,aR1⟩
 exact zB
theorem zEa{P:Program}{t:TypeId}{z:Value}{s b:Nat}(h:(P.info? t).map (fun i=>(i.zero,i.size,i.bytes))=some (some z,s,b)):(∀w,(Go.sizeOf t).run P w=.ok s w)∧∀w,(zeroValue t).run P w=.ok z w:=by
 obtain⟨i,h1,h2,h3,_⟩:=info_parts h
 exact⟨fun w=>by simp[Go.sizeOf,typeInfo,h1,h3],fun w=>by simp[zeroValue,typeInfo,h1,h2]⟩
def zF2:Go.Shelf.Ren:=⟨fun _=>36,fun t=>match t with|0=>0|3=>3|4=>4|22=>23|_=>0,fun x=>x⟩
theorem zQa:Go.Proofs.Lays2.n23 Tryz.prog zF2:=
 ⟨zK,
  ((show Tryz.prog.funcs[36]?=some Tryz.f36 from Tryz.func36).trans xC),
  Tryz.underlying0,
  (fun w=>by simp[isAgg,zF2,run_underlying Tryz.underlying0]),
  ((zEa (z:=.tuple #[]) (s:=1) (b:=0) xC).1),
  ((zEa (z:=.tuple #[]) (s:=1) (b:=0) xC).2),
  Tryz.underlying3,
  (fun w=>by simp[isAgg,zF2,run_underlying Tryz.underlying3]),
  ((zEa (z:=.int .i64 0) (s:=1) (b:=8) xC).1),
  ((zEa (z:=.int .i64 0) (s:=1) (b:=8) xC).2),
  Tryz.underlying4,
  (fun w=>by simp[isAgg,zF2,run_underlying Tryz.underlying4]),
  ((zEa (z:=.bool false) (s:=1) (b:=1) xC).1),
  ((zEa (z:=.bool false) (s:=1) (b:=1) xC).2),
  Tryz.underlying23,
  (fun w=>by simp[isAgg,zF2,run_underlying Tryz.underlying23]),
  ((zEa (z:=.slice none 0 0) (s:=1) (b:=24) xC).1),
  ((zEa (z:=.slice none 0 0) (s:=1) (b:=24) xC).2),
  xC⟩
theorem zOL(l:List Int)(k:Nat)(hk:k<l.length)(hl:l.length≤1000000):zFl Tryz.prog 36 [.c (.ow 800),.c (iC (k:Nat)),.c (iC ((k:Int)+1))] [] [zAc l.length (fI l)] (.c (lsI (l.eraseIdx k))) [] []:=by
 intro b0 σ vals _ _ H hle hσ hY hv
 rcases vals with _|⟨v,_|⟨i1,_|⟨i2,_|⟨x,r⟩⟩⟩⟩
 ·exact hv.elim
 ·exact hv.2.elim
 ·exact hv.2.2.elim
 rotate_left
 ·exact hv.2.2.2.elim
 obtain⟨h1,h2,h3,-⟩:=hv
 obtain rfl:i1=.int .i64 (k:Int):=h2.2;obtain rfl:i2=.int .i64 ((k+1:Nat):Int):=h3.2;have hs8:σ 800=some v:=h1.2.1
 obtain⟨v',f1,f2⟩:=H.blk 800 (zAc l.length (fI l)) rfl
 rw[hs8]at f1
 cases f1
 rcases f2.row rfl with ⟨_,_,h0⟩|⟨b,cap,cs,hO,hb,hcs,hcell⟩
 ·have h0:l.length=0:=h0
  omega
 rcases hO with ⟨_,hv,hnc,hcm⟩|⟨h,_⟩
 rotate_left
 ·cases h
 replace hv:v=.slice (some ⟨b,0,none⟩) l.length cap:=hv
 replace hnc:l.length≤cap:=hnc
 subst hv;have hbl:b<b0.w.heap.size:=(Array.getElem?_eq_some_iff.1 hb).1;have hown:own σ (zD (zA6 [zAc l.length (fI l)] [])) b:=⟨800,_,by show(some (zAc l.length (fI l)):Option AB)≠none;simp,hs8,rfl⟩
 have hbY:b0.Y b:=(H.new b hown).resolve_left xD;have hH:Sort.Holds (Value.int .i64) b0.w b 0 l.toArray:=fun j hj=>by
  have hj':j<l.length:=by simpa using hj
  obtain⟨u,e1,e2⟩:=hcell j hj' 0 (Nat.lt_one_iff.mpr rfl)
  have e2:u=.int .i64 (fI l j):=e2.2;subst e2;have e1:cs[j*1+0]?=_:=e1;rw[Nat.mul_one,Nat.add_zero]at e1;rw[Nat.zero_add]
  refine⟨(cell_of_row b0.w b j cs _ (0,0) hb).trans (e1.trans ?_),frozen_of_row b0.w b j cs _ hb⟩
  have e3:(l.toArray[j]!)=fI l j:=by
   show _=l.getD j 0;rw[getElem!_pos _ j hj,List.getD_eq_getElem?_getD,List.getElem?_eq_getElem hj']
   simp
  rw[e3]
 refine(Any.slices_Delete_int zQa b 0 cap k (k+1) l b0.w hH hnc (by simp only[maxLen]at hcm;omega) xD xD).mono ?_
 rintro e w' ⟨rfl,q,rfl⟩
 obtain⟨d,hd⟩:∃d,(l.take k++l.drop (k+1)++List.replicate (k+1-k) (0:Int))=d:=⟨_,rfl⟩
 rw[hd];have hdl:d.length=l.length:=by
  rw[←hd,List.length_append,List.length_append,List.length_take,List.length_drop,List.length_replicate]
  omega
 have hel:(l.eraseIdx k).length=l.length-1:=List.length_eraseIdx_of_lt hk;have hde:d=l.eraseIdx k++ [0]:=by
  rw[←hd,List.eraseIdx_eq_take_drop_succ,show k+1-k=1 by omega]
  rfl
 have hH2:Sort.Holds (Value.int .i64) (Sort.ahead b0.w q) b 0 l.toArray:=fun j hj=>hH j hj
 have hP:=Sort.holds_putRow (Value.int .i64) (Sort.ahead b0.w q) b 0 l.toArray d.toArray hH2 (by simp[hdl]);have hnfix:∀i v,b0.fix i=some v→False:=fun i v h=>by
  have h1:=(b0.one i v h).1;have h2:=hle i v h
  simp at h2
  omega
 refine⟨_,fun _=>none,.c (lsI (l.eraseIdx k)),[],[],rfl,⟨rfl,rfl,rfl⟩,rfl,Nat.zero_le _,⟨fun id B h=>(by cases h),fun i j v1 v2 b h=>absurd rfl h,fun b ⟨id,v,h,_⟩=>absurd rfl h,fun i v h=>(hnfix i v h).elim,fun _ _ _=>rfl⟩,⟨rfl,some ⟨b,0,none⟩,cap,?_,by omega,fun j hj m hm=> ?_⟩,⟨rfl,rfl,rfl,?_,fun i hi hno=> ?_⟩⟩
 ·rw[hel,show k+1-k=1 by omega]
 ·obtain rfl:m=0:=Nat.lt_one_iff.mp hm
  have hj':j<(l.eraseIdx k).length:=hj
  refine⟨⟨b,0,none⟩,.int .i64 (fI (l.eraseIdx k) j),rfl,fun ho=> ?_,?_,rfl,rfl⟩
  ·rcases ho with ⟨id,v,h,_⟩|ho
   ·exact absurd rfl h
   ·exact b0.dis b ho hbY
  ·rw[zCS,Nat.mul_one,Nat.add_zero]
   refine((hP j (by simp[hdl];omega)).1).trans ?_
   have e3:(d.toArray[j]!)=fI (l.eraseIdx k) j:=by
    show _=(l.eraseIdx k).getD j 0;rw[getElem!_pos _ j (by simp[hdl];omega),List.getD_eq_getElem?_getD,List.getElem?_eq_getElem hj']
    simp[hde,List.getElem_append_left hj']
   rw[e3]
 ·show _≤((Sort.ahead b0.w q).heap.modify b _).size
  rw[Array.size_modify];exact Nat.le_refl _
 ·show((Sort.ahead b0.w q).heap.modify b _)[i]?=_
  rw[Array.getElem?_modify,if_neg (show ¬b=i from fun e=>hno (.inl (by rw[←e];exact hbY)))]
  rfl
end Go.Proofs.YtbffmfeldkjkcaaGreat
end
