/- Parts of the proof: AMap. -/
import Derived.Test.YtpefnljgalpllaaG26
set_option linter.unusedSimpArgs false
set_option linter.unusedVariables false
set_option maxHeartbeats 0
section
namespace Go.AV
open Go Go.RowKit Go.Flow Go.ChangeMaps
open Go.WideMaps (KeyLaw)
section
variable{P:Program}{tab:List (TypeId×TD)}
def KM(P:Program)(kt:TypeId)(g:Value→Bool)(es:Array MapEntry)(_:Nat):Prop:=∀e∈es.toList,(∃l,keyOf P kt e.key=some l)∧e.val=.bool (g e.key)
def KH(P:Program)(kt:TypeId)(g:Value→Bool)(key:Value)(has:Bool)(es:Array MapEntry)(c:Nat):Prop:=KM P kt g es c∧(has=true↔∃e∈es.toList,e.key=key)
def mapK(K:Array MapEntry→Nat→Prop)(_:Nat)(o:Obj):Prop:=∃es c,o=.map es c∧K es c
def moF(K:Array MapEntry→Nat→Prop)(_ _:Nat):CV:=.mo (mapK K)
abbrev moB(ty:TypeId)(K:Array MapEntry→Nat→Prop):AB:=⟨false,1,1,ty,moF K⟩
theorem KM.empty{kt:TypeId}{g:Value→Bool}:KM P kt g #[] 0:=fun e he=>by simp at he
theorem at_mo{b0:Base}{σ:Nat→Option Value}{h:Nat→Option AB}{w:World}(H:HRel b0 σ h w){id:Nat}{ty:TypeId}{K:Array MapEntry→Nat→Prop}(hh:h id=some (moB ty K)){u:Value}(hu:RepC σ (out b0 σ h) w (.ow id) u)(hm:∀A n c,u≠ .slice A n c):
 ∃b es c,u=.map (some b)∧σ id=some u∧w.heap[b]?=some (.map es c)∧K es c:=by
 obtain⟨v,e1,e2⟩:=H.blk id _ hh
 have e0:=hu.2.1
 rw[e0]at e1
 cases e1
 rcases hu.2.2 with ⟨A,n,c,h1⟩|⟨b,rfl⟩
 ·exact absurd h1 (hm A n c)
 ·rcases e2 with ⟨h1,_⟩|⟨b',cap,cs,h1,_⟩|⟨_,_,_,b',o,h1,h2,h3⟩
  ·cases h1
  ·rcases h1 with ⟨_,h1,_⟩|⟨_,h1,_⟩<;>cases h1
  ·cases h1
   rcases h3.2 with h3|⟨K',h3,h4⟩
   ·cases h3
   ·cases h3
    obtain⟨es,c,rfl,h4⟩:=h4
    exact⟨b,es,c,rfl,e0,h2,h4⟩
theorem at_mo'{b0:Base}{σ:Nat→Option Value}{h:Nat→Option AB}{w:World}(H:HRel b0 σ h w){id:Nat}{ty:TypeId}{K:Array MapEntry→Nat→Prop}(hh:h id=some (moB ty K)){u:Value}(hu:RepC σ (out b0 σ h) w (.ow id) u):
 ∃b es c,u=.map (some b)∧σ id=some u∧w.heap[b]?=some (.map es c)∧K es c:=by
 refine at_mo H hh hu fun A n c e=> ?_
 subst e
 obtain⟨v,e1,e2⟩:=H.blk id _ hh
 have e0:=hu.2.1
 rw[e0]at e1
 cases e1
 rcases e2 with ⟨h1,_⟩|⟨b',cap,cs,h1,_⟩|⟨_,_,_,b',o,h1,h2,h3⟩
 ·cases h1
 ·rcases h1 with ⟨h1,_⟩|⟨_,h1,_⟩<;>cases h1
 ·cases h1
section ops
variable{ops:Array Oper}{rest:List Oper}{acc:List (List Nat×List Nat)}{S:St}{Q:List (List Nat×List Nat)→St→Prop}{dst:Option Tmp}{ty:TypeId}{pos:String}{after:Array Edge}{guard:Option (Nat×Bool)}
theorem AList.makeMap{id:Nat}{t:TypeId}(K:Array MapEntry→Nat→Prop)(h0:K #[] 0)(hw:S.wants ops {dst:=some id,op:=.makeMap t none,type:=ty,pos,after,guard}=some true)(hd:dOk S.n (some id)=true)(hf:S.fr id=true)
 (hn:AList P ops rest (([id],[id,id])::acc) (S.eff (some id) ⟨.c (.ow id),[(id,some (moB t K))],[id]⟩) Q):AList P ops ({dst:=some id,op:=.makeMap t none,type:=ty,pos,after,guard}::rest) acc S Q:=
 AList.cons [] ⟨.c (.ow id),[(id,some (moB t K))],[id]⟩ (LStep.of hw fun S1 hA _ hal b0 σ a w R=>by
  obtain⟨hno,hlow⟩:=R.fr id ((hal id (by simp)).trans hf)
  have hrun:(execOp a.eval {dst:=some id,op:=.makeMap t none,type:=ty,pos,after,guard}).run P w=.ok (.value (.map (some w.heap.size))) (w.alloc (.map #[] 0)):=by
   simp only[execOp,Option.map_none,run_makeMap,Sem.run_bind,Result.andThen_ok,Sem.run_pure]
  rw[hrun]
  have hE:Ext w (w.alloc (.map #[] 0)):=(Ext.refl w).alloc _
  have hsub:∀i u,σ i=some u→put σ id (some (.map (some w.heap.size))) i=some u:=fun i u h=>by
   rw[put_ne _ _ (fun e=>by rw[e,hno]at h;cases h)];exact h
  obtain⟨H,_,hO⟩:=R.hp.put (id:=id) (B':=moB t K) (v':=.map (some w.heap.size)) (σ':=put σ id (some (.map (some w.heap.size)))) (h':=look [(id,some (moB t K))] S1.h) (w':=w.alloc (.map #[] 0)) hsub (put_same _ _ _) (put_same _ _ _) (fun i hi=>.inr (put_ne _ _ hi)) (Keep.of_ext hE)
   (fun i u hi=>by
     have h1:=(b0.one i u hi).1
     rw[look_one,put_ne _ _ (by omega)]
     exact(R.hp.fx i u hi).2) (fun i hi=>put_ne _ _ (by omega))
   (fun i u b hi h1 h2 h3=>by
     have h1':S1.h i≠none:=by rw[look_one,put_ne _ _ hi]at h1;exact h1
     exact Below.block hE b (R.hp.lt ⟨i,u,h1',h2,h3⟩))
   (.inr<| .inr ⟨rfl,rfl,rfl,w.heap.size,.map #[] 0,rfl,heap_alloc_new w _,rfl,.inr ⟨_,rfl, #[],0,rfl,h0⟩⟩)
   (fun b hb=>by
     cases hb
     refine⟨.inl R.ext.size,.inr (Nat.le_refl _),fun i u hi h1 h2 h3=> ?_⟩
     have h1':S1.h i≠none:=by rw[look_one,put_ne _ _ hi]at h1;exact h1
     have:=R.hp.lt ⟨i,u,h1',h2,h3⟩
     omega)
  exact⟨put σ id (some (.map (some w.heap.size))),R.step (e:=⟨.c (.ow id),[(id,some (moB t K))],[id]⟩) (by rw[hA.n];exact hd) hsub (Keep.of_ext hE) H hO (fun _=>⟨rfl,put_same _ _ _,.inr ⟨_,rfl⟩⟩) (fun i hi=>by
   by_cases e:i=id
   ·exact .inr (by simp[e])
   ·rw[put_ne _ _ e]at hi;exact .inl hi)⟩) hn
theorem AList.lookKH{kt:TypeId}(L:KeyLaw P kt){m x:Operand}{id:Nat}{t et:TypeId}{g:Value→Bool}{has:Bool}{l:List CV}{vs:List Value}{kl:Lit}{bt:TypeId}(hw:S.wants ops {dst,op:=.lookup t m x true,type:=ty,pos,after,guard}=some true)(hd:dOk S.n dst=true)
 (hm:S.opd m=some (.c (.ow id))) (hx:S.opd x=some (.ag l)) (hl:l=vs.map .p) (hh:S.h id=some (moB bt (KH P kt g (.agg vs.toArray) has))) (ht:P.underlying t=some (.map kt et)) (he:P.underlying et=some .bool) (hz:∀w:World,(zeroValue et).run P w=.ok (.bool false) w) (hk:keyOf P kt (.agg vs.toArray)=some kl)
 (hn:AList P ops rest (([id],[])::acc) (S.eff dst ⟨.tu [.c (.p (.bool (has && g (.agg vs.toArray)))),.c (.p (.bool has))],[],[]⟩) Q):AList P ops ({dst,op:=.lookup t m x true,type:=ty,pos,after,guard}::rest) acc S Q:=
 AList.val [id] _ hw hd (fun S1 h1 hr b0 σ a w R=>by
  obtain⟨b,es,c,e1,-,e3,hKM,hhas⟩:=at_mo' R.hp ((hr id (by simp)).trans hh) (opd_rep R ((h1 m (by simp[Op.operands])).trans hm))
  obtain⟨us,f1,f2⟩:=opd_rep R ((h1 x (by simp[Op.operands])).trans hx)
  have hus:us=vs:=by
   subst hl
   refine List.ext_getElem? fun i=> ?_
   by_cases hi:i<vs.length
   ·obtain⟨v,k1,k2⟩:=f2.get (i:=i) (x:=.p vs[i]) (by simp[hi])
    rw[k1,List.getElem?_eq_getElem hi,show v=vs[i]from k2.2]
   ·have:=f2.length
    rw[List.length_map]at this
    rw[List.getElem?_eq_none (by omega),List.getElem?_eq_none (by omega)]
  subst hus
  rcases L.find w hk es.toList (fun e he=>(hKM e he).1)with ⟨k1,k2⟩|⟨j,e0,k1,k2,k3⟩
  ·have h0:has=false:=by
    cases hc:has with
    |false=>rfl
    |true=>obtain⟨e,q1,q2⟩:=hhas.1 hc;exact absurd q2 (k2 e q1)
   subst h0
   refine⟨.tuple #[.bool false,.bool false],?_,[_,_],rfl,⟨rfl,rfl⟩,⟨rfl,rfl⟩,trivial⟩
   simp[execOp,e1,f1,Instr.lookup,run_underlying ht,MapKept.run_getObj_map e3,L.check w _ hk,k1,hz,Result.andThen]
  ·have hmem:e0∈es.toList:=List.mem_of_getElem? k2
   have h0:has=true:=hhas.2 ⟨e0,hmem,k3⟩
   subst h0
   have hv:=(hKM e0 hmem).2
   rw[k3]at hv
   refine⟨.tuple #[.bool (g (.agg us.toArray)),.bool true],?_,[_,_],rfl,⟨rfl,rfl⟩,⟨rfl,rfl⟩,trivial⟩
   rw[hv]at k1
   simp[execOp,e1,f1,Instr.lookup,run_underlying ht,MapKept.run_getObj_map e3,L.check w _ hk,k1,Result.andThen]) hn
theorem AList.updKM{kt:TypeId}(L:KeyLaw P kt){m x v:Operand}{id:Nat}{t et:TypeId}{g:Value→Bool}{K:Array MapEntry→Nat→Prop}{l:List CV}{vs:List Value}{kl:Lit}{bt:TypeId}(hw:S.wants ops {dst:=none,op:=.mapUpdate t m x v,type:=ty,pos,after,guard}=some true)
 (hm:S.opd m=some (.c (.ow id))) (hx:S.opd x=some (.ag l)) (hl:l=vs.map .p) (hv:S.opd v=some (.c (.p (.bool (g (.agg vs.toArray)))))) (hh:S.h id=some (moB bt K)) (hK:∀es c,K es c→KM P kt g es c) (ht:P.underlying t=some (.map kt et)) (hk:keyOf P kt (.agg vs.toArray)=some kl)
 (hn:AList P ops rest (([id],[id])::acc) (S.eff none ⟨.tu [],[(id,some (moB bt (KM P kt g)))],[]⟩) Q):AList P ops ({dst:=none,op:=.mapUpdate t m x v,type:=ty,pos,after,guard}::rest) acc S Q:=
 AList.cons [id] ⟨.tu [],[(id,some (moB bt (KM P kt g)))],[]⟩ (LStep.of hw fun S1 hA hr1 _ b0 σ a w R=>by
  have hh1:=(hr1 id (by simp)).trans hh
  obtain⟨b,es,c,e1,hσ,e3,hKe⟩:=at_mo' R.hp hh1 (opd_rep R ((hA.op m (by simp[Op.operands])).trans hm))
  have hKM:=hK es c hKe
  obtain⟨us,f1,f2⟩:=opd_rep R ((hA.op x (by simp[Op.operands])).trans hx)
  have f3:a.eval v=_:=(opd_rep R ((hA.op v (by simp[Op.operands])).trans hv)).2
  have hus:us=vs:=by
   subst hl
   refine List.ext_getElem? fun i=> ?_
   by_cases hi:i<vs.length
   ·obtain⟨v,k1,k2⟩:=f2.get (i:=i) (x:=.p vs[i]) (by simp[hi])
    rw[k1,List.getElem?_eq_getElem hi,show v=vs[i]from k2.2]
   ·have:=f2.length
    rw[List.length_map]at this
    rw[List.getElem?_eq_none (by omega),List.getElem?_eq_none (by omega)]
  subst hus
  rw[e1]at hσ
  obtain⟨es',c',hrun,hKM'⟩:∃es' c',(execOp a.eval {dst:=none,op:=.mapUpdate t m x v,type:=ty,pos,after,guard}).run P w=.ok .skip (setBlock w b (.map es' c'))∧KM P kt g es' c':=by
   rcases L.find w hk es.toList (fun e he=>(hKM e he).1)with ⟨k1,k2⟩|⟨j,e0,k1,k2,k3⟩
   ·refine⟨es.push ⟨.agg us.toArray,.bool (g (.agg us.toArray)),c⟩,c+1,?_,fun e he=> ?_⟩
    ·simp[execOp,e1,f1,f3,Instr.mapUpdate,run_underlying ht,MapKept.run_getObj_map e3,L.check w false hk,k1,MapKept.run_setObj_map _ e3,Result.andThen,setBlock]
    ·rw[Array.toList_push,List.mem_append]at he
     rcases he with he|he
     ·exact hKM e he
     ·simp at he
      subst he
      exact⟨⟨kl,hk⟩,rfl⟩
   ·have hj:es[j]?=some e0:=by simpa using k2
    refine⟨es.modify j fun e=>{e with key:=.agg us.toArray,val:=.bool (g (.agg us.toArray))},c,?_,fun e he=> ?_⟩
    ·simp[execOp,e1,f1,f3,Instr.mapUpdate,run_underlying ht,MapKept.run_getObj_map e3,L.check w false hk,k1,hj,k3,L.stays w hk,MapKept.run_setObj_map _ e3,Result.andThen,setBlock]
    ·obtain⟨i,hi,rfl⟩:=List.getElem_of_mem he
     simp only[Array.length_toList,Array.size_modify]at hi
     rw[Array.getElem_toList,Array.getElem_modify]
     by_cases hij:j=i
     ·rw[if_pos hij]
      exact⟨⟨kl,hk⟩,rfl⟩
     ·rw[if_neg hij]
      exact hKM _ (Array.getElem_mem_toList _)
  rw[hrun]
  have hobj:(setBlock w b (.map es' c')).heap[b]?=some (.map es' c'):=by
   have:=(Array.getElem?_eq_some_iff.1 e3).1
   simp[setBlock,this]
  have hoth:∀i,i≠b→(setBlock w b (.map es' c')).heap[i]?=w.heap[i]?:=fun i hi=>by
   simp only[setBlock]
   rw[Array.getElem?_setIfInBounds_ne (Ne.symm hi)]
  have hbo:own σ S1.h b:=⟨id,_,by rw[hh1];simp,hσ,rfl⟩
  have hK':Keep (own σ S1.h) w (setBlock w b (.map es' c')):=⟨rfl,rfl,rfl,by simp[setBlock],fun i _ ho=>hoth i fun e=>ho (e▸hbo)⟩
  obtain⟨H,_,hO⟩:=R.hp.put (id:=id) (B':=moB bt (KM P kt g)) (v':=.map (some b)) (σ':=σ) (h':=look [(id,some (moB bt (KM P kt g)))] S1.h) (w':=setBlock w b (.map es' c'))
   (fun _ _ h=>h) (put_same _ _ _) hσ (fun i hi=>.inr (put_ne _ _ hi)) hK'
   (fun i u hi=>by
     by_cases h1:i=id
     ·subst h1;rw[look_one,put_same];simp
     ·rw[look_one,put_ne _ _ h1];exact(R.hp.fx i u hi).2) (fun _ _=>rfl)
   (fun i u c hi h1 h2 h3=>hoth c fun e=>by
     subst e
     have h1':S1.h i≠none:=by rw[look_one,put_ne _ _ hi]at h1;exact h1
     exact hi (R.hp.inj i id u _ c h1' (by rw[hh1];simp) h2 hσ h3 rfl))
   (.inr<| .inr ⟨rfl,rfl,rfl,b,.map es' c',rfl,hobj,rfl,.inr ⟨_,rfl,es',c',rfl,hKM'⟩⟩)
   (fun c hc=>by
     cases hc
     exact⟨R.hp.new b hbo,.inl hbo,fun i u hi h1 h2 h3=>by
      have h1':S1.h i≠none:=by rw[look_one,put_ne _ _ hi]at h1;exact h1
      exact hi (R.hp.inj i id u _ b h1' (by rw[hh1];simp) h2 hσ h3 rfl)⟩)
  exact⟨σ,R.step (e:=⟨.tu [],[(id,some (moB bt (KM P kt g)))],[]⟩) rfl (fun _ _ h=>h) hK' H hO (fun h=>absurd rfl h) fun i h=>.inl h⟩) hn
end ops
theorem AWp.askKM{kt:TypeId}{c:Code}{Q:Exit→St→Prop}{S:St}{id:Nat}{g:Value→Bool}{bt:TypeId}(key:Value)(hh:S.h id=some (moB bt (KM P kt g)))
 (h:∀has,AWp P c Q (S.eff none ⟨.tu [],[(id,some (moB bt (KH P kt g key has)))],[]⟩)):AWp P c Q S:=⟨fun b0 a w ⟨σ,R⟩=>by
 classical
 obtain⟨v,e1,e2⟩:=R.hp.blk id _ hh
 obtain⟨b,es,cl,rfl,hb,hK⟩:∃b es cl,v=.map (some b)∧w.heap[b]?=some (.map es cl)∧KM P kt g es cl:=by
  rcases e2 with ⟨h1,_⟩|⟨b',cap,cs,h1,h2,h3,h4⟩|⟨_,_,_,b',o,h1,h2,h3⟩
  ·cases h1
  ·exfalso
   obtain⟨u,_,k2⟩:=h4 0 (show 0<1 by omega) 0 (show 0<1 by omega)
   exact k2.2
  ·rcases h3.2 with h3|⟨K',h3,h4⟩
   ·cases h3
   ·cases h3
    obtain⟨es,c,rfl,h4⟩:=h4
    exact⟨b',es,c,h1,h2,h4⟩
 refine(h (decide (∃e∈es.toList,e.key=key))).get b0 a w ⟨σ,?_⟩
 have hput:∀i,i≠id→(S.eff none ⟨.tu [],[(id,some (moB bt (KH P kt g key (decide (∃e∈es.toList,e.key=key)))))],[]⟩).h i=S.h i:=fun i hi=>put_ne _ _ hi
 have hsame:(S.eff none ⟨.tu [],[(id,some (moB bt (KH P kt g key (decide (∃e∈es.toList,e.key=key)))))],[]⟩).h id=some (moB bt (KH P kt g key (decide (∃e∈es.toList,e.key=key)))):=put_same _ _ _
 have hne:∀i,(S.eff none ⟨.tu [],[(id,some (moB bt (KH P kt g key (decide (∃e∈es.toList,e.key=key)))))],[]⟩).h i≠none↔S.h i≠none:=fun i=>by
  by_cases hi:i=id
  ·subst hi;rw[hsame,hh];simp
  ·rw[hput i hi]
 have hown:∀b,own σ (S.eff none ⟨.tu [],[(id,some (moB bt (KH P kt g key (decide (∃e∈es.toList,e.key=key)))))],[]⟩).h b↔own σ S.h b:=fun b=>⟨fun ⟨i,v,h1,h2,h3⟩=>⟨i,v,(hne i).1 h1,h2,h3⟩,fun ⟨i,v,h1,h2,h3⟩=>⟨i,v,(hne i).2 h1,h2,h3⟩⟩
 have hout:∀b,out b0 σ (S.eff none ⟨.tu [],[(id,some (moB bt (KH P kt g key (decide (∃e∈es.toList,e.key=key)))))],[]⟩).h b→out b0 σ S.h b:=fun b hb=>hb.imp (hown b).1 fun h=>h
 refine⟨R.df,R.sz,R.ext,⟨fun i B hB=> ?_,fun i j v1 v2 b hi hj=>R.hp.inj i j v1 v2 b ((hne i).1 hi) ((hne j).1 hj),fun b hb=>R.hp.new b ((hown b).1 hb),fun i v hi=>⟨(R.hp.fx i v hi).1,(hne i).2 (R.hp.fx i v hi).2⟩,R.hp.big⟩,fun t x hx=>(R.sl t x hx).less hout,fun i hi=>R.fr i (by simpa[St.eff]using hi),R.le,R.gd,R.gh⟩
 by_cases hi:i=id
 ·subst hi
  rw[hsame]at hB
  cases hB
  exact⟨_,e1,.inr<| .inr ⟨rfl,rfl,rfl,b,.map es cl,rfl,hb,rfl,.inr ⟨_,rfl,es,cl,rfl,hK,by simp⟩⟩⟩
 ·rw[hput i hi]at hB
  obtain⟨v,k1,k2⟩:=R.hp.blk i B hB
  exact⟨v,k1,k2.less hout⟩⟩
end
end Go.AV
end
