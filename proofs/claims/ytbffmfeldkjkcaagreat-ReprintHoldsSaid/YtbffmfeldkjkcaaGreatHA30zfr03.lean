/- Parts of the proof: Args, AOpn, A24ro. -/
import Derived.Test.YtbffmfeldkjkcaaGreatG22
import Derived.Test.YtbffmfeldkjkcaaGreatHA30zfr02
set_option linter.unusedSimpArgs false
set_option linter.unusedVariables false
set_option maxHeartbeats 0
section
namespace Go.Flow
open Go Go.RowKit Go.WideShapes Go.ChangeShapes
section
variable{H:Type}{enc:TypeId×Value→H}{P:Program}{W:World}

theorem zN6(hl:laidOutB P=true){W':World}(hb:Below W.heap.size W W'):∀{ts:List TypeId} {vs:List Value} {ds:List (DataW H)} {ps:List MemPlace},
 (∀t∈ts,P.readableRec t=true∧t<P.types.size)→DataW.TrodAll enc P W 0 (fun _=>true) true ts vs ds ps→(∀p∈ps,p.block<W.heap.size)→
 ∀sp:Nat→Bool,(∀p∈ps,sp p.block=true)→DataW.TrodAll enc P W' 0 sp true ts vs ds ps
 | [],[],[],_,_,h,_,_,_=>h
 | _ ::_,_::_,_::_,_,hT,⟨p,q,h1,h2,e⟩,hlt,sp,hs=>
   ⟨p, q,WideElems.Trod_stays hl (hT _ (List.mem_cons.2 (.inl rfl))).1 (hT _ (List.mem_cons.2 (.inl rfl))).2 h1
       (fun x hx=>hb.same (hlt x (by rw[e];exact List.mem_append_left _ hx))) (fun x hx=>hs x (by rw[e];exact List.mem_append_left _ hx)),
     zN6 hl hb (fun t ht=>hT t (List.mem_cons.2 (.inr ht))) h2 (fun x hx=>hlt x (by rw[e];exact List.mem_append_right _ hx)) sp (fun x hx=>hs x (by rw[e];exact List.mem_append_right _ hx)),e⟩

theorem zOe{ts:List TypeId}{ds:List (DataW H)}(h:(DataW.weightsEach P ts ds).all (·≤reachBytes)=true)(j:Nat){t:TypeId}{d:DataW H}(ht:ts[j]?=some t)(hd:ds[j]?=some d):∀k∈d.weights P t,k≤reachBytes:=
 fun k hk=>of_decide_eq_true (List.all_eq_true.1 h k (DataW.weights_mem_each ht hd k hk))

end
section
variable{H:Type}{enc:TypeId×Value→H}{P:Program}
theorem zRt{f:Func}{s:ChangeSpec}{apart fresh handsOn again:Bool}{W W':World}{args:Array Value}{v:Value}{ds gs:List (DataW H)}{before pa pv:List MemPlace}
 (hW:DataW.Whole enc P f.params.toList s.vars apart W args.toList ds gs before)
 (hres:∀(b:Nat) (sp:Nat→Bool) (hd:Bool),DataW.TrodAll enc P W' b sp hd f.resultTypes.toList (v.resultList f.resultTypes.size) (s.fn H (ds++gs)).results [])
 (hargs:∀sp:Nat→Bool,(∀p∈before,sp p.block=true)→DataW.TrodAll enc P W' 0 sp true f.params.toList args.toList (s.fn H (ds++gs)).args pa)
 (hvars:∀sp:Nat→Bool,(∀p∈before,sp p.block=true)→DataW.TrodVars enc P W' sp s.vars (s.fn H (ds++gs)).vars pv)
 (hps:before=pa++pv) (hb:Below W.heap.size W W')
 (hok:∀(j:Nat) (t:TypeId) (r:Value),f.resultTypes[j]?=some t→(v.resultList f.resultTypes.size)[j]?=some r→Value.okWide P W' .any 0 t r):
 s.post enc P f apart fresh handsOn again W args v W':=by
 have hlt:∀p∈before,p.block<W.heap.size:=fun p hp=>hW.lt p hp
 have hold:∀p∈before,(fun b=>decide (b<W.heap.size)) p.block=true:=fun p hp=>by simpa using hlt p hp
 refine⟨ds,gs,before,[],pa,pv,hW,hres _ _ _,hargs _ hold,hvars _ hold,World.keptBut_mono (fun p hp=>⟨hp,?_⟩) (hb.frame (·∈before)),fun _=> ?_⟩
 ·rw[hps,List.mem_append]at hp
  exact Or.inr hp
 ·obtain⟨_,_,_,_,_,hz,hn⟩:=hW
  refine⟨hok,_,_,([]++pa)++pv,⟨[]++pa,pv,trodAll_append (hargs _ (fun _ _=>rfl)) (hres _ _ _),hvars _ (fun _ _=>rfl),rfl,?_,?_⟩,?_⟩
  ·intro b off hp
   have hin:MemPlace.cell b off∈before:=by rw[hps];simpa using hp
   rw[hb.frozen (hlt _ hin)];exact hz b off hin
  ·intro ha
   have:=hn ha;rw[hps]at this
   simpa using this
  ·intro p hp _
   rw[hps]
   simpa using hp
end
end Go.Flow
end
section
namespace Go.AV
open Go Go.RowKit Go.Flow Go.WideShapes Go.ChangeShapes
section
variable{H:Type}{enc:TypeId×Value→H}{P:Program}{W:World}{α β:Type}
theorem Opn.argS{t:TypeId}{fs:Array Field}{c:α→List CV}{ok:α→Prop}{r:Reach}{b0:Nat}{v:Value}{d:DataW H}{ps:List MemPlace}(h:Opn enc P W t c ok)(ht:P.underlying t=some (.struct fs))(hv:Value.okWide P W r b0 t v)(hd:DataW.Trod enc P W 0 (fun _=>true) true t v d ps)(hw:∀k∈d.weights P t,k≤reachBytes):
 ∃a,ok a∧RepV (fun _=>none) O0 W (.ag (c a)) v:=by
 unfold Value.okWide at hv;rw[ht]at hv
 obtain⟨cs,rfl,-,-⟩:=hv
 obtain⟨fu,g⟩:=hd
 obtain⟨a,h1,h2⟩:=h fu _ d ps g hw
 exact⟨a,h1,_,rfl,h2⟩
theorem Opn.argA{t e:TypeId}{N:Nat}{c:α→List CV}{ok:α→Prop}{r:Reach}{b0:Nat}{v:Value}{d:DataW H}{ps:List MemPlace}(h:Opn enc P W t c ok)(ht:P.underlying t=some (.array N e))(hv:Value.okWide P W r b0 t v)(hd:DataW.Trod enc P W 0 (fun _=>true) true t v d ps)(hw:∀k∈d.weights P t,k≤reachBytes):
 ∃a,ok a∧RepV (fun _=>none) O0 W (.ag (c a)) v:=by
 unfold Value.okWide at hv;rw[ht]at hv
 obtain⟨cs,rfl,-,-⟩:=hv
 obtain⟨fu,g⟩:=hd
 obtain⟨a,h1,h2⟩:=h fu _ d ps g hw
 exact⟨a,h1,_,rfl,h2⟩
end
end Go.AV
end
section
namespace Go.Proofs.YtbffmfeldkjkcaaGreat
open Go.ChangeShapes Go.WideShapes Go.ChangeAt Go.RowKit Go.Flow Go.AV
theorem zQS:laidOutB Tryz.prog=true:=by kernel_rfl
section
variable{H:Type}{enc:TypeId×Value→H}{W:World}
theorem zTd:Opn enc Tryz.prog W 23 (fun L:List Int=> [.ls L.length 1 (iF fun k=>L.getD k 0)]) (fun L=>L.length≤4611686018427387904∧∀a∈L,-9223372036854775808≤a∧a≤9223372036854775807):=
 (opn_int.slice1 0 Tryz.underlying23 zIk zPL fun _=>rfl).mono fun L h=>⟨by have:=reachBytes_lt;omega,h.2⟩
end
end Go.Proofs.YtbffmfeldkjkcaaGreat
end
