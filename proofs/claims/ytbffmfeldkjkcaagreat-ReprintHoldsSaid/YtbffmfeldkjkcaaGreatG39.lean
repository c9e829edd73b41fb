/- Parts of the proof: ADie. -/
import Derived.Test.YtbffmfeldkjkcaaGreatG37
set_option linter.unusedSimpArgs false
set_option linter.unusedVariables false
set_option maxHeartbeats 0
section
namespace Go.AV
open Go Go.RowKit Go.Flow
section
variable{P:Program}{ch:List PanicEntry}
abbrev zL0(P:Program)(ch:List PanicEntry)(f:FuncId):List Value→World→(Ending→World→Prop)→Prop:=fun vals w Q=>Calls P f vals.toArray w fun e w'=>e=.panicked ch∧Q (.returned (.tuple #[])) w'
abbrev zOM(P:Program)(ch:List PanicEntry)(f:FuncId)(args:List V1)(hs mv hs' nw:List AB):Prop:=GMc (zL0 P ch f) (fun _=>True) (fun _=>False) args hs mv (GEq (.tu []) hs' nw)
structure ADie(P:Program)(ops:Array Oper)(l:List Oper)(S:St)(Q:Exit→St→Prop):Prop where
 get:∀rd b0 a w (K:Exit→Act→World→Prop),Rel b0 S a w→(∀e S a w,Rel b0 S a w→Q e S→K e a w)→wpListIn (fnc rd) 0 P ops K l a w
variable{ops:Array Oper}{rest:List Oper}{S:St}{Q:Exit→St→Prop}{dst:Option Tmp}{ty:TypeId}{pos:String}{after:Array Edge}{guard:Option (Nat×Bool)}
theorem ADie.split{l:List Oper}(n:Nat)(h:AList P ops (l.take n) [] S (fun _ S1=>ADie P ops (l.drop n) S1 Q)):ADie P ops l S Q:=⟨fun rd b0 a w K hR hK=>by
 have key:∀(l1:List Oper) (l2:List Oper) (acc:List (List Nat×List Nat)) (S:St) (a:Act) (w:World),zDG P ops l1 acc S (fun _ S1=>ADie P ops l2 S1 Q)→Rel b0 S a w→wpListIn (fnc rd) 0 P ops K (l1++l2) a w:=by
  intro l1 l2
  induction l1 with
  |nil=>exact fun acc S a w h hR=>h.get rd b0 a w K hR hK
  | cons o l1 ih=>
    rintro acc S a w ⟨rd',e,hs,hk⟩ hR
    rw[List.cons_append];unfold wpListIn
    rcases hs.at hR with ⟨hw,hg⟩|⟨hw,hR'⟩
    ·rw[if_pos hw]
     exact hg.wpIn fun v w' hR'=>ih _ _ _ _ hk hR'
    ·rw[if_neg (by simp[hw])]
     exact⟨fun _ _=>trivial,ih _ _ _ _ hk hR'⟩
 have:=key (l.take n) (l.drop n) [] S a w h.get hR
 rwa [List.take_append_drop]at this⟩
theorem ADie.call{f:FuncId}{fn:Func}{z:Operand}{cap:List V1}{xs:Array Operand}{ats:Array TypeId}{args zBd:List V1}(ids mids ni:List Nat)(bs mv hs' nw bs' nw':List AB)
 (hw:S.wants ops {dst,op:=.call {callee:=.value z,args:=xs,argTypes:=ats},type:=ty,pos,after,guard}=some true)
 (hz:FnV S z f cap) (ha:S.opds xs.toList=some args) (hf:P.funcs[f]?=some fn) (hb:fn.body.isNone=false) (hnm:(fn.name== "runtime.NumGoroutine")=false) (hL:zBm S ids mids ids bs) (hM:zCQ S mids mv)
 (hnd:(zAx (ids++mids) && mids.all (fun m=>Nat.blt m 1000) && Nat.ble mv.length 100 && zAx ni && ni.all (fun i=>S.fr i) && Nat.beq bs'.length bs.length && Nat.beq nw'.length ni.length)=true) (hla:LeL (zCP ids mids) (args++cap) zBd) (hbk:zBq ids ni hs' bs') (hnw:BackB ids ni nw nw')
 (hc:zOM P ch f zBd bs mv hs' nw)
 (hn:Q (.panic ch) (S.eff none ⟨.tu [],zO ids bs'++(zO ni nw'++zA7 mids),ni⟩)):ADie P ops ({dst,op:=.call {callee:=.value z,args:=xs,argTypes:=ats},type:=ty,pos,after,guard}::rest) S Q:=⟨fun rd b0 a w K hR hK=>by
 obtain⟨σ,R0⟩:=hR
 unfold wpListIn;rw[if_pos (zC8 R0 hw)]
 refine⟨fun _ _=>trivial,?_⟩
 simp only[Bool.and_eq_true]at hnd
 obtain⟨⟨⟨⟨⟨⟨n1,n2⟩,n3⟩,n4⟩,n5⟩,n6⟩,n7⟩:=hnd
 obtain⟨vs,e1,e2⟩:=hz.rep R0
 have:=zGs (Cl:=zL0 P ch f) (Pre:=fun _=>True) (V:=fun _=>False) (ids:=ids) (mids:=mids) (ni:=ni) (fun vals w Q Q' hq h=>Calls.mono h fun e w' h=>⟨h.1,hq _ _ h.2⟩) hc (fun _ h=>h.elim) (fun _ _ _ _ _ _=>trivial) R0 (RepL.append (zBT R0 ha) e2) hla hL hM n1 n2 (Nat.ble_eq.mp n3) n4 (fun id hid=>List.all_eq_true.1 n5 id hid);rw[Oper.semAt_eq _ _ _ (fun c hc=>by cases hc),zCc f fn hf hb hnm #[] vs.toArray e1 w];rw[Oper.uponIn_enter]
 refine⟨fun hd=>(by cases hd),?_⟩
 rw[show(#[]++xs.map a.eval++vs.toArray:Array Value)=(xs.toList.map a.eval++vs).toArray from Array.ext' (by simp)]
 exact(zE9 rd).calls (Calls.mono this fun e w' ⟨k0,v,r,hs0,nw0,g1,⟨h1,h2,h3⟩,g3⟩=>by
  subst k0 h1 h2 h3
  obtain⟨σ',C⟩:=g3 (.tu []) bs' nw' (.tu (l:= []) (m:= []) trivial) hbk hnw (Nat.eq_of_beq_eq_true n6) (Nat.eq_of_beq_eq_true n7)
  exact hK _ _ _ _ ⟨σ',R0.step (d:=none) (u:=undef) (e:=⟨.tu [],zO ids bs'++(zO ni nw'++zA7 mids),ni⟩) rfl C.up (C.keep.less fun b hb=>hb.elim id fun h=>h.elim) C.hp C.outs (fun h=>absurd rfl h) C.dom⟩ hn)⟩
theorem ADie.panic{x:Operand}{v:Value}(hw:S.wants ops {dst,op:=.panic x,type:=ty,pos,after,guard}=some true)(hx:S.opd x=some (.c (.p v)))(hv:∀w,(Instr.panic v).run P w=.halt (.panic v) w)
 (hn:Q (.panic [{v,recovered:=false}]) S):ADie P ops ({dst,op:=.panic x,type:=ty,pos,after,guard}::rest) S Q:=⟨fun rd b0 a w K hR hK=>by
 obtain⟨σ,R0⟩:=hR
 unfold wpListIn;rw[if_pos (zC8 R0 hw)]
 refine⟨fun _ _=>trivial,?_⟩
 have e1:a.eval x=v:=(zW R0 hx).2;rw[Oper.semAt_eq _ _ _ (fun c hc=>by cases hc)];have hrun:(execOp a.eval {dst,op:=.panic x,type:=ty,pos,after,guard}).run P w=.halt (.panic v) w:=by
  simp only[execOp,e1]
  rw[Sem.run_bind,hv w];rfl
 rw[hrun,Oper.uponIn_panic];exact hK _ _ _ _ ⟨σ,R0⟩ hn⟩
end
end Go.AV
end
