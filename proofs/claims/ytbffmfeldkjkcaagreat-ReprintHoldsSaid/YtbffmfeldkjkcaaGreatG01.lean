/- Parts of the proof: Flow, Flow2, Base, App2, Flow3, AV. -/
import Derived.StillTail
import Derived.Deep.Draws
import Derived.WalkKit
import Derived.Deep.AppendLies
import Derived.OrdersIn
import Derived.RangeFuncCalls
set_option linter.unusedSimpArgs false
set_option linter.unusedVariables false
set_option maxHeartbeats 0
section
namespace Go.Flow
open Go Go.RowKit
def Ext(w w':World):Prop:=Below w.heap.size w w'
theorem Ext.refl(w:World):Ext w w:=Below.refl _ _
theorem Ext.trans{a b c:World}(h:Ext a b)(k:Ext b c):Ext a c:=Below.trans h (Below.mono k h.size)
theorem Ext.size{a b:World}(h:Ext a b):a.heap.size≤b.heap.size:=Below.size h
theorem Ext.cell{a b:World}(h:Ext a b){p:Addr}{v:Value}(hc:a.cell? p=some v):b.cell? p=some v:=
 (Below.cell h (World.block_lt_of_cell? a p hc)).trans hc
theorem Ext.block{a b:World}(h:Ext a b){k:Nat}{o:Obj}(hc:a.heap[k]?=some o):b.heap[k]?=some o:=
 (Below.block h k (Array.getElem?_eq_some_iff.1 hc).1).trans hc
theorem Ext.drew{a b:World}(h:Ext a b):Ext a b.drew:=Below.drew h
theorem Ext.alloc{a b:World}(h:Ext a b)(o:Obj):Ext a (b.alloc o):=Below.alloc h h.size o
theorem Ext.setCell{a b:World}(h:Ext a b){p:Addr}(hp:a.heap.size≤p.block)(v:Value):Ext a (b.setCell p v):=Below.setCell h hp v
theorem Ext.grown{a b c:World}{row:Option Nat}(h:Ext a b)(hg:b.grownBy c row)(hr:∀k,row=some k→a.heap.size≤k):Ext a c:=Below.grown h hg h.size hr

section
variable{P:Program}{ops:Array Oper}{md:Region.Mode}{C:World→Prop}

def Comes(P:Program)(C:World→Prop)(v:Value):Result Next→Prop
 | .ok (.value u) w'=>u=v∧C w'
 | .ok .skip w'=>undef=v∧C w'
 | .ok (.enter f args) w'=>Calls P f args w' fun e w''=>e=.returned v∧C w''
 |_=>False

theorem Comes.upon{o:Oper}{a:Act}{v:Value}{K:Act→World→Prop}{Q:Exit→Act→World→Prop}{r:Result Next}
 (h:Comes P C v r) (hK:∀w',C w'→K (a.put o.dst v) w'):o.upon P a K Q r:=by
 cases r with
 | ok n w'=>
   cases n<;>simp only[Comes,Oper.upon]at h⊢
   case value u=>obtain⟨rfl,hc⟩:=h;exact hK _ hc
   case skip=>obtain⟨rfl,hc⟩:=h;exact hK _ hc
   case enter f args=>exact h.mono fun e w'' ⟨he,hc⟩=>by subst he;exact hK _ hc
 |halt x w'=>simp only[Comes]at h

def At(P:Program)(ops:Array Oper)(C:World→Prop)(o:Oper)(v:Value)(a:Act):Prop:=
 (Region.wanted o (yielded ops a.tmps)=true∧∀w,C w→Comes P C v ((execOp a.eval o).run P w))∨
 (Region.wanted o (yielded ops a.tmps)=false∧undef=v)

theorem At.same{o:Oper}{v:Value}{a a':Act}(h:At P ops C o v a)(he:execOp a'.eval o=execOp a.eval o)
 (hw:Region.wanted o (yielded ops a'.tmps)=Region.wanted o (yielded ops a.tmps)):At P ops C o v a':=by
 unfold At at *;rw[he,hw];exact h

theorem At.wpOp{i:Nat}{o:Oper}{v:Value}{a:Act}{w:World}{K:Act→World→Prop}{Q:Exit→Act→World→Prop}
 (hi:ops[i]?=some o) (h:At P ops C o v a) (hC:C w) (hK:∀w',C w'→K (a.put o.dst v) w'):wpOp P ops Q i K a w:=by
 unfold Go.wpOp
 simp only[hi]
 rcases h with ⟨hw,h⟩|⟨hw,rfl⟩
 ·rw[if_pos hw]
  exact .inl ((h w hC).upon hK)
 ·rw[if_neg (by simp[hw])]
  exact hK w hC

def St(P:Program)(ops:Array Oper)(C:World→Prop)(i:Nat)(K:Act→Prop)(a:Act):Prop:=
 ∃o v,ops[i]?=some o∧At P ops C o v a∧K (a.put o.dst v)

theorem St.mono{i:Nat}{a:Act}{K K':Act→Prop}(h:∀a,K a→K' a)(hh:St P ops C i K a):St P ops C i K' a:=
 let ⟨o,v,h1,h2,h3⟩:=hh
 ⟨o,v,h1,h2,h _ h3⟩

theorem St.put{j:Nat}{oi oj:Oper}{v:Value}(hj:ops[j]?=some oj)(hap:oi.apart ops oj=true)
 (hsi:∀cs b,oi.op≠ .select cs b) (hsj:∀cs b,oj.op≠ .select cs b) {K:Act→Prop} {a:Act}
 (hy:At P ops C oi v a) (h:St P ops C j K (a.put oi.dst v)):
 St P ops C j (fun a'=>At P ops C oi v a'∧K (a'.put oi.dst v)) a:=by
 obtain⟨h1,h2,h3⟩:=Oper.apart_spec hap
 obtain⟨o,u,ho,hu,hK⟩:=h
 have hoj:o=oj:=Option.some.inj (ho.symm.trans hj);subst hoj
 refine⟨o,u,ho,hu.same (execOp_put o hsj a oi.dst v h1).symm (wanted_put o a oi.dst v h1).symm,
  hy.same (execOp_put oi hsi a o.dst u h3) (wanted_put oi a o.dst u h3),?_⟩
 rw[←Act.put_comm a v u h2];exact hK

def Any(P:Program)(md:Region.Mode)(ops:Array Oper)(C:World→Prop)(n:Nat)(L:Array Bool→Act→Prop):Nat→Array Bool→Act→Prop
 |0,listed,a=>L listed a
 | f+1,listed,a=>
   Region.ready md ops listed≠ []∧∀i∈Region.ready md ops listed,i<n∧St P ops C i (Any P md ops C n L f (listed.setIfInBounds i true)) a

def Walk(P:Program)(ops:Array Oper)(C:World→Prop)(Qn:Act→Prop):List Oper→Act→Prop
 | [],a=>Qn a
 |o::rest,a=>∃v,At P ops C o v a∧Walk P ops C Qn rest (a.put o.dst v)

theorem Walk.nil{Qn:Act→Prop}{a:Act}(h:Qn a):Walk P ops C Qn [] a:=h
theorem Walk.run{Qn:Act→Prop}{a:Act}{o:Oper}{rest:List Oper}{v:Value}(hg:Region.wanted o (yielded ops a.tmps)=true)
 (hr:∀w,C w→(execOp a.eval o).run P w=.ok (.value v) w) (h:Walk P ops C Qn rest (a.put o.dst v)):Walk P ops C Qn (o::rest) a:=
 ⟨v,.inl ⟨hg,fun w hw=>by rw[hr w hw];exact⟨rfl,hw⟩⟩,h⟩
theorem Walk.call{Qn:Act→Prop}{a:Act}{o:Oper}{rest:List Oper}{v:Value}(f:FuncId)(args:Array Value)(hg:Region.wanted o (yielded ops a.tmps)=true)
 (hr:∀w,(execOp a.eval o).run P w=.ok (.enter f args) w) (hc:∀w,C w→Calls P f args w fun e w'=>e=.returned v∧C w')
 (h:Walk P ops C Qn rest (a.put o.dst v)):Walk P ops C Qn (o::rest) a:=
 ⟨v,.inl ⟨hg,fun w hw=>by rw[hr w];exact hc w hw⟩,h⟩
theorem zCc{a:Act}{dst:Option Tmp}{x:Operand}{xs:Array Operand}{ats:Array TypeId}{ty:TypeId}{pos:String}{after:Array Edge}{guard:Option (Nat×Bool)}
 (f:FuncId) (fn:Func) (hf:P.funcs[f]?=some fn) (hb:fn.body.isNone=false) (hn:(fn.name== "runtime.NumGoroutine")=false)
 (first captured:Array Value) (hx:a.eval x=.func (.func f) first captured) (w:World):
 (execOp a.eval {dst,op:=.call {callee:=.value x,args:=xs,argTypes:=ats},type:=ty,pos,after,guard}).run P w=.ok (.enter f (first++xs.map a.eval++captured)) w:=by
 have hr:execOp a.eval {dst,op:=.call {callee:=.value x,args:=xs,argTypes:=ats},type:=ty,pos,after,guard}=callFunc f (first++xs.map a.eval++captured):=by
  show(do let d ←(resolve a.eval {callee:=.value x,args:=xs,argTypes:=ats} ty);invoke d.target d.args)=_
  simp only[resolve,hx,Deferred.ofValue]
  rfl
 rw[hr];have hn':¬fn.name= "runtime.NumGoroutine" :=by simpa using hn
 have hb':¬fn.body=none:=by cases h:fn.body<;>simp_all
 simp[callFunc,hf,program,Sem.run,bind,Sem.bind,pure]
 rw[if_neg hn',if_neg hb']

theorem Walk.callf{Qn:Act→Prop}{a:Act}{rest:List Oper}{v:Value}{dst:Option Tmp}{x:Operand}{xs:Array Operand}{ats:Array TypeId}{ty:TypeId}{pos:String}{after:Array Edge}{guard:Option (Nat×Bool)}
 {f:FuncId} {fn:Func} (hf:P.funcs[f]?=some fn) (hb:fn.body.isNone=false) (hn:(fn.name== "runtime.NumGoroutine")=false) {args:Array Value}
 {first captured:Array Value} (hx:a.eval x=.func (.func f) first captured)
 (hc:∀w,C w→Calls P f args w fun e w'=>e=.returned v∧C w')
 (ha:first.toList++xs.toList.map a.eval++captured.toList=args.toList)
 (hg:Region.wanted {dst,op:=.call {callee:=.value x,args:=xs,argTypes:=ats},type:=ty,pos,after,guard} (yielded ops a.tmps)=true)
 (h:Walk P ops C Qn rest (a.put dst v)):Walk P ops C Qn ({dst,op:=.call {callee:=.value x,args:=xs,argTypes:=ats},type:=ty,pos,after,guard}::rest) a:=
 ⟨v,.inl ⟨hg,fun w hw=>by rw[zCc f fn hf hb hn first captured hx w,show first++xs.map a.eval++captured=args from Array.ext' (by simpa using ha)];exact hc w hw⟩,h⟩
theorem of_ext{W:World}{f:FuncId}{args:Array Value}{v:Value}{w:World}(hC:Ext W w)(h:Calls P f args w fun e w'=>e=.returned v∧Ext w w'):Calls P f args w fun e w'=>e=.returned v∧Ext W w':=
 h.mono fun _ _ ⟨he,hw⟩=>⟨he,hC.trans hw⟩
theorem Walk.move{Qn:Act→Prop}{a:Act}{rest:List Oper}{dst:Option Tmp}{x:Operand}{ty:TypeId}{pos:String}{after:Array Edge}{guard:Option (Nat×Bool)}
 (hg:Region.wanted {dst,op:=.move x,type:=ty,pos,after,guard} (yielded ops a.tmps)=true)
 (h:Walk P ops C Qn rest (a.put dst (a.eval x))):Walk P ops C Qn ({dst,op:=.move x,type:=ty,pos,after,guard}::rest) a:=
 Walk.run hg (fun _ _=>rfl) h
theorem Walk.assign{Qn:Act→Prop}{a:Act}{rest:List Oper}{dst:Option Tmp}{x:Operand}{ty:TypeId}{pos:String}{after:Array Edge}{guard:Option (Nat×Bool)}
 (hg:Region.wanted {dst,op:=.assign x,type:=ty,pos,after,guard} (yielded ops a.tmps)=true)
 (h:Walk P ops C Qn rest (a.put dst (a.eval x))):Walk P ops C Qn ({dst,op:=.assign x,type:=ty,pos,after,guard}::rest) a:=
 Walk.run hg (fun _ _=>rfl) h
theorem Walk.skip{Qn:Act→Prop}{a:Act}{o:Oper}{rest:List Oper}(hg:Region.wanted o (yielded ops a.tmps)=false)
 (h:Walk P ops C Qn rest (a.put o.dst undef)):Walk P ops C Qn (o::rest) a:=
 ⟨undef,.inr ⟨hg,rfl⟩,h⟩
end
section
variable{P:Program}{ops:Array Oper}{md:Region.Mode}

def Goes(P:Program)(K:Value→World→Prop):Result Next→Prop
 | .ok (.value u) w'=>K u w'
 | .ok .skip w'=>K undef w'
 | .ok (.enter f args) w'=>Calls P f args w' fun e w''=>∃v,e=.returned v∧K v w''
 |_=>False

theorem Goes.mono{K K':Value→World→Prop}{r:Result Next}(h:∀v w,K v w→K' v w)(hh:Goes P K r):Goes P K' r:=by
 cases r with
 | ok n w'=>
   cases n<;>simp only[Goes]at hh⊢<;>
    first
     |exact h _ _ hh
     |exact Calls.mono hh fun _ _ ⟨v,he,hk⟩=>⟨v,he,h _ _ hk⟩
 |halt x w'=>simp only[Goes]at hh

theorem Goes.upon{o:Oper}{a:Act}{K:Act→World→Prop}{K0:Value→World→Prop}{Q:Exit→Act→World→Prop}{r:Result Next}
 (h:Goes P K0 r) (hK:∀v w',K0 v w'→K (a.put o.dst v) w'):o.upon P a K Q r:=by
 cases r with
 | ok n w'=>
   cases n<;>simp only[Goes,Oper.upon]at h⊢
   case value u=>exact hK _ _ h
   case skip=>exact hK _ _ h
   case enter f args=>exact h.mono fun e w'' ⟨v,he,hc⟩=>by subst he;exact hK _ _ hc
 |halt x w'=>simp only[Goes]at h

def AtE(P:Program)(ops:Array Oper)(w:World)(o:Oper)(v:Value)(a:Act):Prop:=
 (Region.wanted o (yielded ops a.tmps)=true∧∀w1,Ext w w1→Goes P (fun u w'=>u=v∧Ext w1 w') ((execOp a.eval o).run P w1))∨
 (Region.wanted o (yielded ops a.tmps)=false∧undef=v)
theorem AtE.same{w:World}{o:Oper}{v:Value}{a a':Act}(h:AtE P ops w o v a)(he:execOp a'.eval o=execOp a.eval o)
 (hw:Region.wanted o (yielded ops a'.tmps)=Region.wanted o (yielded ops a.tmps)):AtE P ops w o v a':=by
 unfold AtE at *;rw[he,hw];exact h
theorem AtE.later{w w':World}{o:Oper}{v:Value}{a:Act}(h:AtE P ops w o v a)(hE:Ext w w'):AtE P ops w' o v a:=
 h.imp (fun ⟨hw,h⟩=>⟨hw,fun w1 h1=>h w1 (hE.trans h1)⟩) id

def StE(P:Program)(ops:Array Oper)(i:Nat)(K:Act→World→Prop)(a:Act)(w:World):Prop:=
 ∃ o,ops[i]?=some o∧
   ((Region.wanted o (yielded ops a.tmps)=true∧Goes P (fun u w'=>Ext w w'∧K (a.put o.dst u) w') ((execOp a.eval o).run P w))∨
    (Region.wanted o (yielded ops a.tmps)=false∧K (a.put o.dst undef) w))
theorem StE.mono{i:Nat}{a:Act}{w:World}{K K':Act→World→Prop}(h:∀a w,K a w→K' a w)(hh:StE P ops i K a w):StE P ops i K' a w:=
 let ⟨o,h1,h2⟩:=hh
 ⟨o,h1,h2.imp (fun ⟨hw,hg⟩=>⟨hw,hg.mono fun _ _ ⟨h3,h4⟩=>⟨h3,h _ _ h4⟩⟩) (fun ⟨hw,hk⟩=>⟨hw,h _ _ hk⟩)⟩
theorem zKV{i:Nat}{o:Oper}{v:Value}{a:Act}{w w0:World}{K:Act→World→Prop}(hi:ops[i]?=some o)(h:AtE P ops w0 o v a)(hE:Ext w0 w)
 (hK:∀w',Ext w w'→K (a.put o.dst v) w'):StE P ops i K a w:=by
 refine⟨o,hi,?_⟩
 rcases h with ⟨hw,h⟩|⟨hw,rfl⟩
 ·exact .inl ⟨hw,(h w hE).mono fun u w' ⟨hu,hx⟩=>⟨hx,hu▸hK w' hx⟩⟩
 ·exact .inr ⟨hw,hK w (Ext.refl w)⟩
theorem StE.wpOp{i:Nat}{a:Act}{w:World}{K K':Act→World→Prop}{Q:Exit→Act→World→Prop}
 (h:StE P ops i K a w) (hK:∀a' w',Ext w w'→K a' w'→K' a' w'):wpOp P ops Q i K' a w:=by
 obtain⟨o,hi,h⟩:=h
 unfold Go.wpOp
 simp only[hi]
 rcases h with ⟨hw,h⟩|⟨hw,h⟩
 ·rw[if_pos hw]
  exact .inl (h.upon fun v w' ⟨h1,h2⟩=>hK _ _ h1 h2)
 ·rw[if_neg (by simp[hw])]
  exact hK _ _ (Ext.refl w) h

theorem StE.put{j:Nat}{oi oj:Oper}{v:Value}{w w0:World}(hj:ops[j]?=some oj)(hap:oi.apart ops oj=true)
 (hsi:∀cs b,oi.op≠ .select cs b) (hsj:∀cs b,oj.op≠ .select cs b) {K:Act→World→Prop} {a:Act}
 (hy:AtE P ops w0 oi v a) (h:StE P ops j K (a.put oi.dst v) w):
 StE P ops j (fun a' w'=>AtE P ops w0 oi v a'∧K (a'.put oi.dst v) w') a w:=by
 obtain⟨h1,h2,h3⟩:=Oper.apart_spec hap
 obtain⟨o,ho,h⟩:=h
 have hoj:o=oj:=Option.some.inj (ho.symm.trans hj);subst hoj
 refine⟨o,ho,?_⟩
 have hk:∀u w',K ((a.put oi.dst v).put o.dst u) w'→AtE P ops w0 oi v (a.put o.dst u)∧K ((a.put o.dst u).put oi.dst v) w':=fun u w' hK=>by
  refine⟨hy.same (execOp_put oi hsi a o.dst u h3) (wanted_put oi a o.dst u h3),?_⟩
  rw[←Act.put_comm a v u h2];exact hK
 rw[execOp_put o hsj a oi.dst v h1,wanted_put o a oi.dst v h1]at h;exact h.imp (fun ⟨hw,hg⟩=>⟨hw,hg.mono fun u w' ⟨hx,hK⟩=>⟨hx,hk u w' hK⟩⟩) (fun ⟨hw,hK⟩=>⟨hw,hk _ _ hK⟩)

def AnyE(P:Program)(md:Region.Mode)(ops:Array Oper)(n:Nat)(L:Array Bool→Act→World→Prop):Nat→Array Bool→Act→World→Prop
 |0,listed,a,w=>∀w1,Ext w w1→L listed a w1
 | f+1,listed,a,w=>∀w1,Ext w w1→
   Region.ready md ops listed≠ []∧∀i∈Region.ready md ops listed,i<n∧StE P ops i (AnyE P md ops n L f (listed.setIfInBounds i true)) a w1

theorem AnyE.later{n:Nat}{L:Array Bool→Act→World→Prop}{f:Nat}{listed:Array Bool}{a:Act}{w w':World}(h:AnyE P md ops n L f listed a w)(hE:Ext w w'):AnyE P md ops n L f listed a w':=by
 cases f with
 |zero=>exact fun w1 h1=>h w1 (hE.trans h1)
 |succ f=>exact fun w1 h1=>h w1 (hE.trans h1)

theorem zOf{n g:Nat}{L:Array Bool→Act→World→Prop}{Q:Exit→Act→World→Prop}(hL:∀listed a w,L listed a w→wpAny P md ops Q g listed a w):
 ∀(f:Nat) (listed:Array Bool) (a:Act) (w:World),AnyE P md ops n L f listed a w→wpAny P md ops Q (f+g) listed a w
 |0,listed,a,w,h=>by rw[Nat.zero_add];exact hL _ _ _ (h w (Ext.refl w))
 | f+1,listed,a,w,h=>by
   rw[show f+1+g=(f+g)+1 by omega];have h:=h w (Ext.refl w)
   exact⟨fun h0=>absurd h0 h.1,fun i hi=>(h.2 i hi).2.wpOp fun a' w' _ hk=>zOf hL f _ a' w' hk⟩

theorem zPp{n i:Nat}{oi:Oper}{v:Value}{L:Array Bool→Act→World→Prop}(hi:ops[i]?=some oi)
 (hsel:∀(j:Nat) (o:Oper) cs b,ops[j]?=some o→o.op≠ .select cs b)
 (htail:∀listed,HeadInv md ops n listed→∀i,i<n→listed.getD i true=false→∀t,n≤t→t∉Region.ready md ops listed) (hin:i<n)
 (hdone:∀listed a w,L listed a w→∀j∈Region.ready md ops listed,n≤j):
 ∀ (f:Nat) (listed:Array Bool) (a:Act) (w:World),HeadInv md ops n listed→
   (∀j oj,ops[j]?=some oj→j≠i→listed.getD j true=false→(∀e∈oj.after,Region.binds md e=true→e.on≠i)→oi.apart ops oj=true)→
   i∈Region.ready md ops listed→AtE P ops w oi v a→
   AnyE P md ops n L f (listed.setIfInBounds i true) (a.put oi.dst v) w→AnyE P md ops n L (f+1) listed a w:=by
 intro f
 induction f with
 | zero=>
   intro listed a w inv _ hr hy H w1 hE;have hun:=(mem_ready.1 hr).1
   refine⟨fun h=>(by rw[h]at hr;cases hr),fun j hj=> ?_⟩
   have hjn:j<n:=(Nat.lt_or_ge j n).resolve_right fun h=>absurd hj (htail _ inv i hin hun j h)
   refine⟨hjn,?_⟩
   by_cases hji:j=i
   ·subst hji;exact zKV hi hy hE fun w' hE'=>AnyE.later H (hE.trans hE')
   ·have:=hdone _ _ _ (H w1 hE) j (ready_mono hj hji)
    omega
 | succ f ih=>
   intro listed a w inv hfree hr hy H w1 hE;have hun:=(mem_ready.1 hr).1
   refine⟨fun h=>(by rw[h]at hr;cases hr),fun j hj=> ?_⟩
   have hjn:j<n:=(Nat.lt_or_ge j n).resolve_right fun h=>absurd hj (htail _ inv i hin hun j h)
   refine⟨hjn,?_⟩
   by_cases hji:j=i
   ·subst hji;exact zKV hi hy hE fun w' hE'=>AnyE.later H (hE.trans hE')
   ·have h1:=((H w1 hE).2 j (ready_mono hj hji)).2
    obtain⟨hjun,oj,hoj,hall⟩:=mem_ready.1 hj
    have hnot:∀e∈oj.after,Region.binds md e=true→e.on≠i:=fun e he hb heq=>by
     have h1:=hall e he hb;rw[heq,getD_both hun]at h1
     cases h1
    have h2:=StE.put (w0:=w) hoj (hfree j oj hoj hji hjun hnot) (fun cs b=>hsel i oi cs b hi) (fun cs b=>hsel j oj cs b hoj) hy h1;have hfree':∀k ok,ops[k]?=some ok→k≠i→(listed.setIfInBounds j true).getD k true=false→
     (∀e∈ok.after,Region.binds md e=true→e.on≠i)→oi.apart ops ok=true:=fun k ok hk hki hun hno=>by
     refine hfree k ok hk hki ?_ hno;by_cases hjk:j=k
     ·subst hjk;exact hjun
     ·rw[getD_set_ne true hjk]at hun;exact hun
    obtain⟨o',ho',h2⟩:=h2
    refine⟨o',ho',?_⟩
    have step:∀u w',Ext w1 w'→(AtE P ops w oi v (a.put o'.dst u)∧AnyE P md ops n L f ((listed.setIfInBounds i true).setIfInBounds j true) ((a.put o'.dst u).put oi.dst v) w')→
     AnyE P md ops n L (f+1) (listed.setIfInBounds j true) (a.put o'.dst u) w':=fun u w' hx ⟨h3,h4⟩=>by
     refine ih (listed.setIfInBounds j true) _ w' (inv.set hj hjn) hfree' (ready_mono hr (Ne.symm hji)) (h3.later (hE.trans hx)) ?_;rw[Array.setIfInBounds_comm _ _ hji];exact h4
    exact h2.imp (fun ⟨hw,hg⟩=>⟨hw,hg.mono fun u w' ⟨hx,hk⟩=>⟨hx,step u w' hx hk⟩⟩) (fun ⟨hw,hk⟩=>⟨hw,step _ _ (Ext.refl w1) hk⟩)

def zEi(P:Program)(ops:Array Oper)(Qn:Act→World→Prop):List (Nat×Bool)→Act→World→Prop
 | [],a,w=>∀w1,Ext w w1→Qn a w1
 |(k,true)::s,a,w=>∃o v,ops[k]?=some o∧AtE P ops w o v a∧zEi P ops Qn s (a.put o.dst v) w
 |(k,false)::s,a,w=>∀w1,Ext w w1→StE P ops k (zEi P ops Qn s) a w1

def zEz(ops:Array Oper)(n:Nat):List (Nat×Bool)→Array Bool→Bool
 | [],listed=>Region.seqB .any ops (ops.size-n) n listed
 |(k,b)::s,listed=>decide (k<n) && (Region.ready .any ops listed).contains k &&
     (if b then Region.free .any ops listed k else decide (Region.ready .any ops listed= [k])) && zEz ops n s (listed.setIfInBounds k true)

theorem zIc{n:Nat}{Lq:Act→World→Prop}(hsel:Region.noSelect ops=true)
 (htail:∀listed,HeadInv .any ops n listed→∀i,i<n→listed.getD i true=false→∀t,n≤t→t∉Region.ready .any ops listed):
 ∀ (s:List (Nat×Bool)) (listed:Array Bool) (a:Act) (w:World),HeadInv .any ops n listed→zEz ops n s listed=true→zEi P ops Lq s a w→
   AnyE P .any ops n (fun listed' a' w'=>Region.seqB .any ops (ops.size-n) n listed'=true∧Lq a' w') s.length listed a w
 | [],listed,a,w,_,hB,h=>fun w1 h1=>⟨hB,h w1 h1⟩
 | (k,true)::s,listed,a,w,inv,hB,h=>by
   simp only[zEz,Bool.and_eq_true,decide_eq_true_eq,if_true]at hB
   obtain⟨⟨⟨hkn,hr⟩,hf⟩,hB'⟩:=hB
   have hr':k∈Region.ready .any ops listed:=by simpa using hr
   obtain⟨o,v,ho,hat,hK⟩:=h
   exact zPp ho (Region.noSelect_spec hsel) htail hkn (fun listed' a' w' hL=>seqB_ready hL.1) s.length listed a w inv (Region.free_spec ho hf) hr' hat
    (zIc hsel htail s _ _ w (inv.set hr' hkn) hB' hK)
 | (k,false)::s,listed,a,w,inv,hB,h=>by
   simp only[zEz,Bool.and_eq_true,decide_eq_true_eq,Bool.false_eq_true,if_false]at hB
   obtain⟨⟨⟨hkn,hr⟩,hf⟩,hB'⟩:=hB
   have hr':k∈Region.ready .any ops listed:=by simpa using hr
   intro w1 h1
   refine⟨by rw[hf];simp,fun i hi=> ?_⟩
   rw[hf]at hi;obtain rfl:i=k:=by simpa using hi
   exact⟨hkn,(h w1 h1).mono fun a' w' hk=>zIc hsel htail s _ a' w' (inv.set hr' hkn) hB' hk⟩

def WalkL(P:Program)(ops:Array Oper)(Qn:Act→World→Prop):List (Oper×Bool)→Act→World→Prop
 | [],a,w=>∀w1,Ext w w1→Qn a w1
 |(o,true)::s,a,w=>∃v,AtE P ops w o v a∧WalkL P ops Qn s (a.put o.dst v) w
 |(o,false)::s,a,w=>∀w1,Ext w w1→
     ((Region.wanted o (yielded ops a.tmps)=true∧Goes P (fun u w'=>Ext w1 w'∧WalkL P ops Qn s (a.put o.dst u) w') ((execOp a.eval o).run P w1))∨
      (Region.wanted o (yielded ops a.tmps)=false∧WalkL P ops Qn s (a.put o.dst undef) w1))

theorem zGz{l:List Oper}{Qn:Act→World→Prop}{n:Nat}:∀(s:List (Nat×Bool)) (listed:Array Bool) (a:Act) (w:World),zEz l.toArray n s listed=true→
 WalkL P l.toArray Qn (s.map fun x=>(l.getD x.1 default,x.2)) a w→zEi P l.toArray Qn s a w
 | [],_,_,_,_,h=>h
 | (k,b)::s,listed,a,w,hB,h=>by
   simp only[zEz,Bool.and_eq_true,decide_eq_true_eq]at hB
   obtain⟨⟨⟨_,hr⟩,_⟩,hB'⟩:=hB
   have hr':k∈Region.ready .any l.toArray listed:=by simpa using hr
   obtain⟨_,o,ho,_⟩:=mem_ready.1 hr'
   have hl:l.getD k default=o:=by
    have:l[k]?=some o:=by simpa using ho
    simp[List.getD,this]
   simp only[List.map_cons,hl]at h
   cases b with
   | true=>
     obtain⟨v,hat,hk⟩:=h
     exact⟨o,v,ho,hat,zGz s _ _ _ hB' hk⟩
   | false=>
     intro w1 h1
     exact⟨o,ho,(h w1 h1).imp (fun ⟨hw,hg⟩=>⟨hw,hg.mono fun u w' ⟨hx,hk⟩=>⟨hx,zGz s _ _ _ hB' hk⟩⟩) (fun ⟨hw,hk⟩=>⟨hw,zGz s _ _ _ hB' hk⟩)⟩

def zM1(ops:Array Oper)(n:Nat)(s:List (Nat×Bool)):Bool:=
 Region.noSelect ops && decide (n≤ops.size) && (decide (n=ops.size)||(Region.sinkB .any ops n && Region.chainB .any ops n)) &&
  decide (s.length=n) && zEz ops n s (Array.replicate ops.size false)

theorem wp_flow{id:Nat}{Q:Exit→Act→World→Prop}{a:Act}{w:World}{l:List Oper}(n:Nat)(s:List (Nat×Bool))(hm:P.follows .mixedOrders=true)(hB:zM1 l.toArray n s=true)
 (h:WalkL P l.toArray (fun a' w'=>wpList P l.toArray Q (l.drop n) a' w') (s.map fun x=>(l.getD x.1 default,x.2)) a w):(Code.region id l.toArray true).wp P Q a w:=by
 simp only[zM1,Bool.and_eq_true,Bool.or_eq_true,decide_eq_true_eq]at hB
 obtain⟨⟨⟨⟨hsel,hn⟩,hs⟩,hlen⟩,hseq⟩:=hB
 have hn':n≤l.length:=by simpa using hn
 have hdl:(l.drop n).length=l.toArray.size-n:=by simp
 have inv0:HeadInv .any l.toArray n (Array.replicate l.toArray.size false):=
  ⟨by simp,fun j oj _ hl=>(by rw[getD_replicate_false]at hl;cases hl),fun t _ ht=>getD_in (by simpa using ht) (getD_replicate_false _ _)⟩
 have htail:∀listed,HeadInv .any l.toArray n listed→∀i,i<n→listed.getD i true=false→∀t,n≤t→t∉Region.ready .any l.toArray listed:=by
  intro listed inv i hi hun t ht;by_cases hsz:n<l.toArray.size
  ·rcases hs with hs|hs
   ·omega
   ·exact tail_waits hs.1 hs.2 hsz inv _ i rfl hi hun t ht
  ·intro hr
   obtain⟨_,o,ho,_⟩:=mem_ready.1 hr
   have:=(Array.getElem?_eq_some_iff.1 ho).1
   omega
 replace h:=zGz (l:=l) s _ a w hseq h
 have hdrew:zEi P l.toArray (fun a' w'=>wpList P l.toArray Q (l.drop n) a' w') s a w.drew:=by
  have hE:Ext w w.drew:=(Ext.refl w).drew;have go:∀(s:List (Nat×Bool)) (a:Act),zEi P l.toArray (fun a' w'=>wpList P l.toArray Q (l.drop n) a' w') s a w→zEi P l.toArray (fun a' w'=>wpList P l.toArray Q (l.drop n) a' w') s a w.drew:=by
   intro s
   induction s with
   |nil=>exact fun a h w1 h1=>h w1 (hE.trans h1)
   | cons x s ih=>
     obtain⟨k,b⟩:=x
     cases b with
     |true=>exact fun a ⟨o,v,ho,hat,hk⟩=>⟨o,v,ho,hat.later hE,ih _ hk⟩
     |false=>exact fun a h w1 h1=>h w1 (hE.trans h1)
  exact go s a h
 have H:=zIc hsel htail s _ a w.drew inv0 hseq hdrew;refine wp_region_any hm ?_;have:=zOf (Q:=Q) (g:=l.toArray.size-n) (fun listed a' w' hL=>by
  have:=wpAny_of_seq (md:=.any) (Q':=Q) (l.drop n) n listed a' w' (fun j=>by simp[List.getElem?_drop]) (by rw[hdl];exact hL.1) hL.2
  rwa [hdl]at this) _ _ _ _ H
 rw[hlen,show n+(l.toArray.size-n)=l.toArray.size by omega]at this;exact this

variable{Qn:Act→World→Prop}{s:List (Oper×Bool)}{a:Act}{w:World}{v:Value}
theorem WalkL.nil(h:∀w1,Ext w w1→Qn a w1):WalkL P ops Qn [] a w:=h
theorem WalkL.run{o:Oper}(hg:Region.wanted o (yielded ops a.tmps)=true)
 (hr:∀w1,Ext w w1→(execOp a.eval o).run P w1=.ok (.value v) w1) (h:WalkL P ops Qn s (a.put o.dst v) w):WalkL P ops Qn ((o,true)::s) a w:=
 ⟨v,.inl ⟨hg,fun w1 h1=>by rw[hr w1 h1];exact⟨rfl,Ext.refl w1⟩⟩,h⟩
theorem WalkL.skip{o:Oper}(hg:Region.wanted o (yielded ops a.tmps)=false)
 (h:WalkL P ops Qn s (a.put o.dst undef) w):WalkL P ops Qn ((o,true)::s) a w:=
 ⟨undef,.inr ⟨hg,rfl⟩,h⟩
theorem WalkL.move{dst:Option Tmp}{x:Operand}{ty:TypeId}{pos:String}{after:Array Edge}{guard:Option (Nat×Bool)}
 (hg:Region.wanted {dst,op:=.move x,type:=ty,pos,after,guard} (yielded ops a.tmps)=true)
 (h:WalkL P ops Qn s (a.put dst (a.eval x)) w):WalkL P ops Qn (({dst,op:=.move x,type:=ty,pos,after,guard},true)::s) a w:=
 WalkL.run hg (fun _ _=>rfl) h
theorem WalkL.assign{dst:Option Tmp}{x:Operand}{ty:TypeId}{pos:String}{after:Array Edge}{guard:Option (Nat×Bool)}
 (hg:Region.wanted {dst,op:=.assign x,type:=ty,pos,after,guard} (yielded ops a.tmps)=true)
 (h:WalkL P ops Qn s (a.put dst (a.eval x)) w):WalkL P ops Qn (({dst,op:=.assign x,type:=ty,pos,after,guard},true)::s) a w:=
 WalkL.run hg (fun _ _=>rfl) h
theorem WalkL.callf{dst:Option Tmp}{x:Operand}{xs:Array Operand}{ats:Array TypeId}{ty:TypeId}{pos:String}{after:Array Edge}{guard:Option (Nat×Bool)}
 {f:FuncId} {fn:Func} (hf:P.funcs[f]?=some fn) (hb:fn.body.isNone=false) (hn:(fn.name== "runtime.NumGoroutine")=false) {args:Array Value}
 {first captured:Array Value} (hx:a.eval x=.func (.func f) first captured)
 (hc:∀w1,Ext w w1→Calls P f args w1 fun e w'=>e=.returned v∧Ext w1 w')
 (ha:first.toList++xs.toList.map a.eval++captured.toList=args.toList)
 (hg:Region.wanted {dst,op:=.call {callee:=.value x,args:=xs,argTypes:=ats},type:=ty,pos,after,guard} (yielded ops a.tmps)=true)
 (h:WalkL P ops Qn s (a.put dst v) w):WalkL P ops Qn (({dst,op:=.call {callee:=.value x,args:=xs,argTypes:=ats},type:=ty,pos,after,guard},true)::s) a w:=
 ⟨v,.inl ⟨hg,fun w1 h1=>by
   rw[zCc f fn hf hb hn first captured hx w1,show first++xs.map a.eval++captured=args from Array.ext' (by simpa using ha)]
   exact(hc w1 h1).mono fun _ _ ⟨he,hx⟩=>⟨v,he,rfl,hx⟩⟩,h⟩
theorem keep{f:FuncId}{args:Array Value}{v:Value}{w:World}(h:Calls P f args w fun e w'=>e=.returned v∧w=w'):Calls P f args w fun e w'=>e=.returned v∧Ext w w':=
 h.mono fun _ _ ⟨he,hw⟩=>⟨he,hw▸Ext.refl w⟩
end
def Blk(w:World)(g:Nat)(t:TypeId)(cs:Array Value):Prop:=w.heap[g]?=some (.cells cs t (0,0))

section
variable{w w' W:World}{g:Nat}{t:TypeId}{cs:Array Value}
theorem Blk.lt(h:Blk w g t cs):g<w.heap.size:=(Array.getElem?_eq_some_iff.1 (show w.heap[g]?=some _ from h)).1
theorem Blk.cell(h:Blk w g t cs)(i:Nat):w.cell? ⟨g,i,none⟩=cs[i]?:=cell_of_row w g i cs t (0,0) h
theorem Blk.frozen(h:Blk w g t cs)(i:Nat):w.frozen? ⟨g,i,none⟩=false:=by
 unfold Blk at h
 simp[World.frozen?,h]
theorem Blk.ext(h:Blk w g t cs)(hE:Ext w w'):Blk w' g t cs:=Ext.block hE h
theorem Blk.new(w:World)(t:TypeId)(cs:Array Value):Blk (w.alloc (.cells cs t)) w.heap.size t cs:=heap_alloc_new w _
theorem zOz{g:Nat}(hg:g=w.heap.size)(t:TypeId)(cs:Array Value):Blk (w.alloc (.cells cs t)) g t cs:=hg▸Blk.new w t cs
theorem Blk.drew(h:Blk w g t cs):Blk w.drew g t cs:=h
theorem Blk.alloc(h:Blk w g t cs)(o:Obj):Blk (w.alloc o) g t cs:=(Below.heap_alloc w o g h.lt).trans h
theorem Blk.set_(h:Blk w g t cs)(i:Nat)(u:Value):Blk (w.setCell ⟨g,i,none⟩ u) g t (cs.setIfInBounds i u):=by
 unfold Blk at h⊢
 simp[World.setCell,Array.getElem?_modify,h]
theorem Blk.far(h:Blk w g t cs){p:Addr}(hp:g≠p.block)(u:Value):Blk (w.setCell p u) g t cs:=(Below.heap_setCell w p u g hp).trans h

theorem Blk.rules(h:Blk w g t cs):(∀i,w.cell? ⟨g,i,none⟩=cs[i]?)∧(∀i,w.frozen? ⟨g,i,none⟩=false)∧g<w.heap.size:=⟨h.cell,h.frozen,h.lt⟩
end
theorem Ext.rules{W w:World}(h:Ext W w):(∀p:Addr,p.block<W.heap.size→w.cell? p=W.cell? p)∧(∀p:Addr,p.block<W.heap.size→w.frozen? p=W.frozen? p):=
 ⟨fun _ hp=>Below.cell h hp,fun _ hp=>Below.frozen h hp⟩
theorem zBu(a:Addr)(n:Nat):(a.add n).block=a.block:=by unfold Addr.add;split<;>rfl

theorem zQX{w:World}{a:Addr}{k:Nat}{v:Value}(h:w.cell? (a.add k)=some v):a.block<w.heap.size:=by
 have:=World.block_lt_of_cell? w _ h;rwa [zBu]at this

def Arr(w:World)(A:Option Addr)(n:Nat)(F:Nat→Value):Prop:=∀k,k<n→∃ad,A=some ad∧w.cell? (ad.add k)=some (F k)
abbrev zFj(w:World)(A:Option Addr)(n:Nat)(f:Nat→Bool):Prop:=Arr w A n fun k=>.bool (f k)
theorem Arr.ext{w w':World}{A:Option Addr}{n:Nat}{F:Nat→Value}(h:Arr w A n F)(hE:Ext w w'):Arr w' A n F:=fun k hk=>
 let ⟨ad,e,hc⟩:=h k hk
 ⟨ad,e,hE.cell hc⟩
theorem Arr.congr{w:World}{A:Option Addr}{n:Nat}{F G:Nat→Value}(h:Arr w A n F)(hg:∀k,k<n→F k=G k):Arr w A n G:=fun k hk=>
 let ⟨ad,e,hc⟩:=h k hk
 ⟨ad,e,hg k hk▸hc⟩
theorem Arr.zero(w:World)(A:Option Addr)(F:Nat→Value):Arr w A 0 F:=fun k hk=>absurd hk (by omega)
theorem Arr.take{w:World}{A:Option Addr}{n m:Nat}{F:Nat→Value}(h:Arr w A n F)(hm:m≤n):Arr w A m F:=fun k hk=>h k (by omega)

def Own(w:World)(g:Nat)(t:TypeId)(n:Nat)(F:Nat→Value):Prop:=∃cs,Blk w g t cs∧cs.size=n∧∀k,k<n→cs[k]?=some (F k)
def upd(F:Nat→Value)(i:Nat)(v:Value):Nat→Value:=fun k=>if k=i then v else F k
section
variable{w w':World}{g:Nat}{t:TypeId}{n:Nat}{F G:Nat→Value}
theorem Own.lt(h:Own w g t n F):g<w.heap.size:=let ⟨_,hb,_⟩:=h;hb.lt
theorem Own.ext(h:Own w g t n F)(hE:Ext w w'):Own w' g t n F:=let ⟨cs,hb,hr⟩:=h;⟨cs,hb.ext hE,hr⟩
theorem Own.cell(h:Own w g t n F){k:Nat}(hk:k<n):w.cell? ⟨g,k,none⟩=some (F k):=let ⟨_,hb,_,hc⟩:=h;(hb.cell k).trans (hc k hk)
theorem Own.frozen(h:Own w g t n F)(k:Nat):w.frozen? ⟨g,k,none⟩=false:=let ⟨_,hb,_⟩:=h;hb.frozen k
theorem Own.congr(h:Own w g t n F)(hg:∀k,k<n→F k=G k):Own w g t n G:=let ⟨cs,hb,hs,hc⟩:=h;⟨cs,hb,hs,fun k hk=>by rw[hc k hk,hg k hk]⟩
theorem Own.set_(h:Own w g t n F)(i:Nat)(v:Value):Own (w.setCell ⟨g,i,none⟩ v) g t n (upd F i v):=by
 obtain⟨cs,hb,hs,hc⟩:=h
 refine⟨_,hb.set_ i v,by simpa using hs,fun k hk=> ?_⟩
 unfold upd;by_cases e:k=i
 ·subst e;simp[hs,hk]
 ·rw[if_neg e,Array.getElem?_setIfInBounds_ne (Ne.symm e)];exact hc k hk
theorem Own.far(h:Own w g t n F){p:Addr}(hp:g≠p.block)(u:Value):Own (w.setCell p u) g t n F:=let ⟨cs,hb,hr⟩:=h;⟨cs,hb.far hp u,hr⟩
theorem Own.arr(h:Own w g t n F):Arr w (some ⟨g,0,none⟩) n F:=fun k hk=>⟨_,rfl,by
 rw[show(⟨g,0,none⟩:Addr).add k=⟨g,k,none⟩ by unfold Addr.add;split<;>simp_all];exact h.cell hk⟩
end

abbrev Only(w w':World)(g:Nat):Prop:=w.grownBy w' (some g)
theorem Only.refl(w:World)(g:Nat):Only w w g:=⟨rfl,rfl,rfl,Nat.le_refl _,fun _ _ _=>rfl⟩
theorem Only.of_ext{w w':World}(h:Ext w w')(g:Nat):Only w w' g:=⟨h.os,h.tape,h.output,h.size,fun i hi _=>Below.block h i hi⟩
theorem Only.trans{a b c:World}{g:Nat}(h:Only a b g)(k:Only b c g):Only a c g:=
 ⟨k.os.trans h.os,k.tape.trans h.tape,k.output.trans h.output,Nat.le_trans h.size k.size,fun i hi hne=>(k.block i (Nat.lt_of_lt_of_le hi h.size) hne).trans (h.block i hi hne)⟩
theorem Only.set_(w:World)(g i:Nat)(v:Value):Only w (w.setCell ⟨g,i,none⟩ v) g:=
 ⟨rfl,rfl,rfl,by simp[World.setCell],fun k _ hne=>Below.heap_setCell w ⟨g,i,none⟩ v k (fun e=>hne (by rw[e]))⟩
theorem Only.ext{a w w':World}{g:Nat}(h:Only w w' g)(hE:Ext a w)(hg:a.heap.size≤g):Ext a w':=
 hE.grown h (fun k hk=>by injection hk with hk;omega)
theorem Only.own{w w':World}{g k:Nat}{t:TypeId}{n:Nat}{F:Nat→Value}(h:Only w w' g)(hb:Own w k t n F)(hne:k≠g):Own w' k t n F:=
 let ⟨cs,hb,hr⟩:=hb;⟨cs,(h.block k hb.lt (fun e=>hne (by injection e))).trans hb,hr⟩
theorem Only.blk{w w':World}{g k:Nat}{t:TypeId}{cs:Array Value}(h:Only w w' g)(hb:Blk w k t cs)(hne:k≠g):Blk w' k t cs:=
 (h.block k hb.lt (fun e=>hne (by injection e))).trans hb

theorem zSY{P:Program}{w:World}{ops:Array Oper}{rest:List Oper}{o:Oper}{a:Act}{Q:Exit→Act→World→Prop}
 (hg:o.guard=none) (l c:Operand) (t:TypeId) (hop:o.op=Op.makeSlice t l c)
 (e:TypeId) (i:TypeInfo) (z:Value) (h1:P.underlying t=some (.slice e)) (h2:P.info? e=some i) (h3:i.zero=some z) (h4:i.size=1) (hz:z.cells= #[z])
 (kl kc:IntKind) (L C:Int) (n:Nat) (hl:a.eval l=.int kl L) (hc:a.eval c=.int kc C) (hL:L=(n:Int)) (hC:C=(n:Int)) (b2:i.bytes*n≤281474976710656) (b3:n≤4611686018427387904)
 (hK:∀w',Own w' w.heap.size e n (fun _=>z)→Ext w w'→wpList P ops Q rest (a.put o.dst (.slice (some ⟨w.heap.size,0,none⟩) n n)) w'):
 wpList P ops Q (o::rest) a w:=by
 refine wpList_plain hg fun K hK'=> ?_
 have hb':(i.bytes:Int)*(n:Int)≤281474976710656:=by
  have h:((i.bytes*n:Nat):Int)≤281474976710656:=by omega
  rwa [Int.natCast_mul]at h
 have hrun:=run_make (P:=P) w t e i z h1 h2 h3 kl kc n n (by omega) (by omega) hb' (by omega)
 simp only[Int.toNat_natCast,h4,Nat.mul_one]at hrun
 subst hL;subst hC;unfold Oper.wp
 simp[execOp,hop,hl,hc,hrun,Result.andThen]
 refine hK' _ _ (hK _ ⟨_,Blk.new _ _ _,size_madeCells _ _,fun k hk=> ?_⟩ ((Ext.refl w).alloc _))
 simp[madeCells,hz,hk,Nat.mod_one]
section
variable{P:Program}{w w':World}{base:Nat}{e:TypeId}{size:Nat}{v:Value}{n:Nat}{xs:List Value}

def Lst(w:World)(A:Option Addr)(ys:List Value):Prop:=∀(j:Nat) (u:Value),ys[j]?=some u→∃ad,A=some ad∧w.cell? (ad.add j)=some u
theorem Lst.ext{A:Option Addr}{ys:List Value}(h:Lst w A ys)(hE:Ext w w'):Lst w' A ys:=fun j u hj=>
 let ⟨ad,e,hc⟩:=h j u hj
 ⟨ad,e,hE.cell hc⟩
theorem zRU(t ty:TypeId)(i:TypeInfo)(ht:P.underlying t=some (.slice e))(hi:P.info? e=some i)
 (hown:w.ownsRow base e size v n xs) (c:Nat):(Builtin.append_ #[t,t] ty #[v,.slice none 0 c]).run P w=.ok v w:=by
 rcases hown.2 with ⟨rfl,rfl⟩|⟨g,cap,cur,rfl,_,_,hnc,_⟩
 ·simp[Builtin.append_,run_underlying ht,sizeOf,typeInfo,hi,Builtin.lenOf,Builtin.firstCells]
 ·simp[Builtin.append_,run_underlying ht,sizeOf,typeInfo,hi,Builtin.lenOf,Builtin.firstCells,hnc,storeCells]

end
structure Wide(F:Fence):Prop where
 fn:∀f,F.fn f
 depth:F.depth=none
 calls:∀{n:Nat} {P:Program} {f:FuncId} {args:Array Value} {w:World} {R:Ending→World→Prop},Calls P f args w R→CallsIn F n P f args w R
theorem Wide.wide:Wide Fence.wide:=⟨fun _=>trivial,rfl,fun h=>callsIn_wide.2 h⟩
section
variable{F:Fence}{nd:Nat}{P:Program}{ops:Array Oper}{md:Region.Mode}

theorem Goes.uponIn(hF:Wide F){o:Oper}{a:Act}{K:Act→World→Prop}{K0:Value→World→Prop}{Q:Exit→Act→World→Prop}{r:Result Next}
 (h:Goes P K0 r) (hK:∀v w',K0 v w'→K (a.put o.dst v) w'):o.uponIn F nd P a K Q r:=by
 cases r with
 | ok n w'=>
   cases n<;>simp only[Goes,Oper.uponIn]at h⊢
   case value u=>exact hK _ _ h
   case skip=>exact hK _ _ h
   case enter f args=>exact⟨fun hd=>(by rw[hF.depth]at hd;cases hd),hF.calls (h.mono fun e w'' ⟨v,he,hc⟩=>by subst he;exact hK _ _ hc)⟩
 |halt x w'=>simp only[Goes]at h

def noDefer(ops:Array Oper):Bool:=ops.all fun o=>match o.op with| .defer _=>false|_=>true
end
end Go.Flow
end
section
namespace Go.AV
open Go Go.RowKit Go.Flow
inductive CV where
 |p (v:Value)
 |ls (n sz:Nat) (F:Nat→Nat→CV)
 |pl (n sz:Nat) (F:Nat→Nat→CV) (k j:Nat)
 |pt (id sz k j:Nat)
 |ow (id:Nat)
 |fn (f:FuncId) (cs:Nat) (C:Nat→CV)
 |fi (f:FuncId) (cs:Nat) (C:Nat→CV)
 |mo (K:Nat→Obj→Prop)
 |lf (n sz:Nat) (F:Nat→Nat→CV)
 |fs (f:FuncId) (cs:Nat) (C:Nat→CV)
 |any

def RepI(O:Nat→Prop)(w:World):CV→Value→Prop
 | .p v,u=>u=v
 | .ls n sz F,u=>∃A cap,u=.slice A n cap∧n≤cap∧∀k,k<n→∀j,j<sz→∃(ad:Addr) (v:Value),A=some ad∧¬O ad.block∧w.cell? (ad.add (k*sz+j))=some v∧v.oneCell'=true∧RepI O w (F k j) v
 | .pl n sz F k j,u=>∃ad:Addr,u=.pointer (some (ad.add (k*sz+j)))∧k<n∧∀k,k<n→∀j,j<sz→∃v,¬O ad.block∧w.cell? (ad.add (k*sz+j))=some v∧v.oneCell'=true∧RepI O w (F k j) v
 | .fi f m C,u=>∃vs:List Value,u=.func (.func f) #[] vs.toArray∧vs.length=m∧∀i,i<m→∃v,vs[i]?=some v∧v.oneCell'=true∧RepI O w (C i) v
 | .fs f m C,u=>∃vs:List Value,u=.func (.func f) #[.agg vs.toArray] #[]∧vs.length=m∧∀i,i<m→∃v,vs[i]?=some v∧v.oneCell'=true∧RepI O w (C i) v
 | .lf n sz F,u=>∃A,u=.slice A n n∧∀k,k<n→∀j,j<sz→∃(ad:Addr) (v:Value),A=some ad∧¬O ad.block∧w.cell? (ad.add (k*sz+j))=some v∧v.oneCell'=true∧RepI O w (F k j) v
 | .any,_=>True
 |_,_=>False

structure Keep(O:Nat→Prop)(w w':World):Prop where
 os:w'.os=w.os
 tape:w'.tape=w.tape
 output:w'.output=w.output
 size:w.heap.size≤w'.heap.size
 block:∀k,k<w.heap.size→¬O k→w'.heap[k]?=w.heap[k]?
theorem Keep.of_ext{O:Nat→Prop}{w w':World}(h:Ext w w'):Keep O w w':=⟨h.os,h.tape,h.output,h.size,fun k hk _=>Below.block h k hk⟩
theorem Keep.trans{O O':Nat→Prop}{a b c:World}(h:Keep O a b)(k:Keep O' b c)(hO:∀i,O' i→a.heap.size≤i∨O i):Keep O a c:=
 ⟨k.os.trans h.os,k.tape.trans h.tape,k.output.trans h.output,Nat.le_trans h.size k.size,fun i hi hno=>(k.block i (Nat.lt_of_lt_of_le hi h.size) fun ho=>(hO i ho).elim (fun h=>by omega) hno).trans (h.block i hi hno)⟩
theorem Keep.ext{O:Nat→Prop}{w0 w w':World}(h:Keep O w w')(hE:Ext w0 w)(hO:∀b,O b→w0.heap.size≤b):Ext w0 w':=
 ⟨h.os.trans hE.os,h.tape.trans hE.tape,h.output.trans hE.output,Nat.le_trans hE.size h.size,fun k hk=>(h.block k (Nat.lt_of_lt_of_le hk hE.size) (fun ho=>by have:=hO k ho;omega)).trans (Below.block hE k hk)⟩
theorem Keep.cell{O:Nat→Prop}{w w':World}(h:Keep O w w'){a:Addr}{v:Value}(hc:w.cell? a=some v)(hO:¬O a.block):w'.cell? a=some v:=
 (World.cell?_of_block (h.block _ (World.block_lt_of_cell? w a hc) hO)).trans hc

theorem RepI.keep{O O':Nat→Prop}{w w':World}(h:Keep O w w')(hO:∀b,O' b→O b∨w.heap.size≤b):∀{x:CV} {u:Value},RepI O w x u→RepI O' w' x u:=by
 intro x
 induction x with
 |p v=>exact fun h=>h
 | ls n sz F ih=>
   rintro u ⟨A,cap,rfl,hcap,hc⟩
   refine⟨A,cap,rfl,hcap,fun k hk j hj=> ?_⟩
   obtain⟨ad,v,e1,e2,e3,e4,e5⟩:=hc k hk j hj
   have hb:=World.block_lt_of_cell? w _ e3;rw[zBu]at hb
   exact⟨ad,v,e1,fun ho=>(hO _ ho).elim e2 (fun h=>by omega),h.cell e3 (by rw[zBu];exact e2),e4,ih k j e5⟩
 | pl n sz F k j ih=>
   rintro u ⟨ad,rfl,hkn,hc⟩
   refine⟨ad,rfl,hkn,fun k hk j hj=> ?_⟩
   obtain⟨v,e2,e3,e4,e5⟩:=hc k hk j hj
   have hb:=World.block_lt_of_cell? w _ e3;rw[zBu]at hb
   exact⟨v,fun ho=>(hO _ ho).elim e2 (fun h=>by omega),h.cell e3 (by rw[zBu];exact e2),e4,ih k j e5⟩
 |pt=>exact fun h=>h.elim
 |ow=>exact fun h=>h.elim
 |fn=>exact fun h=>h.elim
 | fi f m C ih=>
   rintro u ⟨vs,e1,e2,e3⟩
   exact⟨vs,e1,e2,fun i hi=>let ⟨v,a,b,c⟩:=e3 i hi;⟨v,a,b,ih i c⟩⟩
 | fs f m C ih=>
   rintro u ⟨vs,e1,e2,e3⟩
   exact⟨vs,e1,e2,fun i hi=>let ⟨v,a,b,c⟩:=e3 i hi;⟨v,a,b,ih i c⟩⟩
 |mo=>exact fun h=>h.elim
 | lf n sz F ih=>
   rintro u ⟨A,rfl,hc⟩
   refine⟨A,rfl,fun k hk j hj=> ?_⟩
   obtain⟨ad,v,e1,e2,e3,e4,e5⟩:=hc k hk j hj
   have hb:=World.block_lt_of_cell? w _ e3;rw[zBu]at hb
   exact⟨ad,v,e1,fun ho=>(hO _ ho).elim e2 (fun h=>by omega),h.cell e3 (by rw[zBu];exact e2),e4,ih k j e5⟩
 |any=>exact fun _=>trivial
theorem RepI.less{O O':Nat→Prop}{w:World}(hO:∀b,O' b→O b){x:CV}{u:Value}(h:RepI O w x u):RepI O' w x u:=
 h.keep ⟨rfl,rfl,rfl,Nat.le_refl _,fun _ _ _=>rfl⟩ fun b hb=>.inl (hO b hb)

def zAl:Value→Option Nat
 | .pointer (some a)=>some a.block
 | .slice (some a) _ _=>some a.block
 | .map (some b)=>some b
 |_=>none
def zGI:Value→Option Nat
 | .map _=>none
 |v=>zAl v
theorem zIe{v:Value}{b:Nat}(h:zGI v=some b):zAl v=some b:=by cases v<;>first|exact h|cases h
def RepB(σ:Nat→Option Value)(O:Nat→Prop)(w:World):CV→Value→Prop
 | .pt id sz k j,u=>∃v b,σ id=some v∧zGI v=some b∧u=.pointer (some ⟨b,k*sz+j,none⟩)
 | .ow id,u=>σ id=some u∧((∃A n c,u=.slice A n c)∨∃b,u=.map (some b))
 |x,u=>RepI O w x u
def RepC(σ:Nat→Option Value)(O:Nat→Prop)(w:World)(x:CV)(u:Value):Prop:=
 u.oneCell'=true∧match x with
  | .fn f m C=>∃vs:List Value,u=.func (.func f) #[] vs.toArray∧vs.length=m∧∀i,i<m→∃v,vs[i]?=some v∧v.oneCell'=true∧RepB σ O w (C i) v
  |x=>RepB σ O w x u
theorem RepB.keep{σ σ':Nat→Option Value}{O O':Nat→Prop}{w w':World}(h:Keep O w w')(hO:∀b,O' b→O b∨w.heap.size≤b)(hs:∀i v,σ i=some v→σ' i=some v){x:CV}{u:Value}(hx:RepB σ O w x u):RepB σ' O' w' x u:=by
 cases x with
 |pt id sz k j=>obtain⟨v,b,h1,h2,h3⟩:=hx;exact⟨v,b,hs _ _ h1,h2,h3⟩
 |ow id=>obtain⟨h1,h2⟩:=hx;exact⟨hs _ _ h1,h2⟩
 |_=>exact RepI.keep h hO hx
theorem RepC.keep{σ σ':Nat→Option Value}{O O':Nat→Prop}{w w':World}(h:Keep O w w')(hO:∀b,O' b→O b∨w.heap.size≤b)(hs:∀i v,σ i=some v→σ' i=some v){x:CV}{u:Value}(hx:RepC σ O w x u):RepC σ' O' w' x u:=by
 refine⟨hx.1,?_⟩
 have h2:=hx.2
 cases x with
 | fn f m C=>
   obtain⟨vs,e1,e2,e3⟩:=h2
   exact⟨vs,e1,e2,fun i hi=>let ⟨v,a,b,c⟩:=e3 i hi;⟨v,a,b,c.keep h hO hs⟩⟩
 |_=>exact RepB.keep h hO hs h2

def RepL{α:Type}(R:α→Value→Prop):List α→List Value→Prop
 | [],[]=>True
 |x::l,v::vs=>R x v∧RepL R l vs
 |_,_=>False
theorem RepL.mono{α:Type}{R R':α→Value→Prop}(hR:∀x v,R x v→R' x v):∀{l:List α} {vs:List Value},RepL R l vs→RepL R' l vs
 | [],[],_=>trivial
 |_::_,_::_,h=>⟨hR _ _ h.1,RepL.mono hR h.2⟩
 | [],_::_,h=>h.elim
 |_::_,[],h=>h.elim
theorem RepL.length{α:Type}{R:α→Value→Prop}:∀{l:List α} {vs:List Value},RepL R l vs→vs.length=l.length
 | [],[],_=>rfl
 |_::_,_::_,h=>by simp[RepL.length h.2]
 | [],_::_,h=>h.elim
 |_::_,[],h=>h.elim
theorem RepL.get{α:Type}{R:α→Value→Prop}:∀{l:List α} {vs:List Value} {i:Nat} {x:α},RepL R l vs→l[i]?=some x→∃v,vs[i]?=some v∧R x v
 |_::_,_::_,0,_,h,hx=>⟨_,rfl,by simp at hx;exact hx▸h.1⟩
 |_::l,_::vs,i+1,_,h,hx=>by simpa using RepL.get (l:=l) (vs:=vs) (i:=i) h.2 (by simpa using hx)
 | [],[],_,_,_,hx=>by simp at hx
 | [],_::_,_,_,h,_=>h.elim
 |_::_,[],_,_,h,_=>h.elim
theorem zA5{α:Type}{R:α→Value→Prop}:∀{l:List α} {vs:List Value},vs.length=l.length→(∀(i:Nat) (x:α) (v:Value),l[i]?=some x→vs[i]?=some v→R x v)→RepL R l vs
 | [],[],_,_=>trivial
 |x::l,v::vs,hl,h=>⟨h 0 x v rfl rfl,zA5 (by simpa using hl) fun i x v h1 h2=>h (i+1) x v (by simpa using h1) (by simpa using h2)⟩
 | [],_::_,hl,_=>by simp at hl
 |_::_,[],hl,_=>by simp at hl

inductive V1 where
 |c (x:CV)
 |ag (l:List CV)
inductive AV where
 |c (x:CV)
 |ag (l:List CV)
 |tu (l:List V1)
def V1.av:V1→AV
 | .c x=>.c x
 | .ag l=>.ag l
def RepV(σ:Nat→Option Value)(O:Nat→Prop)(w:World):V1→Value→Prop
 | .c x,u=>RepC σ O w x u
 | .ag l,u=>∃vs:List Value,u=.agg vs.toArray∧RepL (RepC σ O w) l vs
def RepA(σ:Nat→Option Value)(O:Nat→Prop)(w:World):AV→Value→Prop
 | .c x,u=>RepC σ O w x u
 | .ag l,u=>∃vs:List Value,u=.agg vs.toArray∧RepL (RepC σ O w) l vs
 | .tu l,u=>∃vs:List Value,u=.tuple vs.toArray∧RepL (RepV σ O w) l vs
theorem RepV.av{σ:Nat→Option Value}{O:Nat→Prop}{w:World}{x:V1}{u:Value}(h:RepV σ O w x u):RepA σ O w x.av u:=by cases x<;>exact h
theorem zH1{σ:Nat→Option Value}{O:Nat→Prop}{w:World}{x:V1}{u:Value}(h:RepA σ O w x.av u):RepV σ O w x u:=by cases x<;>exact h
theorem RepV.keep{σ σ':Nat→Option Value}{O O':Nat→Prop}{w w':World}(h:Keep O w w')(hO:∀b,O' b→O b∨w.heap.size≤b)(hs:∀i v,σ i=some v→σ' i=some v){x:V1}{u:Value}(hx:RepV σ O w x u):RepV σ' O' w' x u:=by
 cases x with
 |c x=>exact RepC.keep h hO hs hx
 |ag l=>obtain⟨vs,e,hl⟩:=hx;exact⟨vs,e,hl.mono fun _ _ h1=>h1.keep h hO hs⟩
theorem RepA.keep{σ σ':Nat→Option Value}{O O':Nat→Prop}{w w':World}(h:Keep O w w')(hO:∀b,O' b→O b∨w.heap.size≤b)(hs:∀i v,σ i=some v→σ' i=some v){x:AV}{u:Value}(hx:RepA σ O w x u):RepA σ' O' w' x u:=by
 cases x with
 |c x=>exact RepC.keep h hO hs hx
 |ag l=>obtain⟨vs,e,hl⟩:=hx;exact⟨vs,e,hl.mono fun _ _ h1=>h1.keep h hO hs⟩
 |tu l=>obtain⟨vs,e,hl⟩:=hx;exact⟨vs,e,hl.mono fun _ _ h1=>h1.keep h hO hs⟩

structure AB where
 row:Bool
 n:Nat
 sz:Nat
 ty:TypeId
 F:Nat→Nat→CV
def OBase(B:AB)(v:Value)(b cap:Nat):Prop:=
 (B.row=true∧v=.slice (some ⟨b,0,none⟩) B.n cap∧B.n≤cap∧cap≤maxLen)∨(B.row=false∧v=.pointer (some ⟨b,0,none⟩)∧cap=B.n)
theorem OBase.blk{B:AB}{v:Value}{b cap:Nat}(h:OBase B v b cap):zAl v=some b:=by
 rcases h with ⟨_,rfl,_⟩|⟨_,rfl,_⟩<;>rfl
theorem OBase.le{B:AB}{v:Value}{b cap:Nat}(h:OBase B v b cap):B.n≤cap:=by
 rcases h with ⟨_,_,h,_⟩|⟨_,_,h⟩<;>omega
def zMQ:Obj→Bool
 | .map _ _=>true
 | .stringIter _ _=>true
 |_=>false
def zBN(x:CV)(b:Nat)(o:Obj):Prop:=zMQ o=true∧(x=.any∨∃K,x=.mo K∧K b o)
def OBk(σ:Nat→Option Value)(O:Nat→Prop)(w:World)(v:Value)(B:AB):Prop:=
 (B.row=true∧v=.slice none 0 0∧B.n=0)∨
 (∃b cap cs,OBase B v b cap∧w.heap[b]?=some (.cells cs B.ty (0,0))∧cs.size=cap*B.sz∧∀k,k<B.n→∀j,j<B.sz→∃u,cs[k*B.sz+j]?=some u∧RepC σ O w (B.F k j) u)∨
 (B.row=false∧B.n=1∧B.sz=1∧∃b o,v=.map (some b)∧w.heap[b]?=some o∧zBN (B.F 0 0) b o)
theorem OBk.row{σ:Nat→Option Value}{O:Nat→Prop}{w:World}{v:Value}{B:AB}(h:OBk σ O w v B)(hr:B.row=true):(B.row=true∧v=.slice none 0 0∧B.n=0)∨
 ∃b cap cs,OBase B v b cap∧w.heap[b]?=some (.cells cs B.ty (0,0))∧cs.size=cap*B.sz∧∀k,k<B.n→∀j,j<B.sz→∃u,cs[k*B.sz+j]?=some u∧RepC σ O w (B.F k j) u:=by
 rcases h with h|h|⟨h,_⟩
 ·exact .inl h
 ·exact .inr h
 ·rw[hr]at h;cases h
theorem OBk.ofC{σ:Nat→Option Value}{O:Nat→Prop}{w:World}{v:Value}{B:AB}{b:Nat}(h:OBk σ O w v B)(hb:zGI v=some b):
 ∃b cap cs,OBase B v b cap∧w.heap[b]?=some (.cells cs B.ty (0,0))∧cs.size=cap*B.sz∧∀k,k<B.n→∀j,j<B.sz→∃u,cs[k*B.sz+j]?=some u∧RepC σ O w (B.F k j) u:=by
 rcases h with ⟨_,rfl,_⟩|h|⟨_,_,_,b',o,rfl,_⟩
 ·cases hb
 ·exact h
 ·cases hb
theorem OBk.keep{σ σ':Nat→Option Value}{O O':Nat→Prop}{w w':World}{v:Value}{B:AB}(hB:OBk σ O w v B)(h:Keep O w w')(hO:∀b,O' b→O b∨w.heap.size≤b)(hs:∀i v,σ i=some v→σ' i=some v)
 (hb:∀b,zAl v=some b→w'.heap[b]?=w.heap[b]?):OBk σ' O' w' v B:=by
 rcases hB with h0|⟨b,cap,cs,h1,h2,h3,h4⟩|⟨h1,h2,h3,b,o,rfl,h4,h5⟩
 ·exact .inl h0
 ·exact .inr (.inl ⟨b,cap,cs,h1,(hb b h1.blk).trans h2,h3,fun k hk j hj=>let ⟨u,e1,e2⟩:=h4 k hk j hj;⟨u,e1,e2.keep h hO hs⟩⟩)
 ·exact .inr (.inr ⟨h1,h2,h3,b,o,rfl,(hb b rfl).trans h4,h5⟩)

def own(σ:Nat→Option Value)(h:Nat→Option AB)(b:Nat):Prop:=∃id v,h id≠none∧σ id=some v∧zAl v=some b

structure zN where
 w:World
 X:Nat→Prop
 Y:Nat→Prop
 fix:Nat→Option Value
 lt:∀b,X b→b<w.heap.size
 ylt:∀b,Y b→b<w.heap.size
 dis:∀b,X b→¬Y b
 one:∀i v,fix i=some v→1000≤i∧∃b,zAl v=some b
 V:Bool→Nat→Prop
 J:Nat→Bool→World→Prop
 rd:Option Nat
 vx:∀d b,V d b→X b
 jk:∀i d O a b,J i d a→Keep O a b→(∀k,O k→w.heap.size≤k∨Y k)→J i d b
def out(b0:zN)(σ:Nat→Option Value)(h:Nat→Option AB)(b:Nat):Prop:=own σ h b∨b0.X b
theorem Keep.out{b0:zN}{σ:Nat→Option Value}{h:Nat→Option AB}{w w':World}(hK:Keep (own σ h) w w'):Keep (out b0 σ h) w w':=
 ⟨hK.os,hK.tape,hK.output,hK.size,fun k hk ho=>hK.block k hk fun h=>ho (.inl h)⟩

structure HRel(b0:zN)(σ:Nat→Option Value)(h:Nat→Option AB)(w:World):Prop where
 blk:∀id B,h id=some B→∃v,σ id=some v∧OBk σ (out b0 σ h) w v B
 inj:∀i j v1 v2 b,h i≠none→h j≠none→σ i=some v1→σ j=some v2→zAl v1=some b→zAl v2=some b→i=j
 new:∀b,own σ h b→b0.w.heap.size≤b∨b0.Y b
 fx:∀i v,b0.fix i=some v→σ i=some v∧h i≠none
 big:∀i,1000≤i→b0.fix i=none→σ i=none

theorem HRel.lt{b0:zN}{σ:Nat→Option Value}{h:Nat→Option AB}{w:World}(H:HRel b0 σ h w){b:Nat}(hb:own σ h b):b<w.heap.size:=by
 obtain⟨i,v,h1,h2,h3⟩:=hb
 cases hB:h i with
 |none=>exact absurd hB h1
 | some B=>
   obtain⟨v',e1,e2⟩:=H.blk i B hB
   rw[h2]at e1
   cases e1
   rcases e2 with ⟨_,rfl,_⟩|⟨b',cap,cs,g1,g2,_⟩|⟨_,_,_,b',o,rfl,g2,_⟩
   ·cases h3
   ·rw[g1.blk]at h3
    cases h3
    exact(Array.getElem?_eq_some_iff.1 g2).1
   ·cases h3
    exact(Array.getElem?_eq_some_iff.1 g2).1
theorem HRel.put{b0:zN}{σ σ':Nat→Option Value}{h h':Nat→Option AB}{w w':World}{id:Nat}{B':AB}{v':Value}(H:HRel b0 σ h w)
 (hs:∀i v,σ i=some v→σ' i=some v) (hid:h' id=some B') (hv:σ' id=some v') (hh:∀i,i≠id→h' i=none∨h' i=h i) (hK:Keep (own σ h) w w')
 (hfx:∀i v,b0.fix i=some v→h' i≠none) (hbig:∀i,1000≤i→σ' i=σ i)
 (hsame:∀i v b,i≠id→h' i≠none→σ i=some v→zAl v=some b→w'.heap[b]?=w.heap[b]?)
 (hB:OBk σ' (out b0 σ' h') w' v' B')
 (hnew:∀b,zAl v'=some b→(b0.w.heap.size≤b∨b0.Y b)∧(own σ h b∨w.heap.size≤b)∧∀i v,i≠id→h' i≠none→σ i=some v→zAl v≠some b):
 HRel b0 σ' h' w'∧(∀b,own σ' h' b→own σ h b∨w.heap.size≤b)∧∀b,out b0 σ' h' b→out b0 σ h b∨w.heap.size≤b:=by
 have back:∀i v,i≠id→h' i≠none→σ' i=some v→σ i=some v∧h i≠none:=fun i v hi hn hv=>by
  rcases hh i hi with h0|h0
  ·exact absurd h0 hn
  ·rw[h0]at hn
   cases hb:h i with
   |none=>exact absurd hb hn
   | some B=>
     obtain⟨v0,e,_⟩:=H.blk i B hb
     have:=hs i v0 e;rw[hv]at this
     cases this
     exact⟨e,by simp⟩
 have hown:∀b,own σ' h' b→own σ h b∨w.heap.size≤b:=fun b ⟨i,v,h1,h2,h3⟩=>by
  by_cases hi:i=id
  ·subst hi
   rw[hv]at h2
   cases h2
   exact(hnew b h3).2.1
  ·obtain⟨e1,e2⟩:=back i v hi h1 h2
   exact .inl ⟨i,v,e2,e1,h3⟩
 have hout:∀b,out b0 σ' h' b→out b0 σ h b∨w.heap.size≤b:=fun b hb=>hb.elim (fun h=>(hown b h).imp .inl fun h=>h) fun h=>.inl (.inr h)
 refine⟨⟨fun i B hi=> ?_,fun i j v1 v2 b hi hj h1 h2 e1 e2=> ?_,fun b hb=> ?_,fun i v hi=>⟨hs i v (H.fx i v hi).1,hfx i v hi⟩,fun i hi hn=>(hbig i hi).trans (H.big i hi hn)⟩,hown,hout⟩
 ·by_cases hne:i=id
  ·subst hne
   rw[hid]at hi
   cases hi
   exact⟨v',hv,hB⟩
  ·rcases hh i hne with h0|h0
   ·rw[h0]at hi;cases hi
   ·have hn:h' i≠none:=by rw[hi];simp
    rw[h0]at hi
    obtain⟨v,e1,e2⟩:=H.blk i B hi
    exact⟨v,hs _ _ e1,e2.keep hK.out hout hs fun b hb=>hsame i v b hne hn e1 hb⟩
 ·by_cases c1:i=id
  ·by_cases c2:j=id
   ·exact c1.trans c2.symm
   ·subst c1
    rw[hv]at h1
    cases h1
    exact absurd e2 ((hnew b e1).2.2 j v2 c2 hj (back j v2 c2 hj h2).1)
  ·by_cases c2:j=id
   ·subst c2
    rw[hv]at h2
    cases h2
    exact absurd e1 ((hnew b e2).2.2 i v1 c1 hi (back i v1 c1 hi h1).1)
   ·obtain⟨a1,a2⟩:=back i v1 c1 hi h1
    obtain⟨b1,b2⟩:=back j v2 c2 hj h2
    exact H.inj i j v1 v2 b a2 b2 a1 b1 e1 e2
 ·obtain⟨i,v,h1,h2,h3⟩:=hb
  by_cases hi:i=id
  ·subst hi
   rw[hv]at h2
   cases h2
   exact(hnew b h3).1
  ·obtain⟨e1,e2⟩:=back i v hi h1 h2
   exact H.new b ⟨i,v,e2,e1,h3⟩
theorem HRel.keep{b0:zN}{σ:Nat→Option Value}{h:Nat→Option AB}{w w':World}(H:HRel b0 σ h w)(hE:Ext w w'):HRel b0 σ h w':=by
 refine⟨fun i B hi=> ?_,H.inj,H.new,H.fx,H.big⟩
 obtain⟨v,e1,e2⟩:=H.blk i B hi
 refine⟨v,e1,?_⟩
 rcases e2 with h0|⟨b,cap,cs,h1,h2,h3,h4⟩|⟨h1,h2,h3,b,o,rfl,h4,h5⟩
 ·exact .inl h0
 ·exact .inr (.inl ⟨b,cap,cs,h1,Ext.block hE h2,h3,fun k hk j hj=>let ⟨u,a1,a2⟩:=h4 k hk j hj;⟨u,a1,a2.keep (Keep.of_ext hE) (fun b hb=>.inl hb) fun _ _ h=>h⟩⟩)
 ·exact .inr (.inr ⟨h1,h2,h3,b,o,rfl,Ext.block hE h4,h5⟩)

structure St where
 n:Nat
 ln:Nat
 t:Nat→Option AV
 h:Nat→Option AB
 fr:Nat→Bool
 G:zN→Prop
 gs:Nat
 dd:Bool
def put{α:Type}(f:Nat→Option α)(i:Nat)(v:Option α):Nat→Option α:=fun k=>cond (Nat.beq k i) v (f k)
theorem zAn{α:Type}(f:Nat→Option α)(i:Nat)(v:Option α):put f i v i=v:=by
 unfold put;rw[show Nat.beq i i=true from Nat.beq_refl i];rfl
theorem zX{α:Type}(f:Nat→Option α){i k:Nat}(v:Option α)(h:k≠i):put f i v k=f k:=by
 unfold put
 cases hb:Nat.beq k i with
 |false=>rfl
 |true=>exact absurd (Nat.eq_of_beq_eq_true hb) h

def Marks(n0:Nat):List Deferred→World→Prop
 | [],_=>True
 |d::ds,w=>(∃D,d={target:=.collected D,args:= #[]}∧n0≤D∧w.heap[D]?=some (.deferred (some []))∧∀d'∈ds,d'≠{target:=.collected D,args:= #[]})∧Marks n0 ds w
theorem Marks.keep{n0:Nat}{O:Nat→Prop}{w w':World}(hK:Keep O w w')(hO:∀D,O D→w.heap[D]?≠some (.deferred (some []))):∀{ds:List Deferred},Marks n0 ds w→Marks n0 ds w'
 | [],_=>trivial
 |_::_,⟨⟨D,e1,e2,e3,e4⟩,h⟩=>⟨⟨D,e1,e2,(hK.block D (Array.getElem?_eq_some_iff.1 e3).1 fun ho=>hO D ho e3).trans e3,e4⟩,h.keep hK hO⟩
theorem HRel.nodef{b0:zN}{σ:Nat→Option Value}{h:Nat→Option AB}{w:World}(H:HRel b0 σ h w){b:Nat}(hb:own σ h b):w.heap[b]?≠some (.deferred (some [])):=by
 obtain⟨i,v,h1,h2,h3⟩:=hb
 cases hB:h i with
 |none=>exact absurd hB h1
 | some B=>
   obtain⟨v',e1,e2⟩:=H.blk i B hB
   rw[h2]at e1
   cases e1
   rcases e2 with ⟨_,rfl,_⟩|⟨b',cap,cs,g1,g2,_⟩|⟨_,_,_,b',o,rfl,g2,g5⟩
   ·cases h3
   ·rw[g1.blk]at h3
    cases h3
    rw[g2];intro e
    cases e
   ·cases h3
    rw[g2];intro e
    cases e
    exact absurd g5.1 (by decide)
theorem Keep.less{O O':Nat→Prop}{w w':World}(h:Keep O w w')(hO:∀b,O b→O' b):Keep O' w w':=⟨h.os,h.tape,h.output,h.size,fun k hk hn=>h.block k hk fun ho=>hn (hO k ho)⟩
def zC9(w0:zN)(S:St)(b:Nat):Prop:=w0.Y b∨w0.V S.dd b
structure Rel0(w0:zN)(σ:Nat→Option Value)(S:St)(a:Act)(w:World):Prop where
 df:Marks w0.w.heap.size a.defers w
 sz:a.tmps.size=S.n
 ext:Keep (zC9 w0 S) w0.w w
 hp:HRel w0 σ S.h w
 sl:∀t x,S.t t=some x→RepA σ (out w0 σ S.h) w x (a.tmps.getD t undef)
 fr:∀id,S.fr id=true→σ id=none∧id<1000
 le:∀i v,w0.fix i=some v→i<1000+S.ln
 gd:S.G w0
 gh:w0.J S.gs S.dd w
def Rel(w0:zN)(S:St)(a:Act)(w:World):Prop:=∃σ,Rel0 w0 σ S a w

structure Eff where
 x:AV
 hs:List (Nat×Option AB)
 al:List Nat
def zAb(hs:List (Nat×Option AB))(h:Nat→Option AB):Nat→Option AB:=hs.foldr (fun p f=>put f p.1 p.2) h
def St.eff(S:St)(d:Option Tmp)(e:Eff):St:=
 {n:=S.n,ln:=S.ln,t:=match d with|some d=>put S.t d (some e.x)|none=>S.t,h:=zAb e.hs S.h,fr:=fun id=>S.fr id && !(e.al.any (Nat.beq id)),G:=S.G,gs:=S.gs,dd:=S.dd}
def dOk(n:Nat):Option Tmp→Bool
 |some d=>Nat.blt d n
 |none=>true

theorem zFM{a:Act}{d t:Nat}{u:Value}(h:d<a.tmps.size):(a.put (some d) u).tmps.getD t undef=if t=d then u else a.tmps.getD t undef:=by
 simp only[Act.put,Array.getD_eq_getD_getElem?]
 by_cases e:t=d
 ·subst e;simp[h]
 ·rw[if_neg e,Array.getElem?_setIfInBounds_ne (Ne.symm e)]
theorem size_put{a:Act}{d:Option Tmp}{u:Value}:(a.put d u).tmps.size=a.tmps.size:=by cases d<;>simp[Act.put]
theorem zEN{a:Act}{d:Option Tmp}{u:Value}:(a.put d u).defers=a.defers:=by cases d<;>rfl

theorem Rel0.step{w0:zN}{σ σ':Nat→Option Value}{S:St}{a:Act}{w w':World}{d:Option Tmp}{e:Eff}{u:Value}(R:Rel0 w0 σ S a w)(hd:dOk S.n d=true)
 (hs:∀i v,σ i=some v→σ' i=some v) (hK:Keep (own σ S.h) w w') (hH:HRel w0 σ' (zAb e.hs S.h) w') (hO:∀b,out w0 σ' (zAb e.hs S.h) b→out w0 σ S.h b∨w.heap.size≤b)
 (hx:d≠none→RepA σ' (out w0 σ' (zAb e.hs S.h)) w' e.x u) (hf:∀id,σ' id≠none→σ id≠none∨id∈e.al):Rel0 w0 σ' (S.eff d e) (a.put d u) w':=by
 refine⟨by rw[zEN];exact R.df.keep hK fun D=>R.hp.nodef,size_put.trans R.sz,R.ext.trans hK fun i h=>(R.hp.new i h).imp id .inl,hH,fun t x ht=> ?_,fun id hid=> ?_,R.le,R.gd,w0.jk _ _ _ _ _ R.gh hK R.hp.new⟩
 ·cases d with
  |none=>exact(R.sl t x ht).keep hK.out hO hs
  | some d=>
    have hlt:d<a.tmps.size:=by rw[R.sz];exact Nat.blt_eq.mp hd
    rw[zFM hlt]
    simp only[St.eff]at ht
    by_cases e:t=d
    ·subst e
     rw[zAn]at ht
     cases ht
     rw[if_pos rfl];exact hx (by simp)
    ·rw[zX _ _ e]at ht
     rw[if_neg e]
     exact(R.sl t x ht).keep hK.out hO hs
 ·simp only[St.eff,Bool.and_eq_true,Bool.not_eq_true']at hid
  refine⟨?_,(R.fr id hid.1).2⟩
  cases hc:σ' id with
  |none=>rfl
  | some v=>
    rcases hf id (by simp[hc])with h1|h1
    ·exact absurd (R.fr id hid.1).1 h1
    ·have h2:e.al.any (Nat.beq id)=true:=List.any_eq_true.2 ⟨id,h1,Nat.beq_refl id⟩
     rw[h2]at hid
     cases hid.2
theorem Rel0.val{w0:zN}{σ:Nat→Option Value}{S:St}{a:Act}{w w':World}{d:Option Tmp}{x:AV}{u:Value}(R:Rel0 w0 σ S a w)(hd:dOk S.n d=true)(hE:Ext w w')
 (hx:d≠none→RepA σ (out w0 σ S.h) w' x u):Rel0 w0 σ (S.eff d ⟨x,[],[]⟩) (a.put d u) w':=by
 have h1:=R.hp.keep hE;exact R.step (e:=⟨x,[],[]⟩) hd (fun _ _ h=>h) (Keep.of_ext hE) h1 (fun b hb=>.inl hb) hx (fun id h=>.inl h)
theorem Rel0.drew{w0:zN}{σ:Nat→Option Value}{S:St}{a:Act}{w w':World}(R:Rel0 w0 σ S a w)(hE:Ext w w'):Rel0 w0 σ S a w':=by
 have h1:=R.hp.keep hE
 exact⟨R.df.keep (Keep.of_ext (O:=own σ S.h) hE) fun D=>R.hp.nodef,R.sz,R.ext.trans (Keep.of_ext (O:=own σ S.h) hE) fun i h=>(R.hp.new i h).imp id .inl,h1,fun t x ht=>(R.sl t x ht).keep (Keep.of_ext hE) (fun b hb=>.inl hb) fun _ _ h=>h,R.fr,R.le,R.gd,w0.jk _ _ _ _ _ R.gh (Keep.of_ext (O:=own σ S.h) hE) R.hp.new⟩
end Go.AV
end
