/- Parts of the proof: AApp, AFull, A28a, A28c, A28d, A28e. -/
import Derived.Test.YtbffmfeldkjkcaaGreatG24
import Derived.Test.YtbffmfeldkjkcaaGreatG23
import Derived.Test.YtbffmfeldkjkcaaGreatG20
set_option linter.unusedSimpArgs false
set_option linter.unusedVariables false
set_option maxHeartbeats 0
set_option maxRecDepth 100000
section
namespace Go.AV
open Go Go.RowKit Go.Flow
section
variable{P:Program}{tab:List (TypeId×TD)}
theorem zPt(T:zAq P tab=true){b0:zN}{σ:Nat→Option Value}{S:St}{a:Act}{w:World}(R:Rel0 b0 σ S a w){ids:List Nat}{d1:Nat}(hfr:S.fr d1=true){u1 u2:Value}{t el ty:TypeId}{d e:TD}{o:Option Nat}{n m:Nat}{F G:Nat→Nat→CV}
 (ht:zD tab t=some d) (hk:d.k=.sl el) (he:zD tab el=some e) (hsz:0<e.size) (hnm:0<n+m)
 (h1:(o=none∧u1=.slice none 0 0∧n=0)∨∃i,o=some i∧σ i=some u1∧S.h i=some ⟨true,n,e.size,el,F⟩∧i∉ids) (hF:∀k,k<n→∀j,j<e.size→isP (F k j)=true) (hG:∀k,k<m→∀j,j<e.size→isP (G k j)=true)
 (h2:RepA σ (out b0 σ S.h) w (.c (.ls m e.size G)) u2) (h63:n+m≤4611686018427387904) (hb:(n+m)*e.bytes≤140737488355328):
 ∃u w1,(Builtin.append_ #[t,t] ty #[u1,u2]).run P w=.ok u w1∧zKE b0 σ S ids w w1 d1 u ⟨true,n+m,e.size,el,zAj F n G⟩:=by
 obtain⟨inf,z,ud,i1,i2,i3,i4,i5,i6,-⟩:=zAS T he
 have hzs:z.cells.size=e.size:=by rw[i5];simp[i6]
 obtain⟨A,c,ys,rfl,y2,y3,y4⟩:=zE2 h2
 have yone:∀u∈ys,u.oneCell'=true:=fun u hu=>by
  obtain⟨p,hp,rfl⟩:=List.getElem_of_mem hu
  obtain⟨h1,h2,h3⟩:=zIi (show p<m*e.size by omega)
  obtain⟨v,g1,g2⟩:=y4 _ h1 _ h2
  rw[h3,List.getElem?_eq_getElem hp]at g1
  cases g1
  exact g2.1
 obtain⟨xs,hxl,hv,hxc⟩:∃xs:List Value,xs.length=n*e.size∧((u1=.slice none 0 0∧n=0)∨∃g cap cur,u1=.slice (some ⟨g,0,none⟩) n cap∧w.heap[g]?=some (.cells cur el (0,0))∧n≤cap∧cap≤maxLen∧cur.size=cap*e.size∧cur.toList.take (n*e.size)=xs)∧
  (∀k,k<n→∀j,j<e.size→∃v,xs[k*e.size+j]?=some v∧RepC σ (out b0 σ S.h) w (F k j) v):=by
  rcases h1 with ⟨_,e0,rfl⟩|⟨i,_,e0,hB,_⟩
  ·exact⟨[],by simp,.inl ⟨e0,rfl⟩,fun k hk=>absurd hk (Nat.not_lt_zero _)⟩
  ·obtain⟨v,f1,f2⟩:=R.hp.blk i _ hB
   rw[e0]at f1
   cases f1
   rcases f2.row rfl with ⟨_,h1,h0⟩|⟨b,cap,cs,h1,h2,h3,h4⟩
   ·obtain rfl:n=0:=h0
    exact⟨[],by simp,.inl ⟨h1,rfl⟩,fun k hk=>absurd hk (Nat.not_lt_zero _)⟩
   ·rcases h1 with ⟨_,h1,h5,h6⟩|⟨h1,_⟩
    ·simp only at h1 h2 h3 h4 h5
     have hle:n*e.size≤cs.size:=by rw[h3];exact Nat.mul_le_mul_right _ h5
     refine⟨cs.toList.take (n*e.size),by simp;omega,.inr ⟨b,cap,cs,h1,h2,h5,h6,h3,rfl⟩,fun k hk j hj=> ?_⟩
     obtain⟨v,g1,g2⟩:=h4 k hk j hj
     exact⟨v,by rw[List.getElem?_take_of_lt (zCi hk hj)];simpa using g1,g2⟩
    ·cases h1
 obtain⟨u,w1,r1,r2,r3⟩:=zK7 (P:=P) (w:=w) t ty el inf z e.size e.bytes (zBL T ht hk) i1 i4 i2 i3 hzs hsz u1 n xs hxl hv A m c ys y2 y3 yone (by simp only[maxLen];omega) hb
 refine⟨u,w1,r1,(R.fr d1 hfr).1,rfl,?_⟩
 rcases r3 with ⟨_,h0⟩|⟨b',cap',cs',rfl,k1,k2,k3,k4,k5,k6⟩
 ·omega
 ·have cells:∀k,k<n+m→∀j,j<e.size→isP (zAj F n G k j)=true∧∃c,cs'[k*e.size+j]?=some c∧RepC σ (out b0 σ S.h) w1 (zAj F n G k j) c:=fun k hk j hj=>by
   have hcut:cs'[k*e.size+j]?=(xs++ys)[k*e.size+j]?:=by
    rw[←k5,List.getElem?_take_of_lt (zCi hk hj)]
    simp
   rw[hcut];unfold zAj;by_cases hkn:k<n
   ·rw[show Nat.blt k n=true from Nat.blt_eq.mpr hkn,List.getElem?_append_left (by rw[hxl];exact zCi hkn hj)]
    obtain⟨v,g1,g2⟩:=hxc k hkn j hj
    exact⟨hF k hkn j hj,v,g1,zDR (hF k hkn j hj) g2⟩
   ·have hle:n*e.size≤k*e.size:=Nat.mul_le_mul_right _ (by omega)
    rw[show Nat.blt k n=false from Bool.eq_false_iff.2 fun h=>hkn (Nat.blt_eq.mp h),List.getElem?_append_right (by omega),hxl,show k*e.size+j-n*e.size=(k-n)*e.size+j by rw[Nat.sub_mul];omega]
    obtain⟨v,g1,g2⟩:=y4 (k-n) (by omega) j hj
    have:=hG (k-n) (by omega) j hj
    exact⟨this,v,g1,zDR this g2⟩
  refine⟨b',cap',cs',.inl ⟨rfl,rfl,k1,k2⟩,k3,k4,cells,⟨r2.os,r2.tape,r2.output,r2.size,fun k hk hne=> ?_⟩,?_⟩
  ·rcases k6 with ⟨k6,_⟩|⟨k6,k7⟩
   ·exact r2.block k hk fun e0=>hne (Option.some.inj (e0.trans k6))
   ·exact k7.block k hk (by simp)
  ·rcases k6 with ⟨k6,k7⟩|⟨k6,_⟩
   ·rcases h1 with ⟨_,rfl,_⟩|⟨i,_,e0,hB,hni⟩
    ·cases k6
    ·rcases hv with ⟨rfl,_⟩|⟨g,cap,cur,rfl,hg,_⟩
     ·cases k6
     ·obtain rfl:g=b':=Option.some.inj k6
      have:=k7 _ _ _ rfl;subst this;refine .inr ⟨i,n,F,hB,e0,Nat.le_add_right _ _,hni,fun k hk j _=> ?_⟩;show F k j=zAj F n G k j;unfold zAj;rw[show Nat.blt k n=true from Nat.blt_eq.mpr hk]
      rfl
   ·exact .inl (by omega)
theorem zJj{S S1:St}{d1:Tmp}{ty:Unit}(hS:∀t,t≠d1→S.t t=S1.t t)(h1:S.t d1=some (.c (.ow d1))){b0:zN}{σ:Nat→Option Value}{a:Act}{w:World}(R:Rel0 b0 σ S1 a w){u:Value}{ex:Option (Nat×Value×AB)}{B:AB}(he:ex=some (d1,u,B))(hu:a.tmps.getD d1 undef=u):
 ∀{xs:List Operand} {l:List V1},S.opds xs=some l→RepL (fun x v=>RepV σ (out b0 σ S1.h) w x v∨∃d u B,ex=some (d,u,B)∧x=.c (.ow d)∧v=u) l (xs.map a.eval)
 | [],l,h=>by cases h;trivial
 | x ::r,l,h=>by
   have one:∀y,S.opd x=some y→∀z:V1,z.av=y→(fun x v=>RepV σ (out b0 σ S1.h) w x v∨∃d u B,ex=some (d,u,B)∧x=.c (.ow d)∧v=u) z (a.eval x):=fun y hy z hz=>by
    by_cases hx:x=.tmp d1
    ·subst hx
     have:y=.c (.ow d1):=by
      have:S.t d1=some y:=hy;rw[h1]at this
      exact(Option.some.inj this).symm
     subst this
     right
     refine⟨d1,u,B,he,?_,hu⟩
     cases z<;>cases hz;rfl
    ·left
     have hy1:S1.opd x=some y:=by
      cases x with
      |tmp t=>exact(hS t fun e=>hx (by rw[e])).symm.trans hy
      |_=>exact hy
     have:=zW R hy1;rw[←hz]at this;exact zH1 this
   unfold St.opds at h
   cases hy:S.opd x with
   |none=>rw[hy]at h;cases h
   | some y=>
     rw[hy]at h
     cases hm:S.opds r with
     |none=>cases y<;>simp only[hm]at h<;>cases h
     | some m=>
       cases y with
       |c y=>simp only[hm]at h;cases h;exact⟨one _ hy (.c y) rfl,zJj (ty:=()) hS h1 R he hu hm⟩
       |ag y=>simp only[hm]at h;cases h;exact⟨one _ hy (.ag y) rfl,zJj (ty:=()) hS h1 R he hu hm⟩
       |tu y=>cases h
section txt
variable{ops:Array Oper}{rest:List Oper}{S:St}{Q:St→Prop}{dst:Option Tmp}{ty ty1:TypeId}{pos pos1:String}{after after1:Array Edge}{guard guard1:Option (Nat×Bool)}
theorem zKs(T:zAq P tab=true){d1:Tmp}{f:FuncId}{fn:Func}{z:Operand}{cap:List V1}{xs:Array Operand}{ats:Array TypeId}{args:List V1}{Rl:AV→List AB→List AB→Prop}(ids ni:List Nat)(bs:List AB)
 {s x:Operand} {t el:TypeId} {d e:TD} {o:Option Nat} {vs:CV} {n m:Nat} {F G:Nat→Nat→CV}
 (hw1:S.wants ops {dst:=some d1,op:=.call {callee:=.builtin .append,args:= #[s,x],argTypes:= #[t,t]},type:=ty1,pos:=pos1,after:=after1,guard:=guard1}=some true)
 (hw:(S.eff (some d1) ⟨.c .any,[],[]⟩).wants ops {dst,op:=.call {callee:=.value z,args:=xs,argTypes:=ats},type:=ty,pos,after,guard}=some true) (hd1:(dOk S.n (some d1) && dOk S.n dst && S.fr d1)=true)
 (hs:S.opd s=some (.c vs)) (hx:S.opd x=some (.c (.ls m e.size G))) (ht:zD tab t=some d) (hk:d.k=.sl el) (he:zD tab el=some e) (hsz:Nat.blt 0 e.size=true)
 (ho:(o=none∧vs=.p (.slice none 0 0)∧n=0)∨∃i,o=some i∧vs=.ow i∧S.h i=some ⟨true,n,e.size,el,F⟩∧i∉ids) (hF:∀k,k<n→∀j,j<e.size→isP (F k j)=true) (hG:∀k,k<m→∀j,j<e.size→isP (G k j)=true) (hnm:0<n+m)
 (h63:n+m≤4611686018427387904) (hb0:(n+m)*e.bytes≤140737488355328)
 (hz:FnV (S.eff (some d1) ⟨.c .any,[],[]⟩) z f cap) (ha:(S.eff (some d1) ⟨.c (.ow d1),[],[]⟩).opds xs.toList=some args) (hf:P.funcs[f]?=some fn) (hb:fn.body.isNone=false) (hnm':(fn.name== "runtime.NumGoroutine")=false) (hL:LendOk2 S ids ids bs)
 (hnd:(zAx ids && zAx ni && ni.all (fun i=>S.fr i))=true) (hc:GE P f ((args++cap).map (zDT (ids++ [d1]))) (bs++ [⟨true,n+m,e.size,el,zAj F n G⟩]) Rl)
 (hn:∀r hs' nw,Rl r hs' nw→∃r' bs' nw',BackA ids ni r r'∧BackB ids ni hs' (bs'++ [⟨true,n+m,e.size,el,zAj F n G⟩])∧BackB ids ni nw nw'∧(Nat.beq bs'.length bs.length && Nat.beq nw'.length ni.length)=true∧AText P ops rest ((S.eff (some d1) ⟨.c .any,[],[]⟩).eff dst ⟨r',zO ids bs'++zO ni nw',ni⟩) Q):
 AText P ops ({dst:=some d1,op:=.call {callee:=.builtin .append,args:= #[s,x],argTypes:= #[t,t]},type:=ty1,pos:=pos1,after:=after1,guard:=guard1}::{dst,op:=.call {callee:=.value z,args:=xs,argTypes:=ats},type:=ty,pos,after,guard}::rest) S Q:=⟨fun rd b0 a w K hR hK=>by
 obtain⟨σ,R0⟩:=hR
 simp only[Bool.and_eq_true]at hd1 hnd
 obtain⟨⟨hdA,hdB⟩,hfr⟩:=hd1
 obtain⟨⟨n1,n2⟩,n3⟩:=hnd
 have r1:=zW R0 hs;have r2:=zW R0 hx
 obtain⟨u,w1,hrun,hE⟩:=zPt (ty:=ty1) (d1:=d1) (ids:=ids) (u1:=a.eval s) (u2:=a.eval x) (o:=o) (F:=F) (G:=G) T R0 hfr ht hk he (Nat.blt_eq.mp hsz) hnm
  (by
    rcases ho with ⟨h1,rfl,h3⟩|⟨i,h1,rfl,h3,h4⟩
    ·exact .inl ⟨h1,r1.2,h3⟩
    ·exact .inr ⟨i,h1,r1.2.1,h3,h4⟩) hF hG r2 h63 hb0
 have hex:(execOp a.eval {dst:=some d1,op:=.call {callee:=.builtin .append,args:= #[s,x],argTypes:= #[t,t]},type:=ty1,pos:=pos1,after:=after1,guard:=guard1}).run P w=.ok (.value u) w1:=by
  simp only[execOp,resolve,invoke,builtin,Sem.run_bind,Sem.run_pure,Result.andThen_ok,List.map_toArray,List.map_cons,List.map_nil,hrun]
 unfold wpListIn;rw[if_pos (zC8 R0 hw1)];refine GoesA.wpIn (K0:=fun v w'=>v=u∧w'=w1) (.inl (by rw[hex];exact⟨rfl,rfl⟩)) fun v w' ⟨e1,e2⟩=> ?_
 subst e1 e2;have R1:Rel0 b0 σ (S.eff (some d1) ⟨.c .any,[],[]⟩) (a.put (some d1) v) w:=R0.val hdA (Ext.refl w) fun _=>by
  refine⟨?_,trivial⟩
  obtain⟨b,cap,cs,q1,_⟩:=hE.ob
  rcases q1 with ⟨_,h,_⟩|⟨_,h,_⟩<;>rw[h]<;>rfl
 unfold wpListIn;rw[if_pos (zC8 R1 hw)]
 refine⟨fun _ _=>trivial,?_⟩
 obtain⟨cv,e1,e2⟩:=hz.rep R1
 have hlt:d1<a.tmps.size:=by rw[R0.sz];exact Nat.blt_eq.mp hdA
 have hput:(a.put (some d1) v).tmps.getD d1 undef=v:=by rw[zFM hlt,if_pos rfl]
 have hfr1:∀id∈ni,(S.eff (some d1) ⟨.c .any,[],[]⟩).fr id=true:=fun id hid=>by
  have:=List.all_eq_true.1 n3 id hid
  simp[St.eff,this]
 have hargs:=zJj (ty:=()) (S:=S.eff (some d1) ⟨.c (.ow d1),[],[]⟩) (S1:=S.eff (some d1) ⟨.c .any,[],[]⟩) (d1:=d1) (fun t ht=>(zX _ _ ht).trans (zX _ _ ht).symm) (zAn _ _ _) R1 (ex:=some (d1,v,⟨true,n+m,e.size,el,zAj F n G⟩)) rfl hput ha;have:=zHT (ex:=some (d1,v,⟨true,n+m,e.size,el,zAj F n G⟩)) (w:=w) (w1:=w') (ni:=ni) (dst:=dst) (Rl:=Rl) (args:=args++cap) hc R1 hdB ⟨hE.no,hE.row,hE.ob⟩
  (RepL.append hargs (e2.mono fun x v h=>.inl h)) (zG6 (S:=S) (S1:=S.eff (some d1) ⟨.c .any,[],[]⟩) (fun _ _=>rfl) hL) n1 n2 hfr1
 rw[Oper.semAt_eq _ _ _ (fun c hc=>by cases hc),zCc f fn hf hb hnm' #[] cv.toArray e1 w'];rw[Oper.uponIn_enter]
 refine⟨fun hd=>(by cases hd),?_⟩
 rw[show(#[]++xs.map (a.put (some d1) v).eval++cv.toArray:Array Value)=(xs.toList.map (a.put (some d1) v).eval++cv).toArray from Array.ext' (by simp)]
 exact(zE9 rd).calls (this.mono fun e w' ⟨v,r0,hs0,nw0,g1,g2,g3⟩=>by
  subst g1
  obtain⟨r',bs',nw',k1,k2,k3,k4,k5⟩:=hn r0 hs0 nw0 g2
  rw[Bool.and_eq_true]at k4;exact k5.get rd b0 _ _ K (g3 r' bs' nw' k1 k2 k3 (Nat.eq_of_beq_eq_true k4.1) (Nat.eq_of_beq_eq_true k4.2)) hK)⟩
end txt
end
section
variable{P:Program}{tab:List (TypeId×TD)}
section ops
variable{ops:Array Oper}{rest:List Oper}{acc:List (List Nat×List Nat)}{S:St}{Q:List (List Nat×List Nat)→St→Prop}{dst:Option Tmp}{ty:TypeId}{pos:String}{after:Array Edge}{guard:Option (Nat×Bool)}
theorem zOn(T:zAq P tab=true){t el:TypeId}{x y z:Operand}{n sz:Nat}{F:Nat→Nat→CV}{d e:TD}{k1 k2:IntKind}{i1 i2:Int}(hw:S.wants ops {dst,op:=.slice t x none (some y) (some z),type:=ty,pos,after,guard}=some true)(hd:dOk S.n dst=true)
 (hx:S.opd x=some (.c (.ls n sz F))) (ht:zD tab t=some d) (hk:d.k=.sl el) (he:zD tab el=some e) (hs:e.size=sz) (hy:S.opd y=some (.c (.p (.int k1 i1)))) (hz:S.opd z=some (.c (.p (.int k2 i2)))) (h1:i1=(n:Int)) (h2:i2=(n:Int))
 (hn:AList P ops rest (([],[])::acc) (S.eff dst ⟨.c (.lf n sz F),[],[]⟩) Q):AList P ops ({dst,op:=.slice t x none (some y) (some z),type:=ty,pos,after,guard}::rest) acc S Q:=
 AList.val [] _ hw hd (fun S1 g1 _ b0 σ a w R=>by
  obtain⟨-,A,cap,e1,e0,e2⟩:=zW R ((g1 x (by simp[Op.operands])).trans hx)
  have ey:=zAU (zW R ((g1 y (by simp[Op.operands])).trans hy));have ez:=zAU (zW R ((g1 z (by simp[Op.operands])).trans hz))
  obtain⟨inf,zz,u,j1,j2,j3,-⟩:=zAS T he
  have hu:=zBL T ht hk;subst h1 h2
  refine⟨.slice (if n=0 then A else A.map (·.add (0*inf.size))) n n,?_,rfl,_,rfl,fun k hk j hj=> ?_⟩
  ·have c1:(n:Int)≤cap:=by omega
   have c3:¬cap<n:=by omega
   simp[execOp,Instr.sliceAt,Instr.slice,run_underlying hu,e1,Instr.sliceBounds,Instr.sliceBound,asIntOf,ey,ez,sizeOf,typeInfo,j1,j2,hs,c1,c3]
  ·obtain⟨ad,v,r1,r2,r3,r4,r5⟩:=e2 k hk j hj
   subst r1
   refine⟨ad.add (0*inf.size),v,by rw[if_neg (by omega)];rfl,by rw[zBu];exact r2,?_,r4,r5⟩
   rw[zFr,Nat.zero_mul,Nat.zero_add];exact r3) hn
theorem zOl(T:zAq P tab=true){id:Nat}{s x:Operand}{t el:TypeId}{d e:TD}{n m:Nat}{F G:Nat→Nat→CV}
 (hw:S.wants ops {dst:=some id,op:=.call {callee:=.builtin .append,args:= #[s,x],argTypes:= #[t,t]},type:=ty,pos,after,guard}=some true) (hd:dOk S.n (some id)=true) (hf:S.fr id=true)
 (hs:S.opd s=some (.c (.lf n e.size F))) (hx:S.opd x=some (.c (.ls m e.size G))) (ht:zD tab t=some d) (hk:d.k=.sl el) (he:zD tab el=some e) (hsz:(Nat.blt 0 e.size && Nat.blt 0 m)=true)
 (h63:n+m≤4611686018427387904) (hb:(n+m)*e.bytes≤140737488355328)
 (hn:AList P ops rest (([id],[id,id])::acc) (S.eff (some id) ⟨.c (.ow id),[(id,some ⟨true,n+m,e.size,el,zAj F n G⟩)],[id]⟩) Q):
 AList P ops ({dst:=some id,op:=.call {callee:=.builtin .append,args:= #[s,x],argTypes:= #[t,t]},type:=ty,pos,after,guard}::rest) acc S Q:=
 AList.cons [] ⟨.c (.ow id),[(id,some ⟨true,n+m,e.size,el,zAj F n G⟩)],[id]⟩ (LStep.of hw fun S1 hA _ hal b0 σ a w R=>by
  rw[Bool.and_eq_true]at hsz;have hsz1:=Nat.blt_eq.mp hsz.1;have hm0:=Nat.blt_eq.mp hsz.2
  obtain⟨inf,z,ud,i1,i2,i3,i4,i5,i6,-⟩:=zAS T he
  have hzs:z.cells.size=e.size:=by rw[i5];simp[i6]
  have rs:=zW R ((hA.op s (by simp[Op.operands,Call.operands])).trans hs)
  obtain⟨A,c,ys,y1,y2,y3,y4⟩:=zE2 (zW R ((hA.op x (by simp[Op.operands,Call.operands])).trans hx))
  obtain⟨-,B,s1,s2⟩:=rs
  have rs':RepA σ (out b0 σ S1.h) w (.c (.ls n e.size F)) (a.eval s):=⟨by rw[s1];rfl,B,n,s1,Nat.le_refl _,s2⟩
  obtain⟨B',c',xs,x1,x2,x3,x4⟩:=zE2 rs'
  rw[s1]at x1
  cases x1
  obtain⟨ad,hAd⟩:∃ad,A=some ad:=by
   obtain⟨v,g1,_⟩:=y4 0 hm0 0 hsz1
   obtain⟨ad,g2,_⟩:=y3 _ v g1
   exact⟨ad,g2⟩
  subst hAd;have hcells:∀(j:Nat) (u:Value),ys[j]?=some u→w.cell? (ad.add j)=some u:=fun j u hj=>by obtain⟨ad',he,hc⟩:=y3 j u hj;cases he;exact hc
  have hrun:∃cap,n+m≤cap∧cap≤maxLen∧(Builtin.append_ #[t,t] ty #[.slice B n n,.slice (some ad) m c]).run P w=.ok (.slice (some ⟨w.drew.heap.size,0,none⟩) (n+m) cap) (w.drew.alloc (.cells (xs.toArray++ys.toArray++Builtin.zeroCells z.cells (cap-(n+m))) el)):=by
   cases B with
   | none=>
     have hn0:n=0:=by
      rcases Nat.eq_zero_or_pos n with h|h
      ·exact h
      ·obtain⟨ad',v,h1,_⟩:=s2 0 h 0 hsz1
       cases h1
     subst hn0;have hx0:xs= []:=List.eq_nil_of_length_eq_zero (by simpa using x2);subst hx0;have hr:=run_append_nil (P:=P) w t ty el inf z (zBL T ht hk) i1 i4 ad m c ys (by rw[i2];exact y2) hcells (by omega) (by omega) (by rw[i3];rw[Nat.zero_add]at hb;omega)
     exact⟨grownCap w m 0 el,by have:=grownCap_ge w m 0 el;omega,grownCap_le_maxLen w m 0 el (by simp only[maxLen];omega),by simpa using hr⟩
   | some b=>
     have holds:∀(j:Nat) (u:Value),xs[j]?=some u→w.cell? (b.add j)=some u:=fun j u hj=>by obtain⟨ad',he,hc⟩:=x3 j u hj;cases he;exact hc
     have hr:=run_append_grow (P:=P) w t ty el inf z (zBL T ht hk) i1 i4 b n n xs (by rw[i2];exact x2) holds ad m c ys (by rw[i2];exact y2) hcells (by omega) (by omega) (growslice_fits (by omega) (by rw[i3];exact hb))
     exact⟨grownCap w (n+m) n el,grownCap_ge w (n+m) n el,grownCap_le_maxLen w (n+m) n el (by simp only[maxLen];omega),hr⟩
  obtain⟨cap,h1,h2,hrun⟩:=hrun
  have hex:(execOp a.eval {dst:=some id,op:=.call {callee:=.builtin .append,args:= #[s,x],argTypes:= #[t,t]},type:=ty,pos,after,guard}).run P w=.ok (.value (.slice (some ⟨w.drew.heap.size,0,none⟩) (n+m) cap)) (w.drew.alloc (.cells (xs.toArray++ys.toArray++Builtin.zeroCells z.cells (cap-(n+m))) el)):=by
   simp only[execOp,resolve,invoke,builtin,Sem.run_bind,Sem.run_pure,Result.andThen_ok,List.map_toArray,List.map_cons,List.map_nil,s1,y1,hrun]
  rw[hex];have hD:Ext w w.drew:=(Ext.refl w).drew
  refine(R.drew hD).new (B:=⟨true,n+m,e.size,el,zAj F n G⟩) (cap:=cap) (by rw[hA.n];exact hd) ((hal id (by simp)).trans hf) (.inl ⟨rfl,rfl,h1,h2⟩) ?_ (fun k hk j hj=> ?_) (fun σ' O' w' h=>zD0 h)
  ·show(xs.toArray++ys.toArray++Builtin.zeroCells z.cells (cap-(n+m))).size=cap*e.size
   simp only[Array.size_append,List.size_toArray,size_zeroCells,hzs,x2,y2,←Nat.add_mul]
   congr 1
   omega
  ·replace hk:k<n+m:=hk
   replace hj:j<e.size:=hj
   show ∃u,(xs.toArray++ys.toArray++Builtin.zeroCells z.cells (cap-(n+m)))[k*e.size+j]?=some u∧RepC σ _ w.drew (zAj F n G k j) u;have hlt:=zCi hk hj;have hcut:(xs.toArray++ys.toArray++Builtin.zeroCells z.cells (cap-(n+m)))[k*e.size+j]?=(xs++ys)[k*e.size+j]?:=by
    rw[Array.getElem?_append_left (by simp[x2,y2,←Nat.add_mul];exact hlt)]
    simp
   rw[hcut];unfold zAj;by_cases hkn:k<n
   ·rw[show Nat.blt k n=true from Nat.blt_eq.mpr hkn,List.getElem?_append_left (by rw[x2];exact zCi hkn hj)]
    obtain⟨v,g1,g2⟩:=x4 k hkn j hj
    exact⟨v,g1,g2.keep (Keep.of_ext hD) (fun b hb=>.inl hb) fun _ _ h=>h⟩
   ·have hle:n*e.size≤k*e.size:=Nat.mul_le_mul_right _ (by omega)
    rw[show Nat.blt k n=false from Bool.eq_false_iff.2 fun h=>hkn (Nat.blt_eq.mp h),List.getElem?_append_right (by omega),x2,show k*e.size+j-n*e.size=(k-n)*e.size+j by rw[Nat.sub_mul];omega]
    obtain⟨v,g1,g2⟩:=y4 (k-n) (by omega) j hj
    exact⟨v,g1,g2.keep (Keep.of_ext hD) (fun b hb=>.inl hb) fun _ _ h=>h⟩) hn
theorem zFg{f:FuncId}{fn:Func}{z:Operand}{cap:List V1}{xs:Array Operand}{ats:Array TypeId}{args:List V1}{r:AV}(hw:S.wants ops {dst,op:=.call {callee:=.value z,args:=xs,argTypes:=ats},type:=ty,pos,after,guard}=some true)(hd:dOk S.n dst=true)
 (hz:FnV S z f cap) (ha:S.opds xs.toList=some args) (hi:(args++cap).all zDx=true) (hf:P.funcs[f]?=some fn) (hb:fn.body.isNone=false) (hnm:(fn.name== "runtime.NumGoroutine")=false) (hc:ACalls P f (args++cap) r)
 (hn:AList P ops rest (([],[])::acc) (S.eff dst ⟨r,[],[]⟩) Q):AList P ops ({dst,op:=.call {callee:=.value z,args:=xs,argTypes:=ats},type:=ty,pos,after,guard}::rest) acc S Q:=
 AList.ext [] _ hw hd (fun S1 h1 _ b0 σ a w R=>by
  have h2:S1.opds xs.toList=some args:=(zCJ fun x hx=>h1 x (by simp only[Op.operands,Call.operands];simp;exact .inr (by simpa using hx))).trans ha
  obtain⟨vs,e1,e2⟩:=(hz.congr (h1 z (by simp[Op.operands,Call.operands]))).rep R
  have:=hc.at R (RepL.append (zBT R h2) e2) hi;rw[zCc f fn hf hb hnm #[] vs.toArray e1 w]
  simp only[Goes]
  rw[show(#[]++xs.map a.eval++vs.toArray:Array Value)=(xs.toList.map a.eval++vs).toArray from Array.ext' (by simp)];exact this.mono fun e w' ⟨v,g1,g2,g3⟩=>⟨v,g1,g2,g3⟩) hn
theorem zHg{t e:TypeId}(h:P.underlying t=some (.pointer e)):P.underlying t=some (.pointer (P.pointee t)):=by
 rw[h]
 simp[Program.pointee,h]
theorem zKo{xt yt:TypeId}{x:Operand}{y:CV}{b:Bool}(hw:S.wants ops {dst,op:=.binOp .eql xt x (.const (.pointer none)) yt,type:=ty,pos,after,guard}=some true)(hd:dOk S.n dst=true)(hx:S.opd x=some (.c y))(hy:(match y with| .p (.pointer none)=>b==true| .pt .. =>b==false| .pl .. =>b==false|_=>false)=true)
 (ht:P.underlying xt=some (.pointer (P.pointee xt)))
 (hn:AList P ops rest (([],[])::acc) (S.eff dst ⟨.c (.p (.bool b)),[],[]⟩) Q):AList P ops ({dst,op:=.binOp .eql xt x (.const (.pointer none)) yt,type:=ty,pos,after,guard}::rest) acc S Q:=
 AList.val [] _ hw hd (fun S1 g1 _ b0 σ a w R=>by
  obtain⟨p,hp,hb⟩:∃p:Option Addr,a.eval x=.pointer p∧p.isNone=b:=by
   have hr:=zW R ((g1 x (by simp[Op.operands])).trans hx)
   cases y with
   | p v=>
     cases v with
     | pointer q=>
       cases q with
       |none=>exact⟨none,hr.2,by simpa using hy.symm⟩
       |some q=>cases hy
     |_=>cases hy
   |pt id sz k j=>obtain⟨-,v,b,e1,e2,e3⟩:=hr;exact⟨_,e3,by simpa using hy.symm⟩
   |pl n sz F k j=>obtain⟨-,ad,e1,e2⟩:=hr;exact⟨_,e1,by simpa using hy.symm⟩
   |_=>cases hy
  refine⟨.bool b,?_,zCb rfl⟩
  have e2:a.eval (.const (.pointer none))=.pointer none:=rfl;have hgd:(eqGuard .eql xt x (.const (.pointer none)) (.pointer p) (.pointer none)).run P w=.ok () w:=by unfold eqGuard;rfl
  have hr:(Go.binOp .eql xt (.pointer p) (.pointer none)).run P w=.ok (.bool b) w:=by
   simp[binOp,run_equal_pointer_nil w xt p ht,hb]
  simp only[execOp,hp,e2,Sem.run_bind,hgd,hr,Result.andThen_ok,Sem.run_pure]) hn
theorem zKq{xt yt:TypeId}{x:Operand}(hw:S.wants ops {dst,op:=.binOp .eql xt x (.const (.pointer none)) yt,type:=ty,pos,after,guard}=some true)(hd:dOk S.n dst=true)(hx:S.opd x=some (.c (.p (.pointer none))))
 (ht:P.underlying xt=some (.pointer (P.pointee xt)))
 (hn:AList P ops rest (([],[])::acc) (S.eff dst ⟨.c (.p (.bool true)),[],[]⟩) Q):AList P ops ({dst,op:=.binOp .eql xt x (.const (.pointer none)) yt,type:=ty,pos,after,guard}::rest) acc S Q:=zKo hw hd hx rfl ht hn
theorem zKp{xt yt:TypeId}{x:Operand}{y:CV}(hw:S.wants ops {dst,op:=.binOp .eql xt x (.const (.pointer none)) yt,type:=ty,pos,after,guard}=some true)(hd:dOk S.n dst=true)(hx:S.opd x=some (.c y))(hy:(match y with| .pt .. =>true| .pl .. =>true|_=>false)=true)
 (ht:P.underlying xt=some (.pointer (P.pointee xt)))
 (hn:AList P ops rest (([],[])::acc) (S.eff dst ⟨.c (.p (.bool false)),[],[]⟩) Q):AList P ops ({dst,op:=.binOp .eql xt x (.const (.pointer none)) yt,type:=ty,pos,after,guard}::rest) acc S Q:=
 zKo hw hd hx (by cases y<;>first|rfl|cases hy) ht hn
end ops
end
end Go.AV
end
section
namespace Go.Proofs.YtbffmfeldkjkcaaGreat
open Go.RowKit Go.Flow Go.AV Go.Plain
theorem zEW{r:Rd}(h:r.bl<0∨2<r.bl∨r.sh<1∨(2*r.bl+1)*(2*r.bl+1)<r.sh):rdE r=3:=if_pos h
theorem zNi{r:Rd}(h:rdE r=0):0≤r.bl∧r.bl≤2∧1≤r.sh∧r.sh≤25:=by
 unfold rdE at h
 split at h
 ·cases h
 ·rename_i hn
  obtain⟨bl,sh⟩:=r
  dsimp only at hn⊢;have h0:0≤bl:=by omega
  have h2:bl≤2:=by omega
  obtain rfl|rfl|rfl:bl=0∨bl=1∨bl=2:=by omega
  all_goals omega
theorem zGc(bl sh:Int)(hb:-1000000≤bl∧bl≤1000000):ACalls Tryz.prog 71 [.ag [iC bl,iC sh]] (.c (iC (2*bl+1))):=by
 refine zJ Tryz.func71 rfl rfl Tryz.ntmps71 rfl ?_;refine vB [0,1] ?_
 refine⟨zC 7 [(2,.c (iC (2*bl+1)))] [] [],[],Wk.mk [] rfl rfl rfl ?_ trivial,rfl,rfl,aR1⟩
 exact zB
theorem zO0(bl sh:Int)(hb:-1000000≤bl∧bl≤1000000):ACalls Tryz.prog 50 [.ag [iC bl,iC sh]] (.c (iC (rdE ⟨bl,sh⟩))):=by
 by_cases c1:bl<0
 ·rw[zEW (by dsimp only;omega)]
  refine zJ Tryz.func50 rfl rfl Tryz.ntmps50 rfl ?_;refine vB [0,1,2,3] ?_
  refine⟨zC 29 [(2,.c (iC 3))] [] [],[],Wk.mk [] rfl rfl rfl ?_ trivial,rfl,rfl,aR1⟩
  exact zB
 ·by_cases c2:2<bl
  ·rw[zEW (by dsimp only;omega)]
   refine zJ Tryz.func50 rfl rfl Tryz.ntmps50 rfl ?_;refine vB [0,1,2,3] ?_
   refine⟨zC 29 [(2,.c (iC 3))] [] [],[],Wk.mk [] rfl rfl rfl ?_ trivial,rfl,rfl,aR1⟩
   exact zB
  ·by_cases c3:sh<1
   ·rw[zEW (by dsimp only;omega)]
    refine zJ Tryz.func50 rfl rfl Tryz.ntmps50 rfl ?_;refine vB [0,1,2,3] ?_
    refine⟨zC 29 [(2,.c (iC 3))] [] [],[],Wk.mk [] rfl rfl rfl ?_ trivial,rfl,rfl,aR1⟩
    exact zB
   ·have c4:0≤(2*bl+1)*(2*bl+1)∧(2*bl+1)*(2*bl+1)≤25:=by
     obtain rfl|rfl|rfl:bl=0∨bl=1∨bl=2:=by omega
     all_goals omega
    have hE:rdE ⟨bl,sh⟩=if (2*bl+1)*(2*bl+1)<sh then 3 else 0:=by
     unfold rdE;dsimp only;by_cases h:(2*bl+1)*(2*bl+1)<sh
     ·rw[if_pos h,if_pos xD]
     ·rw[if_neg h,if_neg xD]
    rw[hE];by_cases h:(2*bl+1)*(2*bl+1)<sh
    ·rw[if_pos h]
     refine zJ Tryz.func50 rfl rfl Tryz.ntmps50 rfl ?_;refine vB [0,1,2,3] ?_
     refine⟨zC 29 [(2,.c (iC 3))] [] [],[],Wk.mk [] rfl rfl rfl ?_ trivial,rfl,rfl,aR1⟩
     exact zB
    ·rw[if_neg h]
     refine zJ Tryz.func50 rfl rfl Tryz.ntmps50 rfl ?_;refine vB [0,1,2,4] ?_
     refine⟨zC 29 [(2,.c (iC 0))] [] [],[],Wk.mk [] rfl rfl rfl ?_ trivial,rfl,rfl,aR1⟩
     exact zB
theorem zKQ(r:Rd)(hb:-1000000≤r.bl∧r.bl≤1000000):ACalls Tryz.prog 50 [.ag (rdC r)] (.c (iC (rdE r))):=zO0 r.bl r.sh hb
theorem zNH{r:Rd}{b:Bp}(h:rdE r≠0):zBi r b=rdE r:=if_neg h
theorem zHr{r:Rd}{b:Bp}(h:rdE r=0):zBi r b=chk b.W b.H b.n:=if_pos h
theorem zHq{r:Rd}{b:Bp}(h:zBi r b≠0):zBa r b=bpZ:=if_neg h
theorem zNG{r:Rd}{b:Bp}(h:zBi r b=0):zBa r b=⟨b.W,b.H,b.n,zCm b.W.toNat b.H.toNat b.d r⟩:=if_pos h
section
variable(W H n:Nat)(d:Nat→Bool)(bl:Int)
abbrev zNU:CV:=.pl 1 1 (lF [.ls ((W+1)*(H+1)) 1 (iF (stF W d))]) 0 0
abbrev zLj:CV:=.pl 1 3 (lF (zAz W H n d)) 0 0
abbrev zSk(i:Nat):CV:= [zNU W H d,zLj W H n d].getD i .any
abbrev zNV:CV:=.fi 100 2 (zSk W H n d)
abbrev zLi:CV:=.pl 1 1 (lF [iC bl]) 0 0
abbrev zMe:CV:=.pl 1 1 (lF [zNV W H n d]) 0 0
abbrev zPY(i:Nat):CV:= [zLi bl,zMe W H n d].getD i .any
abbrev zIu:CV:=.fi 101 2 (zPY W H n d bl)
end
theorem zHx(W H n:Nat)(d:Nat→Bool)(x y:Int)(r lo:Nat)(hW:W≤96)(hH:H≤96)(hr:(r:Int)=max 0 (min (W:Int) x))(hlo:(lo:Int)=max 0 (min (H:Int) y)):
 ACalls Tryz.prog 100 [.c (iC x),.c (iC y),.c (zNU W H d),.c (zLj W H n d)] (.c (iC (s2N W d r lo))):=by
 have hlW:lo*(W+1)+r<(W+1)*(H+1):=by
  have:=Nat.mul_le_mul_right (W+1) (show lo+1≤H+1 by omega);rw[Nat.succ_mul,Nat.mul_comm (H+1)]at this
  omega
 have hbd:=Nat.mul_le_mul (show lo≤96 by omega) (show W+1≤97 by omega);have hst:=zJE (W:=W) (d:=d) (i:=r) (j:=lo) xD;have hmul:max 0 (min (H:Int) y)*((W:Int)+1)=((lo*(W+1):Nat):Int):=by rw[←hlo];simp
 rw[←hst];refine zJ Tryz.func100 rfl rfl Tryz.ntmps100 rfl ?_
 repeat (first
  |refine vB [0] ?_
  | (refine rG 1 ?_
     refine zJX ?_;refine zG (aP (k:=lo*(W+1)+r) zA) ?_;refine xE2 ?_;refine aB ?_))
 refine⟨zC 25 [(6,.c (iC (stF W d (lo*(W+1)+r))))] [] [],[],Wk.mk [] rfl rfl rfl ?_ trivial,rfl,rfl,aR1⟩
 exact zB
theorem zGL(m:Nat)(x:Int):∃r:Nat,(r:Int)=max 0 (min (m:Int) x):=⟨(max 0 (min (m:Int) x)).toNat,by omega⟩
theorem zP3(W H n:Nat)(d:Nat→Bool)(x y bl:Int)(hW:W≤96)(hH:H≤96)(hx:0≤x∧x≤96)(hy:0≤y∧y≤96)(hb:0≤bl∧bl≤2):
 ACalls Tryz.prog 101 [.c (iC x),.c (iC y),.c (zLi bl),.c (zMe W H n d)] (.c (iC (arN W H d x y bl))):=by
 obtain⟨l,hl⟩:=zGL W (x-bl)
 obtain⟨r,hr⟩:=zGL W (x+bl+1)
 obtain⟨lo,hlo⟩:=zGL H (y-bl)
 obtain⟨hi,hhi⟩:=zGL H (y+bl+1)
 have h1:=zHx W H n d (x+bl+1) (y+bl+1) r hi hW hH hr hhi;have h2:=zHx W H n d (x-bl) (y+bl+1) l hi hW hH hl hhi;have h3:=zHx W H n d (x+bl+1) (y-bl) r lo hW hH hr hlo;have h4:=zHx W H n d (x-bl) (y-bl) l lo hW hH hl hlo;have hw:=zRV W H d x y bl l r lo hi hl hr hlo hhi hb.1;have bd:∀x y:Nat,x≤96→y≤96→0≤s2N W d x y∧s2N W d x y≤9216:=fun x y hx hy=>by
  have h1:=zNC W d x y;have h2:=Nat.mul_le_mul hy hx;have e:((y*x:Nat):Int)=(y:Int)*x:=by simp
  omega
 have b1:=bd r hi xD xD;have b2:=bd l hi xD xD;have b3:=bd r lo xD xD;have b4:=bd l lo xD xD;rw[←hw];clear hw bd;generalize s2N W d r hi=p at *;generalize s2N W d l hi=q at *;generalize s2N W d r lo=s at *;generalize s2N W d l lo=t at *;refine zJ Tryz.func101 rfl rfl Tryz.ntmps101 rfl ?_
 repeat (first
  |refine vB [0,1] ?_
  |(refine AWp.draw (id:=2) zK ?_;refine xE3 ?_;refine zFg rfl rfl (FnV.fi _ _ rfl rfl) rfl rfl Tryz.func100 rfl xC (h1) ?_;refine xE3 ?_;refine zFg rfl rfl (FnV.fi _ _ rfl rfl) rfl rfl Tryz.func100 rfl xC (h2) ?_;refine xE4 ?_;refine zFg rfl rfl (FnV.fi _ _ rfl rfl) rfl rfl Tryz.func100 rfl xC (h3) ?_;refine xE4 ?_;refine zFg rfl rfl (FnV.fi _ _ rfl rfl) rfl rfl Tryz.func100 rfl xC (h4) ?_;refine xE2 ?_;refine aB ⟨by kernel_rfl,?_⟩))
 refine⟨zC 44 [(6,.c (iC (p-q-s+t)))] [] [],[],Wk.mk [] rfl rfl rfl ?_ trivial,rfl,rfl,aR1⟩
 exact zB
abbrev zPP(i:Nat):CV:= [CV.pt 5 1 0 0,CV.pt 2 3 0 0].getD i .any
abbrev zLu(i:Nat):CV:= [CV.pt 3 1 0 0,CV.pt 9 1 0 0].getD i .any
theorem zP4(W H n:Nat)(d:Nat→Bool)(bl:Int)(hW:W≤96)(hH:H≤96)(hn:n=W*H):
 ACalls Tryz.prog 91 [.ag (zAz W H n d),.c (iC bl)] (.c (zIu W H n d bl)):=by
 have hm:(W+1)*(H+1)≤10000:=by
  have:=Nat.mul_le_mul (show W+1≤97 by omega) (show H+1≤97 by omega)
  omega
 have hmz:((W:Int)+1)*((H:Int)+1)=(((W+1)*(H+1):Nat):Int):=by simp
 refine zJ Tryz.func91 rfl rfl Tryz.ntmps91 rfl ?_
 repeat (first
  |refine vB [0,2] ?_
  | (refine rG 1 ?_
     refine xE7 ?_;refine zC5 (zCN (n:=(W+1)*(H+1)) zA) ?_;refine xE2 ?_;refine aB ?_))
 refine AWp.round (fun y:Nat=>
  zC 68 [(2,.c (.pt 2 3 0 0)),(3,.c (.pt 3 1 0 0)),(5,.c (.pt 5 1 0 0)),(19,.c (iC H)),(20,.c (iC (y:Nat)))] [(2,⟨false,1,3,58,lF (zAz W H n d)⟩),(3,⟨false,1,1,3,lF [iC bl]⟩),(5,⟨false,1,1,23,lF [.ow 17]⟩),(17,zAc ((W+1)*(H+1)) (tbF W d (y) (0)))] [2,3,5,17]
  ) (fun y=>y≤H) (fun y=>H-y) 0 (Nat.zero_le _) ?_ (fun y hy=> ?_)
 ·refine Wk.mk [(2,some 2),(3,some 3),(5,some 5),(17,some 17)] rfl rfl rfl ?_ ?_
  ·exact zB
  ·exact⟨hSm,hSm,HeapOk.box rfl rfl ⟨LeC.ow _ _ rfl,trivial⟩ rfl,HeapOk.row rfl rfl rfl (fun i _=>zAa ⟨congrArg iC (zSu W d i).symm,rfl⟩),trivial⟩
 ·by_cases hyl:y<H
  ·have hyl':(y:Int)<H:=by omega
   have hbd:(y+1)*(W+1)+(W+1)≤(W+1)*(H+1):=by
    have:=Nat.mul_le_mul_right (W+1) (show y+2≤H+1 by omega);rw[Nat.mul_comm (H+1),Nat.add_mul]at this;rw[Nat.add_mul]
    omega
   have hbd2:y*(W+1)+(W+1)=(y+1)*(W+1):=(Nat.succ_mul _ _).symm;have hyw:y*W+W≤n:=by
    have:=Nat.mul_le_mul_right W (show y+1≤H by omega);rw[Nat.succ_mul,Nat.mul_comm H]at this
    omega
   have hn2:n≤9216:=by
    have:=Nat.mul_le_mul hW hH
    omega
   have e1:(y:Int)*(W:Int)=((y*W:Nat):Int):=by simp
   have e2:(y:Int)*((W:Int)+1)=((y*(W+1):Nat):Int):=by simp
   have e3:((y:Int)+1)*((W:Int)+1)=(((y+1)*(W+1):Nat):Int):=by simp
   refine vB [3,4,5,6] ?_;refine AWp.round (fun x:Nat=>
    zC 68 [(2,.c (.pt 2 3 0 0)),(3,.c (.pt 3 1 0 0)),(5,.c (.pt 5 1 0 0)),(19,.c (iC H)),(20,.c (iC (y:Nat))),(6,.c (iC (y:Nat))),(7,.c (iC (cnt (fun i=>d (y*W+i)) x))),(24,.c (iC W)),(25,.c (iC (x:Nat)))] [(2,⟨false,1,3,58,lF (zAz W H n d)⟩),(3,⟨false,1,1,3,lF [iC bl]⟩),(5,⟨false,1,1,23,lF [.ow 17]⟩),(17,zAc ((W+1)*(H+1)) (tbF W d (y) (x)))] [2,3,5,17]
    ) (fun x=>x≤W) (fun x=>W-x) 0 (Nat.zero_le _) ?_ (fun x hx=> ?_)
   ·refine Wk.mk [(2,some 2),(3,some 3),(5,some 5),(17,some 17)] rfl rfl rfl ?_ ?_
    ·exact zB
    ·exact⟨hSm,hSm,HeapOk.box rfl rfl ⟨LeC.ow _ _ rfl,trivial⟩ rfl,HeapOk.row rfl rfl rfl (fun i _=>zAa ⟨rfl,rfl⟩),trivial⟩
   ·by_cases hxl:x<W
    ·have hxl':(x:Int)<W:=by omega
     have hc:=zDv (fun i=>d (y*W+i)) x;have hcb:=zCT (fun i=>d (y*W+i)) x;have hcn:=cnt_nonneg (fun i=>d (y*W+i)) x;have hr:=zSt (W:=W) (d:=d) (y:=y) hxl;have hsb:=zNC W d (x+1) y;have hsb2:(y:Int)*((x+1:Nat):Int)≤10000:=by
      have:=Nat.mul_le_mul (show y≤96 by omega) (show x+1≤97 by omega);have e:((y*(x+1):Nat):Int)=(y:Int)*((x+1:Nat):Int):=by simp
      omega
     have hnew:=zSr (W:=W) (d:=d) (y:=y) hxl
     obtain⟨c,hcd⟩:∃c,cnt (fun i=>d (y*W+i)) x=c:=⟨_,rfl⟩
     obtain⟨s,hsd⟩:∃s,s2N W d (x+1) y=s:=⟨_,rfl⟩
     rw[hcd]at hc hcb hcn;rw[hsd]at hr hsb hnew;rw[hcd]
     cases hd:d (y*W+x)with
     | true=>
       rw[hd]at hc
       replace hc:cnt (fun i=>d (y*W+i)) (x+1)=c+1:=hc
       rw[hc]at hnew
       repeat (first
        |refine vB [7,8,10,12] ?_
        | (refine rG 9 ?_
           refine xE8 ?_;refine zG (aP (k:=y*W+x) zA) ?_;refine vA ?_;refine aB ?_)
        |(refine AWp.draw (id:=11) zK ?_;(iterate 19 refine vA ?_);refine zI (zH (k:=y*(W+1)+(x+1)) zA) ?_;refine xE3 ?_;refine zI (zH (k:=(y+1)*(W+1)+(x+1)) zA) ?_;refine vA ?_;refine aB ⟨by kernel_rfl,?_⟩))
       refine⟨x+1,hxl,Wk.mk [(2,some 2),(3,some 3),(5,some 5),(17,some 17)] rfl rfl rfl ?_ ?_,by omega⟩
       ·rw[hc]
        exact zB
       ·exact⟨hSm,hSm,HeapOk.box rfl rfl ⟨LeC.ow _ _ rfl,trivial⟩ rfl,HeapOk.row rfl rfl rfl (zNM (e:=tbF W d y x (y*(W+1)+(x+1))+(c+1)) (tbF W d y (x+1)) (by rw[hr];exact hnew) (fun k hk=>zN1 hxl hk)),trivial⟩
     | false=>
       rw[hd]at hc
       replace hc:cnt (fun i=>d (y*W+i)) (x+1)=c+0:=hc
       rw[Int.add_zero]at hc;rw[hc]at hnew
       repeat (first
        |refine vB [7,8,12] ?_
        | (refine rG 9 ?_
           refine xE8 ?_;refine zG (aP (k:=y*W+x) zA) ?_;refine vA ?_;refine aB ?_)
        |(refine AWp.draw (id:=11) zK ?_;(iterate 19 refine vA ?_);refine zI (zH (k:=y*(W+1)+(x+1)) zA) ?_;refine xE3 ?_;refine zI (zH (k:=(y+1)*(W+1)+(x+1)) zA) ?_;refine vA ?_;refine aB ⟨by kernel_rfl,?_⟩))
       refine⟨x+1,hxl,Wk.mk [(2,some 2),(3,some 3),(5,some 5),(17,some 17)] rfl rfl rfl ?_ ?_,by omega⟩
       ·rw[hc]
        exact zB
       ·exact⟨hSm,hSm,HeapOk.box rfl rfl ⟨LeC.ow _ _ rfl,trivial⟩ rfl,HeapOk.row rfl rfl rfl (zNM (e:=tbF W d y x (y*(W+1)+(x+1))+c) (tbF W d y (x+1)) (by rw[hr];exact hnew) (fun k hk=>zN1 hxl hk)),trivial⟩
    ·have hxl':¬(x:Int)<W:=by omega
     obtain rfl:x=W:=by omega
     refine vB [7,13] ?_
     refine⟨y+1,hyl,Wk.mk [(2,some 2),(3,some 3),(5,some 5),(17,some 17)] rfl rfl rfl ?_ ?_,by omega⟩
     ·exact zB
     ·exact⟨hSm,hSm,HeapOk.box rfl rfl ⟨LeC.ow _ _ rfl,trivial⟩ rfl,HeapOk.row rfl rfl rfl (fun i _=>zAa ⟨congrArg iC (zSs x d y i),rfl⟩),trivial⟩
  ·have hyl':¬(y:Int)<H:=by omega
   obtain rfl:y=H:=by omega
   repeat (first
    |refine vB [3] ?_
    | (refine rG 14 ?_
       refine qr5 zEH ?_;refine xE2 ?_;refine aB ?_)
    | (refine rG 15 ?_
       refine qr5 zEH ?_;refine vA ?_;refine aB ?_))
   refine⟨zC 68 [(4,.c (zIu W y n d bl))] [] [],[],Wk.trans (B:=zC 68 [(4,.c (.fn 101 2 zLu))] [(2,⟨false,1,3,58,lF (zAz W y n d)⟩),(3,⟨false,1,1,3,lF [iC bl]⟩),(5,⟨false,1,1,23,lF [.ls ((W+1)*(y+1)) 1 (iF (stF W d))]⟩),(9,⟨false,1,1,47,lF [.fn 100 2 zPP]⟩)] [2,3,5,9]) ?_ (Wk.trans (B:=zC 68 [(4,.c (.fn 101 2 zLu))] [(3,⟨false,1,1,3,lF [iC bl]⟩),(9,⟨false,1,1,47,lF [zNV W y n d]⟩)] [3,9]) ?_ ?_),rfl,rfl,aR1⟩
   ·refine Wk.mk [(2,some 2),(3,some 3),(5,some 5),(9,some 9)] rfl rfl rfl ⟨⟨_,rfl,.c (LeC.fn _ _ _ _ (fun i hi=> ?_) (fun i hi=> ?_))⟩,trivial⟩ ⟨hSm,hSm,HeapOk.box rfl rfl ⟨zZ rfl rfl rfl (fun k hk=>zAa ⟨congrArg iC (zSq hk),rfl⟩),trivial⟩ rfl,HeapOk.box rfl rfl ⟨LeC.fn _ _ _ _ (fun i hi=> ?_) (fun i hi=> ?_),trivial⟩ rfl,trivial⟩
    all_goals (replace hi:i<2:=hi;obtain rfl|rfl:i=0∨i=1:=by omega)
    ·exact⟨trivial,trivial⟩
    ·exact⟨trivial,trivial⟩
    ·exact .pt 3 3 1 0 0 rfl
    ·exact .pt 9 9 1 0 0 rfl
    ·exact⟨trivial,trivial⟩
    ·exact⟨trivial,trivial⟩
    ·exact .pt 5 5 1 0 0 rfl
    ·exact .pt 2 2 3 0 0 rfl
   ·refine Wk.mk [(3,some 3),(9,some 9)] rfl rfl rfl ⟨⟨_,rfl,.c (LeC.fn _ _ _ _ (fun i hi=> ?_) (fun i hi=> ?_))⟩,trivial⟩ ⟨hSm,HeapOk.box rfl rfl ⟨LeC.fnI _ _ _ _ (fun i hi=> ?_) (fun i hi=> ?_),trivial⟩ rfl,trivial⟩
    all_goals (replace hi:i<2:=hi;obtain rfl|rfl:i=0∨i=1:=by omega)
    ·exact⟨trivial,trivial⟩
    ·exact⟨trivial,trivial⟩
    ·exact .pt 3 3 1 0 0 rfl
    ·exact .pt 9 9 1 0 0 rfl
    ·exact⟨trivial,rfl⟩
    ·exact⟨trivial,rfl⟩
    ·exact zCp rfl rfl rfl rfl
    ·exact zCp rfl rfl rfl rfl
   ·refine Wk.mk [] rfl rfl rfl ⟨⟨_,rfl,.c (LeC.fnI _ _ _ _ (fun i hi=> ?_) (fun i hi=> ?_))⟩,trivial⟩ trivial
    all_goals (replace hi:i<2:=hi;obtain rfl|rfl:i=0∨i=1:=by omega)
    ·exact⟨trivial,rfl⟩
    ·exact⟨trivial,rfl⟩
    ·exact zCp rfl rfl rfl rfl
    ·exact zCp rfl rfl rfl rfl
def sdF(W H:Nat)(d:Nat→Bool)(r:Rd)(k i:Nat):Bool:=if i<k then zCm W H d r i else false
theorem zR1{W H:Nat}{d:Nat→Bool}{r:Rd}{k i:Nat}(hi:¬i=k):sdF W H d r (k+1) i=sdF W H d r k i:=by
 unfold sdF;by_cases h:i<k
 ·rw[if_pos h,if_pos xD]
 ·rw[if_neg h,if_neg xD]
theorem zKS(r:Rd)(b:Bp)(hb:-1000000≤r.bl∧r.bl≤1000000):ACalls Tryz.prog 86 [.ag (rdC r),.ag (bpC b)] (.tu [.ag (bpC (zBa r b)),.c (iC (zBi r b))]):=by
 have h1:=zKQ r hb;have h2:=zFv b.W b.H b.n b.d;by_cases c1:rdE r=0
 ·rw [c1]at h1
  by_cases c2:chk b.W b.H b.n=0
  ·have hE:zBi r b=0:=(zHr c1).trans c2
   rw[zNG hE,hE];rw[c2]at h2
   obtain⟨hw0,hw1,hh0,hh1,hn⟩:=okB c2
   obtain⟨g1,g2,g3,g4⟩:=zNi c1
   obtain⟨W,hW⟩:=Int.eq_ofNat_of_zero_le hw0
   obtain⟨H,hH⟩:=Int.eq_ofNat_of_zero_le hh0
   obtain⟨bW,bH,n,d⟩:=b
   dsimp only at hW hH hn hw0 hw1 hh0 hh1 h2⊢;subst hW hH;rw[show Int.toNat (W:Int)=W from rfl,show Int.toNat (H:Int)=H from rfl]
   replace hn:n=W*H:=by
    have:((n:Nat):Int)=((W*H:Nat):Int):=by rw[Int.natCast_mul];exact hn
    omega
   have hC:=zP4 W H n d r.bl xD xD hn;have hn2:n≤9216:=by
    have:=Nat.mul_le_mul (show W≤96 by omega) (show H≤96 by omega)
    omega
   refine zJ Tryz.func86 rfl rfl Tryz.ntmps86 rfl ?_
   repeat (first
    |refine vB [0,2,5,9] ?_
    | (refine rG 1 ?_
       refine vA ?_;refine xB Tryz.func50 h1 ?_;refine vA ?_;refine aB ?_)
    | (refine rG 4 ?_
       refine vA ?_;refine xB Tryz.func51 h2 ?_;refine vA ?_;refine aB ?_)
    | (refine rG 7 ?_
       refine xE3 ?_;refine xB Tryz.func91 hC ?_;refine vA ?_;refine aB ?_)
    |(refine AWp.draw (id:=8) zK ?_;refine xE7 ?_;refine zC5 (zCN (n:=n) zA) ?_;refine xE3 ?_;refine aB ⟨by kernel_rfl,?_⟩))
   refine AWp.round (fun k:Nat=>
    zC 61 [(2,.c (.pt 2 2 0 0)),(3,.c (.pt 3 3 0 0)),(4,.c (.pt 4 3 0 0)),(8,.c (zIu W H n d r.bl)),(9,.c (.pt 9 3 0 0)),(38,.c (iC n)),(39,.c (iC (k:Nat)))] [(2,⟨false,1,2,73,lF (rdC r)⟩),(3,⟨false,1,3,58,lF (zAz W H n d)⟩),(4,⟨false,1,3,58,lF (bpC bpZ)⟩),(9,⟨false,1,3,58,lF [iC W,iC H,.ow 34]⟩),(34,zCz n (sdF W H d r k))] [2,3,4,9,34]
    ) (fun k=>k≤n) (fun k=>n-k) 0 (Nat.zero_le _) ?_ (fun k hk=> ?_)
   ·refine Wk.mk [(2,some 2),(3,some 3),(4,some 4),(9,some 9),(34,some 34)] rfl rfl rfl ?_ ?_
    ·exact zB
    ·exact⟨hSm,hSm,(by first|exact hSm|exact HeapOk.box rfl rfl ⟨LeC.int rfl,LeC.int rfl,LeC.nils _ _,trivial⟩ rfl),HeapOk.box rfl rfl ⟨LeC.int rfl,LeC.int rfl,(LeC.ow _ _ rfl),trivial⟩ rfl,HeapOk.row rfl rfl rfl (fun i _=>zAa ⟨congrArg bC (if_neg (Nat.not_lt_zero i)).symm,rfl⟩),trivial⟩
   ·by_cases hkl:k<n
    ·have hkl':(k:Int)<n:=by omega
     have hW0:0<W:=Nat.pos_of_ne_zero fun h=>by rw[h,Nat.zero_mul]at hn;omega
     have hW0':0<(W:Int):=by omega
     have hx:k%W<W:=Nat.mod_lt _ hW0;have hy:k/W<H:=Nat.div_lt_of_lt_mul (by rw[←hn];exact hkl)
     have hxi:=Int.natCast_nonneg (k%W);have hyi:=Int.natCast_nonneg (k/W);have hA:=zP3 W H n d ((k%W:Nat):Int) ((k/W:Nat):Int) r.bl xD xD ⟨hxi,by omega⟩ ⟨hyi,Int.ofNat_le.2 (show k/W≤96 by omega)⟩ xD;rw[Int.natCast_emod,Int.natCast_ediv]at hA;have hsd:zCm W H d r k=decide (r.sh≤arN W H d ((k:Int)%W) ((k:Int)/W) r.bl):=by
      unfold zCm;rw[Int.natCast_emod,Int.natCast_ediv]
     repeat (first
      |refine vB [10,11,13] ?_
      |(refine AWp.draw (id:=12) zK ?_;refine zHE ?_;refine zFg rfl rfl (FnV.fi _ _ rfl rfl) rfl rfl Tryz.func101 rfl xC (hA) ?_;refine xE3 ?_;refine zI (zH (k:=k) zA) ?_;refine vA ?_;refine aB ⟨by kernel_rfl,?_⟩))
     refine⟨k+1,hkl,Wk.mk [(2,some 2),(3,some 3),(4,some 4),(9,some 9),(34,some 34)] rfl rfl rfl ?_ ?_,by omega⟩
     ·exact zB
     ·exact⟨hSm,hSm,(by first|exact hSm|exact HeapOk.box rfl rfl ⟨LeC.int rfl,LeC.int rfl,LeC.nils _ _,trivial⟩ rfl),HeapOk.box rfl rfl ⟨LeC.int rfl,LeC.int rfl,(LeC.ow _ _ rfl),trivial⟩ rfl,HeapOk.row rfl rfl rfl (zGb (sdF W H d r (k+1)) ((if_pos (Nat.lt_succ_self k)).trans hsd) (fun i hi=>zR1 hi)),trivial⟩
    ·have hkl':¬(k:Int)<n:=by omega
     obtain rfl:k=n:=by omega
     refine vB [10,14] ?_
     refine⟨zC 61 [(4,.c (.pt 4 3 0 0)),(5,.c (iC 0))] [(4,⟨false,1,3,58,lF (zAz W H k (zCm W H d r))⟩)] [4],[(4,⟨false,1,3,58,lF (zAz W H k (zCm W H d r))⟩)],Wk.mk [(4,some 4)] rfl rfl rfl ?_ ?_,rfl,rfl,ARets.two (x:=.ag _) (y:=.c _) (ARes.box zA rfl rfl rfl rfl rfl rfl rfl) (ARes.tmp rfl rfl)⟩
     ·exact zB
     ·exact⟨HeapOk.box rfl rfl ⟨LeC.int rfl,LeC.int rfl,zZ rfl rfl rfl (fun i hi=>zAa ⟨congrArg bC (if_pos hi),rfl⟩),trivial⟩ rfl,trivial⟩
  ·have hE:zBi r b=chk b.W b.H b.n:=zHr c1
   rw[zHq (by rw[hE];exact c2),hE]
   generalize chk b.W b.H b.n=e at *;refine zJ Tryz.func86 rfl rfl Tryz.ntmps86 rfl ?_
   repeat (first
    |refine vB [0,2,5,6] ?_
    | (refine rG 1 ?_
       refine vA ?_;refine xB Tryz.func50 h1 ?_;refine vA ?_;refine aB ?_)
    | (refine rG 4 ?_
       refine vA ?_;refine xB Tryz.func51 h2 ?_;refine vA ?_;refine aB ?_))
   refine⟨zC 61 [(4,.c (.pt 4 3 0 0)),(5,.c (iC (e)))] [(4,⟨false,1,3,58,lF (bpC (bpZ))⟩)] [4],[(4,⟨false,1,3,58,lF (bpC (bpZ))⟩)],Wk.mk [(4,some 4)] rfl rfl rfl ?_ ?_,rfl,rfl,ARets.two (x:=.ag _) (y:=.c _) (ARes.box zA rfl rfl rfl rfl rfl rfl rfl) (ARes.tmp rfl rfl)⟩
   ·exact zB
   ·exact⟨HeapOk.box rfl rfl ⟨LeC.int rfl,LeC.int rfl,LeC.nils _ _,trivial⟩ rfl,trivial⟩
 ·have hE:zBi r b=rdE r:=zNH c1
  rw[zHq (by rw[hE];exact c1),hE]
  generalize rdE r=e at *;refine zJ Tryz.func86 rfl rfl Tryz.ntmps86 rfl ?_
  repeat (first
   |refine vB [0,2,3] ?_
   | (refine rG 1 ?_
      refine vA ?_;refine xB Tryz.func50 h1 ?_;refine vA ?_;refine aB ?_))
  refine⟨zC 61 [(4,.c (.pt 4 3 0 0)),(5,.c (iC (e)))] [(4,⟨false,1,3,58,lF (bpC (bpZ))⟩)] [4],[(4,⟨false,1,3,58,lF (bpC (bpZ))⟩)],Wk.mk [(4,some 4)] rfl rfl rfl ?_ ?_,rfl,rfl,ARets.two (x:=.ag _) (y:=.c _) (ARes.box zA rfl rfl rfl rfl rfl rfl rfl) (ARes.tmp rfl rfl)⟩
  ·exact zB
  ·exact⟨HeapOk.box rfl rfl ⟨LeC.int rfl,LeC.int rfl,LeC.nils _ _,trivial⟩ rfl,trivial⟩
end Go.Proofs.YtbffmfeldkjkcaaGreat
end
