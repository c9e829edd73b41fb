/- Parts of the proof: Flow, App, Flow3, ASet, A24k, A24t, A24u, Args, AOpn, A24ro, A28zf, A28zg, A28zj, ADie, ATail, A29c, A29f, BmDots, BmCount, A24gp, A29m. -/
import Derived.Test.YtbffmfeldkjkcaaG45
import Derived.Test.YtbffmfeldkjkcaaG44
set_option linter.unusedSimpArgs false
set_option linter.unusedVariables false
set_option maxHeartbeats 0
set_option maxRecDepth 100000
section
namespace Go.Flow
open Go Go.RowKit
section
variable{P:Program}{ops:Array Oper}{md:Region.Mode}{C:World→Prop}

def okTail(ops:Array Oper)(n:Nat):Bool:=
 Region.noSelect ops && decide (n≤ops.size) && (decide (n=ops.size)||(Region.sinkB .any ops n && Region.chainB .any ops n)) &&
  Region.lexHead .any ops (ops.size-n) n 0 (Array.replicate ops.size false)

end
section
variable{P:Program}{w w':World}{base:Nat}{e:TypeId}{size:Nat}{v:Value}{n:Nat}{xs:List Value}
theorem zMP{w w':World}(h:Ext w w')(row:Option Nat):w.grownBy w' row:=⟨h.os,h.tape,h.output,h.size,fun i hi _=>Below.block h i hi⟩
end
theorem Wide.inRound(l:Nat):Wide (Fence.wide.inRound l):=⟨fun _=>trivial,rfl,fun h=>CallsIn.inRound l (callsIn_wide.2 h)⟩

section
variable{F:Fence}{nd:Nat}{P:Program}{ops:Array Oper}{md:Region.Mode}

theorem zRF{i:Nat}{o:Oper}(h:noDefer ops=true)(hi:ops[i]?=some o):∀c,o.op≠ .defer c:=by
 intro c hc;have hm:o∈ops:=Array.mem_of_getElem? hi;unfold noDefer at h;rw[Array.all_eq_true']at h;have:=h o hm;rw[hc]at this
 cases this
theorem zSx{i:Nat}{o:Oper}(h:noDefer ops=true)(hi:ops[i]?=some o)(r:Option Nat)(ρ:Operand→Value):o.semAt r ρ=execOp ρ o:=by
 cases r with
 |none=>exact Oper.semAt_none _ _
 |some l=>exact Oper.semAt_some l _ _ (zRF h hi)

theorem StE.wpOpIn(hF:Wide F)(hD:noDefer ops=true){i:Nat}{a:Act}{w:World}{K K':Act→World→Prop}{Q:Exit→Act→World→Prop}
 (h:StE P ops i K a w) (hK:∀a' w',Ext w w'→K a' w'→K' a' w'):wpOpIn F nd P ops Q i K' a w:=by
 obtain⟨o,hi,h⟩:=h
 unfold Go.wpOpIn
 simp only[hi]
 rcases h with ⟨hw,h⟩|⟨hw,h⟩
 ·rw[if_pos hw]
  refine⟨fun f _=>hF.fn f,?_⟩
  rw[zSx hD hi];exact h.uponIn hF fun v w' ⟨h1,h2⟩=>hK _ _ h1 h2
 ·rw[if_neg (by simp[hw])]
  exact⟨fun f _=>hF.fn f,hK _ _ (Ext.refl w) h⟩

theorem zOH(hF:Wide F)(hD:noDefer ops=true){n g:Nat}{L:Array Bool→Act→World→Prop}{Q:Exit→Act→World→Prop}(hL:∀listed a w,L listed a w→wpAnyIn F nd P md ops Q g listed a w):
 ∀(f:Nat) (listed:Array Bool) (a:Act) (w:World),AnyE P md ops n L f listed a w→wpAnyIn F nd P md ops Q (f+g) listed a w
 |0,listed,a,w,h=>by rw[Nat.zero_add];exact hL _ _ _ (h w (Ext.refl w))
 | f+1,listed,a,w,h=>by
   rw[show f+1+g=(f+g)+1 by omega];have h:=h w (Ext.refl w)
   exact⟨fun h0=>absurd h0 h.1,fun i hi=>(h.2 i hi).2.wpOpIn hF hD fun a' w' _ hk=>zOH hF hD hL f _ a' w' hk⟩

theorem zKc{Q':Exit→Act→World→Prop}:∀(l:List Oper) (k:Nat) (listed:Array Bool) (a:Act) (w:World),(∀j,l[j]?=ops[k+j]?)→
 Region.seqB md ops l.length k listed=true→wpListIn F nd P ops Q' l a w→wpAnyIn F nd P md ops Q' l.length listed a w
 | [],_,_,_,_,_,hB,h=>⟨by simpa[Region.seqB]using hB,h⟩
 | o::l,k,listed,a,w,hl,hB,h=>by
   have h0:ops[k]?=some o:=by simpa using (hl 0).symm
   simp only[List.length_cons,Region.seqB,Bool.and_eq_true,decide_eq_true_eq]at hB
   refine⟨fun h1=>(by rw[hB.1]at h1;cases h1),fun i hi=> ?_⟩
   rw[hB.1]at hi;have hik:i=k:=by simpa using hi
   subst hik;have hw:wpOpIn F nd P ops Q' i (wpListIn F nd P ops Q' l) a w:=by unfold wpOpIn;simp only[h0];exact h
   exact wpOpIn_mono (fun a' w' h'=>zKc l (i+1) _ a' w' (fun j=>by have:=hl (j+1);simpa[Nat.add_assoc,Nat.add_comm 1 j]using this) hB.2 h') hw

theorem wpIn_flow{id:Nat}{Q:Exit→Act→World→Prop}{a:Act}{w:World}{l:List Oper}(hF:Wide F)(n:Nat)(s:List (Nat×Bool))(hm:P.follows .mixedOrders=true)
 (hB:(noDefer l.toArray && zHy l.toArray n s)=true)
 (h:WalkL P l.toArray (fun a' w'=>wpListIn F nd P l.toArray Q (l.drop n) a' w') (s.map fun x=>(l.getD x.1 default,x.2)) a w):(Code.region id l.toArray true).wpIn F nd P Q a w:=by
 simp only[zHy,Bool.and_eq_true,Bool.or_eq_true,decide_eq_true_eq]at hB
 obtain⟨hD,⟨⟨⟨hsel,hn⟩,hs⟩,hlen⟩,hseq⟩:=hB
 have hn':n≤l.length:=by simpa using hn
 have hdl:(l.drop n).length=l.toArray.size-n:=by simp
 have inv0:HeadInv .any l.toArray n (Array.replicate l.toArray.size false):=
  ⟨by simp,fun j oj _ hl=>(by rw[getD_replicate_false]at hl;cases hl),fun t _ ht=>getD_in (by simpa using ht) (getD_replicate_false _ _)⟩
 have htail:∀listed,HeadInv .any l.toArray n listed→∀i,i<n→listed.getD i true=false→∀t,n≤t→t∉Region.ready .any l.toArray listed:=by
  intro listed inv i hi hun t ht;by_cases hsz:n<l.toArray.size
  ·rcases hs with hs|hs
   ·omega
   ·exact tail_waits hs.1 hs.2 hsz inv _ i rfl hi hun t ht
  ·intro hr
   obtain⟨_,o,ho,_⟩:=mem_ready.1 hr
   have:=(Array.getElem?_eq_some_iff.1 ho).1
   omega
 replace h:=zFP (l:=l) s _ a w hseq h
 have hdrew:zDc P l.toArray (fun a' w'=>wpListIn F nd P l.toArray Q (l.drop n) a' w') s a w.drew:=by
  have hE:Ext w w.drew:=(Ext.refl w).drew;have go:∀(s:List (Nat×Bool)) (a:Act),zDc P l.toArray (fun a' w'=>wpListIn F nd P l.toArray Q (l.drop n) a' w') s a w→zDc P l.toArray (fun a' w'=>wpListIn F nd P l.toArray Q (l.drop n) a' w') s a w.drew:=by
   intro s
   induction s with
   |nil=>exact fun a h w1 h1=>h w1 (hE.trans h1)
   | cons x s ih=>
     obtain⟨k,b⟩:=x
     cases b with
     |true=>exact fun a ⟨o,v,ho,hat,hk⟩=>⟨o,v,ho,hat.later hE,ih _ hk⟩
     |false=>exact fun a h w1 h1=>h w1 (hE.trans h1)
  exact go s a h
 have H:=zGW hsel htail s _ a w.drew inv0 hseq hdrew;refine wpIn_region_any hm ?_;have:=zOH (nd:=nd) (Q:=Q) hF hD (g:=l.toArray.size-n) (fun listed a' w' hL=>by
  have:=zKc (F:=F) (nd:=nd) (md:=.any) (Q':=Q) (l.drop n) n listed a' w' (fun j=>by simp[List.getElem?_drop]) (by rw[hdl];exact hL.1) hL.2
  rwa [hdl]at this) _ _ _ _ H
 rw[hlen,show n+(l.toArray.size-n)=l.toArray.size by omega]at this;exact this
end
end Go.Flow
end
section
namespace Go.AV
open Go Go.RowKit Go.Flow
theorem zM8{h:Nat→Option AB}{ren:List (Nat×Option Nat)}:∀{l:List CV},l.all zM=true→LeL (LeC h ren) l l
 | [],_=>trivial
 | x::l,hl=>by
   simp only[List.all_cons,Bool.and_eq_true]at hl
   exact⟨LeC.refl _ hl.1,zM8 hl.2⟩
end Go.AV
end
section
namespace Go.Proofs.Ytbffmfeldkjkcaa
open Go.RowKit Go.Flow Go.AV Go.Plain
theorem zNz(a b:Bp)(dx dy fr ti:Int)(ha:chk a.W a.H a.n=0):0≤zCr a b dx dy fr ti∧zCr a b dx dy fr ti≤9216:=by
 obtain⟨hw0,hw1,hh0,hh1,hn⟩:=okB ha
 unfold zCr;have:∀m:Nat,m≤96→0≤zAl (fun j=>cnt (onB a b dx dy fr ti j) a.W.toNat) m∧zAl (fun j=>cnt (onB a b dx dy fr ti j) a.W.toNat) m≤96*m:=fun m hm=>by
  refine⟨zEW fun k _=>Go.Plain.cnt_nonneg _ _,?_⟩
  induction m with
  |zero=>exact Int.le_refl _
  | succ m ih=>
    have h1:=ih xD;have h2:=zEC (onB a b dx dy fr ti m) a.W.toNat;show zAl _ m+cnt _ a.W.toNat≤_
    omega
 have:=this a.H.toNat xD
 omega
theorem zJp(r s:Int×Int)(w:World):(Go.binOp .eql 148 (.agg #[.int .i64 r.1,.int .i64 r.2]) (.agg #[.int .i64 s.1,.int .i64 s.2])).run Try.prog w=.ok (.bool (decide (r=s))) w:=by
 have hp:Try.prog.stoodInHeld 148=false:=by kernel_rfl
 obtain⟨a0,a1⟩:=r
 obtain⟨b0,b1⟩:=s
 go_simp
 by_cases e0:a0=b0<;>by_cases e1:a1=b1<;>simp[e0,e1]
theorem zPj(L:List (Int×Int))(d:Int×Int)(hl:L.length≤1000):∃i:Int,(0≤i↔d∈L)∧ACalls Try.prog 108 [.c (.ls L.length 2 (zAd mvC mvZ L)),.ag (mvC d)] (.c (iC i)):=by
 have hmem:∀i,i<L.length→L.getD i mvZ∈L:=fun i hi=>by
  rw[List.getD_eq_getElem?_getD,List.getElem?_eq_getElem hi];exact List.getElem_mem hi
 rcases zIU (fun i=>decide (d=L.getD i mvZ)) L.length with hno|⟨k0,hk0,hb,hno⟩
 ·refine⟨-1,⟨fun h=>by omega,fun h=> ?_⟩,?_⟩
  ·obtain⟨j,hj,e⟩:=List.getElem_of_mem h
   have:=of_decide_eq_false (hno j hj);rw[List.getD_eq_getElem?_getD,List.getElem?_eq_getElem hj]at this;exact absurd e.symm this
  ·obtain⟨n,hn⟩:∃n,L.length=n:=⟨_,rfl⟩
   rw[hn]at hl hno⊢;refine zK Try.func108 rfl rfl Try.ntmps108 rfl ?_;refine vB [0,1] ?_;refine AWp.round (fun k:Nat=>zD 19 [(0,.c (.ls n 2 (zAd mvC mvZ L))),(3,.c (.pt 3 2 0 0)),(7,.c (iC n)),(8,.c (iC k))] [(3,⟨false,1,2,148,lF (mvC d)⟩)] [3]) (fun k=>k≤n) (fun k=>n-k) 0 (Nat.zero_le _) ?_ (fun k hk=> ?_)
   ·refine Wk.mk [(3,some 3)] rfl rfl rfl ?_ ?_
    ·exact zC
    ·exact zAD
   ·by_cases hkn:k<n
    ·have he:¬d=L.getD k mvZ:=of_decide_eq_false (hno k hkn)
     have hne:∀w,(Go.binOp .eql 148 _ _).run Try.prog w=.ok (.bool false) w:=fun w=>(zJp d (L.getD k mvZ) w).trans (by rw[decide_eq_false he])
     repeat (first
      |refine vB [2,3,6] ?_
      |(refine AWp.draw (id:=4) zL ?_;refine xE5 ?_;refine zEo rfl rfl rfl rfl rfl rfl xC (hne) ?_;refine aB ⟨by kernel_rfl,?_⟩))
     refine⟨k+1,hkn,Wk.mk [(3,some 3)] rfl rfl rfl ?_ ?_,by omega⟩
     ·exact zC
     ·exact zAD
    ·obtain rfl:k=n:=by omega
     refine vB [2,7] ?_
     refine⟨zD 19 [(4,.c (iC (-1)))] [] [],[],Wk.mk [] rfl rfl rfl ?_ trivial,rfl,rfl,aR1⟩
     exact zC
 ·refine⟨k0,⟨fun _=>by rw[of_decide_eq_true hb];exact hmem k0 hk0,fun _=>by omega⟩,?_⟩
  have hb':d=L.getD k0 mvZ:=of_decide_eq_true hb
  obtain⟨n,hn⟩:∃n,L.length=n:=⟨_,rfl⟩
  rw[hn]at hl hk0⊢;refine zK Try.func108 rfl rfl Try.ntmps108 rfl ?_;refine vB [0,1] ?_;refine AWp.round (fun k:Nat=>zD 19 [(0,.c (.ls n 2 (zAd mvC mvZ L))),(3,.c (.pt 3 2 0 0)),(7,.c (iC n)),(8,.c (iC k))] [(3,⟨false,1,2,148,lF (mvC d)⟩)] [3]) (fun k=>k≤k0) (fun k=>n-k) 0 (Nat.zero_le _) ?_ (fun k hk=> ?_)
  ·refine Wk.mk [(3,some 3)] rfl rfl rfl ?_ ?_
   ·exact zC
   ·exact zAD
  ·have hkn:k<n:=by omega
   by_cases hkk:k<k0
   ·have he:¬d=L.getD k mvZ:=of_decide_eq_false (hno k hkk)
    have hne:∀w,(Go.binOp .eql 148 _ _).run Try.prog w=.ok (.bool false) w:=fun w=>(zJp d (L.getD k mvZ) w).trans (by rw[decide_eq_false he])
    repeat (first
     |refine vB [2,3,6] ?_
     |(refine AWp.draw (id:=4) zL ?_;refine xE5 ?_;refine zEo rfl rfl rfl rfl rfl rfl xC (hne) ?_;refine aB ⟨by kernel_rfl,?_⟩))
    refine⟨k+1,hkk,Wk.mk [(3,some 3)] rfl rfl rfl ?_ ?_,by omega⟩
    ·exact zC
    ·exact zAD
   ·obtain rfl:k=k0:=by omega
    have hne:∀w,(Go.binOp .eql 148 _ _).run Try.prog w=.ok (.bool true) w:=fun w=>(zJp d (L.getD k mvZ) w).trans (by rw[decide_eq_true hb'])
    repeat (first
     |refine vB [2,3,5] ?_
     |(refine AWp.draw (id:=4) zL ?_;refine xE5 ?_;refine zEo rfl rfl rfl rfl rfl rfl xC (hne) ?_;refine aB ⟨by kernel_rfl,?_⟩))
    refine⟨zD 19 [(4,.c (iC k))] [] [],[],Wk.mk [] rfl rfl rfl ?_ trivial,rfl,rfl,aR1⟩
    exact zC
theorem zO9(L:List (Int×Int))(d:Int×Int)(hl:L.length≤1000):ACalls Try.prog 101 [.c (.ls L.length 2 (zAd mvC mvZ L)),.ag (mvC d)] (.c (bC (decide (d∈L)))):=by
 obtain⟨i,hi,hI⟩:=zPj L d hl
 obtain⟨n,hn⟩:∃n,L.length=n:=⟨_,rfl⟩
 rw[hn]at hl hI⊢;by_cases h:d∈L
 ·have h0:=hi.2 h
  rw[decide_eq_true h];refine zK Try.func101 rfl rfl Try.ntmps101 rfl ?_
  repeat (first
   |refine vB [0] ?_
   | (refine rG 1 ?_
      refine xE2 ?_;refine xB Try.func108 hI ?_;refine xE2 ?_;refine aB ?_))
  refine⟨zD 9 [(4,.c (bC true))] [] [],[],Wk.mk [] rfl rfl rfl ?_ trivial,rfl,rfl,aR1⟩
  exact zC
 ·have h0:¬0≤i:=fun h1=>h (hi.1 h1)
  rw[decide_eq_false h];refine zK Try.func101 rfl rfl Try.ntmps101 rfl ?_
  repeat (first
   |refine vB [0] ?_
   | (refine rG 1 ?_
      refine xE2 ?_;refine xB Try.func108 hI ?_;refine xE2 ?_;refine aB ?_))
  refine⟨zD 9 [(4,.c (bC false))] [] [],[],Wk.mk [] rfl rfl rfl ?_ trivial,rfl,rfl,aR1⟩
  exact zC
def isB(a b:Bp)(x y:Bg)(c:Cl):Bool:=decide (c∈alL a.W x y) && decide (xsV a b x y c≤0)
theorem mem_al{w:Int}{x y:Bg}{c:Cl}:c∈alL w x y↔(c.dx,c.dy)∈shL (shN x y)∧∃i,i<alM w x y∧c.col=(i:Int)-4:=by
 unfold alL alK alI
 simp only[List.mem_flatMap,List.mem_map,List.mem_range]
 constructor
 ·rintro⟨d,hd,i,hi,rfl⟩
  exact⟨hd,i,hi,rfl⟩
 ·rintro⟨hd,i,hi,e⟩
  refine⟨_,hd,i,hi,?_⟩
  rw[←e]
theorem zSF{x y:Bg}{d:Int×Int}(h:d∈shL (shN x y)):(-4≤d.1∧d.1≤4)∧-4≤d.2∧d.2≤4:=by
 obtain⟨j,hj,rfl⟩:=List.getElem_of_mem h
 have:=zOe (x:=x) (y:=y) hj
 rwa [List.getD_eq_getElem?_getD,List.getElem?_eq_getElem hj]at this
end Go.Proofs.Ytbffmfeldkjkcaa
end
section
namespace Go.Flow
open Go Go.RowKit Go.WideShapes Go.ChangeShapes
section
variable{H:Type}{enc:TypeId×Value→H}{P:Program}{W:World}

theorem zOx(hl:laidOutB P=true){W':World}(hb:Below W.heap.size W W'):∀{ts:List TypeId} {vs:List Value} {ds:List (DataW H)} {ps:List MemPlace},
 (∀t∈ts,P.readableRec t=true∧t<P.types.size)→DataW.TrodAll enc P W 0 (fun _=>true) true ts vs ds ps→(∀p∈ps,p.block<W.heap.size)→
 ∀sp:Nat→Bool,(∀p∈ps,sp p.block=true)→DataW.TrodAll enc P W' 0 sp true ts vs ds ps
 | [],[],[],_,_,h,_,_,_=>h
 | _ ::_,_::_,_::_,_,hT,⟨p,q,h1,h2,e⟩,hlt,sp,hs=>
   ⟨p, q,WideElems.Trod_stays hl (hT _ (List.mem_cons.2 (.inl rfl))).1 (hT _ (List.mem_cons.2 (.inl rfl))).2 h1
       (fun x hx=>hb.same (hlt x (by rw[e];exact List.mem_append_left _ hx))) (fun x hx=>hs x (by rw[e];exact List.mem_append_left _ hx)),
     zOx hl hb (fun t ht=>hT t (List.mem_cons.2 (.inr ht))) h2 (fun x hx=>hlt x (by rw[e];exact List.mem_append_right _ hx)) sp (fun x hx=>hs x (by rw[e];exact List.mem_append_right _ hx)),e⟩

theorem zTB{ts:List TypeId}{ds:List (DataW H)}(h:(DataW.weightsEach P ts ds).all (·≤reachBytes)=true)(j:Nat){t:TypeId}{d:DataW H}(ht:ts[j]?=some t)(hd:ds[j]?=some d):∀k∈d.weights P t,k≤reachBytes:=
 fun k hk=>of_decide_eq_true (List.all_eq_true.1 h k (DataW.weights_mem_each ht hd k hk))

end
section
variable{H:Type}{enc:TypeId×Value→H}{P:Program}
theorem zRY{f:Func}{s:ChangeSpec}{apart fresh handsOn again:Bool}{W W':World}{args:Array Value}{v:Value}{ds gs:List (DataW H)}{before pa pv:List MemPlace}
 (hW:DataW.Whole enc P f.params.toList s.vars apart W args.toList ds gs before)
 (hres:∀(b:Nat) (sp:Nat→Bool) (hd:Bool),DataW.TrodAll enc P W' b sp hd f.resultTypes.toList (v.resultList f.resultTypes.size) (s.fn H (ds++gs)).results [])
 (hargs:∀sp:Nat→Bool,(∀p∈before,sp p.block=true)→DataW.TrodAll enc P W' 0 sp true f.params.toList args.toList (s.fn H (ds++gs)).args pa)
 (hvars:∀sp:Nat→Bool,(∀p∈before,sp p.block=true)→DataW.TrodVars enc P W' sp s.vars (s.fn H (ds++gs)).vars pv)
 (hps:before=pa++pv) (hb:Below W.heap.size W W')
 (hok:∀(j:Nat) (t:TypeId) (r:Value),f.resultTypes[j]?=some t→(v.resultList f.resultTypes.size)[j]?=some r→Value.okWide P W' .any 0 t r):
 s.post enc P f apart fresh handsOn again W args v W':=by
 have hlt:∀p∈before,p.block<W.heap.size:=fun p hp=>hW.lt p hp
 have hold:∀p∈before,(fun b=>decide (b<W.heap.size)) p.block=true:=fun p hp=>by simpa using hlt p hp
 refine⟨ds,gs,before,[],pa,pv,hW,hres _ _ _,hargs _ hold,hvars _ hold,World.keptBut_mono (fun p hp=>⟨hp,?_⟩) (hb.frame (·∈before)),fun _=> ?_⟩
 ·rw[hps,List.mem_append]at hp
  exact Or.inr hp
 ·obtain⟨_,_,_,_,_,hz,hn⟩:=hW
  refine⟨hok,_,_,([]++pa)++pv,⟨[]++pa,pv,trodAll_append (hargs _ (fun _ _=>rfl)) (hres _ _ _),hvars _ (fun _ _=>rfl),rfl,?_,?_⟩,?_⟩
  ·intro b off hp
   have hin:MemPlace.cell b off∈before:=by rw[hps];simpa using hp
   rw[hb.frozen (hlt _ hin)];exact hz b off hin
  ·intro ha
   have:=hn ha;rw[hps]at this
   simpa using this
  ·intro p hp _
   rw[hps]
   simpa using hp
end
end Go.Flow
end
section
namespace Go.AV
open Go Go.RowKit Go.Flow Go.WideShapes Go.ChangeShapes
section
variable{H:Type}{enc:TypeId×Value→H}{P:Program}{W:World}{α β:Type}
theorem Opn.argS{t:TypeId}{fs:Array Field}{c:α→List CV}{ok:α→Prop}{r:Reach}{b0:Nat}{v:Value}{d:DataW H}{ps:List MemPlace}(h:Opn enc P W t c ok)(ht:P.underlying t=some (.struct fs))(hv:Value.okWide P W r b0 t v)(hd:DataW.Trod enc P W 0 (fun _=>true) true t v d ps)(hw:∀k∈d.weights P t,k≤reachBytes):
 ∃a,ok a∧RepV (fun _=>none) O0 W (.ag (c a)) v:=by
 unfold Value.okWide at hv;rw[ht]at hv
 obtain⟨cs,rfl,-,-⟩:=hv
 obtain⟨fu,g⟩:=hd
 obtain⟨a,h1,h2⟩:=h fu _ d ps g hw
 exact⟨a,h1,_,rfl,h2⟩
end
end Go.AV
end
section
namespace Go.Proofs.Ytbffmfeldkjkcaa
open Go.ChangeShapes Go.WideShapes Go.ChangeAt Go.RowKit Go.Flow Go.AV
theorem zRi:laidOutB Try.prog=true:=by kernel_rfl
section
variable{H:Type}{enc:TypeId×Value→H}{W:World}
end
end Go.Proofs.Ytbffmfeldkjkcaa
end
section
namespace Go.Proofs.Ytbffmfeldkjkcaa
open Go.RowKit Go.Flow Go.AV Go.Plain
def zAz:List Nat→Nat
 | []=>1
 |L::Ls=>L*zAz Ls
def zBG:List Nat→List Int→Int
 |L::Ls,d::ds=>d*(zAz Ls:Int)+zBG Ls ds
 |_,_=>0
abbrev zBo(p:Pb)(k:Nat):List Nat:=(p.C.drop k).map List.length
def InR:List Nat→List Int→Prop
 |L::Ls,d::ds=>(0≤d∧d<L)∧InR Ls ds
 | [],[]=>True
 |_,_=>False
theorem zHx:∀{Ls:List Nat} {e:List Int},InR Ls e→0≤zBG Ls e∧zBG Ls e<zAz Ls
 | [],[],_=>⟨Int.le_refl _,by decide⟩
 | L::Ls,d::ds,h=>by
   obtain⟨⟨h1,h2⟩,h3⟩:=h
   obtain⟨i1,i2⟩:=zHx h3
   have e1:=Int.mul_nonneg h1 (Int.natCast_nonneg (zAz Ls));have e2:(d+1)*(zAz Ls:Int)≤(L:Int)*(zAz Ls:Int):=Int.mul_le_mul_of_nonneg_right xD (Int.natCast_nonneg _);rw[Int.add_mul,Int.one_mul]at e2;have e3:((zAz (L::Ls):Nat):Int)=(L:Int)*(zAz Ls:Int):=by simp[zAz]
   show 0≤d*(zAz Ls:Int)+zBG Ls ds∧d*(zAz Ls:Int)+zBG Ls ds<_;rw[e3]
   omega
 | [],_::_,h=>h.elim
 |_::_,[],h=>h.elim
theorem zJs{L:Nat}{Ls:List Nat}{c d:Int}{e f:List Int}(h:c<d)(he:InR Ls e)(hf:InR Ls f):zBG (L::Ls) (c::e)<zBG (L::Ls) (d::f):=by
 have h1:=(zHx he).2;have h2:=(zHx hf).1;have e2:(c+1)*(zAz Ls:Int)≤d*(zAz Ls:Int):=Int.mul_le_mul_of_nonneg_right xD (Int.natCast_nonneg _);rw[Int.add_mul,Int.one_mul]at e2;show c*(zAz Ls:Int)+zBG Ls e<d*(zAz Ls:Int)+zBG Ls f
 omega
theorem zNe{p:Pb}{k:Nat}(h:k<p.C.length):zBo p k=(p.C.getD k []).length::zBo p (k+1):=by
 unfold zBo;rw[List.drop_eq_getElem_cons h,List.map_cons,List.getD_eq_getElem?_getD,List.getElem?_eq_getElem h]
 rfl
theorem zGI{p:Pb}:∀{e ch:List Int},ch.length+e.length=p.C.length→GoodC p (ch++e)→InR (zBo p ch.length) e
 | [],ch,hl,_=>by
   have:zBo p ch.length= []:=by
    unfold zBo;rw[List.drop_eq_nil_of_le (by simp at hl;omega)]
    rfl
   rw[this]
   trivial
 | c::e,ch,hl,h=>by
   rw[List.length_cons]at hl;rw[zNe xD]
   refine⟨h.head.1,?_⟩
   have:=zGI (p:=p) (e:=e) (ch:=ch++ [c]) (by rw[List.length_append,List.length_singleton];omega) (by rw[List.append_assoc];exact h)
   rwa [List.length_append,List.length_singleton]at this
def zGO(p:Pb)(m:Nat)(ch:List Int)(o:FR):Prop:=
 (o.2.1=0∧∃e0,o.1=ch++e0∧e0.length=m∧GoodC p (ch++e0)∧∀e,e.length=m→GoodC p (ch++e)→zBG (zBo p ch.length) e0≤zBG (zBo p ch.length) e)∨
 (o.2.1=60∧o.1= []∧∀e,e.length=m→¬GoodC p (ch++e))
def stT:Nat→Int
 |0=>0
 |m+1=>4*(1+stT m)
theorem zJQ:∀m,0≤stT m
 |0=>Int.le_refl _
 |m+1=>by have:=zJQ m;show 0≤4*(1+stT m);omega
theorem zJ5{p:Pb}{ch:List Int}{m:Nat}{rec:List Int→Int→FR}{L:Nat}(hm:ch.length+(m+1)=p.C.length)(hL:(p.C.getD ch.length []).length=L)(T:Int)(hT:0≤T)
 (hr:∀(c:Nat) st,0≤st→st+T≤20000→c<L→zA2 p ch.length (fI ch) c=true→zGO p m (ch++ [(c:Int)]) (rec (ch++ [(c:Int)]) st)∧st≤(rec (ch++ [(c:Int)]) st).2.2∧(rec (ch++ [(c:Int)]) st).2.2≤st+T):
 ∀(r c:Nat) (st:Int),c+r=L→0≤st→st+r*(1+T)≤20000→(∀(d:Int) e,d<c→e.length=m→¬GoodC p (ch++d::e))→zGO p (m+1) ch (zBA rec p ch r c st)∧st≤(zBA rec p ch r c st).2.2∧(zBA rec p ch r c st).2.2≤st+r*(1+T)
 | 0,c,st,hc,h0,hst,hno=>by
   refine⟨.inr ⟨rfl,rfl,fun e he hg=> ?_⟩,Int.le_refl _,by simp[zBA]⟩
   obtain⟨d,e,rfl⟩:∃d e',e=d::e':=by cases e with|nil=>cases he|cons d e=>exact⟨d,e,rfl⟩
   have:=hg.head.1;rw[hL]at this;exact hno d e xD (by simpa using he) hg
 | r + 1,c,st,hc,h0,hst,hno=>by
   have hrT:0≤(r:Int)*(1+T):=Int.mul_nonneg (Int.natCast_nonneg r) xD;have hsp:((r+1:Nat):Int)*(1+T)=(r:Int)*(1+T)+(1+T):=by rw[Int.natCast_add,Int.add_mul];simp
   rw[hsp]at hst⊢;have hov:¬20000<st+1:=by omega
   cases hf:zA2 p ch.length (fI ch) c with
   | false=>
     rw[zGy hov hf];have hno':∀(d:Int) e,d<((c+1:Nat):Int)→e.length=m→¬GoodC p (ch++d::e):=fun d e hd he hg=>by
      by_cases hdc:d=c
      ·have:=hg.head.2
       rw[hdc,hf]at this
       cases this
      ·exact hno d e xD he hg
     obtain⟨i1,i2,i3⟩:=zJ5 hm hL T hT hr r (c+1) (st+1) xD xD xD hno'
     exact⟨i1,by omega,by omega⟩
   | true=>
     obtain⟨g1,g2,g3⟩:=hr c (st+1) xD xD xD hf
     rcases g1 with ⟨k1,e0,k2,k3,k4,k5⟩|⟨k1,k2,k3⟩
     ·rw[zGx hov hf (by rw[k1];decide)]
      refine⟨.inl ⟨k1,(c:Int)::e0,by rw[k2,List.append_assoc];rfl,by simp[k3],by rw[List.append_assoc]at k4;exact k4,fun e he hg=> ?_⟩,by omega,by omega⟩
      obtain⟨d,e,rfl⟩:∃d e',e=d::e':=by cases e with|nil=>cases he|cons d e=>exact⟨d,e,rfl⟩
      have he':e.length=m:=by simpa using he
      have hdc:¬d<c:=fun h=>hno d e h he' hg
      have l1:(ch++ [(c:Int)]).length=ch.length+1:=by simp
      rw[zNe xD];by_cases hd:d=c
      ·subst hd
       have:=k5 e he' (by rw[List.append_assoc];exact hg)
       rw[l1]at this
       show(c:Int)*_+_≤(c:Int)*_+_
       omega
      ·have r1:=zGI (p:=p) (e:=e0) (by rw[l1];omega) k4
       have r2:=zGI (p:=p) (e:=e) (ch:=ch++ [d]) (by simp;omega) (by rw[List.append_assoc];exact hg)
       rw[l1]at r1;rw[show(ch++ [d]).length=ch.length+1 by simp]at r2;exact Int.le_of_lt (zJs xD r1 r2)
     ·rw[zGw hov hf k1]
      have hno':∀(d:Int) e,d<((c+1:Nat):Int)→e.length=m→¬GoodC p (ch++d::e):=fun d e hd he hg=>by
       by_cases hdc:d=c
       ·exact k3 e he (by rw[List.append_assoc,←hdc];exact hg)
       ·exact hno d e xD he hg
      obtain⟨i1,i2,i3⟩:=zJ5 hm hL T hT hr r (c+1) (rec (ch++ [(c:Int)]) (st+1)).2.2 xD xD xD hno'
      exact⟨i1,by omega,by omega⟩
theorem zI2{p:Pb}(hl:∀l∈p.C,l.length≤4):∀(m:Nat) (ch:List Int) (st:Int),ch.length+m=p.C.length→GoodC p ch→0≤st→st+stT m≤20000→zGO p m ch (zAE p m ch st)∧st≤(zAE p m ch st).2.2∧(zAE p m ch st).2.2≤st+stT m
 |0,ch,st,hm,hg,h0,hst=>⟨.inl ⟨rfl,[],by simp[zAE],rfl,by simpa using hg,fun e he _=>by
    obtain rfl:=List.eq_nil_of_length_eq_zero he;exact Int.le_refl _⟩,Int.le_refl _,by simp[zAE,stT]⟩
 | m +1,ch,st,hm,hg,h0,hst=>by
   have hlt:ch.length<p.C.length:=by omega
   have hL3:=hl _ (zAJ (z:= []) hlt);have hT:=zJQ m;have hst':stT (m+1)=4*(1+stT m):=rfl;have hle:((p.C.getD ch.length []).length:Int)*(1+stT m)≤4*(1+stT m):=Int.mul_le_mul_of_nonneg_right xD xD;have hrec:∀(c:Nat) (st:Int),0≤st→st+stT m≤20000→c<(p.C.getD ch.length []).length→zA2 p ch.length (fI ch) c=true→zGO p m (ch++ [(c:Int)]) (zAE p m (ch++ [(c:Int)]) st)∧st≤(zAE p m (ch++ [(c:Int)]) st).2.2∧(zAE p m (ch++ [(c:Int)]) st).2.2≤st+stT m:=fun c st h0 hst hc hf=>by
    refine zI2 hl m (ch++ [(c:Int)]) st (by simp;omega) (fun k hk=> ?_) h0 hst
    rw[List.length_append,List.length_singleton]at hk;by_cases e:k=ch.length
    ·subst e
     rw[stepOk_iff,zFe,zHe (zEF ch c)]
     exact⟨⟨by omega,by omega⟩,hf⟩
    ·have:=stepOk_iff.1 (hg k xD)
     rw[stepOk_iff,zEF ch c k xD,zHe fun j hj=>zEF ch c j xD];exact this
   obtain⟨i1,i2,i3⟩:=zJ5 (rec:=zAE p m) (m:=m) (L:=(p.C.getD ch.length []).length) hm rfl (stT m) hT hrec (p.C.getD ch.length []).length 0 st xD h0 xD (fun d e hd _ h=>by have:=h.head.1.1;omega)
   exact⟨i1,i2,by show _≤st+stT (m+1);unfold zAE;omega⟩
def zBO:List Nat→Nat→List Int
 | [],_=> []
 |L::Ls,n=>((n/zAz Ls%L:Nat):Int)::zBO Ls n
theorem zIL:∀(Ls:List Nat) (n:Nat),(zBO Ls n).length=Ls.length
 | [],_=>rfl
 |_::Ls,n=>congrArg (· + 1) (zIL Ls n)
theorem zIM:∀(Ls:List Nat) (n:Nat),zBO Ls (n%zAz Ls)=zBO Ls n
 | [],_=>rfl
 | L::Ls,n=>by
   have h1:n%(L*zAz Ls)/zAz Ls%L=n/zAz Ls%L:=by
    rw[Nat.mul_comm L,Nat.mod_mul_right_div_self,Nat.mod_mod]
   have h2:zBO Ls (n%(L*zAz Ls))=zBO Ls n:=by
    rw[←zIM Ls (n%(L*zAz Ls)),Nat.mod_mul_left_mod,zIM Ls n]
   show((n%(L*zAz Ls)/zAz Ls%L:Nat):Int)::zBO Ls (n%(L*zAz Ls))=_
   rw[h1,h2]
   rfl
theorem zMh:∀{Ls:List Nat} {n:Nat},0<zAz Ls→InR Ls (zBO Ls n)
 | [],_,_=>trivial
 | L::Ls,n,h=>by
   have h:0<L*zAz Ls:=h;have hL:0<L:=Nat.pos_of_mul_pos_right h;have hP:0<zAz Ls:=Nat.pos_of_mul_pos_left h;have:=Nat.mod_lt (n/zAz Ls) hL
   exact⟨⟨by omega,by omega⟩,zMh hP⟩
theorem zJt:∀{Ls:List Nat} {n:Nat},n<zAz Ls→zBG Ls (zBO Ls n)=n
 | [],n,h=>by
   have h:n<1:=h;obtain rfl:n=0:=by omega
   rfl
 | L::Ls,n,h=>by
   have h:n<L*zAz Ls:=h;have h0:0<L*zAz Ls:=by omega
   have hP:0<zAz Ls:=Nat.pos_of_mul_pos_left h0;have h1:n/zAz Ls<L:=(Nat.div_lt_iff_lt_mul hP).2 h;have ih:=zJt (Ls:=Ls) (n:=n%zAz Ls) (Nat.mod_lt _ hP);rw[zIM]at ih
   show((n/zAz Ls%L:Nat):Int)*(zAz Ls:Int)+zBG Ls (zBO Ls n)=n
   rw[ih,Nat.mod_eq_of_lt h1,←Int.natCast_mul,←Int.natCast_add,Nat.div_add_mod']
theorem zNp:∀{Ls:List Nat} {e f:List Int},InR Ls e→InR Ls f→zBG Ls e=zBG Ls f→e=f
 | [],[],[],_,_,_=>rfl
 | L ::Ls,c::e,d::f,he,hf,h=>by
   by_cases h1:c<d
   ·have:=zJs (L:=L) h1 he.2 hf.2
    omega
   ·by_cases h2:d<c
    ·have:=zJs (L:=L) h2 hf.2 he.2
     omega
    ·obtain rfl:c=d:=by omega
     have h:c*(zAz Ls:Int)+zBG Ls e=c*(zAz Ls:Int)+zBG Ls f:=h;rw[zNp he.2 hf.2 xD]
 | [],_::_,_,he,_,_=>he.elim
 | [],[],_::_,_,hf,_=>hf.elim
 |_::_,[],_,he,_,_=>he.elim
 |_::_,_::_,[],_,hf,_=>hf.elim
theorem zSK{p:Pb}(hf:p.fit)(hk:zAr p=0)(hs:∀l∈p.C,l.length≤4)(hc:p.C.length≤5):
 ((zAy p).2=0∧∃N:Nat,N<zAz (zBo p 0)∧(zAy p).1=zBO (zBo p 0) N∧GoodC p (zBO (zBo p 0) N)∧∀n,n<N→¬GoodC p (zBO (zBo p 0) n))∨
 ((zAy p).2=60∧(zAy p).1= []∧∀n,¬GoodC p (zBO (zBo p 0) n)):=by
 have hT:stT p.C.length≤20000:=by
  have:p.C.length=0∨p.C.length=1∨p.C.length=2∨p.C.length=3∨p.C.length=4∨p.C.length=5:=by omega
  rcases this with h|h|h|h|h|h<;>rw[h]<;>decide
 obtain⟨hS,-,-⟩:=zI2 hs p.C.length [] 0 (by simp) (fun k hk=>absurd hk (Nat.not_lt_zero _)) (Int.le_refl _) xD
 have hlen:(zBo p 0).length=p.C.length:=by simp[zBo]
 unfold zAy;rw[if_pos hk];generalize zAE p p.C.length [] 0=o at *
 rcases hS with ⟨k1,e0,k2,k3,k4,k5⟩|⟨k1,k2,k3⟩
 ·left
  refine⟨k1,?_⟩
  have r0:InR (zBo p 0) e0:=zGI (p:=p) (ch:= []) (by simpa using k3) k4
  obtain⟨b1,b2⟩:=zHx r0
  obtain⟨N,hN⟩:=Int.eq_ofNat_of_zero_le b1
  have hlt:N<zAz (zBo p 0):=by omega
  have hd:zBO (zBo p 0) N=e0:=zNp (zMh xD) r0 (by rw[zJt hlt,hN])
  refine⟨N,hlt,by rw[hd];exact k2,by rw[hd];exact k4,fun n hn hg=> ?_⟩
  have:=k5 (zBO (zBo p 0) n) (by rw[zIL,hlen]) hg;change zBG (zBo p 0) e0≤zBG (zBo p 0) (zBO (zBo p 0) n)at this;rw[zJt xD,hN]at this
  omega
 ·right
  exact⟨k1,k2,fun n hg=>k3 _ (by rw[zIL,hlen]) hg⟩
def zLa(p:Pb)(f:Nat→Int)(k:Nat):Prop:=
 (∀j,j<p.F.length→(zCW p.R ((p.C.getD k []).getD (f k).toNat bpZ) (p.F.getD j bpZ) (p.O.getD k bgZ) (p.T.getD j bgZ)).2.2=false)∧
 ∀j,j<k→(zCW p.R ((p.C.getD k []).getD (f k).toNat bpZ) ((p.C.getD j []).getD (f j).toNat bpZ) (p.O.getD k bgZ) (p.O.getD j bgZ)).2.2=false
theorem zQO{p:Pb}{f:Nat→Int}{k:Nat}:zA2 p k f (f k)=true↔zLa p f k:=by
 rw[freeV_iff];have hk:¬((k:Nat):Int)<0:=by omega
 refine and_congr (forall_congr' fun j=>forall_congr' fun _=> ?_) (forall_congr' fun j=>forall_congr' fun _=> ?_)
 ·unfold pkV zCn zCo
  rw[if_neg hk,if_pos (show(-1:Int)<0 by decide),if_neg hk,if_pos (show(-1:Int)<0 by decide)]
  rfl
 ·have hj:¬((j:Nat):Int)<0:=by omega
  unfold pkV zCn zCo;rw[if_neg hk,if_neg hj,if_neg hk,if_neg hj]
  rfl
theorem step_iff{p:Pb}{f:Nat→Int}{k:Nat}:zC4 p f k=true↔(0≤f k∧f k<(p.C.getD k []).length)∧zLa p f k:=by
 rw[stepOk_iff,zQO]
end Go.Proofs.Ytbffmfeldkjkcaa
end
section
namespace Go.AV
open Go Go.RowKit Go.Flow
section
variable{P:Program}{ch:List PanicEntry}
variable{ops:Array Oper}{rest:List Oper}{S:St}{Q:Exit→St→Prop}{dst:Option Tmp}{ty:TypeId}{pos:String}{after:Array Edge}{guard:Option (Nat×Bool)}
theorem AWp.die{id:Nat}{l:List Oper}(h:ADie P l.toArray l S Q):AWp P (.region id l.toArray false) Q S:=⟨fun b0 a w hR=>
 wpIn_region_lit (h.get _ b0 a w _ hR fun e S a w h1 h2=>⟨S,h1,h2⟩)⟩
def zK2(hs' nw:List AB)(m:Nat)(S:St):Prop:=∃S' loc,(Nat.beq hs'.length m && Nat.ble nw.length 100)=true∧Wk S S'∧S'.h=zB (loc++zAt nw hs')∧loc.all (fun p=>Nat.blt p.1 900)=true
def zIc(ch:List PanicEntry)(hs' nw:List AB)(m:Nat):Exit→St→Prop
 | .panic c,S=>c=ch∧zK2 hs' nw m S
 |_,_=>False
theorem zM9{b0:zI}{S:St}{fn:Func}{R:Ending→World→Prop}(fin:∀a w,Rel b0 S a w→R (.panicked ch) w):
 ∀(ds:List Deferred) (a:Act) (w:World),a.defers=ds→Rel b0 S a w→LeavesInM Fence.wide 0 P fn a.tmps R ds (.panicking ch) w
 | [],a,w,hd,hR=>fin a w hR
 | d::ds,a,w,hd,⟨σ,hR⟩=>by
   obtain⟨D,e1,e2,e3⟩:=hR.unmark (P:=P) hd
   refine⟨by simp,.inl ⟨D,_,by rw[e1],e2,?_⟩⟩
   exact zM9 fin ds {a with defers:=ds} _ rfl ⟨σ,e3⟩
theorem zQT{f:FuncId}{fn:Func}{c:Code}{args:List V1}{hs mv hs' nw:List AB}(hf:P.funcs[f]?=some fn)(hb:fn.body=some c)(hn:args.length≤fn.ntmps)(hmv:mv.length≤100)
 (h:AWp P c (zIc ch hs' nw hs.length) (zCk fn.ntmps hs.length args (zAV mv hs))):zE3 P ch f args hs mv hs' nw:=fun b0 σ0 vals _ _ hH hle hσ hY hv=>by
 have hl:=hv.length
 let b2:zI:=⟨b0.w,b0.X,b0.Y,b0.fix,b0.lt,b0.ylt,b0.dis,b0.one,fun _ _=>False,fun _ _ _=>True,none,fun _ _ h=>h.elim,fun _ _ _ _ _ _ _ _=>trivial⟩
 have up:∀{σ h w},HRel b0 σ h w→HRel b2 σ h w:=fun H=>⟨H.blk,H.inj,H.new,H.fx,H.big⟩
 have dn:∀{σ h w},HRel b2 σ h w→HRel b0 σ h w:=fun H=>⟨H.blk,H.inj,H.new,H.fx,H.big⟩
 have hR:Rel b2 (zCk fn.ntmps hs.length args (zAV mv hs)) {tmps:=vals.toArray++Array.replicate (fn.ntmps-vals.toArray.size) undef,defers:= []} b0.w:=by
  refine⟨σ0,trivial,?_,⟨rfl,rfl,rfl,Nat.le_refl _,fun _ _ _=>rfl⟩,up hH,fun t x hx=> ?_,fun id hid=> ?_,fun i v hi=>hle i v hi,rfl,trivial⟩
  ·simp[zCk,hl];omega
  ·obtain⟨y,e1,rfl⟩:∃y,args[t]?=some y∧y.av=x:=by simpa[zCk,Option.map_eq_some_iff]using hx
   obtain⟨v,e2,e3⟩:=hv.get e1
   have ht:(vals.toArray++Array.replicate (fn.ntmps-vals.toArray.size) undef).getD t undef=v:=by
    have hlt:=(List.getElem?_eq_some_iff.1 e2).1;have:=(List.getElem?_eq_some_iff.1 e2).2
    simp[Array.getD_eq_getD_getElem?,Array.getElem?_append,hlt,this]
   rw[ht];exact e3.av
  ·have hid':(Nat.blt id 800||(Nat.ble 900 id && Nat.blt id 1000))=true:=hid
   have h1:id<800∨(900≤id∧id<1000):=by
    rw[Bool.or_eq_true,Bool.and_eq_true]at hid';exact hid'.imp (fun h=>Nat.blt_eq.mp h) fun h=>⟨Nat.ble_eq.mp h.1,Nat.blt_eq.mp h.2⟩
   refine⟨?_,by omega⟩
   cases hc:σ0 id with
   |none=>rfl
   | some v=>
     rcases hσ id v hc with h|h
     ·have:=(b0.one id v h).1;omega
     ·omega
 refine callsIn_wide.1 (callsIn_of_wp_marks (F:=Fence.wide) (n:=0) hf hb trivial (wpIn_mono (h.get b2 _ _ hR) fun e a w ⟨S,hR,hQ⟩=> ?_))
 obtain⟨c',rfl,rfl,S',loc,hln,hw,hS',hlc⟩:∃c',e=.panic c'∧c'=ch∧zK2 hs' nw hs.length S:=by cases e<;>first|exact⟨_,rfl,hQ⟩|exact hQ.elim
 refine zM9 (S:=S) (fun a w hR=> ?_) a.defers a w rfl hR;rw[Bool.and_eq_true]at hln;have hl1:=Nat.eq_of_beq_eq_true hln.1;have hl2:=Nat.ble_eq.mp hln.2
 obtain⟨σ,R1⟩:=hw b2 a w hR
 have hH0:=R1.hp;rw[hS']at hH0;have low:∀i B,zB loc i=some B→i<900:=fun i B h=>Nat.blt_eq.mp (List.all_eq_true.1 hlc _ (zA8 h))
 have high:∀i,zB (zAt nw hs') i≠none→900≤i:=fun i hi=>by
  rw[zBE hl2]at hi;by_cases h1:1000≤i
  ·omega
  ·rw[if_neg h1]at hi
   by_cases h2:900≤i
   ·exact h2
   ·rw[if_neg h2]at hi;exact absurd rfl hi
 obtain⟨H',hsub⟩:=hH0.part (h':=zB (zAt nw hs')) (fun i hi=>by
  rw[zCu]
  cases hc:zB loc i with
  |none=>rfl
  | some B=>
    have:=low i B hc;have:=high i hi
    omega) (fun i v hi=>by
  have h0:=(b0.one i v hi).1;have h3:=hle i v hi;rw[zBE hl2,if_pos h0,List.getElem?_eq_getElem (by omega)]
  simp)
 exact⟨rfl,.tuple #[],σ,.tu [],hs',nw,rfl,⟨rfl,rfl,rfl⟩,hl1,hl2,dn H',⟨[],rfl,trivial⟩,R1.ext.less fun b hb=>.inl (hb.elim id fun h=>h.elim)⟩
theorem zI5{f:FuncId}{fn:Func}{c:Code}{args:List V1}{hs mv hs' nw:List AB}{n:Nat}(hf:P.funcs[f]?=some fn)(hb:fn.body=some c)(hn:fn.ntmps=n)(hl:(Nat.ble args.length n && Nat.ble mv.length 100)=true)
 (h:AWp P c (zIc ch hs' nw hs.length) (zCk n hs.length args (zAV mv hs))):zE3 P ch f args hs mv hs' nw:=by
 subst hn;rw[Bool.and_eq_true]at hl;exact zQT hf hb (Nat.ble_eq.mp hl.1) (Nat.ble_eq.mp hl.2) h
end
section
variable{P:Program}
theorem zPP{r0:Option Nat}{ops:Array Oper}{Q:Exit→Act→World→Prop}{w0:zI}{rd:Nat→List Nat}{e:Nat→Eff}{S0:St}{M:List Nat}{fps:List (List Nat×List Nat)}(G:zH2 ops M fps)
 {n:Nat} (hn:n≤ops.size) (hall:∀t,n≤t→t<ops.size→∀i,i<n→Nat.testBit (M.getD t 0) i=true)
 (hfp:∀i,i<n→fps.getD i ([],[])=zBX rd e i) (hst:∀i o,i<n→ops[i]?=some o→LStep P ops o (rd i) (e i) (zU ops e S0 (fun _=>true) i))
 (hT:∀(l:Array Bool) a w,l.size=ops.size→(∀k,k<ops.size→l.getD k false=Nat.blt k n)→Rel w0 (zU ops e S0 (fun _=>true) n) a w→wpAnyIn (fnc r0) 0 P .any ops Q (ops.size-n) l a w):
 ∀ (fuel:Nat) (l:Array Bool) (a:Act) (w:World),l.size=ops.size→zB5 l n=fuel→(∀j o,ops[j]?=some o→l.getD j false=true→∀d∈zCK o,l.getD d false=true)→(∀k,n≤k→l.getD k false=false)→
   Rel w0 (zU ops e S0 (fun k=>l.getD k false) ops.size) a w→wpAnyIn (fnc r0) 0 P .any ops Q (fuel+(ops.size-n)) l a w:=by
 have tf:∀(l:Array Bool) (k:Nat),l.size=ops.size→k<ops.size→l.getD k true=l.getD k false:=fun l k hl hk=>by
  simp[Array.getD_eq_getD_getElem?,hl,hk]
 have full:∀l:Array Bool,l.size=ops.size→Region.ready .any ops l= []→∀k,k<ops.size→l.getD k true=true:=fun l hl h0 k=>by
  induction k using Nat.strongRecOn with
  | _ k ih=>
    intro hk
    cases hc:l.getD k true with
    |true=>rfl
    | false=>
      have ho:ops[k]?=some ops[k]:=Array.getElem?_eq_getElem hk;have:k∈Region.ready .any ops l:=mem_ready.2 ⟨hc,ops[k],ho,fun ed he hb=>by
       have hd:=G.lt k _ ho ed.on (mem_deps.2 ⟨ed,he,hb,rfl⟩);rw[←tf l ed.on hl (by omega)];exact ih ed.on hd (by omega)⟩
      rw[h0]at this
      cases this
 intro fuel
 induction fuel with
 | zero=>
   intro l a w hl hc _ ht hR;have hL:=zG6 n hc;have hk:∀k,k<ops.size→l.getD k false=Nat.blt k n:=fun k hk=>by
    by_cases h:k<n
    ·rw[Nat.blt_eq.mpr h,←tf l k hl hk];exact hL k h
    ·rw[ht k (by omega),show Nat.blt k n=false from Bool.eq_false_iff.2 fun h'=>h (Nat.blt_eq.mp h')]
   rw[Nat.zero_add];refine hT l a w hl hk ?_;rw[zHc (L':=fun k=>Nat.blt k n) _ hk,zHd _ hn]at hR;exact hR
 | succ fuel ih=>
   intro l a w hl hc hcl htl hR;rw[show fuel+1+(ops.size-n)=(fuel+(ops.size-n))+1 by omega]
   refine⟨fun h0=> ?_,fun i hi=> ?_⟩
   ·have:=zG5 n (fun k hk=>full l hl h0 k (by omega))
    omega
   ·have htail:=hall
    obtain⟨hun,o,ho,hall⟩:=mem_ready.1 hi
    have hin:i<ops.size:=(Array.getElem?_eq_some_iff.1 ho).1;have hLi:l.getD i false=false:=by rw[←tf l i hl hin];exact hun
    have clM:∀j,j<ops.size→∀i,Nat.testBit (M.getD j 0) i=true→l.getD j false=true→l.getD i false=true:=fun j=>by
     induction j using Nat.strongRecOn with
     | _ j ihj=>
       intro hj i hb hlj;have hoj:ops[j]?=some ops[j]:=Array.getElem?_eq_getElem hj
       obtain⟨d,hd,h⟩:=G.up j _ hoj i hb
       have hld:=hcl j _ hoj hlj d hd
       rcases h with rfl|h
       ·exact hld
       ·have:=G.lt j _ hoj d hd
        exact ihj d this (by omega) i h hld
    have hi_n:i<n:=by
     refine Decidable.byContradiction fun hni=> ?_
     have:∀k,k<n→l.getD k true=true:=fun k hk=>by
      rw[tf l k hl (by omega)]
      obtain⟨d,hd,h⟩:=G.up i o ho k (htail i (by omega) hin k hk)
      obtain⟨ed,he,hbd,rfl⟩:=mem_deps.1 hd
      have hld:=hall ed he hbd;have hdi:=G.lt i o ho ed.on hd
      rcases h with h|h
      ·rw[←h];exact hld
      ·exact clM ed.on (by omega) k h hld
     have:=zG5 n this
     omega
    have before:∀k,k<i→l.getD k false=false→∃b,ops[k]?=some b∧zDE ops b o (zBX rd e k) (zBX rd e i)=true:=fun k hk hlk=>by
     rcases G.ind i o ho k hk with h|⟨b,hb,hind⟩
     ·obtain⟨d,hd,h⟩:=G.up i o ho k h
      obtain⟨ed,he,hbd,rfl⟩:=mem_deps.1 hd
      have hld:=hall ed he hbd;have hdi:=G.lt i o ho ed.on hd;have:l.getD k false=true:=by
       rcases h with h|h
       ·rw[←h];exact hld
       ·exact clM ed.on (by omega) k h hld
      rw[this]at hlk;cases hlk
     ·rw[hfp k (by omega),hfp i hi_n]at hind
      exact⟨b,hb,hind⟩
    have behind:∀k,i<k→k<ops.size→l.getD k false=true→∃b,ops[k]?=some b∧zDE ops o b (zBX rd e i) (zBX rd e k)=true:=fun k hk hkn hlk=>by
     have hkn2:k<n:=by
      refine Decidable.byContradiction fun h=> ?_
      rw[htl k (by omega)]at hlk
      cases hlk
     have hok:ops[k]?=some ops[k]:=Array.getElem?_eq_getElem hkn
     rcases G.ind k _ hok i hk with h|⟨b,hb,hind⟩
     ·have:=clM k hkn i h hlk
      rw[this]at hLi;cases hLi
     ·rw[ho]at hb
      cases hb
      rw[hfp k hkn2,hfp i hi_n]at hind
      exact⟨_,hok,hind⟩
    have dk:∀{k:Nat} {b:Oper},ops[k]?=some b→zAx ops k=b.dst:=fun hb=>by unfold zAx;rw[hb];rfl
    have hbl:∀k,k<ops.size→l.getD k false≠Nat.blt k i→(k<i∧l.getD k false=false)∨(i<k∧l.getD k false=true):=fun k hk hne=>by
     rcases Nat.lt_trichotomy k i with h|h|h
     ·rw[Nat.blt_eq.mpr h]at hne
      exact .inl ⟨h,by simpa using hne⟩
     ·subst h
      rw[hLi,show Nat.blt k k=false from Bool.eq_false_iff.2 fun h=>by have:=Nat.blt_eq.mp h;omega]at hne
      exact absurd rfl hne
     ·rw[show Nat.blt k i=false from Bool.eq_false_iff.2 fun h'=>by have:=Nat.blt_eq.mp h';omega]at hne
      exact .inr ⟨h,by simpa using hne⟩
    have hT:=zHd (ops:=ops) (e:=e) (S0:=S0) (i:=i) ops.size (by omega);have hL:=hst i o hi_n ho;rw[←hT]at hL;have hadd:zU ops e S0 (fun k=>(l.setIfInBounds i true).getD k false) ops.size=(zU ops e S0 (fun k=>l.getD k false) ops.size).eff (zAx ops i) (e i):=by
     have zHl:∀k,(l.setIfInBounds i true).getD k false=(l.getD k false||Nat.beq k i):=fun k=>by
      rw[zFf (by omega)];by_cases hki:k=i
      ·subst hki;simp[Nat.beq_refl]
      ·rw[if_neg hki,show Nat.beq k i=false from Bool.eq_false_iff.2 fun h=>hki (Nat.eq_of_beq_eq_true h),Bool.or_false]
     refine zMB (L:=fun k=>l.getD k false) (L':=fun k=>(l.setIfInBounds i true).getD k false) (i:=i) hLi zHl ops.size hin (fun k t hk hlk hd=> ?_) (fun k id hk hlk hd=> ?_)
     ·have hkn:k<ops.size:=by
       rcases Nat.lt_or_ge k ops.size with h|h
       ·exact h
       ·simp[Array.getD_eq_getD_getElem?,Array.getElem?_eq_none (show l.size≤k by omega)]at hlk
      obtain⟨b,hb,hind⟩:=behind k hk hkn hlk
      rw[dk ho]at hd;rw[dk hb]
      exact(zBU hind).1.2.1 t hd
     ·have hkn:k<ops.size:=by
       rcases Nat.lt_or_ge k ops.size with h|h
       ·exact h
       ·simp[Array.getD_eq_getD_getElem?,Array.getElem?_eq_none (show l.size≤k by omega)]at hlk
      obtain⟨b,hb,hind⟩:=behind k hk hkn hlk
      have:=((zBU hind).2.1 id (by unfold zBX;exact List.mem_append_left _ hd)).2
      unfold zBX at this;exact fun h=>this (List.mem_append_left _ h)
    have hloc:=hL (zU ops e S0 (fun k=>l.getD k false) ops.size) ⟨by rw[zEH,zEH],by rw[zEG,zEG]⟩
     (fun t ht=>zGS _ fun k hk hne=>by
       rcases hbl k hk hne with ⟨h1,h2⟩|⟨h1,h2⟩
       ·obtain⟨b,hb,hind⟩:=before k h1 h2
        rw[dk hb];exact fun hd=>(zBU hind).1.1 t hd ht
       ·obtain⟨b,hb,hind⟩:=behind k h1 hk h2
        rw[dk hb];exact fun hd=>(zBU hind).1.2.2 t hd ht)
     (fun id hid=>zGR _ fun k hk hne=>by
       rcases hbl k hk hne with ⟨h1,h2⟩|⟨h1,h2⟩
       ·obtain⟨b,hb,hind⟩:=before k h1 h2
        exact fun h=>((zBU hind).2.1 id (List.mem_append_left _ h)).1 (List.mem_append_left _ hid)
       ·obtain⟨b,hb,hind⟩:=behind k h1 hk h2
        exact fun h=>(zBU hind).2.2 id (List.mem_append_left _ hid) (List.mem_append_left _ h))
     (fun id hid=>zGQ _ fun k hk hne=>by
       rcases hbl k hk hne with ⟨h1,h2⟩|⟨h1,h2⟩
       ·obtain⟨b,hb,hind⟩:=before k h1 h2
        exact fun h=>((zBU hind).2.1 id (List.mem_append_right _ h)).1 (List.mem_append_right _ hid)
       ·obtain⟨b,hb,hind⟩:=behind k h1 hk h2
        exact fun h=>(zBU hind).2.2 id (List.mem_append_right _ hid) (List.mem_append_right _ h))
     w0 a w hR
    rw[dk ho]at hadd;have nxt:∀a' w',Rel w0 ((zU ops e S0 (fun k=>l.getD k false) ops.size).eff o.dst (e i)) a' w'→wpAnyIn (fnc r0) 0 P .any ops Q (fuel+(ops.size-n)) (l.setIfInBounds i true) a' w':=fun a' w' hR'=>by
     refine ih _ a' w' (by simpa using hl) ?_ (fun j b hb hlj d hd=> ?_) (fun k hk=>by rw[zFf (by omega),if_neg (by omega)];exact htl k hk) (by rw[hadd];exact hR')
     ·rw[zIC (by omega) hun,show Nat.blt i n=true from Nat.blt_eq.mpr hi_n]
      simp only[cond_true]
      omega
     ·rw[zFf (by omega)]at hlj⊢
      by_cases hdi:d=i
      ·rw[if_pos hdi]
      ·rw[if_neg hdi]
       by_cases hji:j=i
       ·subst hji
        rw[ho]at hb
        cases hb
        obtain⟨ed,he,hbd,rfl⟩:=mem_deps.1 hd
        exact hall ed he hbd
       ·rw[if_neg hji]at hlj
        exact hcl j b hb hlj d hd
    unfold wpOpIn
    simp only[ho]
    rcases hloc with ⟨hw,hg⟩|⟨hw,hR'⟩
    ·rw[if_pos hw]
     exact hg.wpIn fun v w' hR'=>nxt _ _ hR'
    ·rw[if_neg (by simp[hw])]
     exact⟨fun _ _=>trivial,nxt _ _ hR'⟩


theorem zI0{l:List Oper}{e:Nat→Eff}{S:St}{n:Nat}:∀m,m≤n→n≤l.length→zU (l.take n).toArray e S (fun _=>true) m=zU l.toArray e S (fun _=>true) m
 |0,_,_=>rfl
 | m+1,h,hn=>by
   unfold zU;rw[zI0 m (by omega) hn];have:zAx (l.take n).toArray m=zAx l.toArray m:=by
    unfold zAx;rw[List.getElem?_toArray,List.getElem?_toArray,List.getElem?_take_of_lt (by omega)]
   rw[this]
def okTail(ops:Array Oper)(n:Nat)(fps:List (List Nat×List Nat)):Bool:=
 zEP ops fps && Nat.ble n ops.size && ((List.range ops.size).all fun t=>Nat.blt t n||(List.range n).all fun i=>Nat.testBit ((zJi ops.toList []).getD t 0) i) &&
  Region.seqB .any ops (ops.size-n) n ((List.range ops.size).map fun k=>Nat.blt k n).toArray
theorem zLk{ops:Array Oper}{Q:List (List Nat×List Nat)→St→Prop}:∀(l:List Oper) (acc:List (List Nat×List Nat)) (S:St),zDa P ops l acc S Q→
 ∃ (rd:Nat→List Nat) (e:Nat→Eff) (fps:List (List Nat×List Nat)),fps.length=l.length∧(∀i o,l[i]?=some o→LStep P ops o (rd i) (e i) (zU l.toArray e S (fun _=>true) i))∧(∀i,i<l.length→fps.getD i ([],[])=zBX rd e i)∧
   Q (acc.reverse++fps) (zU l.toArray e S (fun _=>true) l.length)
 | [],acc,S,h=>⟨fun _=> [],fun _=>⟨.tu [],[],[]⟩,[],rfl,fun i o h=>by simp at h,fun i h=>by simp at h,by simpa[zU,zDa]using h⟩
 | o::l,acc,S,⟨rd,e,hs,hk⟩=>by
   obtain⟨rd',e',fps,h0,h1,h2,h3⟩:=zLk l _ _ hk
   let rd2:Nat→List Nat:=fun i=>match i with|0=>rd|i+1=>rd' i
   let e2:Nat→Eff:=fun i=>match i with|0=>e|i+1=>e' i
   refine⟨rd2,e2,(rd++e.al,e.hs.map (·.1)++e.al)::fps,by simp[h0],fun i o' ho=> ?_,fun i hi=> ?_,?_⟩
   ·cases i with
    | zero=>
      obtain rfl:o=o':=by simpa using ho
      exact hs
    | succ i=>
      rw[zF1];exact h1 i o' (by simpa using ho)
   ·cases i with
    |zero=>rfl
    |succ i=>exact h2 i (by simpa using hi)
   ·rw[List.length_cons,zF1]
    simpa using h3
theorem zTI{r0:Option Nat}{id:Nat}{Q:Exit→Act→World→Prop}{QS:St→Prop}{w0:zI}{l:List Oper}{S:St}{a:Act}{w:World}(n:Nat)(hm:P.follows .mixedOrders=true)
 (h:AList P l.toArray (l.take n) [] S (fun fps S'=>okTail l.toArray n fps=true∧QS S')) (hR:Rel w0 S a w) (hQ:∀S a w,QS S→Rel w0 S a w→wpListIn (fnc r0) 0 P l.toArray Q (l.drop n) a w):(Code.region id l.toArray true).wpIn (fnc r0) 0 P Q a w:=by
 obtain⟨rd,e,fps,h0,h1,h2,h3,h4⟩:=zLk _ [] S h.get
 simp only[List.reverse_nil,List.nil_append,okTail,zEP,Bool.and_eq_true]at h3
 obtain⟨⟨⟨⟨k1,k2⟩,k3⟩,k4⟩,k5⟩:=h3
 have k3:=Nat.ble_eq.mp k3;have hn:n≤l.length:=by simpa using k3
 have hlt:(l.take n).length=n:=by rw[List.length_take];omega
 rw[hlt]at h2 h4;have hsz:l.toArray.size=l.length:=by simp
 refine wpIn_region_any hm ?_;have:=zPP (P:=P) (r0:=r0) (Q:=Q) (w0:=w0) (S0:=S) (rd:=rd) (e:=e) (n:=n) (zMO k2) k3 (fun t ht hts i hi=> ?_) h2 (fun i o hi ho=> ?_) (fun lb a w hl hk hR=> ?_) (zB5 (Array.replicate l.toArray.size false) n) (Array.replicate l.toArray.size false) a w.drew (by simp) rfl ?_ (fun k hk=> ?_) ?_
 ·rw[zIB _ _ k3,show n+(l.toArray.size-n)=l.toArray.size by omega]at this
  exact this
 ·have:=List.all_eq_true.1 k4 t (List.mem_range.2 hts)
  rw[Bool.or_eq_true]at this
  rcases this with h|h
  ·have:=Nat.blt_eq.mp h;omega
  ·exact List.all_eq_true.1 h i (List.mem_range.2 hi)
 ·have:=h1 i o (by rw[List.getElem?_take_of_lt hi];simpa using ho)
  rwa [zI0 i (by omega) hn]at this
 ·have hl0:lb=((List.range l.toArray.size).map fun k=>Nat.blt k n).toArray:=by
   refine Array.ext (by simp[hl]) fun k hk1 hk2=> ?_
   have:=hk k (by omega);rw[Array.getD_eq_getD_getElem?,Array.getElem?_eq_getElem hk1]at this
   simpa using this
  subst hl0;have hd:(l.drop n).length=l.toArray.size-n:=by simp
  rw[zI0 n (Nat.le_refl _) hn]at h4;have:=zKc (F:=fnc r0) (nd:=0) (md:=.any) (Q':=Q) (l.drop n) n _ a w (fun j=>by simp[List.getElem?_drop]) (by rw[hd];exact k5) (hQ _ a w h4 hR)
  rwa [hd]at this
 ·intro j o ho hj
  exfalso
  have h0:(Array.replicate l.toArray.size false).getD j false=false:=by simp[Array.getD_eq_getD_getElem?,Array.getElem?_replicate];split<;>rfl
  rw[h0]at hj
  cases hj
 ·simp[Array.getD_eq_getD_getElem?,Array.getElem?_replicate];split<;>rfl
 ·obtain⟨σ,hR⟩:=hR
  have hz:zU l.toArray e S (fun k=>(Array.replicate l.toArray.size false).getD k false) l.toArray.size=S:=by
   have:∀m,zU l.toArray e S (fun k=>(Array.replicate l.toArray.size false).getD k false) m=S:=by
    intro m
    induction m with
    |zero=>rfl
    | succ m ih=>
      unfold zU;rw[show(Array.replicate l.toArray.size false).getD m false=false by simp[Array.getD_eq_getD_getElem?,Array.getElem?_replicate];split<;>rfl]
      exact ih
   exact this _
  rw[hz]
  exact⟨σ,hR.drew (Ext.refl w).drew⟩
theorem zE2{id:Nat}{l:List Oper}{S:St}{Q:Exit→St→Prop}(n:Nat)(hm:P.follows .mixedOrders=true)(h:AList P l.toArray (l.take n) [] S (fun fps S'=>okTail l.toArray n fps=true∧ADie P l.toArray (l.drop n) S' Q)):AWp P (.region id l.toArray true) Q S:=⟨fun b0 a w hR=>
 zTI (QS:=fun S'=>ADie P l.toArray (l.drop n) S' Q) n hm h hR fun S a w h1 h2=>h1.get _ b0 a w _ h2 fun e S a w h3 h4=>⟨S,h3,h4⟩⟩
end
end Go.AV
end
section
namespace Go.Proofs.Ytbffmfeldkjkcaa
open Go.RowKit Go.Flow Go.AV Go.Plain
abbrev bxE:AB:=⟨false,1,1,43,lF [iC 0]⟩
theorem zTg{n k m:Nat}(h:k≤m):∃r,zBz n m=zBz n k++r:=by
 induction m with
 |zero=>obtain rfl:k=0:=Nat.le_zero.1 h;exact⟨[],rfl⟩
 | succ m ih=>
   by_cases e:k=m+1
   ·subst e;exact⟨[],(List.append_nil _).symm⟩
   ·obtain⟨r,hr⟩:=ih xD
    exact⟨r++zCQ n m,by show zBz n m++_=_;rw[hr,List.append_assoc]⟩
end Go.Proofs.Ytbffmfeldkjkcaa
end
section
namespace Go.Proofs.Ytbffmfeldkjkcaa
open Go.RowKit Go.Shelf Go.Flow Go.Plain
open Go.Proofs
attribute [local go_sem] zBf
attribute [local go_sem] Oper.semAt_some

def zC6(m:Nat)(dot:Nat→Bool):(j:Nat)→j≤m→List (Fin m)
 |0,_=> []
 |j+1,h=>zC6 m dot j (Nat.le_of_succ_le h)++(if dot j then [⟨j,h⟩]else [])
theorem zOA{m:Nat}{dot:Nat→Bool}:∀(j:Nat) (h:j≤m),(zC6 m dot j h).length≤j
 |0,_=>Nat.le_refl _
 | j+1,h=>by
   have:=zOA (dot:=dot) j (Nat.le_of_succ_le h);unfold zC6;rw[List.length_append]
   split<;>simp<;>omega
theorem zOB{m:Nat}{dot:Nat→Bool}(j:Nat)(h:j+1≤m):zC6 m dot (j+1) h=zC6 m dot j (Nat.le_of_succ_le h)++(if dot j then [⟨j,h⟩]else []):=rfl
theorem zOz{m:Nat}{dot p:Nat→Bool}:∀(j:Nat) (h:j≤m),(((zC6 m dot j h).filter fun x=>p x.val).length:Int)=cnt (fun k=>dot k && p k) j
 |0,_=>rfl
 | j+1,h=>by
   have:=zOz (dot:=dot) (p:=p) j (Nat.le_of_succ_le h);rw[zOB,List.filter_append,List.length_append,zDC,←this]
   cases hd:dot j<;>cases hp:p j<;>simp[hp]

abbrev zEE(Wn k:Nat):Value:=.agg #[.int .i64 ((k:Int)%Wn),.int .i64 ((k:Int)/Wn)]

theorem zQz(nd:Nat)(hn:1≤nd)(l Bn:Nat)(Wn Hn:Nat)(A:Option Addr)(m c:Nat)(dot:Nat→Bool)(hok:chk Wn Hn m=0)(w0 w:World)(hn0:w0.heap.size≤w.heap.size)(J Jx:List (Fin m)→World→Prop)
 (hY:∀pre (x:Fin m) W,J pre W→pre.length<m→YieldAt Fence.wide (nd-1) Try.prog l #[zEE Wn x.val] W fun e W'=>
   (e=.returned (.bool true)∧J (pre++ [x]) W'∧Keep2 w0.heap.size Bn W W')∨(e=.returned (.bool false)∧Jx (pre++ [x]) W'))
 (hJ:∀pre W W',J pre W→Ext W W'→J pre W')
 (hB:Blk w Bn 60 #[.int .i64 Wn,.int .i64 Hn,.slice A m c]) (hA:zDQ w0 A m dot) (h0w:Below w0.heap.size w0 w) (W:World) (hb:Keep2 w0.heap.size Bn w W) (h0:J [] W):
 CallsIn Fence.wide nd Try.prog 116 #[.func (.yield l) #[] #[],.pointer (some ⟨Bn,0,none⟩)] W fun e W'=>(∃v,e=.returned v)∧
  ((∃ys,ys=zC6 m dot m (Nat.le_refl _)∧J ys W')∨(∃pre,(∃k h,pre=zC6 m dot k h)∧Jx pre W')):=by
 have e1:(chk Wn Hn m !=0)=false:=by simp[hok]
 have hkw:=okB hok;have hm1:m≤9216:=by have:=zEx ⟨hkw.1,hkw.2.1⟩ ⟨hkw.2.2.1,hkw.2.2.2.1⟩;have:=hkw.2.2.2.2;omega
 have hkm:=hkw.2.2.2.2
 obtain⟨-,hw2,-,-,-⟩:=hkw
 replace hok:=Lib.hid hok
 replace hkm:=Lib.hid hkm
 have hR:∀V,Keep2 w0.heap.size Bn w V→(∀i,V.cell? ⟨Bn,i,none⟩= #[.int .i64 Wn,.int .i64 Hn,.slice A m c][i]?)∧Bn<V.heap.size:=fun V hV=>
  have hBV:Blk V Bn 60 #[.int .i64 Wn,.int .i64 Hn,.slice A m c]:=(hV.2 hB.lt).trans hB
  ⟨hBV.cell,hBV.lt⟩
 replace hR:=Lib.hid hR
 have hbl:=hB.lt
 obtain⟨hBc,hBl⟩:=hR.out W hb
 refine callsIn_of_wp Try.func116 rfl trivial ?_ rfl
 simp only[Try.ntmps116,List.size_toArray,List.length_cons,List.length_nil,Nat.reduceAdd,Nat.reduceSub,Array.replicate_succ,Array.replicate_zero,List.push_toArray,List.append_toArray,List.nil_append,List.cons_append]
 gi_wp2
 refine⟨trivial,callsIn_wide.2 ((zKS Wn Hn A m c W).mono ?_)⟩
 rintro e w1 ⟨rfl,hE1⟩
 replace h0:=hJ _ _ _ h0 hE1
 have hb1:=hb.trans (Keep2.of_ext hE1 (Nat.le_trans hn0 hb.1.size));clear hBc hBl
 obtain⟨hBc,hBl⟩:=hR.out w1 hb1
 gi_wp2
 gi_loopw [11] (fun i wr=>∃(k:Nat) (h:k≤m),i=.int .i64 k∧J (zC6 m dot k h) wr∧Keep2 w0.heap.size Bn w wr) (fun i _=>m-(intOf i).toNat)
 case atStart=>exact⟨0,Nat.zero_le _,rfl,h0,hb1⟩
 case round=>
  clear hBc hBl h0 hb1 hE1 hb
  obtain⟨k,hk,rfl,hJs,hbr⟩:=hrel
  have hlen:=zOA (dot:=dot) k hk
  obtain⟨hBc,hBl⟩:=hR.out wr hbr
  by_cases hlt:k<m
  ·have hlt':(k:Int)<m:=by omega
   have hs:=Lib.hid (zOB (dot:=dot) k hlt)
   obtain⟨ad,rfl,hc⟩:=hA k hlt
   have hcx:wr.cell? (ad.add k)=some (.bool (dot k)):=((h0w.trans hbr.1).cell (p:=ad.add k) (zJf hc |> (by rw[zBf];exact ·))).trans hc
   have hcl:ad.block<wr.heap.size:=Nat.lt_of_lt_of_le (zJf hc) (h0w.trans hbr.1).size;clear hc
   replace hbr:=Lib.hid hbr
   have hJr:=Lib.hid (fun V (hV:Ext wr V)=>hJ _ _ _ hJs hV);clear hJs;generalize hd:dot k=on at *
   cases on
   ·replace hd:=Lib.hid hd
    gi_wp2
    refine Flow.wpIn_flow Flow.Wide.wide 15 [(0,true),(1,true),(2,true),(3,true),(4,true),(5,true),(6,true),(7,true),(8,true),(9,true),(10,true),(11,true),(12,true),(13,true),(14,true)] xC xC ?_
    simp only[List.map_cons,List.map_nil,List.getD_cons_succ,List.getD_cons_zero]
    repeat (first
     | (refine Flow.WalkL.move rfl ?_
        simp only[Act.put,Act.eval,Array.getD_eq_getD_getElem?,List.getElem?_toArray,List.getElem?_cons_succ,List.getElem?_cons_zero,Option.getD_some,List.setIfInBounds_toArray,List.set_cons_zero,List.set_cons_succ])
     | (refine Flow.WalkL.assign rfl ?_
        simp only[Act.put,Act.eval,Array.getD_eq_getD_getElem?,List.getElem?_toArray,List.getElem?_cons_succ,List.getElem?_cons_zero,Option.getD_some,List.setIfInBounds_toArray,List.set_cons_zero,List.set_cons_succ])
     | (refine Flow.WalkL.run (v:= ?_) rfl (fun w1 hC=> ?_) ?_
        rotate_left
        ·obtain⟨hCc,hCf⟩:=hC.rules
         go_simp
         with_reducible rfl
        simp only[Act.put,List.setIfInBounds_toArray,List.set_cons_zero,List.set_cons_succ]))
    repeat (refine Flow.WalkL.skip rfl ?_;simp only[Act.put,List.setIfInBounds_toArray,List.set_cons_zero,List.set_cons_succ])
    repeat (first
     | (refine Flow.WalkL.move rfl ?_
        simp only[Act.put,Act.eval,Array.getD_eq_getD_getElem?,List.getElem?_toArray,List.getElem?_cons_succ,List.getElem?_cons_zero,Option.getD_some,List.setIfInBounds_toArray,List.set_cons_zero,List.set_cons_succ])
     | (refine Flow.WalkL.assign rfl ?_
        simp only[Act.put,Act.eval,Array.getD_eq_getD_getElem?,List.getElem?_toArray,List.getElem?_cons_succ,List.getElem?_cons_zero,Option.getD_some,List.setIfInBounds_toArray,List.set_cons_zero,List.set_cons_succ])
     | (refine Flow.WalkL.run (v:= ?_) rfl (fun w1 hC=> ?_) ?_
        rotate_left
        ·obtain⟨hCc,hCf⟩:=hC.rules
         go_simp
         with_reducible rfl
        simp only[Act.put,List.setIfInBounds_toArray,List.set_cons_zero,List.set_cons_succ]))
    refine Flow.WalkL.nil ?_
    simp only[List.drop]
    intro w2 hE2;have hJ2:=hJr.out _ hE2;have hb2:=hbr.out.trans (Keep2.of_ext hE2 (Nat.le_trans hn0 hbr.out.1.size))
    gi_wp2
    exact⟨⟨k+1,hlt,by go_num,by rw[hs.out];simpa using hJ2,hb2⟩,by simp only[intOf];omega⟩
   ·replace hd:=Lib.hid hd
    have hw0:(0:Int)<(Wn:Int):=by
     rcases Int.lt_or_le 0 (Wn:Int)with h1|h1
     ·exact h1
     ·have h:=hkm.out;rw[show(Wn:Int)=0 by omega,Int.zero_mul]at h;omega
    have hr0:=Int.emod_nonneg (k:Int) (show(Wn:Int)≠0 by omega);have hr1:=Int.emod_lt_of_pos (k:Int) hw0;have hq0:0≤(k:Int)/Wn:=Int.ediv_nonneg xD xD;have hq1:(k:Int)/Wn≤k:=Int.ediv_le_self _ xD;have hmd:(k:Int).tmod Wn=(k:Int)%Wn:=Int.tmod_eq_emod_of_nonneg xD;have hdv:(k:Int).tdiv Wn=(k:Int)/Wn:=Int.tdiv_eq_ediv_of_nonneg xD;have hwn:Wn≠0:=by omega
    have hwq:IntKind.i64.wrap ((k:Int)/Wn)=(k:Int)/Wn:=by rw[IntKind.wrap_i64];omega
    gi_wp2
    refine Flow.wpIn_flow Flow.Wide.wide 12 [(0,true),(1,true),(2,true),(3,true),(4,true),(5,true),(6,true),(7,true),(8,true),(9,true),(10,true),(11,true)] xC xC ?_
    simp only[List.map_cons,List.map_nil,List.getD_cons_succ,List.getD_cons_zero]
    repeat (first
     | (refine Flow.WalkL.move rfl ?_
        simp only[Act.put,Act.eval,Array.getD_eq_getD_getElem?,List.getElem?_toArray,List.getElem?_cons_succ,List.getElem?_cons_zero,Option.getD_some,List.setIfInBounds_toArray,List.set_cons_zero,List.set_cons_succ])
     | (refine Flow.WalkL.assign rfl ?_
        simp only[Act.put,Act.eval,Array.getD_eq_getD_getElem?,List.getElem?_toArray,List.getElem?_cons_succ,List.getElem?_cons_zero,Option.getD_some,List.setIfInBounds_toArray,List.set_cons_zero,List.set_cons_succ])
     | (refine Flow.WalkL.run (v:= ?_) rfl (fun w1 hC=> ?_) ?_
        rotate_left
        ·obtain⟨hCc,hCf⟩:=hC.rules
         go_simp
         with_reducible rfl
        simp only[Act.put,List.setIfInBounds_toArray,List.set_cons_zero,List.set_cons_succ]))
    refine Flow.WalkL.nil ?_
    simp only[List.drop]
    intro w2 hE2;have hJ2:=hJr.out _ hE2;have hb2:=Lib.hid (hbr.out.trans (Keep2.of_ext hE2 (Nat.le_trans hn0 hbr.out.1.size)))
    obtain⟨fn,tmps,assign,body,hy,hRd⟩:=hY _ ⟨k,hlt⟩ w2 hJ2 xD
    clear hmd hdv hwq hr0 hr1 hq0 hq1 hBc hcx
    gi_wp2
    refine hRd.mono ?_
    rintro e W3 (⟨rfl,hJ3,hk3⟩|⟨rfl,hJx3⟩)
    ·have hb3:=hb2.out.trans hk3
     gi_wp2
     exact⟨⟨k+1,hlt,by go_num,by rw[hs.out];simpa using hJ3,hb3⟩,by simp only[intOf];omega⟩
    ·gi_wp2
     refine bodyPost_ret (results_none rfl _ _ _) rfl ?_
     exact⟨⟨_,rfl⟩,.inr ⟨_,⟨k+1,hlt,by rw[hs.out];rfl⟩,hJx3⟩⟩
  ·obtain rfl:k=m:=by omega
   gi_wp2
   go_end0
   exact⟨⟨_,rfl⟩,.inl ⟨_,rfl,hJs⟩⟩

theorem zQA(W H:Int)(A:Option Addr)(m c:Nat)(w:World):
 Calls Try.prog 114 #[bmp W H A m c] w fun e w'=>e=.returned (.func (.func 116) #[] #[.pointer (some ⟨w.heap.size,0,none⟩)])∧w.alloc (.cells #[.int .i64 W,.int .i64 H,.slice A m c] 60)=w':=by
 go_enter Try.func114,Try.ntmps114
 go_wp2
 go_ret
 exact⟨rfl,rfl⟩

theorem zQB(nd:Nat)(hn:1≤nd)(Bn:Nat)(Wn Hn:Nat)(A:Option Addr)(m c:Nat)(dot:Nat→Bool)(hok:chk Wn Hn m=0)(w0 w:World)(h0w:Below w0.heap.size w0 w)
 (hB:Blk w Bn 60 #[.int .i64 Wn,.int .i64 Hn,.slice A m c]) (hA:zDQ w0 A m dot):
 SeqStopsK Fence.wide nd Try.prog 116 #[.pointer (some ⟨Bn,0,none⟩)] (fun x:Fin m=> #[zEE Wn x.val]) (Keep2 w0.heap.size Bn) (fun ys=>ys=zC6 m dot m (Nat.le_refl _)) (fun pre=>∃k h,pre=zC6 m dot k h) m w:=
 fun l J Jx W hW hJ _ hY h0=>zQz nd hn l Bn Wn Hn A m c dot hok w0 w h0w.size J Jx hY (fun pre V V' hs hE=>hJ pre V V' none hs ⟨hE.os,hE.tape,hE.output,hE.size,fun i hi _=>Below.block hE i hi⟩ (fun r e=>by cases e)) hB hA h0w W (Keep2.of_ext hW h0w.size) h0
attribute [local go_sem] zBf
attribute [local go_sem] Oper.semAt_some

theorem zIq{β:Type}(B:Nat)(t:TypeId)(f:β→Array Value):Own (fun s W=>Blk W B t (f s)):=fun s X Y row hs hg hrow=>
 (hg.block B (Blk.lt hs) (fun e'=>by obtain⟨o,ho,hc⟩:=hrow B e'.symm;rw[show X.heap[B]?=_ from hs]at ho;cases ho;cases hc)).trans hs

theorem zQt(Wn Hn:Nat)(A:Option Addr)(m c:Nat)(dot:Nat→Bool)(hok:chk Wn Hn m=0)(fv:FuncId)(cap:Array Value)(p:Nat→Bool)(w:World)(hA:zDQ w A m dot)
 (he:∀args w,(callFunc fv args).run Try.prog w=.ok (.enter fv args) w)
 (hh:∀k,k<m→∀w1,Ext w w1→Calls Try.prog fv (#[zEE Wn k]++cap) w1 fun e w'=>e=.returned (.bool (p k))∧Ext w1 w'):
 Calls Try.prog 110 #[bmp Wn Hn A m c,.func (.func fv) #[] cap] w fun e w'=>e=.returned (.int .i64 (cnt (fun k=>dot k && p k) m))∧Ext w w':=by
 refine(callsIn_wide (n:=5)).1 ?_
 refine callsIn_of_wp_marks Try.func110 rfl trivial ?_ rfl
 simp only[Try.ntmps110,List.size_toArray,List.length_cons,List.length_nil,Nat.reduceAdd,Nat.reduceSub,Array.replicate_succ,Array.replicate_zero,List.push_toArray,List.append_toArray,List.nil_append,List.cons_append]
 gi_wp2
 refine⟨trivial,callsIn_wide.2 ((zQA Wn Hn A m c _).mono ?_)⟩
 rintro e w1 ⟨rfl,hw1⟩
 have bP:Blk w1 (w.heap.size+1) 182 #[.func (.func fv) #[] cap]:=by
  subst hw1;exact((zGF (by simp) _ _).alloc _).alloc _
 have bN:Blk w1 (w.heap.size+1+1) 3 #[.int .i64 0]:=by
  subst hw1;exact(zGF (by simp) _ _).alloc _
 have bB:Blk w1 (w.heap.size+1+1+1) 60 #[.int .i64 Wn,.int .i64 Hn,.slice A m c]:=by
  subst hw1;exact zGF (by simp) _ _
 have hE:Ext w w1:=by subst hw1;exact(((Ext.refl w).alloc _).alloc _ |>.alloc _).alloc _
 have hsz:w1.heap.size=w.heap.size+4:=by subst hw1;simp
 clear hw1
 gi_wp2
 have hlen:m≤9216:=by
  have hkw:=okB hok;have:=zEx ⟨hkw.1,hkw.2.1⟩ ⟨hkw.2.2.1,hkw.2.2.2.1⟩;have:=hkw.2.2.2.2;omega
 refine wpIn_rangeFunc_ownH (F:=Fence.wide) rfl xD (gf:=116) (lb:= #[.pointer (some ⟨w.heap.size+1+1+1,0,none⟩)]) rfl trivial (enters_of Try.func116 xC rfl)
  (zQB (5-1) xD (w.heap.size+1+1+1) Wn Hn A m c dot hok w w1 hE bB hA) Keep2.trans (Keep2.put xD xD) (Below.refl _ _) (fun _=>rfl)
  (fun pre W=>(Blk W (w.heap.size+1) 182 #[.func (.func fv) #[] cap]∧Blk W (w.heap.size+1+1) 3 #[.int .i64 ((pre.filter fun x:Fin m=>p x.val).length:Int)])∧Below w.heap.size w W)
  (fun _ _ _=>False)
  (OwnFrom.and (OwnFrom.and (Own.from (zIq _ _ _) _) (Own.from (zIq _ _ _) _)) (ownFrom_below (Nat.le_refl _) xD))
  (fun _ _ _ _ _ hs _ _=>hs)
  ⟨⟨bP,bN⟩,hE⟩
  (fun x a' W=>∃Bx,w.heap.size+1+1<Bx∧Blk W Bx 179 #[.int .i64 ((x.val:Int)%Wn),.int .i64 ((x.val:Int)/Wn)]∧a'={tmps:= #[bmp Wn Hn A m c,.func (.func fv) #[] cap,.pointer (some ⟨w.heap.size,0,none⟩),.pointer (some ⟨w.heap.size+1,0,none⟩),.int .i64 0,.pointer (some ⟨w.heap.size+1+1,0,none⟩),.pointer (some ⟨Bx,0,none⟩),bmp Wn Hn A m c,.func (.func 116) #[] #[.pointer (some ⟨w.heap.size+1+1+1,0,none⟩)],zEE Wn x.val,undef,undef,undef,undef,undef,undef],defers:= []})
  (fun x a' _ X Y row hs hg hr=>by obtain⟨Bx,h1,h2,h3⟩:=hs;exact⟨Bx,h1,zIq Bx 179 (fun (_:Unit)=> #[Value.int .i64 ((x.val:Int)%Wn),.int .i64 ((x.val:Int)/Wn)]) () X Y row h2 hg (fun r e=>(hr r e).2),h3⟩)
  ?assign ?body ?done ?stop
 case assign=>
  rintro l pre x W K ⟨⟨bP1,bN1⟩,hB1⟩ hK
  gi_wp2
  exact hK _ _ ((KeepsOthers.alloc _ _).from _) (Keep2.of_ext ((Ext.refl W).alloc _) hB1.size) ⟨⟨bP1.alloc _,bN1.alloc _⟩,hB1.alloc hB1.size _⟩ ⟨W.heap.size,bN1.lt,Blk.new W _ _,rfl⟩
 case body=>
  rintro l pre x a' W hl ⟨r,hr⟩ ⟨⟨bP1,bN1⟩,hB1⟩ ⟨Bx,hBx,bX,rfl⟩ hlt
  obtain⟨pc,pf,pl⟩:=bP1.rules
  obtain⟨xc,xf,xl⟩:=bX.rules
  have hEW:Ext w W:=hB1;have hcnt:(pre.filter fun x:Fin m=>p x.val).length≤m:=Nat.le_trans (List.length_filter_le _ _) (Nat.le_of_lt hlt)
  cases hp:p x.val
  ·gi_wp2
   refine⟨trivial,CallsIn.inRound l (callsIn_wide.2 ((hh x.val x.isLt W hEW).mono ?_))⟩
   rintro e W2 ⟨rfl,hE2⟩
   rw[hp]
   gi_wp2
   have hX:(pre++ [x]).filter (fun x:Fin m=>p x.val)=pre.filter (fun x:Fin m=>p x.val):=by simp[hp]
   exact⟨KeepsFrom.of_grownBy (zMP hE2 none) (fun j e=>by cases e),Keep2.of_ext hE2 hB1.size,⟨bP1.ext hE2,by rw[hX];exact bN1.ext hE2⟩,hEW.trans hE2⟩
  ·gi_wp2
   refine⟨trivial,CallsIn.inRound l (callsIn_wide.2 ((hh x.val x.isLt W hEW).mono ?_))⟩
   rintro e W2 ⟨rfl,hE2⟩
   rw[hp];have bN2:=bN1.ext hE2
   obtain⟨nc,nf,nl⟩:=bN2.rules
   clear pc pf pl xc xf xl
   gi_wp2
   have hX:((pre++ [x]).filter (fun x:Fin m=>p x.val)).length=(pre.filter (fun x:Fin m=>p x.val)).length+1:=by simp[hp]
   exact⟨(KeepsFrom.of_grownBy (zMP hE2 none) (fun j e=>by cases e)).trans ((KeepsOthers.setCell _ _ _).from _),(Keep2.of_ext hE2 hB1.size).trans (Keep2.set_ (by simp;omega) (by simp) _),
    ⟨(bP1.ext hE2).far (by simp) _,by rw[hX];exact bN2.set_ 0 _⟩,(hEW.trans hE2).setCell (by simp;omega) _⟩
 case done=>
  rintro D zs W hD rfl ⟨⟨bP1,bN1⟩,hB1⟩ hK
  obtain⟨nc,nf,nl⟩:=bN1.rules
  rw[zOz]at nc
  gi_wp2
  refine⟨by simp,.inl ⟨_,_,rfl,run_takeDeferred hK,?_⟩⟩
  exact⟨_,results_tmp rfl _ _ _,rfl,hB1.trans (belowK_b (w:=w) (Nat.le_refl _) W D _ _ xD hK rfl rfl)⟩
 case stop=>
  rintro D c pre W _ _ h _
  exact h.elim
end Go.Proofs.Ytbffmfeldkjkcaa
end
section
namespace Go.Proofs.Ytbffmfeldkjkcaa
open Go.RowKit Go.Flow Go.AV Go.Plain
theorem zL2(p:Nat→Bool)(W:Nat):∀H:Nat,cnt p (H*W)=zAl (fun j=>cnt (fun i=>p (j*W+i)) W) H
 |0=>by rw[Nat.zero_mul];rfl
 | H+1=>by
   rw[Nat.succ_mul];show zAl _ (H*W+W)=_;rw[zFv];show cnt p (H*W)+_=_;rw[zL2 p W H]
   rfl
end Go.Proofs.Ytbffmfeldkjkcaa
end
section
namespace Go.AV
open Go Go.RowKit Go.Flow
theorem ACalls.toOld{P:Program}{f:FuncId}{args:List V1}{v:Value}(h:ACalls P f args (.c (.p v)))(w:World)(vals:List Value)(hv:RepL (RepV (fun _=>none) (fun _=>False) w) args vals):Calls P f vals.toArray w fun e w'=>e=.returned v∧Ext w w':=by
 obtain⟨b0,hb,hX,hY,hF⟩:∃b0:zI,b0.w=w∧b0.X=(fun _=>False)∧b0.Y=(fun _=>False)∧b0.fix=fun _=>none:=
  ⟨⟨w,fun _=>False,fun _=>False,fun _=>none,fun _ h=>h.elim,fun _ h=>h.elim,fun _ h=>h.elim,(fun _ _ h=>by cases h),fun _ _=>False,fun _ _ _=>True,none,fun _ _ h=>h,fun _ _ _ _ _ _ _ _=>trivial⟩,rfl,rfl,rfl,rfl⟩
 subst hb;have hout:∀b,¬out b0 b0.fix (zB []) b:=fun b hb=>by
  rcases hb with ⟨i,v,h1,_⟩|hb
  ·exact h1 rfl
  ·rw[hX]at hb;exact hb
 refine(h b0 vals ⟨fun i B hB=>(by cases hB),fun i j v1 v2 b hi=>absurd rfl hi,fun b ⟨i,v,h1,_⟩=>absurd rfl h1,fun i v hi=>(by rw[hF]at hi;cases hi),fun _ _ _=>by rw[hF]⟩ (fun i v hi=>by rw[hF]at hi;cases hi) (fun b hb=>by rw[hY]at hb;exact hb.elim) ?_).mono fun e w' ⟨u,h1,h2,_,h4⟩=>⟨?_,h4.ext (Ext.refl _) (fun b hb=>by rw[hY]at hb;exact hb.elim)⟩
 ·rw[hF]
  exact hv.mono fun x u hx=>hx.keep (Keep.of_ext (Ext.refl _)) (fun b hb=>(hout b (by rw[hF];exact hb)).elim) fun _ _ h=>h
 ·rw[h1]
  have:u=v:=h2.2;rw[this]
end Go.AV
namespace Go.Proofs.Ytbffmfeldkjkcaa
open Go.RowKit Go.Flow Go.AV Go.Plain
theorem zQ3{W H:Int}{n k:Nat}(h:chk W H n=0)(hk:k<n):(0<W∧W≤96)∧(0≤(k:Int)%W∧(k:Int)%W<W)∧0≤(k:Int)/W∧(k:Int)/W<H:=by
 obtain⟨h1,h2,h3,h4,h5⟩:=okB h
 have hW:0<W:=by
  rcases Int.lt_or_eq_of_le h1 with h|h
  ·exact h
  ·subst h
   rw[Int.zero_mul]at h5
   omega
 refine⟨⟨hW,h2⟩,⟨Int.emod_nonneg _ xD,Int.emod_lt_of_pos _ hW⟩,Int.ediv_nonneg xD xD,?_⟩
 refine Int.ediv_lt_of_lt_mul hW ?_;rw[Int.mul_comm]
 omega
def zG0(m:Nat)(C:Nat→CV):List V1:=(List.range m).map fun i=>V1.c (C i)
theorem zQr(a:Bp)(ha:chk a.W a.H a.n=0)(fv m:Nat)(C:Nat→CV)(hC:∀i,i<m→zM (C i)=true)(p:Int→Int→Bool)(he:∀args w,(callFunc fv args).run Try.prog w=.ok (.enter fv args) w)
 (hp:∀x y:Int,0≤x→x<a.W→0≤y→y<a.H→ACalls Try.prog fv (.ag [iC x,iC y]::zG0 m C) (.c (bC (p x y)))):
 ACalls Try.prog 110 [.ag (bpC a),.c (.fi fv m C)] (.c (iC (cnt (fun k=>a.d k && p ((k:Int)%a.W) ((k:Int)/a.W)) a.n))):=
 zE0 rfl fun O w vals h=>by
  obtain⟨b,q,rfl,h1,h2⟩:=zIn h
  obtain⟨A,c,rfl,-,hA⟩:=zFr h1
  obtain⟨-,vs,rfl,f2,f3⟩:q.oneCell'=true∧RepI O w (.fi fv m C) q:=h2
  obtain⟨h0,h1',h2',h3',hn⟩:=okB ha
  obtain⟨Wn,hWn⟩:=Int.eq_ofNat_of_zero_le h0
  obtain⟨Hn,hHn⟩:=Int.eq_ofNat_of_zero_le h2'
  have ha':=ha;rw[hWn,hHn]at ha';show Calls _ _ #[bmp a.W a.H A a.n c,.func (.func fv) #[] vs.toArray] w _;rw[hWn,hHn];refine zQt Wn Hn A a.n c a.d ha' fv vs.toArray (fun k=>p ((k:Int)%Wn) ((k:Int)/Wn)) w hA he fun k hk w1 hE=> ?_
  have hkd:=zQ3 ha hk;rw[hWn,hHn]at hkd;have hc:=(hp ((k:Int)%Wn) ((k:Int)/Wn) hkd.2.1.1 (by rw[hWn];exact hkd.2.1.2) hkd.2.2.1 (by rw[hHn];exact hkd.2.2.2)).toOld w1 (zEE Wn k::vs) ⟨⟨[.int .i64 ((k:Int)%Wn),.int .i64 ((k:Int)/Wn)],rfl,⟨rfl,rfl⟩,⟨rfl,rfl⟩,trivial⟩,zA0 (by simp[zG0,f2]) fun i x v q1 q2=> ?_⟩
  ·rw[show(#[zEE Wn k]++vs.toArray:Array Value)=(zEE Wn k::vs).toArray from Array.ext' (by simp)]
   exact hc
  ·have hi:i<m:=by have:=(List.getElem?_eq_some_iff.1 q1).1;simpa[zG0]using this
   unfold zG0 at q1;rw[List.getElem?_map,List.getElem?_range hi]at q1
   cases q1
   obtain⟨v',e1,e2,e3⟩:=f3 i hi
   rw[q2]at e1
   cases e1
   exact zBx (hC i hi) e2 (e3.keep (Keep.of_ext hE) fun b hb=>hb.elim)
abbrev plB(b:Bp):CV:=.pl 1 3 (lF (bpC b)) 0 0
def zGc(b:Bp)(dx dy fr ti:Int)(x y:Int):Bool:=(decide (x<fr)||decide (ti≤x)) && !zAq b.W b.H b.d (x-dx) (y-dy)
theorem zRJ(b:Bp)(hb:chk b.W b.H b.n=0)(dx dy fr ti x y:Int)(hx:-1000≤dx∧dx≤1000)(hy:-1000≤dy∧dy≤1000)(h1:0≤x∧x≤1000)(h2:0≤y∧y≤1000):
 ACalls Try.prog 111 [.ag [iC x,iC y],.c (pl1 (iC fr)),.c (pl1 (iC ti)),.c (plB b),.c (pl1 (iC dx)),.c (pl1 (iC dy))] (.c (bC (zGc b dx dy fr ti x y))):=by
 have hH:=zMR b.W b.H b.n b.d (x-dx) (y-dy) hb;unfold zGc;generalize zAq b.W b.H b.d (x-dx) (y-dy)=o at *;by_cases c1:x<fr
 ·rw[decide_eq_true c1]
  cases o
  all_goals
   refine zK Try.func111 rfl rfl Try.ntmps111 rfl ?_
   repeat (first
    |refine vB [0] ?_
    | (refine rG 1 ?_
       (iterate 21 refine vA ?_);refine xB Try.func107 hH ?_;refine xE3 ?_;refine aB ?_))
  ·refine⟨zD 32 [(7,.c (bC true))] [] [],[],Wk.mk [] rfl rfl rfl ?_ trivial,rfl,rfl,aR1⟩
   exact zC
  ·refine⟨zD 32 [(7,.c (bC false))] [] [],[],Wk.mk [] rfl rfl rfl ?_ trivial,rfl,rfl,aR1⟩
   exact zC
 ·rw [decide_eq_false c1]
  by_cases c2:ti≤x
  ·have c2':x≥ti:=c2
   rw[decide_eq_true c2]
   cases o
   all_goals
    refine zK Try.func111 rfl rfl Try.ntmps111 rfl ?_
    repeat (first
     |refine vB [0] ?_
     | (refine rG 1 ?_
        (iterate 21 refine vA ?_);refine xB Try.func107 hH ?_;refine xE3 ?_;refine aB ?_))
   ·refine⟨zD 32 [(7,.c (bC true))] [] [],[],Wk.mk [] rfl rfl rfl ?_ trivial,rfl,rfl,aR1⟩
    exact zC
   ·refine⟨zD 32 [(7,.c (bC false))] [] [],[],Wk.mk [] rfl rfl rfl ?_ trivial,rfl,rfl,aR1⟩
    exact zC
  ·have c2':¬x≥ti:=c2
   rw[decide_eq_false c2];refine zK Try.func111 rfl rfl Try.ntmps111 rfl ?_;refine vB [0,1] ?_
   refine⟨zD 32 [(7,.c (bC false))] [] [],[],Wk.mk [] rfl rfl rfl ?_ trivial,rfl,rfl,aR1⟩
   exact zC
end Go.Proofs.Ytbffmfeldkjkcaa
end
