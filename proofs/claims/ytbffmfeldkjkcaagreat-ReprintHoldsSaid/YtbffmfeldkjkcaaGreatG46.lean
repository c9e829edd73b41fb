/- Parts of the proof: AIfc, A29p, ADfr, A29u, A29v, A30q, A30r, A30s, A30t, A30u, A30ro. -/
import Derived.Test.YtbffmfeldkjkcaaGreatG44
import Derived.Test.YtbffmfeldkjkcaaGreatG45
import Derived.RecoverIn
set_option linter.unusedSimpArgs false
set_option linter.unusedVariables false
set_option maxHeartbeats 0
set_option maxRecDepth 100000
section
namespace Go.AV
open Go Go.RowKit Go.Flow
variable{P:Program}{ops:Array Oper}{rest:List Oper}{acc:List (List Nat×List Nat)}{S:St}{Q:List (List Nat×List Nat)→St→Prop}{dst:Option Tmp}{ty:TypeId}{pos:String}{after:Array Edge}{guard:Option (Nat×Bool)}
theorem ADie.weak{l:List Oper}{S':St}{R:Exit→St→Prop}(hw:Wk S S')(h:ADie P ops l S' R):ADie P ops l S R:=⟨fun rd b0 a w K hR hK=>h.get rd b0 a w K (hw b0 a w hR) hK⟩
end Go.AV
end
section
namespace Go.Proofs.YtbffmfeldkjkcaaGreat
open Go.RowKit Go.Flow Go.AV Go.Plain
theorem zSc(a b:Stp)(w:World):(Go.binOp .eql 68 (.agg #[.int .i64 a.nm,.int .i64 a.ch,.int .i64 a.wi,.int .i64 a.rd,.bool a.dp,.int .i64 a.cl.dx,.int .i64 a.cl.dy,.int .i64 a.cl.col]) (.agg #[.int .i64 b.nm,.int .i64 b.ch,.int .i64 b.wi,.int .i64 b.rd,.bool b.dp,.int .i64 b.cl.dx,.int .i64 b.cl.dy,.int .i64 b.cl.col])).run Tryz.prog w=.ok (.bool (decide (a=b))) w:=by
 have hp:Tryz.prog.stoodInHeld 68=false:=by kernel_rfl
 obtain⟨a0,a1,a2,a3,a4,a5,a6,a7⟩:=a
 obtain⟨b0,b1,b2,b3,b4,b5,b6,b7⟩:=b
 go_simp
 by_cases e0:a0=b0<;>by_cases e1:a1=b1<;>by_cases e2:a2=b2<;>by_cases e3:a3=b3<;>by_cases e4:a4=b4<;>by_cases e5:a5=b5<;>by_cases e6:a6=b6<;>by_cases e7:a7=b7<;>simp[e0,e1,e2,e3,e4,e5,e6,e7]
end Go.Proofs.YtbffmfeldkjkcaaGreat
end
section
namespace Go.AV
open Go Go.RowKit Go.Flow
def Ins(t:Tmp)(v:Value)(d:Deferred)(ds:List Deferred)(a a':Act):Prop:=a'.tmps=a.tmps∧a.tmps.getD t undef=v∧∃pre,a.defers=pre++ds∧a'.defers=pre++d::ds
theorem Ins.eval{t:Tmp}{v:Value}{d:Deferred}{ds:List Deferred}{a a':Act}(h:Ins t v d ds a a'):a'.eval=a.eval:=by
 funext x
 cases x<;>simp[Act.eval,h.1]
theorem Ins.put{t:Tmp}{v:Value}{d:Deferred}{ds:List Deferred}{a a':Act}(h:Ins t v d ds a a'){dst:Option Tmp}(hd:dst≠some t){u:Value}:Ins t v d ds (a.put dst u) (a'.put dst u):=by
 obtain⟨h1,h2,pre,h3,h4⟩:=h
 refine⟨?_,?_,pre,by rw[zEN];exact h3,by rw[zEN];exact h4⟩
 ·cases dst<;>simp[Act.put,h1]
 ·cases dst with
  |none=>exact h2
  | some k=>
    have:t≠k:=fun e=>hd (by rw[e])
    simp only[Act.put,Array.getD_eq_getD_getElem?]at h2⊢
    rw[Array.getElem?_setIfInBounds_ne (Ne.symm this)];exact h2
theorem zOg{F:Fence}{n:Nat}{P:Program}{ops:Array Oper}{Q Q':Exit→Act→World→Prop}{t:Tmp}{v:Value}{d:Deferred}{ds:List Deferred}(hQ:∀e a a' w,Ins t v d ds a a'→Q e a w→Q' e a' w)(hout:LetsOut Q→LetsOut Q'):
 ∀(l:List Oper) (a a':Act) (w:World),(∀o∈l,o.dst≠some t)→Ins t v d ds a a'→wpListIn F n P ops Q l a w→wpListIn F n P ops Q' l a' w
 | [],a,a',w,_,hi,h=>hQ _ _ _ _ hi h
 | o ::l,a,a',w,hl,hi,h=>by
   have hlo:=hl o (List.mem_cons_self ..);have ih:=fun a a' w hi=>zOg (F:=F) (n:=n) (P:=P) (ops:=ops) hQ hout l a a' w (fun o ho=>hl o (List.mem_cons_of_mem _ ho)) hi
   unfold wpListIn at h⊢;rw[show yielded ops a'.tmps=yielded ops a.tmps by rw[hi.1]];by_cases hw:Region.wanted o (yielded ops a.tmps)=true
   ·rw[if_pos hw]at h⊢
    obtain⟨h1,h2⟩:=h
    refine⟨by rw[hi.eval];exact h1,?_⟩
    rw[hi.eval];generalize (o.semAt F.round a.eval).run P w=r at h2⊢;unfold Oper.uponIn at h2⊢
    split at h2
    ·exact ih _ _ _ (hi.put hlo) h2
    ·exact ih _ _ _ (hi.put hlo) h2
    ·rename_i d' w'
     refine ih _ _ _ (Ins.put ?_ hlo) h2
     obtain⟨k1,k2,pre,k3,k4⟩:=hi
     exact⟨k1,k2,d'::pre,by rw[List.cons_append,←k3],by rw[List.cons_append,←k4]⟩
    ·refine⟨h2.1,h2.2.mono fun e w' he=> ?_⟩
     cases e with
     |returned u=>exact ih _ _ _ (hi.put hlo) he
     |panicked ch=>exact hQ _ _ _ _ hi he
     |outgrown=>exact hout he
    ·exact⟨h2.1,h2.2.mono fun u w' he=>ih _ _ _ (hi.put hlo) he⟩
    ·refine⟨h2.1,h2.2.mono fun e w' he=> ?_⟩
     cases e with
     |returned u=>exact ih _ _ _ (hi.put hlo) he
     |panicked ch=>exact hQ _ _ _ _ hi he
     |outgrown=>exact hout he
    ·exact hQ _ _ _ _ hi h2
    ·exact h2.elim
   ·rw[if_neg hw]at h⊢
    exact⟨by rw[hi.eval];exact h.1,ih _ _ _ (hi.put hlo) h.2⟩
structure DWp(P:Program)(t:Tmp)(c:Code)(Q:Exit→St→Prop)(S:St):Prop where
 get:∀b0 a a' w v d ds,Rel b0 S a w→Ins t v d ds a a'→c.wpIn (fnc b0.rd) 0 P (fun e a' w'=>∃S' a,Rel b0 S' a w'∧Ins t v d ds a a'∧Q e S') a' w
section
variable{P:Program}{t:Tmp}{Q:Exit→St→Prop}{S:St}
theorem zQc{b0:zN}{v:Value}{d:Deferred}{ds:List Deferred}(hQ:∀S,¬Q .outgrown S):LetsOut (fun e a w=>∃S',Rel b0 S' a w∧Q e S')→LetsOut (fun e a' w=>∃S' a,Rel b0 S' a w∧Ins t v d ds a a'∧Q e S'):=
 fun ⟨_,_,S',_,h⟩=>(hQ S' h).elim
theorem DWp.text{id:Nat}{l:List Oper}(hl:l.all (fun o=>o.dst !=some t)=true)(hQ:∀S,¬Q .outgrown S)(h:AText P l.toArray l S (fun S'=>Q .normal S')):DWp P t (.region id l.toArray false) Q S:=⟨fun b0 a a' w v d ds hR hi=>
 wpIn_region_lit (zOg (Q:=fun e a w=>∃S',Rel b0 S' a w∧Q e S') (fun e a a' w hi ⟨S',h1,h2⟩=>⟨S',a,h1,hi,h2⟩) (zQc hQ) l a a' w (fun o ho=>by have:=List.all_eq_true.1 hl o ho;simpa using this) hi (h.get _ b0 a w _ hR fun S a w h1 h2=>⟨S,h1,h2⟩))⟩
theorem DWp.seq{x y:Code}(h:DWp P t x (zCe (DWp P t y Q) Q) S):DWp P t (.seq x y) Q S:=⟨fun b0 a a' w v d ds hR hi=>
 wpIn_seq (wpIn_mono (h.get b0 a a' w v d ds hR hi) fun e a' w ⟨S',a,h1,h2,h3⟩=>by cases e<;>first|exact h3.get b0 a a' w v d ds h1 h2|exact⟨S',a,h1,h2,h3⟩)⟩
theorem DWp.ret(h:Q .ret S):DWp P t .ret Q S:=⟨fun b0 a a' w v d ds hR hi=>wpIn_ret ⟨S,a,hR,hi,h⟩⟩
structure ADt(P:Program)(t:Tmp)(g:FuncId)(ops:Array Oper)(l:List Oper)(S S2:St):Prop where
 get:∀b0 a w (K:Exit→Act→World→Prop),b0.rd=none→Rel b0 S a w→(∀a a' w v ds,Rel b0 S2 a w→Ins t v {target:=.fn (.func g) #[v],args:= #[]} ds a a'→K .normal a' w)→wpListIn (fnc b0.rd) 0 P ops K l a w
theorem ADt.split{g:FuncId}{ops:Array Oper}{l:List Oper}{S2:St}(n:Nat)(h:AList P ops (l.take n) [] S (fun _ S1=>ADt P t g ops (l.drop n) S1 S2)):ADt P t g ops l S S2:=⟨fun b0 a w K hrd hR hK=>by
 have key:∀(l1:List Oper) (l2:List Oper) (acc:List (List Nat×List Nat)) (S:St) (a:Act) (w:World),zDG P ops l1 acc S (fun _ S1=>ADt P t g ops l2 S1 S2)→Rel b0 S a w→wpListIn (fnc b0.rd) 0 P ops K (l1++l2) a w:=by
  intro l1 l2
  induction l1 with
  |nil=>exact fun acc S a w h hR=>h.get b0 a w K hrd hR hK
  | cons o l1 ih=>
    rintro acc S a w ⟨rd',e,hs,hk⟩ hR
    rw[List.cons_append];unfold wpListIn
    rcases hs.at hR with ⟨hw,hg⟩|⟨hw,hR'⟩
    ·rw[if_pos hw]
     exact hg.wpIn fun v w' hR'=>ih _ _ _ _ hk hR'
    ·rw[if_neg (by simp[hw])]
     exact⟨fun _ _=>trivial,ih _ _ _ _ hk hR'⟩
 have:=key (l.take n) (l.drop n) [] S a w h.get hR
 rwa [List.take_append_drop]at this⟩
theorem ADt.defer{g:FuncId}{ops:Array Oper}{S2:St}{z:Operand}{C:Nat→CV}{o:Nat}{ty:TypeId}{pos:String}{after:Array Edge}{guard:Option (Nat×Bool)}
 (hw:S.wants ops {dst:=none,op:=.defer {callee:=.value z,args:= #[],argTypes:= #[]},type:=ty,pos,after,guard}=some true)
 (hz:S.opd z=some (.c (.fn g 1 C))) (hC:C 0=.pt o 1 0 0) (ht:S.t t=some (.c (.pt o 1 0 0))) (hS:Wk S S2):ADt P t g ops [{dst:=none,op:=.defer {callee:=.value z,args:= #[],argTypes:= #[]},type:=ty,pos,after,guard}] S S2:=⟨fun b0 a w K hrd hR hK=>by
 have hR0:=hR
 obtain⟨σ,R⟩:=hR
 unfold wpListIn;rw[if_pos (zC8 R hw)]
 refine⟨by rw[hrd];exact fun _ _=>trivial,?_⟩
 obtain⟨-,vs,e1,e2,e3⟩:=zW R hz
 obtain⟨u,f1,f2,f3⟩:=e3 0 (by omega)
 rw[hC]at f3
 obtain⟨v1,b1,g1,g2,g3⟩:=f3
 obtain⟨-,v2,b2,k1,k2,k3⟩:=R.sl t _ ht
 have huv:u=a.tmps.getD t undef:=by
  rw[g1]at k1
  cases k1
  rw[g2]at k2
  cases k2
  rw[g3,k3]
 have hvs:vs= [u]:=by
  match vs,e2,f1 with
  | [x],_,h=>cases h;rfl
 subst hvs;have hrun:(Oper.semAt (fnc b0.rd).round a.eval {dst:=none,op:=.defer {callee:=.value z,args:= #[],argTypes:= #[]},type:=ty,pos,after,guard}).run P w=.ok (.defer {target:=.fn (.func g) #[u],args:= #[]}) w:=by
  rw[hrd,show(fnc none).round=none from rfl,Oper.semAt_none]
  simp[execOp,resolve,e1,Deferred.ofValue]
 rw[hrun,Oper.uponIn_defer];show K .normal _ w;refine hK a _ w u a.defers (hS b0 a w hR0) ⟨rfl,huv.symm,[],rfl,?_⟩
 rfl⟩
end
theorem Marks.same{n0:Nat}{w w':World}(h:∀D:Nat,w.heap[D]?=some (Obj.deferred (some []))→w'.heap[D]?=w.heap[D]?):∀{ds:List Deferred},Marks n0 ds w→Marks n0 ds w'
 | [],_=>trivial
 |_::_,⟨⟨D,e1,e2,e3,e4⟩,hm⟩=>⟨⟨D,e1,e2,(h D e3).trans e3,e4⟩,Marks.same h hm⟩
theorem Marks.put{n0 D:Nat}{w:World}:∀{ds:List Deferred},(∀d'∈ds,d'≠{target:=.collected D,args:= #[]})→Marks n0 ds w→Marks n0 ds (w.putObj D (.deferred none))
 | [],_,_=>trivial
 |_::ds,h4,⟨⟨D',f1,f2,f3,f4⟩,hm⟩=>⟨⟨D',f1,f2,(World.putObj_heap_other fun e=>by subst e;exact h4 _ (List.mem_cons_self ..) f1).trans f3,f4⟩,Marks.put (fun d hd=>h4 d (List.mem_cons_of_mem _ hd)) hm⟩
end Go.AV
end
section
namespace Go.Proofs.YtbffmfeldkjkcaaGreat
open Go.RowKit Go.Flow Go.AV Go.Plain
def zIC(p:Pb):Nat→List Int→Bool
 |0,_=>false
 |m+1,ch=>(List.range (p.C.getD ch.length []).length).all fun c=> !(zCd p ch c).dp||zIC p m (ch++ [(c:Int)])
theorem zLZ(p:Pb):∀(m:Nat) (ch:List Int),zIC p m ch=true→zEM p m ch
 |0,_,h=>by cases h
 | m+1,ch,h=>fun c hc hd=>by
   have:=List.all_eq_true.1 h c (List.mem_range.2 hc);rw[hd]at this;exact zLZ p m _ (by simpa using this)
theorem zS3{α:Type}(C:List α)(i j:Nat)(hj:j<4):zF [.int .i64 0,.int .i64 0,.int .i64 0,.int .i64 0] i j=zS bgC bgZ (C.map fun _=>bgZ) i j∧zM (zF [.int .i64 0,.int .i64 0,.int .i64 0,.int .i64 0] i j)=true:=by
 have h:(C.map fun _=>bgZ).getD i bgZ=bgZ:=by
  rw[List.getD_eq_getElem?_getD,List.getElem?_map]
  cases C[i]?<;>rfl
 unfold zS;rw[h]
 match j,hj with
 |0,_|1,_|2,_|3,_=>exact⟨rfl,rfl⟩
theorem zJv{O:Nat→Prop}{w:World}{n sz:Nat}{F G:Nat→Nat→CV}{u:Value}(h:∀k,k<n→∀j,j<sz→F k j=G k j)(hu:RepI O w (.ls n sz F) u):RepI O w (.ls n sz G) u:=by
 obtain⟨A,cap,e1,e2,e3⟩:=hu
 exact⟨A,cap,e1,e2,fun k hk j hj=>by have:=e3 k hk j hj;rw[h k hk j hj]at this;exact this⟩
theorem zPH(a:Bp):∀k,k<1→∀j,j<3→sF (bpC a) 3 k j=zS bpC bpZ [a] k j:=fun k hk j hj=>by
 obtain rfl:k=0:=by omega
 match j,hj with
 |0,_|1,_|2,_=>rfl
theorem zLm(a b:Bp):∀k,k<2→∀j,j<3→sF (bpC a++bpC b) 3 k j=zS bpC bpZ [a,b] k j:=fun k hk j hj=>by
 obtain rfl|rfl:k=0∨k=1:=by omega
 all_goals
  match j,hj with
  |0,_|1,_|2,_=>rfl
def zDc(a b c d:Int)(k:Nat):Int:= [a,b,c,d,10].getD k 0
abbrev zCD(a b c d:Int):Bp:=⟨4,1,4,paB (zDc a b c d) 4⟩
abbrev zAJ:Bp:=zCD 35 46 46 46
abbrev zB8:Bp:=zCD 46 35 46 46
abbrev zB9:Bp:=zCD 46 46 35 46
theorem zIm(l:List UInt8)(c:Nat→Int)(h:(List.range l.length).all (fun k=>decide ((((l.getD k 0).toNat:Nat):Int)=c k))=true):∀k,k<l.length→∃b,(⟨⟨l⟩⟩:ByteArray)[k]?=some b∧((b.toNat:Nat):Int)=c k:=fun k hk=>by
 have h1:=of_decide_eq_true (List.all_eq_true.1 h k (List.mem_range.2 hk));rw[List.getD_eq_getElem?_getD,List.getElem?_eq_getElem hk,Option.getD_some]at h1
 refine⟨l[k],?_,h1⟩
 have hs:k<(⟨⟨l⟩⟩:ByteArray).size:=hk;rw[getElem?_pos (⟨⟨l⟩⟩:ByteArray) k hs]
 rfl
theorem zIn(c:Nat→Int)(h:(List.range 4).all (fun k=>decide (c k=35∨c k=46))=true):∀k,k<4→c k=35∨c k=46:=fun k hk=>of_decide_eq_true (List.all_eq_true.1 h k (List.mem_range.2 hk))
theorem zRQ:ACalls Tryz.prog 18 [.c (.p (.string ⟨#[35,46,46,46]⟩))] (.ag (bpC (zCD 35 46 46 46))):=by
 have hP:=zHZ ⟨#[35,46,46,46,10]⟩ 4 5 (zDc 35 46 46 46) rfl rfl xD (zIm [35,46,46,46,10] (zDc 35 46 46 46) (by decide +kernel)) rfl (zIn (zDc 35 46 46 46) (by decide +kernel));refine zJ Tryz.func18 rfl rfl Tryz.ntmps18 rfl ?_
 repeat (first
  |refine vB [0,2] ?_
  | (refine rG 1 ?_
     refine vA ?_;refine zHF ⟨#[35,46,46,46,10]⟩ (by decide) rfl rfl rfl rfl rfl ?_;refine xB Tryz.func43 hP ?_;refine xE6 ?_;refine aB ?_))
 refine⟨zC 12 [(2,.c (.pt 2 3 0 0))] [(2,⟨false,1,3,58,lF (bpC (zCD 35 46 46 46))⟩)] [2],[(2,⟨false,1,3,58,lF (bpC (zCD 35 46 46 46))⟩)],Wk.mk [(2,some 2)] rfl rfl rfl ?_ ?_,rfl,rfl,ARets.one (x:=.ag _) (ARes.box zA rfl rfl rfl rfl rfl rfl rfl)⟩
 ·exact zB
 ·exact zAf
theorem zRR:ACalls Tryz.prog 18 [.c (.p (.string ⟨#[46,35,46,46]⟩))] (.ag (bpC (zCD 46 35 46 46))):=by
 have hP:=zHZ ⟨#[46,35,46,46,10]⟩ 4 5 (zDc 46 35 46 46) rfl rfl xD (zIm [46,35,46,46,10] (zDc 46 35 46 46) (by decide +kernel)) rfl (zIn (zDc 46 35 46 46) (by decide +kernel));refine zJ Tryz.func18 rfl rfl Tryz.ntmps18 rfl ?_
 repeat (first
  |refine vB [0,2] ?_
  | (refine rG 1 ?_
     refine vA ?_;refine zHF ⟨#[46,35,46,46,10]⟩ (by decide) rfl rfl rfl rfl rfl ?_;refine xB Tryz.func43 hP ?_;refine xE6 ?_;refine aB ?_))
 refine⟨zC 12 [(2,.c (.pt 2 3 0 0))] [(2,⟨false,1,3,58,lF (bpC (zCD 46 35 46 46))⟩)] [2],[(2,⟨false,1,3,58,lF (bpC (zCD 46 35 46 46))⟩)],Wk.mk [(2,some 2)] rfl rfl rfl ?_ ?_,rfl,rfl,ARets.one (x:=.ag _) (ARes.box zA rfl rfl rfl rfl rfl rfl rfl)⟩
 ·exact zB
 ·exact zAf
theorem zRS:ACalls Tryz.prog 18 [.c (.p (.string ⟨#[46,46,35,46]⟩))] (.ag (bpC (zCD 46 46 35 46))):=by
 have hP:=zHZ ⟨#[46,46,35,46,10]⟩ 4 5 (zDc 46 46 35 46) rfl rfl xD (zIm [46,46,35,46,10] (zDc 46 46 35 46) (by decide +kernel)) rfl (zIn (zDc 46 46 35 46) (by decide +kernel));refine zJ Tryz.func18 rfl rfl Tryz.ntmps18 rfl ?_
 repeat (first
  |refine vB [0,2] ?_
  | (refine rG 1 ?_
     refine vA ?_;refine zHF ⟨#[46,46,35,46,10]⟩ (by decide) rfl rfl rfl rfl rfl ?_;refine xB Tryz.func43 hP ?_;refine xE6 ?_;refine aB ?_))
 refine⟨zC 12 [(2,.c (.pt 2 3 0 0))] [(2,⟨false,1,3,58,lF (bpC (zCD 46 46 35 46))⟩)] [2],[(2,⟨false,1,3,58,lF (bpC (zCD 46 46 35 46))⟩)],Wk.mk [(2,some 2)] rfl rfl rfl ?_ ?_,rfl,rfl,ARets.one (x:=.ag _) (ARes.box zA rfl rfl rfl rfl rfl rfl rfl)⟩
 ·exact zB
 ·exact zAf
abbrev zA2(C:List (List Bp)):Pb:=⟨[],C,[],C.map fun _=>bgZ,[]⟩
theorem zG8(C:List (List Bp))(hC:C.length≤1000):ACalls Tryz.prog 19 [.c (lsC C)] (.ag (pbC (zA2 C))):=by
 refine zJ Tryz.func19 rfl rfl Tryz.ntmps19 rfl ?_
 repeat (first
  |refine vB [0] ?_
  | (refine rG 1 ?_
     refine xE3 ?_;refine zC5 (zCN zA) ?_;refine xE2 ?_;refine aB ?_))
 refine⟨zC 8 [(2,.c (.pt 2 5 0 0))] [(2,⟨false,1,5,34,lF (pbC (zA2 C))⟩)] [2],[(2,⟨false,1,5,34,lF (pbC (zA2 C))⟩)],Wk.mk [(2,some 2)] rfl rfl rfl ?_ ?_,rfl,rfl,ARets.one (x:=.ag _) (ARes.box zA rfl rfl rfl rfl rfl rfl rfl)⟩
 ·exact zB
 ·exact⟨HeapOk.box rfl rfl ⟨LeC.nils _ _,LeC.refl _ rfl,LeC.nils _ _,zZ rfl rfl (List.length_map ..) (fun i _ j hj=>zS3 C i j hj),LeC.nils _ _,trivial⟩ rfl,trivial⟩
abbrev h30:List Hg:= [⟨zAJ,[zAJ,zB9],bgZ⟩]
abbrev zCx:Pl:=⟨[],[],[0]⟩
abbrev zB7:Pl:=⟨[0],[1],[0]⟩
abbrev zET:Pl:=⟨[],[],[1]⟩
abbrev zJD:List Stp:= [zDw 0 0,⟨1,0,0,0,false,⟨0,0,-4⟩⟩]
theorem zSL:zBx (zA2 [[zB8]]) h30=(zCx,0):=by decide +kernel
theorem zSM:zBx (zA2 [[zAJ]]) h30=(zB7,0):=by decide +kernel
theorem zSN:(zBx (zA2 [[zAJ],[zB9]]) h30).2=60:=by decide +kernel
theorem zSO:zBx (zA2 [[zAJ,zB8]]) h30=(zET,0):=by decide +kernel
theorem zSR:zGo (zA2 [[zAJ]]) h30 zB7=([zJD],0):=by decide +kernel
theorem zSP:zEr (zA2 [[zAJ]]) h30 zB7=true:=by decide +kernel
theorem zSQ:zEr (zA2 [[zAJ]]) h30 zCx=false:=by decide +kernel
theorem v30_e:zIC (zAd (zA2 [[zAJ]]) h30 []).1 (zAd (zA2 [[zAJ]]) h30 []).1.C.length []=true∧(zBV (zAd (zA2 [[zAJ]]) h30 []).1 (zAd (zA2 [[zAJ]]) h30 []).1.C.length []).length≤1000000:=by decide +kernel
abbrev zNE:CV:=.ls 1 3 (sF (bpC zAJ) 3)
abbrev zRW:CV:=.ls 1 3 (sF (bpC zB8) 3)
abbrev zRX:CV:=.ls 1 3 (sF (bpC zB9) 3)
abbrev zRY:CV:=.ls 2 3 (sF (bpC zAJ++bpC zB8) 3)
abbrev zRZ:CV:=.ls 2 3 (sF (bpC zAJ++bpC zB9) 3)
abbrev zCA:CV:=.ls 1 8 (sF (bpC zAJ++ [zRZ]++bgC bgZ) 8)
theorem zIB{O:Nat→Prop}{w:World}{u:Value}(b:Bp)(h:RepI O w (.ls 1 3 (sF (bpC b) 3)) u):RepI O w (lsB [b]) u:=zJv (zPH b) h
theorem zLY(b:Bp):Cv (.ls 1 1 (sF [.ls 1 3 (sF (bpC b) 3)] 1)) (lsC [[b]]):=zFk fun k hk j hj O w u h=>by
 obtain rfl:j=0:=by omega
 obtain rfl:k=0:=by omega
 exact zIB b h
theorem zP7(b c:Bp):Cv (.ls 2 1 (sF [.ls 1 3 (sF (bpC b) 3),.ls 1 3 (sF (bpC c) 3)] 1)) (lsC [[b],[c]]):=zFk fun k hk j hj O w u h=>by
 obtain rfl:j=0:=by omega
 obtain rfl|rfl:k=0∨k=1:=by omega
 ·exact zIB b h
 ·exact zIB c h
theorem zP8(b c:Bp):Cv (.ls 1 1 (sF [.ls 2 3 (sF (bpC b++bpC c) 3)] 1)) (lsC [[b,c]]):=zFk fun k hk j hj O w u h=>by
 obtain rfl:j=0:=by omega
 obtain rfl:k=0:=by omega
 exact zJv (zLm b c) h
theorem zGQ:Cv zCA (lsH h30):=zFk fun k hk j hj O w u h=>by
 obtain rfl:k=0:=by omega
 match j,hj with
 |0,_=>exact h
 |1,_=>exact h
 |2,_=>exact h
 |3,_=>exact zJv (zLm zAJ zB9) h
 |4,_=>exact h
 |5,_=>exact h
 |6,_=>exact h
 |7,_=>exact h
theorem zHd(C:List (List Bp))(h:(Nat.ble C.length 1000 && C.all fun l=>Nat.ble l.length 1000)=true):(zA2 C).ok:=by
 simp only[Bool.and_eq_true,Nat.ble_eq,List.all_eq_true]at h
 refine⟨zRI,Nat.zero_le _,by show C.length≤_;omega,Nat.zero_le _,by show(C.map _).length≤_;rw[List.length_map];omega,Nat.zero_le _,fun l hl=>by have:=h.2 l hl;omega⟩
theorem zGZ:zCB h30:=⟨by decide,fun h hh=>by
 obtain rfl:=List.mem_singleton.1 hh
 refine⟨by decide,by decide,fun b hb=> ?_⟩
 rcases List.mem_cons.1 hb with rfl|hb
 ·decide
 ·obtain rfl:=List.mem_singleton.1 hb
  decide⟩
theorem zHa(C:List (List Bp))(hC:(Nat.ble C.length 1000 && C.all fun l=>Nat.ble l.length 1000)=true){x:Pl}{e:Int}(h:zBx (zA2 C) h30=(x,e)):ACalls Tryz.prog 9 [.ag (pbC (zA2 C)),.c zCA] (.tu [.ag (plC x),.c (iC e)]):=by
 have:=(zKM (zA2 C) (zHd C hC) h30 zGZ).cv (args':= [.ag (pbC (zA2 C)),.c zCA]) ⟨.ag (zCj _),.c zGQ,trivial⟩
 rwa [h]at this
theorem j8{P:Nat→Prop}(h:P 0∧P 1∧P 2∧P 3∧P 4∧P 5∧P 6∧P 7):∀j,j<8→P j:=fun j hj=>by
 obtain⟨h0,h1,h2,h3,h4,h5,h6,h7⟩:=h
 match j,hj with
 |0,_=>exact h0
 |1,_=>exact h1
 |2,_=>exact h2
 |3,_=>exact h3
 |4,_=>exact h4
 |5,_=>exact h5
 |6,_=>exact h6
 |7,_=>exact h7
theorem zR0:ACalls Tryz.prog 5 [] (.c (bC true)):=by
 have hL1:=(zG8 [[zB8]] (by decide)).cv (args':= [.c (.ls 1 1 (sF [zRW] 1))]) ⟨.c (zLY _),trivial⟩;have hL2:=(zG8 [[zAJ]] (by decide)).cv (args':= [.c (.ls 1 1 (sF [zNE] 1))]) ⟨.c (zLY _),trivial⟩;have hL3:=(zG8 [[zAJ],[zB9]] (by decide)).cv (args':= [.c (.ls 2 1 (sF [zNE,zRX] 1))]) ⟨.c (zP7 _ _),trivial⟩;have hL4:=(zG8 [[zAJ,zB8]] (by decide)).cv (args':= [.c (.ls 1 1 (sF [zRY] 1))]) ⟨.c (zP8 _ _),trivial⟩;have hM1:=zHa [[zB8]] (by decide) zSL;have hM2:=zHa [[zAJ]] (by decide) zSM
 obtain⟨x3,hx3⟩:∃x,zBx (zA2 [[zAJ],[zB9]]) h30=(x,60):=⟨_,Prod.ext rfl zSN⟩
 have hM3:=zHa [[zAJ],[zB9]] (by decide) hx3;have hM4:=zHa [[zAJ,zB8]] (by decide) zSO;have hW:=(zPb (zA2 [[zAJ]]) (zHd _ (by decide)) h30 zGZ zB7 ⟨by decide,by decide,by decide⟩ (fun k hk _ _=>by
  obtain rfl:k=0:=Nat.lt_one_iff.mp hk
  exact⟨zLZ _ _ _ v30_e.1,v30_e.2⟩)).cv (args':= [.ag (pbC (zA2 [[zAJ]])),.c zCA,.ag (plC zB7)]) ⟨.ag (zCj _),.c zGQ,.ag (zCj _),trivial⟩
 rw[zSR]at hW;have hH1:=(zHU (zA2 [[zAJ]]) (zHd _ (by decide)) h30 zGZ zB7 ⟨by decide,by decide,by decide⟩).cv (args':= [.ag (pbC (zA2 [[zAJ]])),.c zCA,.ag (plC zB7)]) ⟨.ag (zCj _),.c zGQ,.ag (zCj _),trivial⟩;have hH2:=(zHU (zA2 [[zAJ]]) (zHd _ (by decide)) h30 zGZ zCx ⟨by decide,by decide,by decide⟩).cv (args':= [.ag (pbC (zA2 [[zAJ]])),.c zCA,.ag (plC zCx)]) ⟨.ag (zCj _),.c zGQ,.ag (zCj _),trivial⟩;rw[zSP]at hH1;rw[zSQ]at hH2;have l1:∀x:Int,Cv (.ls 1 1 (sF [iC x] 1)) (lsI [x]):=fun x=>zHR fun k hk=>by obtain rfl:k=0:=xD;rfl
 have hS1:=(zGy zCx zCx (by decide) (by decide) (by decide)).cv (args':= [.ag (plC zCx),.ag [.p (.slice none 0 0),.p (.slice none 0 0),.ls 1 1 (sF [iC 0] 1)]]) ⟨.ag (zCj _),.ag ⟨Cv.nil,Cv.nil,l1 0,trivial⟩,trivial⟩;have hS2:=(zGy zB7 zB7 (by decide) (by decide) (by decide)).cv (args':= [.ag (plC zB7),.ag [.ls 1 1 (sF [iC 0] 1),.ls 1 1 (sF [iC 1] 1),.ls 1 1 (sF [iC 0] 1)]]) ⟨.ag (zCj _),.ag ⟨l1 0,l1 1,l1 0,trivial⟩,trivial⟩;have hS4:=(zGy zET zET (by decide) (by decide) (by decide)).cv (args':= [.ag (plC zET),.ag [.p (.slice none 0 0),.p (.slice none 0 0),.ls 1 1 (sF [iC 1] 1)]]) ⟨.ag (zCj _),.ag ⟨Cv.nil,Cv.nil,l1 1,trivial⟩,trivial⟩;rw[samP_iff.2 rfl]at hS1 hS2 hS4;have hra:=zRQ;have hrb:=zRR;have hrc:=zRS;refine zJ Tryz.func5 rfl rfl Tryz.ntmps5 rfl ?_
 repeat (first
  |refine vB [0,2] ?_
  | (refine rG 1 ?_
     first|refine xB Tryz.func18 hra ?_|refine xB Tryz.func18 hrb ?_|refine xB Tryz.func18 hrc ?_
     first|refine xB Tryz.func18 hra ?_|refine xB Tryz.func18 hrb ?_|refine xB Tryz.func18 hrc ?_
     first|refine xB Tryz.func18 hra ?_|refine xB Tryz.func18 hrb ?_|refine xB Tryz.func18 hrc ?_
     refine xE6 ?_;refine aB ?_))
 refine AWp.weak (S':=zC 169 [(1,.c (.pt 1 3 0 0)),(2,.c (.pt 2 3 0 0)),(3,.c (.pt 3 3 0 0)),(4,.c zCA)] [(1,⟨false,1,3,58,lF (bpC zAJ)⟩),(2,⟨false,1,3,58,lF (bpC zB8)⟩),(3,⟨false,1,3,58,lF (bpC zB9)⟩)] [1,2,3]) (Wk.mk [(1,some 1),(2,some 2),(3,some 3)] rfl rfl rfl ?_ ?_) ?_
 ·repeat (first|exact trivial|refine⟨⟨_,rfl,by first|exact LeA.c (zZ rfl rfl rfl (fun i hi j hj=>by obtain rfl:i=0:=xD;revert j;exact j8 ⟨⟨rfl,rfl⟩,⟨rfl,rfl⟩,⟨rfl,rfl⟩,⟨rfl,rfl⟩,⟨rfl,rfl⟩,⟨rfl,rfl⟩,⟨rfl,rfl⟩,⟨rfl,rfl⟩⟩))|exact leT⟩,?_⟩)
 ·exact⟨hSm,hSm,hSm,trivial⟩
 repeat (first
  |refine vB [] ?_
  | (refine rG 3 ?_
     refine xE3 ?_;refine xB Tryz.func19 hL1 ?_;refine vA ?_;refine xB Tryz.func9 hM1 ?_;refine xE6 ?_;refine aB ?_))
 refine AWp.weak (S':=zC 169 [(1,.c (.pt 1 3 0 0)),(2,.c (.pt 2 3 0 0)),(3,.c (.pt 3 3 0 0)),(4,.c zCA),(5,.c (.pt 5 3 0 0)),(6,.c (iC 0))] [(1,⟨false,1,3,58,lF (bpC zAJ)⟩),(2,⟨false,1,3,58,lF (bpC zB8)⟩),(3,⟨false,1,3,58,lF (bpC zB9)⟩),(5,bxP (plC zCx))] [1,2,3,5]) (Wk.mk [(1,some 1),(2,some 2),(3,some 3),(5,some 5)] rfl rfl rfl ?_ ?_) ?_
 ·repeat (first|exact trivial|refine⟨⟨_,rfl,by first|exact LeA.c (zZ rfl rfl rfl (fun i hi j hj=>by obtain rfl:i=0:=xD;revert j;exact j8 ⟨⟨rfl,rfl⟩,⟨rfl,rfl⟩,⟨rfl,rfl⟩,⟨rfl,rfl⟩,⟨rfl,rfl⟩,⟨rfl,rfl⟩,⟨rfl,rfl⟩,⟨rfl,rfl⟩⟩))|exact leT⟩,?_⟩)
 ·exact⟨hSm,hSm,hSm,hSm,trivial⟩
 repeat (first
  |refine vB [] ?_
  | (refine rG 4 ?_
     refine xE3 ?_;refine xB Tryz.func19 hL2 ?_;refine vA ?_;refine xB Tryz.func9 hM2 ?_;refine xE6 ?_;refine aB ?_))
 refine AWp.weak (S':=zC 169 [(1,.c (.pt 1 3 0 0)),(2,.c (.pt 2 3 0 0)),(3,.c (.pt 3 3 0 0)),(4,.c zCA),(5,.c (.pt 5 3 0 0)),(6,.c (iC 0)),(7,.c (.pt 7 3 0 0)),(8,.c (iC 0))] [(1,⟨false,1,3,58,lF (bpC zAJ)⟩),(2,⟨false,1,3,58,lF (bpC zB8)⟩),(3,⟨false,1,3,58,lF (bpC zB9)⟩),(5,bxP (plC zCx)),(7,bxP (plC zB7))] [1,2,3,5,7]) (Wk.mk [(1,some 1),(2,some 2),(3,some 3),(5,some 5),(7,some 7)] rfl rfl rfl ?_ ?_) ?_
 ·repeat (first|exact trivial|refine⟨⟨_,rfl,by first|exact LeA.c (zZ rfl rfl rfl (fun i hi j hj=>by obtain rfl:i=0:=xD;revert j;exact j8 ⟨⟨rfl,rfl⟩,⟨rfl,rfl⟩,⟨rfl,rfl⟩,⟨rfl,rfl⟩,⟨rfl,rfl⟩,⟨rfl,rfl⟩,⟨rfl,rfl⟩,⟨rfl,rfl⟩⟩))|exact leT⟩,?_⟩)
 ·exact⟨hSm,hSm,hSm,hSm,hSm,trivial⟩
 repeat (first
  |refine vB [] ?_
  | (refine rG 5 ?_
     refine xE5 ?_;refine xB Tryz.func19 hL3 ?_;refine vA ?_;refine xB Tryz.func9 hM3 ?_;refine xE6 ?_;refine aB ?_))
 refine AWp.weak (S':=zC 169 [(1,.c (.pt 1 3 0 0)),(2,.c (.pt 2 3 0 0)),(3,.c (.pt 3 3 0 0)),(4,.c zCA),(5,.c (.pt 5 3 0 0)),(6,.c (iC 0)),(7,.c (.pt 7 3 0 0)),(8,.c (iC 0)),(10,.c (iC 60))] [(1,⟨false,1,3,58,lF (bpC zAJ)⟩),(2,⟨false,1,3,58,lF (bpC zB8)⟩),(3,⟨false,1,3,58,lF (bpC zB9)⟩),(5,bxP (plC zCx)),(7,bxP (plC zB7))] [1,2,3,5,7]) (Wk.mk [(1,some 1),(2,some 2),(3,some 3),(5,some 5),(7,some 7)] rfl rfl rfl ?_ ?_) ?_
 ·repeat (first|exact trivial|refine⟨⟨_,rfl,by first|exact LeA.c (zZ rfl rfl rfl (fun i hi j hj=>by obtain rfl:i=0:=xD;revert j;exact j8 ⟨⟨rfl,rfl⟩,⟨rfl,rfl⟩,⟨rfl,rfl⟩,⟨rfl,rfl⟩,⟨rfl,rfl⟩,⟨rfl,rfl⟩,⟨rfl,rfl⟩,⟨rfl,rfl⟩⟩))|exact leT⟩,?_⟩)
 ·exact⟨hSm,hSm,hSm,hSm,hSm,trivial⟩
 repeat (first
  |refine vB [] ?_
  | (refine rG 6 ?_
     refine xE4 ?_;refine xB Tryz.func19 hL4 ?_;refine vA ?_;refine xB Tryz.func9 hM4 ?_;refine xE6 ?_;refine aB ?_))
 refine AWp.weak (S':=zC 169 [(1,.c (.pt 1 3 0 0)),(2,.c (.pt 2 3 0 0)),(3,.c (.pt 3 3 0 0)),(4,.c zCA),(5,.c (.pt 5 3 0 0)),(6,.c (iC 0)),(7,.c (.pt 7 3 0 0)),(8,.c (iC 0)),(10,.c (iC 60)),(11,.c (.pt 11 3 0 0)),(12,.c (iC 0))] [(1,⟨false,1,3,58,lF (bpC zAJ)⟩),(2,⟨false,1,3,58,lF (bpC zB8)⟩),(3,⟨false,1,3,58,lF (bpC zB9)⟩),(5,bxP (plC zCx)),(7,bxP (plC zB7)),(11,bxP (plC zET))] [1,2,3,5,7,11]) (Wk.mk [(1,some 1),(2,some 2),(3,some 3),(5,some 5),(7,some 7),(11,some 11)] rfl rfl rfl ?_ ?_) ?_
 ·repeat (first|exact trivial|refine⟨⟨_,rfl,by first|exact LeA.c (zZ rfl rfl rfl (fun i hi j hj=>by obtain rfl:i=0:=xD;revert j;exact j8 ⟨⟨rfl,rfl⟩,⟨rfl,rfl⟩,⟨rfl,rfl⟩,⟨rfl,rfl⟩,⟨rfl,rfl⟩,⟨rfl,rfl⟩,⟨rfl,rfl⟩,⟨rfl,rfl⟩⟩))|exact leT⟩,?_⟩)
 ·exact⟨hSm,hSm,hSm,hSm,hSm,hSm,trivial⟩
 repeat (first
  |refine vB [] ?_
  |(refine AWp.draw (id:=7) zK ?_;refine xE3 ?_;refine xB Tryz.func19 hL2 ?_;refine xE2 ?_;refine xB Tryz.func13 hW ?_;refine xE5 ?_;refine aB ⟨by kernel_rfl,?_⟩))
 refine AWp.weak (S':=zC 169 [(1,.c (.pt 1 3 0 0)),(2,.c (.pt 2 3 0 0)),(3,.c (.pt 3 3 0 0)),(4,.c zCA),(5,.c (.pt 5 3 0 0)),(6,.c (iC 0)),(7,.c (.pt 7 3 0 0)),(8,.c (iC 0)),(10,.c (iC 60)),(11,.c (.pt 11 3 0 0)),(12,.c (iC 0)),(13,.c (lsW [zJD])),(14,.c (iC 0))] [(1,⟨false,1,3,58,lF (bpC zAJ)⟩),(2,⟨false,1,3,58,lF (bpC zB8)⟩),(3,⟨false,1,3,58,lF (bpC zB9)⟩),(5,bxP (plC zCx)),(7,bxP (plC zB7)),(11,bxP (plC zET))] [1,2,3,5,7,11]) (Wk.mk [(1,some 1),(2,some 2),(3,some 3),(5,some 5),(7,some 7),(11,some 11)] rfl rfl rfl ?_ ?_) ?_
 ·repeat (first|exact trivial|refine⟨⟨_,rfl,by first|exact LeA.c (zZ rfl rfl rfl (fun i hi j hj=>by obtain rfl:i=0:=xD;revert j;exact j8 ⟨⟨rfl,rfl⟩,⟨rfl,rfl⟩,⟨rfl,rfl⟩,⟨rfl,rfl⟩,⟨rfl,rfl⟩,⟨rfl,rfl⟩,⟨rfl,rfl⟩,⟨rfl,rfl⟩⟩))|exact leT⟩,?_⟩)
 ·exact⟨hSm,hSm,hSm,hSm,hSm,hSm,trivial⟩
 repeat (first
  |refine vB [] ?_
  | (refine rG 8 ?_
     (iterate 25 refine vA ?_)
     first|refine qr2 aG ?_|refine zG (aP (k:=0) zA) ?_|refine zI (zH (k:=0) zA) ?_
     refine xE4 ?_;refine aB ?_))
 repeat (first
  |refine vB [] ?_
  | (refine rG 10 ?_
     refine xE3 ?_
     first|refine xB Tryz.func11 hS1 ?_|refine xB Tryz.func11 hS2 ?_|refine xB Tryz.func11 hS4 ?_
     refine xE6 ?_
     first|refine qr2 aG ?_|refine xB Tryz.func11 hS1 ?_|refine xB Tryz.func11 hS2 ?_|refine xB Tryz.func11 hS4 ?_
     refine xE5 ?_
     first|refine qr2 aG ?_|refine xB Tryz.func11 hS1 ?_|refine xB Tryz.func11 hS2 ?_|refine xB Tryz.func11 hS4 ?_
     refine xE2 ?_;refine aB ?_))
 refine AWp.weak (S':=zC 169 [(1,.c (.pt 1 3 0 0)),(2,.c (.pt 2 3 0 0)),(3,.c (.pt 3 3 0 0)),(4,.c zCA),(5,.c (.pt 5 3 0 0)),(7,.c (.pt 7 3 0 0)),(13,.c (lsW [zJD])),(15,.c (bC true))] [(1,⟨false,1,3,58,lF (bpC zAJ)⟩),(2,⟨false,1,3,58,lF (bpC zB8)⟩),(3,⟨false,1,3,58,lF (bpC zB9)⟩),(5,bxP (plC zCx)),(7,bxP (plC zB7))] [1,2,3,5,7]) (Wk.mk [(1,some 1),(2,some 2),(3,some 3),(5,some 5),(7,some 7)] rfl rfl rfl ?_ ?_) ?_
 ·repeat (first|exact trivial|refine⟨⟨_,rfl,by first|exact LeA.c (zZ rfl rfl rfl (fun i hi j hj=>by obtain rfl:i=0:=xD;revert j;exact j8 ⟨⟨rfl,rfl⟩,⟨rfl,rfl⟩,⟨rfl,rfl⟩,⟨rfl,rfl⟩,⟨rfl,rfl⟩,⟨rfl,rfl⟩,⟨rfl,rfl⟩,⟨rfl,rfl⟩⟩))|exact leT⟩,?_⟩)
 ·exact⟨hSm,hSm,hSm,hSm,hSm,trivial⟩
 have hq:=zSc (zDw 0 0) (zDw 0 0);rw[decide_eq_true rfl]at hq
 repeat (first
  |refine vB [] ?_
  |(refine AWp.draw (id:=11) zK ?_;refine xE3 ?_;(first|refine qr2 aG ?_|refine zG (aP (k:=0) zA) ?_|refine zI (zH (k:=0) zA) ?_);refine vA ?_;(first|refine qr2 aG ?_|refine zG (aP (k:=0) zA) ?_|refine zI (zH (k:=0) zA) ?_);refine xE2 ?_;(first|refine qr2 aG ?_|refine zJZ rfl rfl rfl rfl rfl rfl xC (hq) ?_);refine xE3 ?_;(first|refine qr2 aG ?_|refine zG (aP (k:=0) zA) ?_|refine zI (zH (k:=0) zA) ?_);refine vA ?_;(first|refine qr2 aG ?_|refine zG (aP (k:=1) zA) ?_|refine zI (zH (k:=1) zA) ?_);refine xE6 ?_;(first|refine qr2 aG ?_|refine zG (aP (k:=0) zA) ?_|refine zI (zH (k:=0) zA) ?_);refine vA ?_;(first|refine qr2 aG ?_|refine zG (aP (k:=1) zA) ?_|refine zI (zH (k:=1) zA) ?_);refine xE8 ?_;(first|refine qr2 aG ?_|refine xB Tryz.func19 hL2 ?_);refine xE2 ?_;(first|refine qr2 aG ?_|refine xB Tryz.func15 hH1 ?_|refine xB Tryz.func15 hH2 ?_);refine xE5 ?_;(first|refine qr2 aG ?_|refine xB Tryz.func19 hL2 ?_);refine xE2 ?_;(first|refine qr2 aG ?_|refine xB Tryz.func15 hH1 ?_|refine xB Tryz.func15 hH2 ?_);refine xE3 ?_;refine aB ⟨by kernel_rfl,?_⟩))
 refine⟨zC 169 [(0,.c (bC true))] [] [],[],Wk.mk [] rfl rfl rfl ?_ trivial,rfl,rfl,aR1⟩
 exact zB
abbrev HgB(B:Nat)(h:Hg):Prop:=BpBd B h.now∧h.ch.length≤B∧∀b∈h.ch,BpBd B b
abbrev HgBd(B:Nat)(H:List Hg):Prop:=H.length≤B∧∀h∈H,HgB B h
theorem HgB.mono{A B:Nat}(h:A≤B){x:Hg}(hx:HgB A x):HgB B x:=⟨hx.1.mono h,by have:=hx.2.1;omega,fun b hb=>(hx.2.2 b hb).mono h⟩
theorem HgBd.ok{B:Nat}{H:List Hg}(h:HgBd B H)(hB:B≤900000):zCB H:=⟨by have:=h.1;omega,fun x hx=>⟨by have:=(h.2 x hx).1.2;omega,by have:=(h.2 x hx).2.1;omega,fun b hb=>by have:=((h.2 x hx).2.2 b hb).2;omega⟩⟩
theorem zFO{H:List Hg}{k:Nat}(hk:k<H.length)(j0 m:Nat)(l:List CV)(e:Hg)(h:∀j,j<8→(bif (Nat.ble j0 j && Nat.blt j (j0+m))then l.getD (j-j0) .any else (hgC (H.getD k hgZ)).getD j .any)=(hgC e).getD j .any):∀i,i<H.length→∀j,j<8→zAw (zS hgC hgZ H) k j0 m l i j=zS hgC hgZ (H.set k e) i j∧zM (zAw (zS hgC hgZ H) k j0 m l i j)=true:=fun i hi j hj=>by
 have:zAw (zS hgC hgZ H) k j0 m l i j=zS hgC hgZ (H.set k e) i j:=by
  unfold zAw zS;by_cases h1:i=k
  ·subst h1
   rw[Nat.beq_refl,Bool.true_and,List.getD_eq_getElem?_getD (l:=H.set i e),List.getElem?_set_self hk];exact h j hj
  ·rw[show Nat.beq i k=false from Bool.eq_false_iff.2 fun h'=>h1 (Nat.eq_of_beq_eq_true h')]
   rw[List.getD_eq_getElem?_getD (l:=H.set k e),List.getElem?_set_ne (Ne.symm h1),←List.getD_eq_getElem?_getD]
   rfl
 exact⟨this,by rw[this];exact zL zCY _ i j⟩
theorem zP6{q:Pb}(h:Sm q):Sm (zEq q)∧(zEq q).C.length≤2:=by
 have hm:(zEq q).C.length=min (min q.C.length 2) q.C.length:=List.length_take ..;have hO:(zEq q).O.length=min (min q.C.length 2) q.O.length:=List.length_take ..;have h1:=h.O
 refine⟨⟨h.R,h.Rr,by have:=h.C;omega,fun l hl=>h.Cc l (List.mem_of_mem_take hl),h.F,h.Ff,by rw[hO,hm];omega,h.T⟩,by omega⟩
def HgSm(H:List Hg):Prop:=H.length≤2∧∀h∈H,(∃d,h.now=zAY d)∧h.ch.length≤2∧∀b∈h.ch,∃d,b=zAY d
theorem zQC{q:Pb}(hq:Sm q):HgSm (zDQ q):=by
 unfold zDQ
 refine⟨by rw[zMp];omega,fun h hh=> ?_⟩
 unfold zCX at hh
 obtain⟨k,hk,rfl⟩:=List.mem_map.1 hh
 have hkl:k<q.C.length:=by have:=List.mem_range.1 hk;omega
 have hc:=(hq.Cc _ (zAB (L:=q.C) (k:=k) (z:= []) hkl)).2;unfold hg1;generalize q.C.getD k []=L at *
 refine⟨?_,?_,fun b hb=>hc b (List.mem_of_mem_take hb)⟩
 ·show ∃d,(if 0<L.length then L.getD (L.length-1) bpZ else zAY fun _=>false)=zAY d
  by_cases h0:0<L.length
  ·rw[if_pos h0]
   exact hc _ (zAB xD)
  ·rw[if_neg h0]
   exact⟨_,rfl⟩
 ·show(L.take 2).length≤2
  rw[List.length_take]
  omega
theorem zLg(d:Nat→Bool):BpBd 30 (zAY d):=⟨⟨by show -((30:Nat):Int)≤6;omega,by show(6:Int)≤((30:Nat):Int);omega⟩,Nat.le_refl _⟩
theorem HgSm.bd{H:List Hg}(h:HgSm H):HgBd 30 H:=⟨by have:=h.1;omega,fun x hx=>by
 obtain⟨⟨d,h1⟩,h2,h3⟩:=h.2 x hx
 exact⟨by rw[h1];exact zLg d,by omega,fun b hb=>by obtain⟨d,rfl⟩:=h3 b hb;exact zLg d⟩⟩
def Cs.ok(c:Cs):Prop:=(LlOk c.P∧LlOk c.Hs)∧c.st.length≤4611686018427387904∧(-9223372036854775808≤c.o1∧c.o1≤9223372036854775807)∧-9223372036854775808≤c.l1∧c.l1≤9223372036854775807
end Go.Proofs.YtbffmfeldkjkcaaGreat
end
section
namespace Go.Proofs.YtbffmfeldkjkcaaGreat
open Go.ChangeShapes Go.WideShapes Go.ChangeAt Go.RowKit Go.Flow Go.AV
section
variable{H:Type}{enc:TypeId×Value→H}{W:World}
theorem opn_q2:Opn enc Tryz.prog W 25 (fun q:Int×Int=> [iC q.1,iC q.2]) (fun q=>(-9223372036854775808≤q.1∧q.1≤9223372036854775807)∧-9223372036854775808≤q.2∧q.2≤9223372036854775807):=
 (opn_int.array Tryz.underlying25 zIk xC).conv fun L h=>by
   obtain⟨h1,h2⟩:=h
   obtain⟨x,y,rfl⟩:∃x y,L= [x,y]:=by
    match L,h1 with
    | [x,y],_=>exact⟨x,y,rfl⟩
   exact⟨(x,y),⟨h2 x (by simp),h2 y (by simp)⟩,fun _ h=>h⟩
theorem opn_ca30:Opn enc Tryz.prog W 27 csC Cs.ok:=
 (Opn.struct Tryz.underlying27 (n:=8) xC (.cons zM7 rfl zGJ (.cons zM7 rfl zGJ (.cons opn_ints28 rfl zGJ (.cons zRk rfl (by kernel_rfl:Tryz.prog.cellsOf 24=3) (.cons opn_q2 rfl (by kernel_rfl:Tryz.prog.cellsOf 25=2) .nil)))))).conv fun a h=>
   ⟨⟨a.1,a.2.1,a.2.2.1,a.2.2.2.1.1,a.2.2.2.1.2.1,a.2.2.2.1.2.2,a.2.2.2.2.1.1,a.2.2.2.2.1.2⟩,⟨⟨h.1,h.2.1⟩,Nat.le_of_mul_le_mul_right (Nat.le_trans h.2.2.1.1 (by decide:140737488351232≤4611686018427387904*8)) (by decide),h.2.2.2.1,h.2.2.2.2.1.2⟩,fun _ h=>h⟩
end
end Go.Proofs.YtbffmfeldkjkcaaGreat
end
