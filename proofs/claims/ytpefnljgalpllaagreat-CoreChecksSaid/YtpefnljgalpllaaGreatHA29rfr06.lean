/- Parts of the proof: AFzA, A29ra, A29rb, A29rc, A29rd. -/
import Derived.Test.YtpefnljgalpllaaGreatHA29rfr05
set_option linter.unusedSimpArgs false
set_option linter.unusedVariables false
set_option maxHeartbeats 0
set_option maxRecDepth 100000
section
namespace Go.AV
open Go Go.RowKit Go.Flow
section
variable{P:Program}{tab:List (TypeId×TD)}
theorem GoesA.mono{K K':Value→World→Prop}{r:Result Next}(h:∀v w,K v w→K' v w)(hh:GoesA P K r):GoesA P K' r:=by
 rcases hh with hh|⟨l,f,tmps,assign,body,w',h1,h2⟩
 ·exact .inl (Goes.mono h hh)
 ·exact .inr ⟨l,f,tmps,assign,body,w',h1,RoundIn.mono (F:=Fence.wide) h2 fun e w'' ⟨v,he,hc⟩=>⟨v,he,h v w'' hc⟩⟩
theorem LStep.weak{ops:Array Oper}{o:Oper}{rd:List Nat}{e e':Eff}{S:St}(h:LStep P ops o rd e S)(ha:e'.al=e.al)
 (hw:∀(S1:St) b0 a w,Rel b0 (S1.eff o.dst e) a w→Rel b0 (S1.eff o.dst e') a w):LStep P ops o rd e' S:=fun S1 hn ht hr hf b0 a w R=>
 (h S1 hn ht hr (by rw[ha]at hf;exact hf) b0 a w R).imp (fun ⟨h1,h2⟩=>⟨h1,h2.mono fun v w'=>hw S1 b0 _ w'⟩) fun ⟨h1,h2⟩=>⟨h1,hw S1 b0 _ w h2⟩
theorem zPs{b0:zJ}{σ:Nat→Option Value}{S S':St}{a:Act}{w:World}(R:Rel0 b0 σ S a w){t id n sz:Nat}{ty:TypeId}{F:Nat→Nat→CV}(ht:S.t t=some (.c (.ow id)))(hh:S.h id=some ⟨true,n,sz,ty,F⟩)(hlo:id<1000)
 (hi:∀k,k<n→∀j,j<sz→zK (F k j)=true) (e1:∀i,S'.t i=if i=t then some (.c (.ls n sz F))else S.t i) (e2:∀i,S'.h i=if i=id then none else S.h i) (e3:S'.n=S.n∧S'.ln=S.ln∧S'.G=S.G∧S'.gs=S.gs∧S'.dd=S.dd∧S'.fr=S.fr):Rel0 b0 σ S' a w:=by
 obtain⟨f1,f2,f3,f4,f5,f6⟩:=e3
 have hsub:∀i,S'.h i≠none→i≠id∧S'.h i=S.h i:=fun i h=>by
  rw[e2]at h⊢;by_cases e:i=id
  ·rw[if_pos e]at h;exact absurd rfl h
  ·rw[if_neg e];exact⟨e,rfl⟩
 have hown:∀b,own σ S'.h b→own σ S.h b:=fun b ⟨i,v,h1,h2,h3⟩=>⟨i,v,by rw[←(hsub i h1).2];exact h1,h2,h3⟩
 have hout:∀b,out b0 σ S'.h b→out b0 σ S.h b:=fun b h=>h.imp (hown b) fun h=>h
 have hne:S.h id≠none:=by rw[hh];simp
 refine⟨R.df,R.sz.trans f1.symm,?_,⟨fun i B hB=> ?_,fun i j v1 v2 b h1 h2=> ?_,fun b hb=>R.hp.new b (hown b hb),fun i v h=>⟨(R.hp.fx i v h).1,?_⟩,R.hp.big⟩,fun i x hx=> ?_,fun i h=>R.fr i (by rw[←f6];exact h),fun i v h=>by rw[f2];exact R.le i v h,by rw[f3];exact R.gd,by rw[f4,f5];exact R.gh⟩
 ·have:=R.ext
  unfold zB1 at this⊢;rw[f5];exact this
 ·obtain⟨-,q⟩:=hsub i (by rw[hB];simp)
  rw[q]at hB
  obtain⟨v,k1,k2⟩:=R.hp.blk i B hB
  exact⟨v,k1,OBk.less hout k2⟩
 ·obtain⟨-,q1⟩:=hsub i h1
  obtain⟨-,q2⟩:=hsub j h2
  rw[q1]at h1;rw[q2]at h2;exact R.hp.inj i j v1 v2 b h1 h2
 ·rw[e2,if_neg (fun e=>by have:=(b0.one i v h).1;omega)]
  exact(R.hp.fx i v h).2
 ·rw [e1]at hx
  by_cases e:i=t
  ·rw[if_pos e]at hx
   subst e
   cases hx
   have hr:=R.sl i _ ht
   refine⟨hr.1,zG4 R.hp hh hi hout (fun v b h1 h2 h3=> ?_) hr.2.1⟩
   rcases h3 with ⟨j,u,g1,g2,g3⟩|h3
   ·obtain⟨q0,q1⟩:=hsub j g1
    rw[q1]at g1;exact q0 (R.hp.inj j id u v b g1 hne g2 h1 g3 h2)
   ·rcases R.hp.new b ⟨id,v,hne,h1,h2⟩with h4|h4
    ·have:=b0.lt b h3
     omega
    ·exact b0.dis b h3 h4
  ·rw[if_neg e]at hx
   exact RepA.less hout (R.sl i x hx)
section ops
variable{ops:Array Oper}{rest:List Oper}{acc:List (List Nat×List Nat)}{S:St}{Q:List (List Nat×List Nat)→St→Prop}{ty:TypeId}{pos:String}{after:Array Edge}{guard:Option (Nat×Bool)}{x:Operand}
theorem zKb(T:zAp P tab=true){id id1:Nat}{s:Operand}{t el:TypeId}{d e:TD}{n m n':Nat}{F G G':Nat→Nat→CV}
 (hw:S.wants ops {dst:=some id,op:=.call {callee:=.builtin .append,args:= #[s,x],argTypes:= #[t,t]},type:=ty,pos,after,guard}=some true) (hd:dOk S.n (some id)=true) (hf:S.fr id=true)
 (hs:S.opd s=some (.c (.ow id1))) (hx:S.opd x=some (.c (.ls m e.size G))) (ht:zD tab t=some d) (hk:d.k=.sl el) (he:zD tab el=some e) (hh:S.h id1=some ⟨true,n,e.size,el,F⟩) (hsz:(Nat.blt 0 e.size && (Nat.blt id1 1000 && (Nat.blt id 1000 && !Nat.beq id id1)))=true)
 (hm:n'=n+m) (hc:∀k,k<n+m→∀j,j<e.size→zAh F n G k j=G' k j∧zK (zAh F n G k j)=true) (h63:n+m≤4611686018427387904) (hb:(n+m)*e.bytes≤140737488355328)
 (hn:AList P ops rest (([id1,id],[id1,id,id])::acc) (S.eff (some id) ⟨.c (.ls n' e.size G'),[(id1,none),(id,none)],[id]⟩) Q):
 AList P ops ({dst:=some id,op:=.call {callee:=.builtin .append,args:= #[s,x],argTypes:= #[t,t]},type:=ty,pos,after,guard}::rest) acc S Q:=by
 simp only[Bool.and_eq_true]at hsz
 obtain⟨z1,z2,z3,z4⟩:=hsz
 have hne:id≠id1:=fun e=>by rw[e,Nat.beq_refl]at z4;cases z4
 have h3:=Nat.blt_eq.mp z3;subst hm;refine AList.cons [id1] ⟨.c (.ls (n+m) e.size G'),[(id1,none),(id,none)],[id]⟩ ((LStep.app T (o:=some id1) (F:=F) (G:=G) [] hw hd hf hs hx ht hk he (Nat.blt_eq.mp z1) (.inr ⟨id1,rfl,rfl,hh,Nat.blt_eq.mp z2⟩) (fun S1 _ b0 σ a w R u hu=>zFg hu) h63 hb).weak rfl fun S1 b0 a w ⟨σ,R⟩=>⟨σ,?_⟩) hn;have hB:zAb [(id1,none),(id,some (⟨true,n+m,e.size,el,zAh F n G⟩:AB))] S1.h id=some ⟨true,n+m,e.size,el,zAh F n G⟩:=(zAa _ _ hne).trans (zAk _ _ _);have R1:=zPs (S':=⟨S1.n,S1.ln,put S1.t id (some (.c (.ls (n+m) e.size (zAh F n G)))),zAb [(id1,none),(id,none)] S1.h,(S1.eff (some id) ⟨.c (.ow id),[(id1,none),(id,some (⟨true,n+m,e.size,el,zAh F n G⟩:AB))],[id]⟩).fr,S1.G,S1.gs,S1.dd⟩) R (t:=id) (id:=id) (zAk _ _ _) hB h3 (fun k hk j hj=>(hc k hk j hj).2)
  (fun i=>by
    by_cases e:i=id
    ·rw[if_pos e,e];exact zAk _ _ _
    ·rw[if_neg e];exact(zAa _ _ e).trans (zAa _ _ e).symm)
  (fun i=>by
    by_cases e:i=id
    ·rw[if_pos e,e];exact(zAa _ _ hne).trans (zAk _ _ _)
    ·rw[if_neg e]
     show put (put S1.h id none) id1 none i=put (put S1.h id _) id1 none i;by_cases e':i=id1
     ·rw[e',zAk,zAk]
     ·rw[zAa _ _ e',zAa _ _ e',zAa _ _ e,zAa _ _ e])
  ⟨rfl,rfl,rfl,rfl,rfl,rfl⟩
 refine⟨R1.df,R1.sz,R1.ext,R1.hp,fun i z hz=> ?_,R1.fr,R1.le,R1.gd,R1.gh⟩
 by_cases e:i=id
 ·subst e
  have hz':put S1.t i (some (.c (.ls (n+m) _ G'))) i=some z:=hz;rw[zAk]at hz'
  cases hz'
  have h:=R1.sl i _ (zAk _ _ _)
  exact⟨h.1,zEd (fun k hk j hj=>(hc k hk j hj).1) h.2⟩
 ·have hz':put S1.t id (some (.c (.ls (n+m) _ G'))) i=some z:=hz
  rw[zAa _ _ e]at hz';exact R1.sl i z ((zAa _ _ e).trans hz')
end ops
end
end Go.AV
end
section
namespace Go.Proofs.YtpefnljgalpllaaGreat
open Go.RowKit Go.Flow Go.AV Go.Plain
theorem zSt(p:Pb)(hp:p.ok):ACalls Tryz.prog 32 [.ag (pbC p)] (.c (iC (zAX p))):=by
 have hS:=zSc p hp;unfold zAX;generalize zBt p=o at *
 obtain⟨ol,oe⟩:=o
 dsimp only at hS⊢;by_cases h0:oe=0
 ·rw [if_pos h0]
  subst h0;refine zH Tryz.func32 rfl rfl Tryz.ntmps32 rfl ?_
  repeat (first
   |refine vB [0,2,3] ?_
   | (refine rG 1 ?_
      refine vA ?_;refine xB Tryz.func57 hS ?_;refine xE5 ?_;refine aB ?_))
  refine⟨zC 15 [(2,.c (iC 7))] [] [],[],Wk.mk [] rfl rfl rfl ?_ trivial,rfl,rfl,aR1⟩
  exact zB
 ·rw[if_neg h0]
  by_cases h1:oe=60
  ·rw [if_pos h1]
   subst h1;refine zH Tryz.func32 rfl rfl Tryz.ntmps32 rfl ?_
   repeat (first
    |refine vB [0,2,4,5] ?_
    | (refine rG 1 ?_
       refine vA ?_;refine xB Tryz.func57 hS ?_;refine xE5 ?_;refine aB ?_))
   refine⟨zC 15 [(2,.c (iC 0))] [] [],[],Wk.mk [] rfl rfl rfl ?_ trivial,rfl,rfl,aR1⟩
   exact zB
  ·rw [if_neg h1]
   refine zH Tryz.func32 rfl rfl Tryz.ntmps32 rfl ?_
   repeat (first
    |refine vB [0,2,4,6] ?_
    | (refine rG 1 ?_
       refine vA ?_;refine xB Tryz.func57 hS ?_;refine xE5 ?_;refine aB ?_))
   refine⟨zC 15 [(2,.c (iC oe))] [] [],[],Wk.mk [] rfl rfl rfl ?_ trivial,rfl,rfl,aR1⟩
   exact zB
abbrev pS9(p:Pb):AB:=⟨false,1,5,29,lF (pbC p)⟩
theorem zNR(p:Pb)(hp:p.fit)(ch:List Int)(n:Int)(h:(∃k:Nat,n = -1-(k:Int)∧k<p.F.length∧k<p.T.length)∨(∃k:Nat,n=k∧k<ch.length))(hc:ChOk p ch):
 ACalls Tryz.prog 63 [.ag (pbC p),.c (lsI ch),.c (iC n)] (.tu [.ag (bpC (obB p ch n)),.ag (bgC (obG p n))]):=by
 have lF0:=hp.f;have lC:=hp.c;have lO:=hp.o
 rcases h with ⟨k,rfl,h1,h2⟩|⟨k,rfl,h1⟩
 ·rw[obB_f.1,(obB_f (p:=p) (ch:=ch)).2]
  have hn:-1-(k:Int)<0:=by omega
  have he:-1-(-1-(k:Int))=k:=by omega
  refine zH Tryz.func63 rfl rfl Tryz.ntmps63 rfl ?_
  repeat (first
   |refine vB [0,1] ?_
   |(refine AWp.draw (id:=2) zI ?_;refine xE4 ?_;(first|refine zG (aP (k:=k) zA) ?_|refine zM (zL (k:=k) zA) ?_);refine xE5 ?_;(first|refine zG (aP (k:=k) zA) ?_|refine zM (zL (k:=k) zA) ?_);refine xE3 ?_;refine aB ⟨by kernel_rfl,?_⟩))
  refine⟨zC 38 [(6,.c (.pt 6 3 0 0)),(7,.c (.pt 7 4 0 0))] [(6,⟨false,1,3,53,lF (bpC (p.F.getD k bpZ))⟩),(7,⟨false,1,4,33,lF (bgC (p.T.getD k bgZ))⟩)] [6,7],[(6,⟨false,1,3,53,lF (bpC (p.F.getD k bpZ))⟩),(7,⟨false,1,4,33,lF (bgC (p.T.getD k bgZ))⟩)],Wk.mk [(6,some 6),(7,some 7)] rfl rfl rfl ?_ ?_,rfl,rfl,ARets.two (x:=.ag _) (y:=.ag _) (ARes.box zA rfl rfl rfl rfl rfl rfl rfl) (ARes.box zA rfl rfl rfl rfl rfl rfl rfl)⟩
  ·exact zB
  ·exact zAc
 ·obtain⟨c,h2,h3,h4,h5⟩:=hc.at h1
  rw[(zHk h2).1,(zHk (p:=p) (ch:=ch) h2).2];have hL32:=hp.l _ (zAH (L:=p.C) (k:=k) (z:= []) h3);have hn:¬(k:Int)<0:=by omega
  have hcF:chF p.C k 0=lsB (p.C.getD k []):=rfl;have hcc:iF (fI ch) k 0=iC (c:Nat):=congrArg iC h2;refine zH Tryz.func63 rfl rfl Tryz.ntmps63 rfl ?_
  repeat (first
   |refine vB [0,1] ?_
   |(refine AWp.draw (id:=3) zI ?_;refine xE3 ?_;(first|refine zG (aP (k:=k) zA) ?_|refine zM (zL (k:=k) zA) ?_);(first|refine zAq zA (hcF) rfl rfl rfl rfl rfl oM ?_|refine zAY zA rfl rfl rfl rfl rfl rfl rfl oM oM (hcF) ?_);refine xE2 ?_;(first|refine zG (aP (k:=k) zA) ?_|refine zM (zL (k:=k) zA) ?_);(first|refine zAq zA (hcc) rfl rfl rfl rfl rfl oM ?_|refine zAY zA rfl rfl rfl rfl rfl rfl rfl oM oM (hcc) ?_);(first|refine zG (aP (k:=c) zA) ?_|refine zM (zL (k:=c) zA) ?_);refine xE4 ?_;(first|refine zG (aP (k:=k) zA) ?_|refine zM (zL (k:=k) zA) ?_);refine xE3 ?_;refine aB ⟨by kernel_rfl,?_⟩))
  refine⟨zC 38 [(6,.c (.pt 6 3 0 0)),(7,.c (.pt 7 4 0 0))] [(6,⟨false,1,3,53,lF (bpC ((p.C.getD k []).getD c bpZ))⟩),(7,⟨false,1,4,33,lF (bgC (p.O.getD k bgZ))⟩)] [6,7],[(6,⟨false,1,3,53,lF (bpC ((p.C.getD k []).getD c bpZ))⟩),(7,⟨false,1,4,33,lF (bgC (p.O.getD k bgZ))⟩)],Wk.mk [(6,some 6),(7,some 7)] rfl rfl rfl ?_ ?_,rfl,rfl,ARets.two (x:=.ag _) (y:=.ag _) (ARes.box zA rfl rfl rfl rfl rfl rfl rfl) (ARes.box zA rfl rfl rfl rfl rfl rfl rfl)⟩
  ·exact zB
  ·exact zAc
theorem zRM{p:Pb}{k:Nat}(h:k<p.F.length):obN p k = -1-(k:Int):=if_pos h
theorem obN_hi{p:Pb}{k:Nat}:obN p (p.F.length+k)=(k:Int):=by
 unfold obN;rw[if_neg xD]
 omega
theorem zNj(p:Pb)(n:Nat){v:Int}(h:v=obN p n):∀i,i<n+1→∀j,j<1→zAh (iF (obN p)) n (sF [iC v] 1) i j=iF (obN p) i j∧zK (zAh (iF (obN p)) n (sF [iC v] 1) i j)=true:=by
 subst h;exact zET (G:=iF (obN p)) (fun i _ j _=>rfl) (zZ rfl) (fun _ _ _ _=>rfl)
theorem zSn(p:Pb)(i:Nat)(hF:p.F.length≤1000)(hi:i≤1000):ACalls Tryz.prog 62 [.ag (pbC p),.c (iC i)] (.c (.ls (p.F.length+i) 1 (iF (obN p)))):=by
 refine zH Tryz.func62 rfl rfl Tryz.ntmps62 rfl ?_;refine vB [0,1,2] ?_;refine AWp.round (fun k:Nat=>zC 30 [(1,.c (iC i)),(2,.c (.pt 2 5 0 0)),(5,.c (.ow 20)),(6,.c (iC (k:Nat)))] [(2,pS9 p),(20,zBk k (obN p))] [2,20]) (fun k=>k≤p.F.length) (fun k=>p.F.length-k) 0 (Nat.zero_le _) ?_ (fun k hk=> ?_)
 ·refine Wk.mk [(2,some 2),(20,none)] rfl rfl rfl ?_ ?_
  ·exact zB
  ·exact⟨hSm,HeapOk.nil rfl rfl,trivial⟩
 by_cases hkl:k<p.F.length
 ·have hkl':(k:Int)<p.F.length:=by omega
  repeat (first
   |refine vB [3,4] ?_
   | (refine rG 5 ?_
      refine xE4 ?_;refine xA ?_;refine vA ?_;refine aB ?_))
  refine⟨k+1,hkl,Wk.mk [(2,some 2),(20,some 19)] rfl rfl rfl ?_ ?_,by omega⟩
  ·exact zB
  ·exact⟨hSm,HeapOk.row rfl rfl rfl (zNj p k (zRM hkl).symm),trivial⟩
 have hkl':¬(k:Int)<p.F.length:=by omega
 obtain rfl:k=p.F.length:=by omega
 refine vB [3,6] ?_;refine AWp.round (fun k:Nat=>zC 30 [(1,.c (iC i)),(5,.c (.ow 20)),(7,.c (iC (k:Nat)))] [(20,zBk (p.F.length+k) (obN p))] [20]) (fun k=>k≤i) (fun k=>i-k) 0 (Nat.zero_le _) ?_ (fun k hk=> ?_)
 ·refine Wk.mk [(20,some 20)] rfl rfl rfl ?_ ?_
  ·exact zB
  ·exact⟨HeapOk.row rfl rfl rfl (fun i _ j _=>⟨rfl,rfl⟩),trivial⟩
 by_cases hkl:k<i
 ·have hkl':(k:Int)<i:=by omega
  have hn20:((20,zBk (p.F.length+k) (obN p)):Nat×AB).snd.n=p.F.length+k:=rfl
  repeat (first
   |refine vB [7,8] ?_
   | (refine rG 9 ?_
      refine xE3 ?_;refine xA ?_;refine vA ?_;refine aB ?_))
  refine⟨k+1,hkl,Wk.mk [(20,some 28)] rfl rfl rfl ?_ ?_,by omega⟩
  ·exact zB
  ·exact⟨HeapOk.row rfl rfl rfl (zNj p (p.F.length+k) obN_hi.symm),trivial⟩
 have hkl':¬(k:Int)<i:=by omega
 obtain rfl:k=i:=by omega
 refine vB [7,10] ?_
 refine⟨zC 30 [(4,.c (.ls (p.F.length+k) 1 (iF (obN p))))] [] [],[],Wk.mk [] rfl rfl rfl ?_ trivial,rfl,rfl,aR1⟩
 exact⟨⟨_,rfl,.c (zAl rfl rfl rfl (fun i _ j _=>⟨rfl,rfl⟩))⟩,trivial⟩
def sK(p:Pb)(ch:List Int)(c k:Nat):Stp:=zNt p ch c ((List.range k).find? fun j=>(zBq p ch c j).2.2)
theorem zJC{p:Pb}{ch:List Int}{c k:Nat}(h:(sK p ch c k).dp=true):sK p ch c k=zAP ch.length c∧(List.range k).find? (fun j=>(zBq p ch c j).2.2)=none:=by
 unfold sK at h⊢
 cases hf:(List.range k).find? fun j=>(zBq p ch c j).2.2 with
 |none=>exact⟨rfl,rfl⟩
 |some j=>rw[hf]at h;cases h
theorem zSw{p:Pb}{ch:List Int}{c k:Nat}(h:(sK p ch c k).dp=true)(ht:(zBq p ch c k).2.2=true):sK p ch c (k+1)=⟨ch.length,c,obN p k,(zBq p ch c k).1,false,(zBq p ch c k).2.1⟩:=by
 unfold sK;rw[List.range_succ,List.find?_append,(zJC h).2,List.find?_cons,ht]
 rfl
theorem zSx{p:Pb}{ch:List Int}{c k:Nat}(h:(sK p ch c k).dp=true)(ht:(zBq p ch c k).2.2=false):sK p ch c (k+1)=zAP ch.length c:=by
 unfold sK;rw[List.range_succ,List.find?_append,(zJC h).2,List.find?_cons,ht]
 rfl
theorem zSv{p:Pb}{ch:List Int}{c k:Nat}(h:(sK p ch c k).dp=false):∀{n:Nat},k≤n→sK p ch c n=sK p ch c k:=fun {n} hn=>by
 unfold sK at h⊢
 cases hf:(List.range k).find? fun j=>(zBq p ch c j).2.2 with
 |none=>rw[hf]at h;cases h
 | some j=>
   obtain⟨r,hr⟩:∃r,List.range n=List.range k++r:=⟨(List.range (n-k)).map (k+ ·),by rw[←List.range_add];congr 1;omega⟩
   rw[hr,List.find?_append,hf]
   rfl
theorem zJM{m:Nat}(h:m≤5):stT m≤20000:=by
 have:m=0∨m=1∨m=2∨m=3∨m=4∨m=5:=by omega
 rcases this with h|h|h|h|h|h<;>rw[h]<;>decide
abbrev bxS(s:Stp):AB:=⟨false,1,8,60,lF (stC s)⟩
theorem zNY(p:Pb)(hp:p.fit)(hc5:p.C.length≤5)(hl4:∀l∈p.C,l.length≤4):∀(m:Nat) (ch:List Int),ch.length+m=p.C.length→ChOk p ch→ACalls Tryz.prog 36 [.ag (pbC p),.c (lsI ch)] (.c (zAm (zBa p m ch)))
 | 0,ch,hm,_=>by
   have hm':(ch.length:Int)=p.C.length:=by omega
   show ACalls _ _ _ (.c (zAm []));refine zH Tryz.func36 rfl rfl Tryz.ntmps36 rfl ?_;refine vB [0,1,2,3] ?_
   refine⟨zC 107 [(4,.c (zAm []))] [] [],[],Wk.mk [] rfl rfl rfl ?_ trivial,rfl,rfl,aR1⟩
   exact zB
 | m + 1, ch,hm,hch=>by
   have hm':¬(ch.length:Int)=p.C.length:=by omega
   have hlF:=hp.f;have hlO:=hp.o;have hN:=zSn p ch.length xD xD
   obtain⟨L,hL⟩:∃L,p.C.getD ch.length []=L:=⟨_,rfl⟩
   have hcL:chF p.C ch.length 0=lsB L:=by rw[←hL]
   have hL4:L.length≤4:=by rw[←hL];exact hl4 _ (zAH xD)
   have hwl:=zJM (m:=m+1) xD;have hwN:∀c,c≤L.length→(zAI p m ch c).length≤20000:=fun c hc=>by
    have h1:=zHS hl4 (m+1) ch;have h2:zBa p (m+1) ch=zAI p m ch L.length:=by unfold zAI;rw[←hL];rfl
    rw[h2]at h1;have:=zJ5 (p:=p) (m:=m) (ch:=ch) hc
    omega
   rw[show zBa p (m+1) ch=zAI p m ch L.length by unfold zAI;rw[←hL];rfl]
   refine zH Tryz.func36 rfl rfl Tryz.ntmps36 rfl ?_
   repeat (first
    |refine vB [0,1,2,4,6] ?_
    | (refine rG 5 ?_
       refine xE2 ?_;refine xB Tryz.func62 hN ?_;refine vA ?_;refine aB ?_))
   refine AWp.round (fun c:Nat=>zC 107 [
    (1,.c (lsI ch)),(2,.c (.pt 2 5 0 0)),(5,.c (iC ch.length)),(6,.c (.ow 200)),(7,.c (.ls (p.F.length+ch.length) 1 (iF (obN p)))),(8,.c (iC (c:Nat)))
    ] [(2,pS9 p),(200,stR (zAI p m ch c))] [2,200]) (fun c=>c≤L.length) (fun c=>L.length-c) 0 (Nat.zero_le _) ?_ (fun c hc=> ?_)
   ·refine Wk.mk [(2,some 2),(200,none)] rfl rfl rfl ?_ ?_
    ·exact zB
    ·exact⟨hSm,HeapOk.nil rfl rfl,trivial⟩
   have hwc:=hwN c hc;have h200:((200,stR (zAI p m ch c)):Nat×AB).snd.n=(zAI p m ch c).length:=rfl;by_cases hcl:c<L.length;rotate_left
   ·obtain rfl:c=L.length:=by omega
    have hcl':¬((L.length:Nat):Int)<L.length:=by omega
    repeat (first
     |refine vB [20] ?_
     | (refine rG 7 ?_
        refine xE4 ?_
        first|refine zG (aP (k:=ch.length) zA) ?_|refine zM (zL (k:=ch.length) zA) ?_
        first|refine zAq zA (hcL) rfl rfl rfl rfl rfl oM ?_|refine zAY zA rfl rfl rfl rfl rfl rfl rfl oM oM (hcL) ?_
        refine xE2 ?_;refine aB ?_))
    refine⟨zC 107 [(4,.c (zAm (zAI p m ch L.length)))] [] [],[],Wk.mk [] rfl rfl rfl ?_ trivial,rfl,rfl,aR1⟩
    exact⟨⟨_,rfl,.c (zAl rfl rfl rfl (fun i _ j _=>⟨rfl,zQ zBl _ i j⟩))⟩,trivial⟩
   have hcl':(c:Int)<L.length:=by omega
   have hsV:zBN p ch c=sK p ch c (p.F.length+ch.length):=rfl
   repeat (first
    |refine vB [9,10] ?_
    | (refine rG 7 ?_
       refine xE4 ?_
       first|refine zG (aP (k:=ch.length) zA) ?_|refine zM (zL (k:=ch.length) zA) ?_
       first|refine zAq zA (hcL) rfl rfl rfl rfl rfl oM ?_|refine zAY zA rfl rfl rfl rfl rfl rfl rfl oM oM (hcL) ?_
       refine xE2 ?_;refine aB ?_))
   refine AWp.round (fun k:Nat=>
    zC 107 [
    (1,.c (lsI ch)),(2,.c (.pt 2 5 0 0)),(5,.c (iC ch.length)),(6,.c (.ow 200)),(7,.c (.ls (p.F.length+ch.length) 1 (iF (obN p)))),(8,.c (iC (c:Nat)))
    ,(9,.c (.pt 9 8 0 0)),(10,.c (iC ((k:Nat))))
    ] [(2,pS9 p),(9,bxS (sK p ch c k)),(200,stR (zAI p m ch c))] [2,9,200]
    ) (fun k=>k≤p.F.length+ch.length) (fun k=>p.F.length+ch.length-k) 0 (Nat.zero_le _) ?_ (fun k hk=> ?_)
   ·refine Wk.mk [(2,some 2),(9,some 9),(200,some 200)] rfl rfl rfl ?_ ?_
    ·exact zB
    ·exact⟨hSm,hSm,hrF zBl,trivial⟩
   have hend:= @zSv p ch c k;have hhit:= @zSw p ch c k;have hmiss:= @zSx p ch c k;have hdp:= @zJC p ch c k;by_cases hkn:k<p.F.length+ch.length;rotate_left
   ·obtain rfl:k=p.F.length+ch.length:=by omega
    have hkn':¬((p.F.length+ch.length:Nat):Int)<((p.F.length+ch.length:Nat):Int):=by omega
    rw[←hsV];rw[←hsV]at hdp;clear hend hhit hmiss
    obtain⟨s,hs⟩:∃s,zBN p ch c=s:=⟨_,rfl⟩
    rw[hs]at hdp⊢
    cases hd:s.dp with
    | true=>
      obtain rfl:=(hdp hd).1;have hW:=zNY p hp hc5 hl4 m (ch++ [(c:Int)]) (by rw[List.length_append,List.length_singleton];omega) (hch.snoc (hp.pk xD (by rw[hL];exact hcl)))
      have hwm:=zHS hl4 m (ch++ [(c:Int)]);have hwm5:=zJM (m:=m) xD;generalize hWv:zBa p m (ch++ [(c:Int)])=W at *;have hA1:(zAI p m ch c++ [zAP ch.length c]).length≤20001:=by rw[List.length_append,List.length_singleton];omega
      repeat (first
       |refine vB [11,18] ?_
       | (refine rG 17 ?_
          refine xE3 ?_;refine xA ?_;refine vA ?_;refine aB ?_))
      refine AWp.weak (S':=zC 107 [
       (1,.c (lsI ch)),(2,.c (.pt 2 5 0 0)),(5,.c (iC ch.length)),(6,.c (.ow 200)),(7,.c (.ls (p.F.length+ch.length) 1 (iF (obN p)))),(8,.c (iC (c:Nat)))
       ] [(2,pS9 p),(200,stR (zAI p m ch c++ [zAP ch.length c]))] [2,200]) (Wk.mk [(2,some 2),(200,some 93)] rfl rfl rfl ?_ ?_) ?_
      ·exact zB
      ·exact⟨hSm,HeapOk.row rfl rfl (by rw[List.length_append];rfl) (zB9 (c:=stC) (z:=stZ) (zAI p m ch c) _ zBl rfl),trivial⟩
      have h201:((200,stR (zAI p m ch c++ [zAP ch.length c])):Nat×AB).snd.n=(zAI p m ch c++ [zAP ch.length c]).length:=rfl
      repeat (first
       |refine vB [] ?_
       |(refine AWp.draw (id:=19) zI ?_;refine xE4 ?_;refine xA ?_;refine xE2 ?_;refine zKb zA rfl rfl rfl rfl rfl rfl rfl rfl rfl rfl (@List.length_append _ ch [(c:Int)]) (zDc ch c) oM oM ?_;refine xB Tryz.func36 hW ?_;refine xA ?_;refine vA ?_;refine aB ⟨by kernel_rfl,?_⟩))
      refine vB [8] ?_
      refine⟨c+1,hcl,Wk.mk [(2,some 2),(200,some 105)] rfl rfl rfl ?_ ?_,by omega⟩
      ·exact zB
      ·rw[zFk]
       unfold zEK
       (rw[hs,if_pos rfl,hWv,show zAI p m ch c++zAP ch.length c::W=(zAI p m ch c++ [zAP ch.length c])++W by simp];exact⟨hSm,HeapOk.row rfl rfl List.length_append (fun i _ j _=>⟨zNV _ _ i j,by rw[zNV];exact zQ zBl _ i j⟩),trivial⟩)
    | false=>
      obtain⟨nm,sc,wi,rd,dp,cl⟩:=s
      obtain rfl:dp=false:=hd;refine vB [11] ?_
      repeat (first
       |refine vB [8,18] ?_
       | (refine rG 17 ?_
          refine xE3 ?_;refine xA ?_;refine vA ?_;refine aB ?_))
      refine⟨c+1,hcl,Wk.mk [(2,some 2),(200,some 93)] rfl rfl rfl ?_ ?_,by omega⟩
      ·exact zB
      ·rw[zFk]
       unfold zEK
       (rw[hs,if_neg (by simp)];exact⟨hSm,HeapOk.row rfl rfl (by rw[List.length_append];rfl) (zB9 (c:=stC) (z:=stZ) (zAI p m ch c) _ zBl rfl),trivial⟩)
   have hkn':(k:Int)<((p.F.length+ch.length:Nat):Int):=by omega
   cases hd:(sK p ch c k).dp with
   | false=>
     have hs:=(hend hd (Nat.le_of_lt hkn)).symm.trans hsV.symm;rw[hs]at hd;rw[hs];clear hend hhit hmiss hdp;generalize hsg:zBN p ch c=s at *
     obtain⟨nm,sc,wi,rd,dp,cl⟩:=s
     obtain rfl:dp=false:=hd
     repeat (first
      |refine vB [8,11,18] ?_
      | (refine rG 17 ?_
         refine xE3 ?_;refine xA ?_;refine vA ?_;refine aB ?_))
     refine⟨c+1,hcl,Wk.mk [(2,some 2),(200,some 93)] rfl rfl rfl ?_ ?_,by omega⟩
     ·exact zB
     ·rw[zFk]
      unfold zEK
      (rw[hsg,if_neg (by simp)];exact⟨hSm,HeapOk.row rfl rfl (by rw[List.length_append];rfl) (zB9 (c:=stC) (z:=stZ) (zAI p m ch c) _ zBl rfl),trivial⟩)
   | true=>
     rw[(hdp hd).1];have hOb:=zNR p hp ch (obN p k) (zNi hp hch hkn) hch;have hCl:ACalls Tryz.prog 64 [.ag (pbC p),.ag (bpC ((p.C.getD ch.length []).getD c bpZ)),.ag (bpC (obB p ch (obN p k))),.ag (bgC (p.O.getD ch.length bgZ)),.ag (bgC (obG p (obN p k)))] (.tu [.c (iC (zBq p ch c k).1),.ag (clC (zBq p ch c k).2.1),.c (bC (zBq p ch c k).2.2)]):=zJt p _ _ _ _ (by have:=hp.ok.lR;omega) hp.ok.rd
     rw[hL]at hCl;clear hend hdp hsV;generalize zBq p ch c k=o at *
     obtain⟨rd,cl,bb⟩:=o
     dsimp only at hCl hhit hmiss
     cases bb with
     | true=>
       repeat (first
        |refine vB [11,15] ?_
        |(refine AWp.draw (id:=13) zI ?_;refine xE4 ?_;(first|refine zG (aP (k:=k) zA) ?_|refine zM (zL (k:=k) zA) ?_);refine vA ?_;refine xB Tryz.func63 hOb ?_;refine xE7 ?_;refine aB ⟨by kernel_rfl,?_⟩)
        |(refine AWp.draw (id:=14) zI ?_;refine xE4 ?_;(first|refine zG (aP (k:=ch.length) zA) ?_|refine zM (zL (k:=ch.length) zA) ?_);(first|refine zAq zA (hcL) rfl rfl rfl rfl rfl oM ?_|refine zAY zA rfl rfl rfl rfl rfl rfl rfl oM oM (hcL) ?_);refine vA ?_;(first|refine zG (aP (k:=c) zA) ?_|refine zM (zL (k:=c) zA) ?_);refine xE5 ?_;(first|refine zG (aP (k:=ch.length) zA) ?_|refine zM (zL (k:=ch.length) zA) ?_);refine xE2 ?_;refine xB Tryz.func64 hCl ?_;refine xE8 ?_;refine aB ⟨by kernel_rfl,?_⟩))
       repeat (first
        |refine vB [12] ?_
        |(refine AWp.draw (id:=16) zI ?_;refine xE4 ?_;(first|refine zG (aP (k:=k) zA) ?_|refine zM (zL (k:=k) zA) ?_);refine xE5 ?_;refine aB ⟨by kernel_rfl,?_⟩))
       refine⟨k+1,hkn,Wk.mk [(2,some 2),(9,some 9),(200,some 200)] rfl rfl rfl ?_ ?_,by omega⟩
       ·exact zB
       ·rw[hhit hd rfl]
        exact⟨hSm,hSm,hrF zBl,trivial⟩
     | false=>
       repeat (first
        |refine vB [11,12,15] ?_
        |(refine AWp.draw (id:=13) zI ?_;refine xE4 ?_;(first|refine zG (aP (k:=k) zA) ?_|refine zM (zL (k:=k) zA) ?_);refine vA ?_;refine xB Tryz.func63 hOb ?_;refine xE7 ?_;refine aB ⟨by kernel_rfl,?_⟩)
        |(refine AWp.draw (id:=14) zI ?_;refine xE4 ?_;(first|refine zG (aP (k:=ch.length) zA) ?_|refine zM (zL (k:=ch.length) zA) ?_);(first|refine zAq zA (hcL) rfl rfl rfl rfl rfl oM ?_|refine zAY zA rfl rfl rfl rfl rfl rfl rfl oM oM (hcL) ?_);refine vA ?_;(first|refine zG (aP (k:=c) zA) ?_|refine zM (zL (k:=c) zA) ?_);refine xE5 ?_;(first|refine zG (aP (k:=ch.length) zA) ?_|refine zM (zL (k:=ch.length) zA) ?_);refine xE2 ?_;refine xB Tryz.func64 hCl ?_;refine xE8 ?_;refine aB ⟨by kernel_rfl,?_⟩))
       refine⟨k+1,hkn,Wk.mk [(2,some 2),(9,some 9),(200,some 200)] rfl rfl rfl ?_ ?_,by omega⟩
       ·exact zB
       ·rw[hmiss hd rfl]
        exact⟨hSm,hSm,hrF zBl,trivial⟩
theorem zSa(p:Pb)(hp:p.ok)(hs:zAA p=0→Sm p):ACalls Tryz.prog 11 [.ag (pbC p)] (.tu [.c (zAm (zCt p).1),.c (iC (zCt p).2)]):=by
 have hC:=zJs p hp;have hU:=zSt p hp;unfold zCt
 obtain⟨e,he⟩:∃e,zAA p=e:=⟨_,rfl⟩
 rw[he]at hC⊢;by_cases h0:e=0;rotate_left
 ·rw [if_neg h0]
  refine zH Tryz.func11 rfl rfl Tryz.ntmps11 rfl ?_
  repeat (first
   |refine vB [0,2,3] ?_
   | (refine rG 1 ?_
      refine vA ?_;refine xB Tryz.func31 hC ?_;refine vA ?_;refine aB ?_))
  refine⟨zC 17 [(2,.c (zAm ([]))),(3,.c (iC (e)))] [] [],[],Wk.mk [] rfl rfl rfl ?_ trivial,rfl,rfl,ARets.two (x:=.c _) (y:=.c _) (ARes.tmp rfl rfl) (ARes.tmp rfl rfl)⟩
  exact zB
 subst h0;have sp:=hs he;rw[if_pos rfl];generalize zAX p=u at *;by_cases hu:u=0
 ·rw [if_pos hu]
  subst hu;have hW:=(zNY p sp.fit sp.C (fun l hl=>(sp.Cc l hl).1) p.C.length [] (Nat.zero_add _) (fun k hk=>absurd hk (Nat.not_lt_zero _))).cv (args':= [.ag (pbC p),.c (.p (.slice none 0 0))]) ⟨.ag (zGU _),.c Cv.nil,trivial⟩;refine zH Tryz.func11 rfl rfl Tryz.ntmps11 rfl ?_
  repeat (first
   |refine vB [0,2,5] ?_
   | (refine rG 1 ?_
      refine vA ?_;refine xB Tryz.func31 hC ?_;refine vA ?_;refine aB ?_)
   | (refine rG 4 ?_
      refine vA ?_;refine xB Tryz.func32 hU ?_;refine vA ?_;refine aB ?_)
   | (refine rG 7 ?_
      refine vA ?_;refine xB Tryz.func36 hW ?_;refine xE2 ?_;refine aB ?_))
  refine⟨zC 17 [(2,.c (zAm (zBa p p.C.length []))),(3,.c (iC (0)))] [] [],[],Wk.mk [] rfl rfl rfl ?_ trivial,rfl,rfl,ARets.two (x:=.c _) (y:=.c _) (ARes.tmp rfl rfl) (ARes.tmp rfl rfl)⟩
  exact zB
 ·rw [if_neg hu]
  refine zH Tryz.func11 rfl rfl Tryz.ntmps11 rfl ?_
  repeat (first
   |refine vB [0,2,5,6] ?_
   | (refine rG 1 ?_
      refine vA ?_;refine xB Tryz.func31 hC ?_;refine vA ?_;refine aB ?_)
   | (refine rG 4 ?_
      refine vA ?_;refine xB Tryz.func32 hU ?_;refine vA ?_;refine aB ?_))
  refine⟨zC 17 [(2,.c (zAm ([]))),(3,.c (iC (u)))] [] [],[],Wk.mk [] rfl rfl rfl ?_ trivial,rfl,rfl,ARets.two (x:=.c _) (y:=.c _) (ARes.tmp rfl rfl) (ARes.tmp rfl rfl)⟩
  exact zB
theorem zN2{r:Rd}{b:Bp}(h:zAU r b=0):(zAK r b).W=b.W∧(zAK r b).H=b.H:=by
 unfold zAK;rw[if_pos h]
 exact⟨rfl,rfl⟩
theorem zOA{x:Int}(h:-1000≤x∧x≤1000):IntKind.i64.wrap (-x) = -x:=by
 rw[IntKind.wrap_i64]
 omega
theorem zR9(r:Rd)(a b:Bp)(x y:Bg)(c:Cl)(hr:-1000000≤r.bl∧r.bl≤1000000)(hW:a.W=b.W)(hH:a.H=b.H):
 ACalls Tryz.prog 81 [.ag (rdC r),.ag (bpC a),.ag (bpC b),.ag (bgC x),.ag (bgC y),.ag (clC c)] (.c (bC (zEq r a b x y c))):=by
 have hA:=zGv r a hr;have hB:=zGv r b hr;have sA1:= @zHC r a;have sB1:= @zHC r b;have dA1:= @zN2 r a;have dB1:= @zN2 r b;unfold zEq;generalize zAK r a=u at *;generalize zAK r b=v at *;generalize zAU r a=e at *;generalize zAU r b=f at *;by_cases c1:e=0;rotate_left
 ·rw [decide_eq_false c1]
  refine zH Tryz.func81 rfl rfl Tryz.ntmps81 rfl ?_
  repeat (first
   |refine vB [0,3,4] ?_
   | (refine rG 1 ?_
      refine xE2 ?_
      first|refine xB Tryz.func75 hA ?_|refine xB Tryz.func75 hB ?_
      refine xE6 ?_;refine aB ?_)
   | (refine rG 2 ?_
      refine xE2 ?_
      first|refine xB Tryz.func75 hA ?_|refine xB Tryz.func75 hB ?_
      refine xE6 ?_;refine aB ?_))
  refine⟨zC 155 [(12,.c (bC false))] [] [],[],Wk.mk [] rfl rfl rfl ?_ trivial,rfl,rfl,aR1⟩
  exact zB
 by_cases c2:f=0;rotate_left
 ·rw [decide_eq_false c2,Bool.false_and,Bool.and_false]
  refine zH Tryz.func81 rfl rfl Tryz.ntmps81 rfl ?_
  repeat (first
   |refine vB [0,3,4] ?_
   | (refine rG 1 ?_
      refine xE2 ?_
      first|refine xB Tryz.func75 hA ?_|refine xB Tryz.func75 hB ?_
      refine xE6 ?_;refine aB ?_)
   | (refine rG 2 ?_
      refine xE2 ?_
      first|refine xB Tryz.func75 hA ?_|refine xB Tryz.func75 hB ?_
      refine xE6 ?_;refine aB ?_))
  refine⟨zC 155 [(12,.c (bC false))] [] [],[],Wk.mk [] rfl rfl rfl ?_ trivial,rfl,rfl,aR1⟩
  exact zB
 subst c1 c2;rw[decide_eq_true rfl,Bool.true_and,Bool.true_and];have hu:=sA1 rfl;have hv:=sB1 rfl;have hWuv:u.W=v.W:=by rw[(dA1 rfl).1,(dB1 rfl).1];exact hW
 have hHuv:u.H=v.H:=by rw[(dA1 rfl).2,(dB1 rfl).2];exact hH
 clear sA1 sB1 dA1 dB1;have bx:=zBy x;have b_y:=zBy y;have hl1:=zJB x;have hl2:=zJB y;have hst:=zD2 (w:=u.W) x y (okB hu).1;have huW:=okB hu
 obtain⟨hN1,hN4⟩:=zDF x y
 obtain⟨t,ht⟩:∃t,stN u.W x y=t:=⟨_,rfl⟩
 rw[ht]at hst;have ht':min (u.W+8) (max (zO x).st (zO y).st)=t:=ht;have hD:(c.dx,c.dy)∈shL (shN x y)↔(-(shN x y:Int)≤c.dx∧c.dx≤shN x y)∧-(shN x y:Int)≤c.dy∧c.dy≤shN x y:=zSG hN4
 obtain⟨w1,hw1⟩:∃w1,IntKind.i64.wrap (-c.dx)=w1:=⟨_,rfl⟩
 obtain⟨w2,hw2⟩:∃w2,IntKind.i64.wrap (-c.dy)=w2:=⟨_,rfl⟩
 by_cases c3:(c.dx,c.dy)∈shL (shN x y);rotate_left
 ·rw[zHa fun h=>c3 h.1]
  have c3':¬((-(shN x y:Int)≤c.dx∧c.dx≤shN x y)∧-(shN x y:Int)≤c.dy∧c.dy≤shN x y):=fun h=>c3 (hD.2 h)
  by_cases c4:max (max (max c.dx (IntKind.i64.wrap (-c.dx))) c.dy) (IntKind.i64.wrap (-c.dy))>(zO x).sh+(zO y).sh
  ·refine zH Tryz.func81 rfl rfl Tryz.ntmps81 rfl ?_
   repeat (first
    |refine vB [0,3,6,8] ?_
    | (refine rG 1 ?_
       refine xE2 ?_
       first|refine xB Tryz.func75 hA ?_|refine xB Tryz.func75 hB ?_
       refine xE6 ?_;refine aB ?_)
    | (refine rG 2 ?_
       refine xE2 ?_
       first|refine xB Tryz.func75 hA ?_|refine xB Tryz.func75 hB ?_
       refine xE6 ?_;refine aB ?_)
    |(refine AWp.draw (id:=5) zI ?_;refine vA ?_;(first|refine xB Tryz.func101 hl1 ?_|refine xB Tryz.func101 hl2 ?_);refine vA ?_;(first|refine xB Tryz.func101 hl1 ?_|refine xB Tryz.func101 hl2 ?_);refine xE2 ?_;refine aB ⟨by kernel_rfl,?_⟩)
    | (refine rG 7 ?_
       refine xE4 ?_;refine qr3 zGm ?_;refine xE4 ?_;refine qr3 zGm ?_;refine zD7 rfl rfl rfl rfl rfl rfl ?_
       (iterate 27 refine vA ?_);refine aB ?_))
   refine⟨zC 155 [(12,.c (bC false))] [] [],[],Wk.mk [] rfl rfl rfl ?_ trivial,rfl,rfl,aR1⟩
   exact zB
  ·have c5:min c.dx c.dy < -((zO x).sh+(zO y).sh):=by omega
   refine zH Tryz.func81 rfl rfl Tryz.ntmps81 rfl ?_
   repeat (first
    |refine vB [0,3,6,8] ?_
    | (refine rG 1 ?_
       refine xE2 ?_
       first|refine xB Tryz.func75 hA ?_|refine xB Tryz.func75 hB ?_
       refine xE6 ?_;refine aB ?_)
    | (refine rG 2 ?_
       refine xE2 ?_
       first|refine xB Tryz.func75 hA ?_|refine xB Tryz.func75 hB ?_
       refine xE6 ?_;refine aB ?_)
    |(refine AWp.draw (id:=5) zI ?_;refine vA ?_;(first|refine xB Tryz.func101 hl1 ?_|refine xB Tryz.func101 hl2 ?_);refine vA ?_;(first|refine xB Tryz.func101 hl1 ?_|refine xB Tryz.func101 hl2 ?_);refine xE2 ?_;refine aB ⟨by kernel_rfl,?_⟩)
    | (refine rG 7 ?_
       refine xE4 ?_;refine qr3 zGm ?_;refine xE4 ?_;refine qr3 zGm ?_;refine zD7 rfl rfl rfl rfl rfl rfl ?_
       (iterate 27 refine vA ?_);refine aB ?_))
   refine⟨zC 155 [(12,.c (bC false))] [] [],[],Wk.mk [] rfl rfl rfl ?_ trivial,rfl,rfl,aR1⟩
   exact zB
 have c3':=hD.1 c3;have e1:=zOA (x:=c.dx) xD;have e2:=zOA (x:=c.dy) xD;by_cases c4:-4≤c.col∧c.col≤u.W+4-t;rotate_left
 ·rw[zHa fun h=>c4 ⟨h.2.1,by rw[←ht];exact h.2.2⟩]
  by_cases c5:c.col < -4
  ·refine zH Tryz.func81 rfl rfl Tryz.ntmps81 rfl ?_
   repeat (first
    |refine vB [0,3,6,8] ?_
    | (refine rG 1 ?_
       refine xE2 ?_
       first|refine xB Tryz.func75 hA ?_|refine xB Tryz.func75 hB ?_
       refine xE6 ?_;refine aB ?_)
    | (refine rG 2 ?_
       refine xE2 ?_
       first|refine xB Tryz.func75 hA ?_|refine xB Tryz.func75 hB ?_
       refine xE6 ?_;refine aB ?_)
    |(refine AWp.draw (id:=5) zI ?_;refine vA ?_;(first|refine xB Tryz.func101 hl1 ?_|refine xB Tryz.func101 hl2 ?_);refine vA ?_;(first|refine xB Tryz.func101 hl1 ?_|refine xB Tryz.func101 hl2 ?_);refine xE2 ?_;refine aB ⟨by kernel_rfl,?_⟩)
    | (refine rG 7 ?_
       refine zBu ?_;refine zD7 rfl rfl rfl rfl rfl rfl ?_
       (iterate 27 refine vA ?_);refine aB ?_))
   refine⟨zC 155 [(12,.c (bC false))] [] [],[],Wk.mk [] rfl rfl rfl ?_ trivial,rfl,rfl,aR1⟩
   exact zB
  ·have c6:c.col>u.W+4-min (u.W+8) (max (zO x).st (zO y).st):=by omega
   refine zH Tryz.func81 rfl rfl Tryz.ntmps81 rfl ?_
   repeat (first
    |refine vB [0,3,6,8] ?_
    | (refine rG 1 ?_
       refine xE2 ?_
       first|refine xB Tryz.func75 hA ?_|refine xB Tryz.func75 hB ?_
       refine xE6 ?_;refine aB ?_)
    | (refine rG 2 ?_
       refine xE2 ?_
       first|refine xB Tryz.func75 hA ?_|refine xB Tryz.func75 hB ?_
       refine xE6 ?_;refine aB ?_)
    |(refine AWp.draw (id:=5) zI ?_;refine vA ?_;(first|refine xB Tryz.func101 hl1 ?_|refine xB Tryz.func101 hl2 ?_);refine vA ?_;(first|refine xB Tryz.func101 hl1 ?_|refine xB Tryz.func101 hl2 ?_);refine xE2 ?_;refine aB ⟨by kernel_rfl,?_⟩)
    | (refine rG 7 ?_
       refine zBu ?_;refine zD7 rfl rfl rfl rfl rfl rfl ?_
       (iterate 27 refine vA ?_);refine aB ?_))
   refine⟨zC 155 [(12,.c (bC false))] [] [],[],Wk.mk [] rfl rfl rfl ?_ trivial,rfl,rfl,aR1⟩
   exact zB
 rw[zMR ⟨c3,c4.1,by rw[ht];exact c4.2⟩]
 have o1:=zGu u v c.dx c.dy c.col (c.col+t) hu hv xD xD;have o2:=zGu v u (-c.dx) (-c.dy) (c.col-c.dx) (c.col-c.dx+t) hv hu xD xD;have n1:=zE6 u v c.dx c.dy c.col (c.col+t) hu;have n2:=zE6 v u (-c.dx) (-c.dy) (c.col-c.dx) (c.col-c.dx+t) hv;rw[ht];rw[←ht']at o1 o2;have c5:¬c.col < -4:=by omega
 have c6:¬c.col>u.W+4-min (u.W+8) (max (zO x).st (zO y).st):=by omega
 rw[←ht']at n1 n2⊢;generalize zBd u v c.dx c.dy c.col (c.col+min (u.W+8) (max (zO x).st (zO y).st))=m1 at *;generalize zBd v u (-c.dx) (-c.dy) (c.col-c.dx) (c.col-c.dx+min (u.W+8) (max (zO x).st (zO y).st))=m2 at *;by_cases c7:m1≤(zO x).lo+(zO y).bl
 ·rw[decide_eq_true c7,Bool.true_and]
  by_cases c8:m2≤(zO y).lo+(zO x).bl
  ·rw [decide_eq_true c8]
   refine zH Tryz.func81 rfl rfl Tryz.ntmps81 rfl ?_
   repeat (first
    |refine vB [0,3,6] ?_
    | (refine rG 1 ?_
       refine xE2 ?_
       first|refine xB Tryz.func75 hA ?_|refine xB Tryz.func75 hB ?_
       refine xE6 ?_;refine aB ?_)
    | (refine rG 2 ?_
       refine xE2 ?_
       first|refine xB Tryz.func75 hA ?_|refine xB Tryz.func75 hB ?_
       refine xE6 ?_;refine aB ?_)
    |(refine AWp.draw (id:=5) zI ?_;refine vA ?_;(first|refine xB Tryz.func101 hl1 ?_|refine xB Tryz.func101 hl2 ?_);refine vA ?_;(first|refine xB Tryz.func101 hl1 ?_|refine xB Tryz.func101 hl2 ?_);refine xE2 ?_;refine aB ⟨by kernel_rfl,?_⟩)
    | (refine rG 7 ?_
       refine zBu ?_;refine zD7 rfl rfl rfl rfl rfl rfl ?_
       (iterate 27 refine vA ?_);refine aB ?_)
    |(refine AWp.draw (id:=9) zI ?_;refine zDn ?_;(first|refine xB Tryz.func102 o1 ?_|refine xB Tryz.func102 o2 ?_);(iterate 27 refine vA ?_);(first|refine qr2 aG ?_|refine xB Tryz.func102 o1 ?_|refine xB Tryz.func102 o2 ?_);refine xE8 ?_;refine aB ⟨by kernel_rfl,?_⟩))
   refine⟨zC 155 [(12,.c (bC true))] [] [],[],Wk.mk [] rfl rfl rfl ?_ trivial,rfl,rfl,aR1⟩
   exact zB
  ·rw [decide_eq_false c8]
   refine zH Tryz.func81 rfl rfl Tryz.ntmps81 rfl ?_
   repeat (first
    |refine vB [0,3,6] ?_
    | (refine rG 1 ?_
       refine xE2 ?_
       first|refine xB Tryz.func75 hA ?_|refine xB Tryz.func75 hB ?_
       refine xE6 ?_;refine aB ?_)
    | (refine rG 2 ?_
       refine xE2 ?_
       first|refine xB Tryz.func75 hA ?_|refine xB Tryz.func75 hB ?_
       refine xE6 ?_;refine aB ?_)
    |(refine AWp.draw (id:=5) zI ?_;refine vA ?_;(first|refine xB Tryz.func101 hl1 ?_|refine xB Tryz.func101 hl2 ?_);refine vA ?_;(first|refine xB Tryz.func101 hl1 ?_|refine xB Tryz.func101 hl2 ?_);refine xE2 ?_;refine aB ⟨by kernel_rfl,?_⟩)
    | (refine rG 7 ?_
       refine zBu ?_;refine zD7 rfl rfl rfl rfl rfl rfl ?_
       (iterate 27 refine vA ?_);refine aB ?_)
    |(refine AWp.draw (id:=9) zI ?_;refine zDn ?_;(first|refine xB Tryz.func102 o1 ?_|refine xB Tryz.func102 o2 ?_);(iterate 27 refine vA ?_);(first|refine qr2 aG ?_|refine xB Tryz.func102 o1 ?_|refine xB Tryz.func102 o2 ?_);refine xE8 ?_;refine aB ⟨by kernel_rfl,?_⟩))
   refine⟨zC 155 [(12,.c (bC false))] [] [],[],Wk.mk [] rfl rfl rfl ?_ trivial,rfl,rfl,aR1⟩
   exact zB
 ·rw [decide_eq_false c7,Bool.false_and]
  refine zH Tryz.func81 rfl rfl Tryz.ntmps81 rfl ?_
  repeat (first
   |refine vB [0,3,6] ?_
   | (refine rG 1 ?_
      refine xE2 ?_
      first|refine xB Tryz.func75 hA ?_|refine xB Tryz.func75 hB ?_
      refine xE6 ?_;refine aB ?_)
   | (refine rG 2 ?_
      refine xE2 ?_
      first|refine xB Tryz.func75 hA ?_|refine xB Tryz.func75 hB ?_
      refine xE6 ?_;refine aB ?_)
   |(refine AWp.draw (id:=5) zI ?_;refine vA ?_;(first|refine xB Tryz.func101 hl1 ?_|refine xB Tryz.func101 hl2 ?_);refine vA ?_;(first|refine xB Tryz.func101 hl1 ?_|refine xB Tryz.func101 hl2 ?_);refine xE2 ?_;refine aB ⟨by kernel_rfl,?_⟩)
   | (refine rG 7 ?_
      refine zBu ?_;refine zD7 rfl rfl rfl rfl rfl rfl ?_
      (iterate 27 refine vA ?_);refine aB ?_)
   |(refine AWp.draw (id:=9) zI ?_;refine zDn ?_;(first|refine xB Tryz.func102 o1 ?_|refine xB Tryz.func102 o2 ?_);(iterate 27 refine vA ?_);(first|refine qr2 aG ?_|refine xB Tryz.func102 o1 ?_|refine xB Tryz.func102 o2 ?_);refine xE8 ?_;refine aB ⟨by kernel_rfl,?_⟩))
  refine⟨zC 155 [(12,.c (bC false))] [] [],[],Wk.mk [] rfl rfl rfl ?_ trivial,rfl,rfl,aR1⟩
  exact zB
theorem j2{P:Nat→Prop}(h:P 0∧P 1):∀j,j<2→P j:=fun j hj=>by
 obtain⟨h0,h1⟩:=h
 match j,hj with
 |0,_=>exact h0
 |1,_=>exact h1
theorem zSe{R:List Rd}(h:∀r∈R,-1000000≤r.bl∧r.bl≤1000000):∀r∈rdL R,-1000000≤r.bl∧r.bl≤1000000:=fun r hr=>by
 unfold rdL at hr;by_cases e:R= []
 ·rw[if_pos e]at hr
  obtain rfl:=List.mem_singleton.1 hr
  exact⟨by decide,by decide⟩
 ·rw[if_neg e]at hr
  exact h r hr
theorem zRN{p:Pb}(sp:Sm p){ch:List Int}(hch:ChOk p ch){w:Int}(h1:w<ch.length)(h2:-(p.F.length:Int)≤w):(obB p ch w).W=6∧(obB p ch w).H=5:=by
 obtain⟨dC,dF⟩:=zL5 sp
 unfold obB;by_cases hw:w<0
 ·rw[if_pos hw]
  exact dF _ xD
 ·rw[if_neg hw]
  obtain⟨c,e1,e2,-,e4⟩:=hch.at (k:=w.toNat) xD
  rw[e1];exact dC _ _ e2 e4
abbrev zQf(s:Stp):AB:=⟨false,1,8,60,lF (stC s)⟩
theorem zSm(p:Pb)(sp:Sm p)(ch:List Int)(hch:ChOk p ch)(c:Nat)(hi:ch.length<p.C.length)(hcl:c<(p.C.getD ch.length []).length)(wi rd:Int)(dp:Bool)(cl:Cl):
 ACalls Tryz.prog 66 [.ag (pbC p),.c (lsI ch),.ag (stC ⟨ch.length,c,wi,rd,dp,cl⟩)] (.c (bC (zCe p ch c ⟨ch.length,c,wi,rd,dp,cl⟩))):=by
 have hp:=sp.fit;have hlF:=hp.f;have hlO:=hp.o;have hRl:=sp.R
 obtain⟨dC,dF⟩:=zL5 sp
 have hchl:ch.length≤5:=by have:=sp.C;omega
 obtain⟨L,hL⟩:∃L,p.C.getD ch.length []=L:=⟨_,rfl⟩
 have hcL:chF p.C ch.length 0=lsB L:=by rw[←hL]
 have hda:=dC ch.length c hi hcl;rw[hL]at hcl hda
 obtain⟨g,hg⟩:∃g,zCe p ch c ⟨ch.length,c,wi,rd,dp,cl⟩=g:=⟨_,rfl⟩
 rw[hg];unfold zCe at hg;dsimp only at hg;rw[hL]at hg;by_cases g1:wi<ch.length;rotate_left
 ·rw[decide_eq_false (fun h=>g1 h.1),Bool.false_and]at hg
  subst hg;refine zH Tryz.func66 rfl rfl Tryz.ntmps66 rfl ?_;refine vB [0,1,2] ?_
  refine⟨zC 75 [(6,.c (bC false))] [] [],[],Wk.mk [] rfl rfl rfl ?_ trivial,rfl,rfl,aR1⟩
  exact zB
 by_cases g2:-(p.F.length:Int)≤wi;rotate_left
 ·rw[decide_eq_false (fun h=>g2 h.2.1),Bool.false_and]at hg
  subst hg;refine zH Tryz.func66 rfl rfl Tryz.ntmps66 rfl ?_;refine vB [0,1,2] ?_
  refine⟨zC 75 [(6,.c (bC false))] [] [],[],Wk.mk [] rfl rfl rfl ?_ trivial,rfl,rfl,aR1⟩
  exact zB
 have hdb:=zRN sp hch g1 g2;have hOb:=zNR p hp ch wi (by
  by_cases hw:wi<0
  ·exact .inl ⟨(-1-wi).toNat,by omega,by omega,by have:=sp.T;omega⟩
  ·exact .inr ⟨wi.toNat,by omega,by omega⟩) hch
 refine zH Tryz.func66 rfl rfl Tryz.ntmps66 rfl ?_;refine vB [0,1,3] ?_;refine zFo (zC 75 [(1,.c (lsI ch)),(3,.c (.pt 3 5 0 0)),(5,.c (.pt 5 8 0 0)),(7,.c (lsR (rdL p.R)))] [(3,pS9 p),(5,zQf ⟨ch.length,c,wi,rd,dp,cl⟩)] [3,5]) ?_ ?_
 ·by_cases hR:p.R= []
  ·rw[show rdL p.R= [⟨0,1⟩]from if_pos hR]
   have hR0:(p.R.length:Int)=0:=by rw[hR];rfl
   refine vB [4,5] ?_
   refine⟨rfl,Wk.mk [(3,some 3),(5,some 5)] rfl rfl rfl ?_ ?_⟩
   ·repeat (first|exact trivial|refine⟨⟨_,rfl,by first|exact LeA.c (zEb rfl (fun i hi j hj=>by obtain rfl:i=0:=Nat.lt_one_iff.mp hi;revert j;exact j2 ⟨rfl,rfl⟩))|exact leT⟩,?_⟩)
   ·exact⟨hSm,hSm,trivial⟩
  ·rw[show rdL p.R=p.R from if_neg hR]
   have hR0:¬(p.R.length:Int)=0:=fun h=>hR (List.eq_nil_of_length_eq_zero xD)
   refine vB [4,5] ?_
   refine⟨rfl,Wk.mk [(3,some 3),(5,some 5)] rfl rfl rfl ?_ ?_⟩
   ·exact zB
   ·exact⟨hSm,hSm,trivial⟩
 have hRb:=zSe (R:=p.R) hp.ok.rd;generalize rdL p.R=R at *;by_cases g3:0≤rd∧rd<R.length;rotate_left
 ·rw[decide_eq_false (fun h=>g3 ⟨h.2.2.1,h.2.2.2⟩),Bool.false_and]at hg
  subst hg;by_cases g4:rd<0
  ·refine vB [6,7] ?_
   refine⟨zC 75 [(6,.c (bC false))] [] [],[],Wk.mk [] rfl rfl rfl ?_ trivial,rfl,rfl,aR1⟩
   exact zB
  ·have g5:rd≥(R.length:Int):=by omega
   refine vB [6,7] ?_
   refine⟨zC 75 [(6,.c (bC false))] [] [],[],Wk.mk [] rfl rfl rfl ?_ trivial,rfl,rfl,aR1⟩
   exact zB
 rw[decide_eq_true ⟨g1,g2,g3.1,g3.2⟩,Bool.true_and]at hg
 obtain⟨rn,rfl⟩:=Int.eq_ofNat_of_zero_le g3.1
 have hrn:rn<R.length:=by omega
 rw[show((rn:Int)).toNat=rn from rfl]at hg;have hHo:=zR9 (R.getD rn rdZ) (L.getD c bpZ) (obB p ch wi) (p.O.getD ch.length bgZ) (obG p wi) cl (hRb _ (zAH hrn)) (hda.1.trans hdb.1.symm) (hda.2.trans hdb.2.symm);rw[hg]at hHo;have g6:¬((rn:Int)<0):=by omega
 repeat (first
  |refine vB [6] ?_
  | (refine rG 8 ?_
     refine xE4 ?_;refine xB Tryz.func63 hOb ?_;refine xE7 ?_;refine aB ?_)
  |(refine AWp.draw (id:=9) zI ?_;refine xE3 ?_;(first|refine zG (aP (k:=rn) zA) ?_|refine zM (zL (k:=rn) zA) ?_);refine xE5 ?_;(first|refine zG (aP (k:=ch.length) zA) ?_|refine zM (zL (k:=ch.length) zA) ?_);(first|refine zAq zA (hcL) rfl rfl rfl rfl rfl oM ?_|refine zAY zA rfl rfl rfl rfl rfl rfl rfl oM oM (hcL) ?_);refine xE2 ?_;(first|refine zG (aP (k:=c) zA) ?_|refine zM (zL (k:=c) zA) ?_);refine xE6 ?_;(first|refine zG (aP (k:=ch.length) zA) ?_|refine zM (zL (k:=ch.length) zA) ?_);refine xE4 ?_;refine xB Tryz.func81 hHo ?_;refine vA ?_;refine aB ⟨by kernel_rfl,?_⟩))
 refine⟨zC 75 [(6,.c (bC g))] [] [],[],Wk.mk [] rfl rfl rfl ?_ trivial,rfl,rfl,aR1⟩
 exact zB
theorem zSP(a b:Stp)(w:World):(Go.binOp .neq 60 (.agg #[.int .i64 a.nm,.int .i64 a.ch,.int .i64 a.wi,.int .i64 a.rd,.bool a.dp,.int .i64 a.cl.dx,.int .i64 a.cl.dy,.int .i64 a.cl.col]) (.agg #[.int .i64 b.nm,.int .i64 b.ch,.int .i64 b.wi,.int .i64 b.rd,.bool b.dp,.int .i64 b.cl.dx,.int .i64 b.cl.dy,.int .i64 b.cl.col])).run Tryz.prog w=.ok (.bool (!decide (a=b))) w:=by
 have hp:Tryz.prog.stoodInHeld 60=false:=by kernel_rfl
 obtain⟨a0,a1,a2,a3,a4,a5,a6,a7⟩:=a
 obtain⟨b0,b1,b2,b3,b4,b5,b6,b7⟩:=b
 go_simp
 by_cases e0:a0=b0<;>by_cases e1:a1=b1<;>by_cases e2:a2=b2<;>by_cases e3:a3=b3<;>by_cases e4:a4=b4<;>by_cases e5:a5=b5<;>by_cases e6:a6=b6<;>by_cases e7:a7=b7<;>simp[e0,e1,e2,e3,e4,e5,e6,e7]
def rfC(p:Pb)(l:List Stp)(rec:List Int→Nat→Nat×Bool)(ch:List Int):Nat→Nat→Nat→Nat×Bool
 |0,_,at'=>(at',true)
 | k+1,c,i=>
   if i<l.length∧(l.getD i stZ).nm=ch.length∧(l.getD i stZ).ch=c then
    (if (l.getD i stZ).dp=true then
      (if l.getD i stZ=zAP ch.length c then (if (rec (ch++ [(c:Int)]) (i+1)).2=true then rfC p l rec ch k (c+1) (rec (ch++ [(c:Int)]) (i+1)).1 else (i+1,false))else (i+1,false))
    else (if zCe p ch c (l.getD i stZ)=true then rfC p l rec ch k (c+1) (i+1)else (i+1,false)))
   else (i,false)
def rfW(p:Pb)(l:List Stp):Nat→List Int→Nat→Nat×Bool
 |0,_,i=>(i,false)
 |m+1,ch,i=>rfC p l (rfW p l m) ch (p.C.getD ch.length []).length 0 i
def rfO(l:List Stp)(v:Nat×Bool):Option (List Stp):=if v.2=true then some (l.drop v.1)else none
theorem zJA(p:Pb)(l:List Stp):∀(m:Nat) (ch:List Int) (i:Nat),i≤l.length→zBo p m ch (l.drop i)=rfO l (rfW p l m ch i)∧(rfW p l m ch i).1≤l.length
 |0,ch,i,hi=>⟨rfl,hi⟩
 | m + 1, ch,i,hi=>by
   have key:∀k c i,i≤l.length→zCz p (zBo p m) ch k c (l.drop i)=rfO l (rfC p l (rfW p l m) ch k c i)∧(rfC p l (rfW p l m) ch k c i).1≤l.length:=fun k=>by
    induction k with
    |zero=>exact fun c i hi=>⟨rfl,hi⟩
    | succ k ih=>
      intro c i hi
      show(zF9 p (zBo p m) ch c (l.drop i)).bind (zCz p (zBo p m) ch k (c+1))=rfO l (if _ then _ else _)∧(if _ then _ else _:Nat×Bool).1≤_
      by_cases h:i<l.length
      ·have e:l.drop i=l.getD i stZ::l.drop (i+1):=by rw[List.drop_eq_getElem_cons h,List.getD_eq_getElem?_getD,List.getElem?_eq_getElem h];rfl
       rw[e];generalize l.getD i stZ=s;change (if s.nm=ch.length∧s.ch=c then (if s.dp=true then (if s=zAP ch.length c then zBo p m (ch++ [(c:Int)]) (l.drop (i+1))else none)else (if zCe p ch c s=true then some (l.drop (i+1))else none))else none).bind (zCz p (zBo p m) ch k (c+1))=_∧_;by_cases c1:s.nm=ch.length∧s.ch=c
       ·rw [if_pos c1,if_pos (show i<l.length∧s.nm=ch.length∧s.ch=c from⟨h,c1⟩)]
        by_cases c2:s.dp=true
        ·rw[if_pos c2,if_pos c2]
         by_cases c3:s=zAP ch.length c
         ·rw[if_pos c3,if_pos c3]
          obtain⟨r1,r2⟩:=zJA p l m (ch++ [(c:Int)]) (i+1) h
          rw[r1];by_cases c4:(rfW p l m (ch++ [(c:Int)]) (i+1)).2=true
          ·rw[if_pos c4]
           unfold rfO;rw[if_pos c4];exact ih (c+1) _ r2
          ·rw[if_neg c4]
           unfold rfO;rw[if_neg c4]
           exact⟨rfl,h⟩
         ·rw[if_neg c3,if_neg c3]
          exact⟨rfl,h⟩
        ·rw[if_neg c2,if_neg c2]
         by_cases c4:zCe p ch c s=true
         ·rw[if_pos c4,if_pos c4]
          exact ih (c+1) (i+1) h
         ·rw[if_neg c4,if_neg c4]
          exact⟨rfl,h⟩
       ·rw[if_neg c1,if_neg (fun q=>c1 q.2)]
        exact⟨rfl,hi⟩
      ·rw[List.drop_eq_nil_of_le xD,if_neg (fun q=>h q.1)]
       exact⟨rfl,hi⟩
   exact key _ 0 i hi
theorem zQt{p:Pb}{l:List Stp}(h:zAA p=0):zDu p l=if (rfW p l p.C.length [] 0).2=true∧(rfW p l p.C.length [] 0).1=l.length then 0 else 62:=by
 obtain⟨r1,r2⟩:=zJA p l p.C.length [] 0 (Nat.zero_le _)
 rw[List.drop_zero]at r1;unfold zDu;rw[if_pos h,r1];unfold rfO;by_cases c:(rfW p l p.C.length [] 0).2=true
 ·rw[if_pos c]
  by_cases d:(rfW p l p.C.length [] 0).1=l.length
  ·rw[if_pos (show some (l.drop _)=some [] by rw[d,List.drop_length]),if_pos ⟨c,d⟩]
  ·rw[if_neg (fun e=>d ?_),if_neg (fun q=>d q.2)]
   have:=List.drop_eq_nil_iff.1 (Option.some.inj e)
   omega
 ·rw[if_neg c,if_neg (by simp),if_neg (fun q=>c q.1)]
theorem zNP(p:Pb)(sp:Sm p)(l:List Stp)(hl:l.length≤1000000):∀(m:Nat) (ch:List Int) (i:Nat),ch.length+m=p.C.length→ChOk p ch→i≤l.length→
 ACalls Tryz.prog 41 [.ag (pbC p),.c (lsI ch),.c (zAm l),.c (iC (i:Nat))] (.tu [.c (iC ((rfW p l m ch i).1:Nat)),.c (bC (rfW p l m ch i).2)])
 | 0,ch,i,hm,_,_=>by
   have hm':(ch.length:Int)=p.C.length:=by omega
   show ACalls _ _ _ (.tu [.c (iC (i:Nat)),.c (bC false)]);refine zH Tryz.func41 rfl rfl Tryz.ntmps41 rfl ?_;refine vB [0,1,2,3] ?_
   refine⟨zC 95 [(8,.c (iC ((i:Nat)))),(9,.c (bC (false)))] [] [],[],Wk.mk [] rfl rfl rfl ?_ trivial,rfl,rfl,ARets.two (x:=.c _) (y:=.c _) (ARes.tmp rfl rfl) (ARes.tmp rfl rfl)⟩
   exact zB
 | m + 1, ch,i,hm,hch,hi=>by
   have hm':¬(ch.length:Int)=p.C.length:=by omega
   have hC5:=sp.C
   obtain⟨L,hL⟩:∃L,p.C.getD ch.length []=L:=⟨_,rfl⟩
   have hcL:chF p.C ch.length 0=lsB L:=by rw[←hL]
   have hL4:L.length≤4:=by rw[←hL];exact(sp.Cc _ (zAH xD)).1
   have hpk:∀c,c<L.length→PkOk p ch.length (c:Nat):=fun c hc=>sp.fit.pk xD (by rw[hL];exact hc)
   obtain⟨v,hv⟩:∃v,rfC p l (rfW p l m) ch L.length 0 i=v:=⟨_,rfl⟩
   rw[show rfW p l (m+1) ch i=v by rw[←hv,←hL];rfl]
   refine zH Tryz.func41 rfl rfl Tryz.ntmps41 rfl ?_;refine vB [0,1,2,4] ?_;refine AWp.round (fun s:Nat×Nat=>zC 95 [(1,.c (lsI ch)),(2,.c (zAm l)),(3,.c (iC (s.2:Nat))),(4,.c (.pt 4 5 0 0)),(10,.c (iC ch.length)),(11,.c (iC (s.1:Nat)))] [(4,pS9 p)] [4]) (fun s=>(s.1≤L.length∧s.2≤l.length)∧rfC p l (rfW p l m) ch (L.length-s.1) s.1 s.2=v) (fun s=>L.length-s.1) (0,i) ⟨⟨Nat.zero_le _,hi⟩,hv⟩ ?_ (fun s hs=> ?_)
   ·refine Wk.mk [(4,some 4)] rfl rfl rfl ?_ ?_
    ·exact zB
    ·exact⟨hSm,trivial⟩
   obtain⟨c,i⟩:=s
   obtain⟨⟨hcL0,hil⟩,hkv⟩:=hs
   clear hi hv;dsimp only at hcL0 hil hkv⊢;by_cases hcl:c<L.length;rotate_left
   ·obtain rfl:c=L.length:=by omega
    have hcl':¬((L.length:Nat):Int)<L.length:=by omega
    rw[Nat.sub_self]at hkv;obtain rfl:(i,true)=v:=hkv
    repeat (first
     |refine vB [20] ?_
     | (refine rG 5 ?_
        refine xE4 ?_
        first|refine zG (aP (k:=ch.length) zA) ?_|refine zM (zL (k:=ch.length) zA) ?_
        first|refine zAq zA (hcL) rfl rfl rfl rfl rfl oM ?_|refine zAY zA rfl rfl rfl rfl rfl rfl rfl oM oM (hcL) ?_
        refine xE2 ?_;refine aB ?_))
    refine⟨zC 95 [(8,.c (iC ((i:Nat)))),(9,.c (bC (true)))] [] [],[],Wk.mk [] rfl rfl rfl ?_ trivial,rfl,rfl,ARets.two (x:=.c _) (y:=.c _) (ARes.tmp rfl rfl) (ARes.tmp rfl rfl)⟩
    exact zB
   have hcl':(c:Int)<L.length:=by omega
   rw[show L.length-c=(L.length-(c+1))+1 by omega]at hkv;change (if i<l.length∧(l.getD i stZ).nm=ch.length∧(l.getD i stZ).ch=c then
    (if (l.getD i stZ).dp=true then
      (if l.getD i stZ=zAP ch.length c then (if (rfW p l m (ch++ [(c:Int)]) (i+1)).2=true then rfC p l (rfW p l m) ch (L.length-(c+1)) (c+1) (rfW p l m (ch++ [(c:Int)]) (i+1)).1 else (i+1,false))else (i+1,false))
    else (if zCe p ch c (l.getD i stZ)=true then rfC p l (rfW p l m) ch (L.length-(c+1)) (c+1) (i+1)else (i+1,false)))
   else (i,false))=v at hkv
   by_cases hi:i<l.length;rotate_left
   ·rw [if_neg (fun q=>hi q.1)]at hkv
    subst hkv;have hi':(i:Int)≥l.length:=by omega
    repeat (first
     |refine vB [8] ?_
     | (refine rG 5 ?_
        refine xE4 ?_
        first|refine zG (aP (k:=ch.length) zA) ?_|refine zM (zL (k:=ch.length) zA) ?_
        first|refine zAq zA (hcL) rfl rfl rfl rfl rfl oM ?_|refine zAY zA rfl rfl rfl rfl rfl rfl rfl oM oM (hcL) ?_
        refine xE2 ?_;refine aB ?_)
     | (refine rG 7 ?_
        refine xE7 ?_
        first|refine qr2 aG ?_|refine zG (aP (k:=i) zA) ?_|refine zM (zL (k:=i) zA) ?_
        refine xE8 ?_
        first|refine qr2 aG ?_|refine zG (aP (k:=i) zA) ?_|refine zM (zL (k:=i) zA) ?_
        refine xE5 ?_;refine aB ?_))
    refine⟨zC 95 [(8,.c (iC ((i:Nat)))),(9,.c (bC (false)))] [] [],[],Wk.mk [] rfl rfl rfl ?_ trivial,rfl,rfl,ARets.two (x:=.c _) (y:=.c _) (ARes.tmp rfl rfl) (ARes.tmp rfl rfl)⟩
    exact zB
   have hi':¬(i:Int)≥l.length:=by omega
   obtain⟨s,hs⟩:∃s,l.getD i stZ=s:=⟨_,rfl⟩
   have e0:zS stC stZ l i 0=iC s.nm:=by rw[←hs];rfl
   have e1:zS stC stZ l i 1=iC s.ch:=by rw[←hs];rfl
   have eS:zAT (zS stC stZ l i) 0 8=stC s:=by rw[←hs];rfl
   rw[hs]at hkv;by_cases c1:s.nm=ch.length;rotate_left
   ·rw [if_neg (fun q=>c1 q.2.1)]at hkv
    subst hkv
    repeat (first
     |refine vB [8] ?_
     | (refine rG 5 ?_
        refine xE4 ?_
        first|refine zG (aP (k:=ch.length) zA) ?_|refine zM (zL (k:=ch.length) zA) ?_
        first|refine zAq zA (hcL) rfl rfl rfl rfl rfl oM ?_|refine zAY zA rfl rfl rfl rfl rfl rfl rfl oM oM (hcL) ?_
        refine xE2 ?_;refine aB ?_)
     | (refine rG 7 ?_
        refine xE7 ?_
        first|refine qr2 aG ?_|refine zG (aP (k:=i) zA) ?_|refine zM (zL (k:=i) zA) ?_
        refine vA ?_
        first|refine qr2 aG ?_|refine zAq zA (e0) rfl rfl rfl rfl rfl oM ?_|refine zAY zA rfl rfl rfl rfl rfl rfl rfl oM oM (e0) ?_
        refine xE6 ?_
        first|refine qr2 aG ?_|refine zG (aP (k:=i) zA) ?_|refine zM (zL (k:=i) zA) ?_
        refine vA ?_
        first|refine qr2 aG ?_|refine zAq zA (e1) rfl rfl rfl rfl rfl oM ?_|refine zAY zA rfl rfl rfl rfl rfl rfl rfl oM oM (e1) ?_
        refine xE3 ?_;refine aB ?_))
    refine⟨zC 95 [(8,.c (iC ((i:Nat)))),(9,.c (bC (false)))] [] [],[],Wk.mk [] rfl rfl rfl ?_ trivial,rfl,rfl,ARets.two (x:=.c _) (y:=.c _) (ARes.tmp rfl rfl) (ARes.tmp rfl rfl)⟩
    exact zB
   by_cases c2:s.ch=c;rotate_left
   ·rw [if_neg (fun q=>c2 q.2.2)]at hkv
    subst hkv
    repeat (first
     |refine vB [8] ?_
     | (refine rG 5 ?_
        refine xE4 ?_
        first|refine zG (aP (k:=ch.length) zA) ?_|refine zM (zL (k:=ch.length) zA) ?_
        first|refine zAq zA (hcL) rfl rfl rfl rfl rfl oM ?_|refine zAY zA rfl rfl rfl rfl rfl rfl rfl oM oM (hcL) ?_
        refine xE2 ?_;refine aB ?_)
     | (refine rG 7 ?_
        refine xE7 ?_
        first|refine qr2 aG ?_|refine zG (aP (k:=i) zA) ?_|refine zM (zL (k:=i) zA) ?_
        refine vA ?_
        first|refine qr2 aG ?_|refine zAq zA (e0) rfl rfl rfl rfl rfl oM ?_|refine zAY zA rfl rfl rfl rfl rfl rfl rfl oM oM (e0) ?_
        refine xE6 ?_
        first|refine qr2 aG ?_|refine zG (aP (k:=i) zA) ?_|refine zM (zL (k:=i) zA) ?_
        refine vA ?_
        first|refine qr2 aG ?_|refine zAq zA (e1) rfl rfl rfl rfl rfl oM ?_|refine zAY zA rfl rfl rfl rfl rfl rfl rfl oM oM (e1) ?_
        refine xE3 ?_;refine aB ?_))
    refine⟨zC 95 [(8,.c (iC ((i:Nat)))),(9,.c (bC (false)))] [] [],[],Wk.mk [] rfl rfl rfl ?_ trivial,rfl,rfl,ARets.two (x:=.c _) (y:=.c _) (ARes.tmp rfl rfl) (ARes.tmp rfl rfl)⟩
    exact zB
   rw[if_pos ⟨hi,c1,c2⟩]at hkv
   obtain⟨nm,sc,wi,rd,dp,cl⟩:=s
   dsimp only at c1 c2 e0 e1
   repeat (first
    |refine vB [10] ?_
    | (refine rG 5 ?_
       refine xE4 ?_
       first|refine zG (aP (k:=ch.length) zA) ?_|refine zM (zL (k:=ch.length) zA) ?_
       first|refine zAq zA (hcL) rfl rfl rfl rfl rfl oM ?_|refine zAY zA rfl rfl rfl rfl rfl rfl rfl oM oM (hcL) ?_
       refine xE2 ?_;refine aB ?_)
    | (refine rG 7 ?_
       refine xE7 ?_
       first|refine qr2 aG ?_|refine zG (aP (k:=i) zA) ?_|refine zM (zL (k:=i) zA) ?_
       refine vA ?_
       first|refine qr2 aG ?_|refine zAq zA (e0) rfl rfl rfl rfl rfl oM ?_|refine zAY zA rfl rfl rfl rfl rfl rfl rfl oM oM (e0) ?_
       refine xE6 ?_
       first|refine qr2 aG ?_|refine zG (aP (k:=i) zA) ?_|refine zM (zL (k:=i) zA) ?_
       refine vA ?_
       first|refine qr2 aG ?_|refine zAq zA (e1) rfl rfl rfl rfl rfl oM ?_|refine zAY zA rfl rfl rfl rfl rfl rfl rfl oM oM (e1) ?_
       refine xE3 ?_;refine aB ?_)
    | (refine rG 9 ?_
       refine xE2 ?_
       first|refine zG (aP (k:=i) zA) ?_|refine zM (zL (k:=i) zA) ?_
       refine zKr zA (eS) rfl rfl rfl rfl rfl oM ?_;refine xE2 ?_;refine aB ?_))
   subst c1 c2;rw[show((i:Int)+1)=((i+1:Nat):Int) by omega]
   cases dp with
   | false =>
     have hG:=zSm p sp ch hch c xD (by rw[hL];exact hcl) wi rd false cl
     rw[if_neg (by simp)]at hkv;generalize zCe p ch c ⟨ch.length,c,wi,rd,false,cl⟩=g at *
     cases g with
     | true=>
       rw[if_pos rfl]at hkv
       repeat (first
        |refine vB [6,11] ?_
        | (refine rG 12 ?_
           refine xE3 ?_;refine xB Tryz.func66 hG ?_;refine vA ?_;refine aB ?_))
       refine⟨(c+1,i+1),⟨⟨hcl,by dsimp only;omega⟩,hkv⟩,Wk.mk [(4,some 4)] rfl rfl rfl ?_ ?_,by dsimp only;omega⟩
       ·exact zB
       ·exact⟨hSm,trivial⟩
     | false=>
       rw[if_neg (by simp)]at hkv;subst hkv
       repeat (first
        |refine vB [11,13] ?_
        | (refine rG 12 ?_
           refine xE3 ?_;refine xB Tryz.func66 hG ?_;refine vA ?_;refine aB ?_))
       refine⟨zC 95 [(8,.c (iC ((i+1:Nat)))),(9,.c (bC (false)))] [] [],[],Wk.mk [] rfl rfl rfl ?_ trivial,rfl,rfl,ARets.two (x:=.c _) (y:=.c _) (ARes.tmp rfl rfl) (ARes.tmp rfl rfl)⟩
       exact zB
   | true =>
     rw[if_pos rfl]at hkv;have hq:=zSP ⟨ch.length,c,wi,rd,true,cl⟩ (zAP ch.length c);by_cases c3:(⟨ch.length,c,wi,rd,true,cl⟩:Stp)=zAP ch.length c;rotate_left
     ·rw [if_neg c3]at hkv
      rw[decide_eq_false c3]at hq;subst hkv
      repeat (first
       |refine vB [11,15] ?_
       | (refine rG 14 ?_
          refine xE4 ?_;refine zDq rfl rfl rfl rfl rfl rfl xC (hq) ?_;refine aB ?_))
      refine⟨zC 95 [(8,.c (iC ((i+1:Nat)))),(9,.c (bC (false)))] [] [],[],Wk.mk [] rfl rfl rfl ?_ trivial,rfl,rfl,ARets.two (x:=.c _) (y:=.c _) (ARes.tmp rfl rfl) (ARes.tmp rfl rfl)⟩
      exact zB
     rw[if_pos c3]at hkv;rw[decide_eq_true c3]at hq;have hR:=zNP p sp l hl m (ch++ [(c:Int)]) (i+1) (by rw[List.length_append,List.length_singleton];omega) (hch.snoc (hpk c hcl)) hi
     have hRl:=(zJA p l m (ch++ [(c:Int)]) (i+1) hi).2;generalize rfW p l m (ch++ [(c:Int)]) (i+1)=o at *
     obtain⟨n,b⟩:=o
     dsimp only at hR hRl hkv
     repeat (first
      |refine vB [11] ?_
      | (refine rG 14 ?_
         refine xE4 ?_;refine zDq rfl rfl rfl rfl rfl rfl xC (hq) ?_;refine aB ?_)
      |(refine AWp.draw (id:=16) zI ?_;refine xE3 ?_;refine xA ?_;refine xE2 ?_;refine zKb zA rfl rfl rfl rfl rfl rfl rfl rfl rfl rfl (@List.length_append _ ch [(c:Int)]) (zDc ch c) oM oM ?_;refine xE2 ?_;refine xB Tryz.func41 hR ?_;refine xE5 ?_;refine aB ⟨by kernel_rfl,?_⟩))
     cases b with
     | true=>
       rw[if_pos rfl]at hkv;refine vB [6,17,19] ?_
       refine⟨(c+1,n),⟨⟨hcl,by dsimp only;omega⟩,hkv⟩,Wk.mk [(4,some 4)] rfl rfl rfl ?_ ?_,by dsimp only;omega⟩
       ·exact zB
       ·exact⟨hSm,trivial⟩
     | false=>
       rw[if_neg (by simp)]at hkv;subst hkv;refine vB [17,18] ?_
       refine⟨zC 95 [(8,.c (iC ((i+1:Nat)))),(9,.c (bC (false)))] [] [],[],Wk.mk [] rfl rfl rfl ?_ trivial,rfl,rfl,ARets.two (x:=.c _) (y:=.c _) (ARes.tmp rfl rfl) (ARes.tmp rfl rfl)⟩
       exact zB
theorem zR6(p:Pb)(hp:p.ok)(hs:zAA p=0→Sm p)(l:List Stp)(hl:l.length≤1000000):ACalls Tryz.prog 16 [.ag (pbC p),.c (zAm l)] (.c (iC (zDu p l))):=by
 have hC:=zJs p hp
 obtain⟨e,he⟩:∃e,zAA p=e:=⟨_,rfl⟩
 rw[he]at hC;by_cases h0:e=0;rotate_left
 ·rw [show zDu p l=e by unfold zDu;rw[he,if_neg h0]]
  refine zH Tryz.func16 rfl rfl Tryz.ntmps16 rfl ?_
  repeat (first
   |refine vB [0,2,3] ?_
   | (refine rG 1 ?_
      refine vA ?_;refine xB Tryz.func31 hC ?_;refine vA ?_;refine aB ?_))
  refine⟨zC 27 [(4,.c (iC e))] [] [],[],Wk.mk [] rfl rfl rfl ?_ trivial,rfl,rfl,aR1⟩
  exact zB
 subst h0;have sp:=hs he;have hF:=(zNP p sp l hl p.C.length [] 0 (Nat.zero_add _) (fun k hk=>absurd hk (Nat.not_lt_zero _)) (Nat.zero_le _)).cv (args':= [.ag (pbC p),.c (.p (.slice none 0 0)),.c (zAm l),.c (iC ((0:Nat)))]) ⟨.ag (zGU _),.c Cv.nil,.c (Cv.refl _),.c (Cv.refl _),trivial⟩;rw[zQt he];generalize rfW p l p.C.length [] 0=o at *
 obtain⟨n,b⟩:=o
 dsimp only at hF⊢
 cases b with
 | false=>
   rw[if_neg (fun q=>by cases q.1)];refine zH Tryz.func16 rfl rfl Tryz.ntmps16 rfl ?_
   repeat (first
    |refine vB [0,2,5,6] ?_
    | (refine rG 1 ?_
       refine vA ?_;refine xB Tryz.func31 hC ?_;refine vA ?_;refine aB ?_)
    | (refine rG 4 ?_
       refine xE2 ?_;refine xB Tryz.func41 hF ?_;refine xE5 ?_;refine aB ?_))
   refine⟨zC 27 [(4,.c (iC 62))] [] [],[],Wk.mk [] rfl rfl rfl ?_ trivial,rfl,rfl,aR1⟩
   exact zB
 | true =>
   by_cases c:n=l.length
   ·rw [if_pos ⟨rfl,c⟩]
    have c':(n:Int)=l.length:=by omega
    refine zH Tryz.func16 rfl rfl Tryz.ntmps16 rfl ?_
    repeat (first
     |refine vB [0,2,5,7] ?_
     | (refine rG 1 ?_
        refine vA ?_;refine xB Tryz.func31 hC ?_;refine vA ?_;refine aB ?_)
     | (refine rG 4 ?_
        refine xE2 ?_;refine xB Tryz.func41 hF ?_;refine xE5 ?_;refine aB ?_))
    refine⟨zC 27 [(4,.c (iC 0))] [] [],[],Wk.mk [] rfl rfl rfl ?_ trivial,rfl,rfl,aR1⟩
    exact zB
   ·rw [if_neg (fun q=>c q.2)]
    have c':¬(n:Int)=l.length:=by omega
    refine zH Tryz.func16 rfl rfl Tryz.ntmps16 rfl ?_
    repeat (first
     |refine vB [0,2,5,6] ?_
     | (refine rG 1 ?_
        refine vA ?_;refine xB Tryz.func31 hC ?_;refine vA ?_;refine aB ?_)
     | (refine rG 4 ?_
        refine xE2 ?_;refine xB Tryz.func41 hF ?_;refine xE5 ?_;refine aB ?_))
    refine⟨zC 27 [(4,.c (iC 62))] [] [],[],Wk.mk [] rfl rfl rfl ?_ trivial,rfl,rfl,aR1⟩
    exact zB
end Go.Proofs.YtpefnljgalpllaaGreat
end
