/- Parts of the proof: AFzA, A29ra, A29rb, A29rd. -/
import Derived.Test.YtpefnljgalpllaaGreatHA29rer05
set_option linter.unusedSimpArgs false
set_option linter.unusedVariables false
set_option maxHeartbeats 0
set_option maxRecDepth 100000
section
namespace Go.AV
open Go Go.RowKit Go.Flow
section
variable{P:Program}{tab:List (TypeId×TD)}
theorem GoesA.mono{K K':Value→World→Prop}{r:Result Next}(h:∀v w,K v w→K' v w)(hh:GoesA P K r):GoesA P K' r:=by
 rcases hh with hh|⟨l,f,tmps,assign,body,w',h1,h2⟩
 ·exact .inl (Goes.mono h hh)
 ·exact .inr ⟨l,f,tmps,assign,body,w',h1,RoundIn.mono (F:=Fence.wide) h2 fun e w'' ⟨v,he,hc⟩=>⟨v,he,h v w'' hc⟩⟩
theorem LStep.weak{ops:Array Oper}{o:Oper}{rd:List Nat}{e e':Eff}{S:St}(h:LStep P ops o rd e S)(ha:e'.al=e.al)
 (hw:∀(S1:St) b0 a w,Rel b0 (S1.eff o.dst e) a w→Rel b0 (S1.eff o.dst e') a w):LStep P ops o rd e' S:=fun S1 hn ht hr hf b0 a w R=>
 (h S1 hn ht hr (by rw[ha]at hf;exact hf) b0 a w R).imp (fun ⟨h1,h2⟩=>⟨h1,h2.mono fun v w'=>hw S1 b0 _ w'⟩) fun ⟨h1,h2⟩=>⟨h1,hw S1 b0 _ w h2⟩
theorem zPC{b0:zJ}{σ:Nat→Option Value}{S S':St}{a:Act}{w:World}(R:Rel0 b0 σ S a w){t id n sz:Nat}{ty:TypeId}{F:Nat→Nat→CV}(ht:S.t t=some (.c (.ow id)))(hh:S.h id=some ⟨true,n,sz,ty,F⟩)(hlo:id<1000)
 (hi:∀k,k<n→∀j,j<sz→zK (F k j)=true) (e1:∀i,S'.t i=if i=t then some (.c (.ls n sz F))else S.t i) (e2:∀i,S'.h i=if i=id then none else S.h i) (e3:S'.n=S.n∧S'.ln=S.ln∧S'.G=S.G∧S'.gs=S.gs∧S'.dd=S.dd∧S'.fr=S.fr):Rel0 b0 σ S' a w:=by
 obtain⟨f1,f2,f3,f4,f5,f6⟩:=e3
 have hsub:∀i,S'.h i≠none→i≠id∧S'.h i=S.h i:=fun i h=>by
  rw[e2]at h⊢;by_cases e:i=id
  ·rw[if_pos e]at h;exact absurd rfl h
  ·rw[if_neg e];exact⟨e,rfl⟩
 have hown:∀b,own σ S'.h b→own σ S.h b:=fun b ⟨i,v,h1,h2,h3⟩=>⟨i,v,by rw[←(hsub i h1).2];exact h1,h2,h3⟩
 have hout:∀b,out b0 σ S'.h b→out b0 σ S.h b:=fun b h=>h.imp (hown b) fun h=>h
 have hne:S.h id≠none:=by rw[hh];simp
 refine⟨R.df,R.sz.trans f1.symm,?_,⟨fun i B hB=> ?_,fun i j v1 v2 b h1 h2=> ?_,fun b hb=>R.hp.new b (hown b hb),fun i v h=>⟨(R.hp.fx i v h).1,?_⟩,R.hp.big⟩,fun i x hx=> ?_,fun i h=>R.fr i (by rw[←f6];exact h),fun i v h=>by rw[f2];exact R.le i v h,by rw[f3];exact R.gd,by rw[f4,f5];exact R.gh⟩
 ·have:=R.ext
  unfold zBZ at this⊢;rw[f5];exact this
 ·obtain⟨-,q⟩:=hsub i (by rw[hB];simp)
  rw[q]at hB
  obtain⟨v,k1,k2⟩:=R.hp.blk i B hB
  exact⟨v,k1,OBk.less hout k2⟩
 ·obtain⟨-,q1⟩:=hsub i h1
  obtain⟨-,q2⟩:=hsub j h2
  rw[q1]at h1;rw[q2]at h2;exact R.hp.inj i j v1 v2 b h1 h2
 ·rw[e2,if_neg (fun e=>by have:=(b0.one i v h).1;omega)]
  exact(R.hp.fx i v h).2
 ·rw [e1]at hx
  by_cases e:i=t
  ·rw[if_pos e]at hx
   subst e
   cases hx
   have hr:=R.sl i _ ht
   refine⟨hr.1,zG4 R.hp hh hi hout (fun v b h1 h2 h3=> ?_) hr.2.1⟩
   rcases h3 with ⟨j,u,g1,g2,g3⟩|h3
   ·obtain⟨q0,q1⟩:=hsub j g1
    rw[q1]at g1;exact q0 (R.hp.inj j id u v b g1 hne g2 h1 g3 h2)
   ·rcases R.hp.new b ⟨id,v,hne,h1,h2⟩with h4|h4
    ·have:=b0.lt b h3
     omega
    ·exact b0.dis b h3 h4
  ·rw[if_neg e]at hx
   exact RepA.less hout (R.sl i x hx)
section ops
variable{ops:Array Oper}{rest:List Oper}{acc:List (List Nat×List Nat)}{S:St}{Q:List (List Nat×List Nat)→St→Prop}{ty:TypeId}{pos:String}{after:Array Edge}{guard:Option (Nat×Bool)}{x:Operand}
theorem zHW(T:zAm P tab=true){id id1:Nat}{s:Operand}{t el:TypeId}{d e:TD}{n m n':Nat}{F G G':Nat→Nat→CV}
 (hw:S.wants ops {dst:=some id,op:=.call {callee:=.builtin .append,args:= #[s,x],argTypes:= #[t,t]},type:=ty,pos,after,guard}=some true) (hd:dOk S.n (some id)=true) (hf:S.fr id=true)
 (hs:S.opd s=some (.c (.ow id1))) (hx:S.opd x=some (.c (.ls m e.size G))) (ht:zC tab t=some d) (hk:d.k=.sl el) (he:zC tab el=some e) (hh:S.h id1=some ⟨true,n,e.size,el,F⟩) (hsz:(Nat.blt 0 e.size && (Nat.blt id1 1000 && (Nat.blt id 1000 && !Nat.beq id id1)))=true)
 (hm:n'=n+m) (hc:∀k,k<n+m→∀j,j<e.size→zAh F n G k j=G' k j∧zK (zAh F n G k j)=true) (h63:n+m≤4611686018427387904) (hb:(n+m)*e.bytes≤140737488355328)
 (hn:AList P ops rest (([id1,id],[id1,id,id])::acc) (S.eff (some id) ⟨.c (.ls n' e.size G'),[(id1,none),(id,none)],[id]⟩) Q):
 AList P ops ({dst:=some id,op:=.call {callee:=.builtin .append,args:= #[s,x],argTypes:= #[t,t]},type:=ty,pos,after,guard}::rest) acc S Q:=by
 simp only[Bool.and_eq_true]at hsz
 obtain⟨z1,z2,z3,z4⟩:=hsz
 have hne:id≠id1:=fun e=>by rw[e,Nat.beq_refl]at z4;cases z4
 have h3:=Nat.blt_eq.mp z3;subst hm;refine AList.cons [id1] ⟨.c (.ls (n+m) e.size G'),[(id1,none),(id,none)],[id]⟩ ((LStep.app T (o:=some id1) (F:=F) (G:=G) [] hw hd hf hs hx ht hk he (Nat.blt_eq.mp z1) (.inr ⟨id1,rfl,rfl,hh,Nat.blt_eq.mp z2⟩) (fun S1 _ b0 σ a w R u hu=>zFk hu) h63 hb).weak rfl fun S1 b0 a w ⟨σ,R⟩=>⟨σ,?_⟩) hn;have hB:zAb [(id1,none),(id,some (⟨true,n+m,e.size,el,zAh F n G⟩:AB))] S1.h id=some ⟨true,n+m,e.size,el,zAh F n G⟩:=(zZ _ _ hne).trans (zAk _ _ _);have R1:=zPC (S':=⟨S1.n,S1.ln,put S1.t id (some (.c (.ls (n+m) e.size (zAh F n G)))),zAb [(id1,none),(id,none)] S1.h,(S1.eff (some id) ⟨.c (.ow id),[(id1,none),(id,some (⟨true,n+m,e.size,el,zAh F n G⟩:AB))],[id]⟩).fr,S1.G,S1.gs,S1.dd⟩) R (t:=id) (id:=id) (zAk _ _ _) hB h3 (fun k hk j hj=>(hc k hk j hj).2)
  (fun i=>by
    by_cases e:i=id
    ·rw[if_pos e,e];exact zAk _ _ _
    ·rw[if_neg e];exact(zZ _ _ e).trans (zZ _ _ e).symm)
  (fun i=>by
    by_cases e:i=id
    ·rw[if_pos e,e];exact(zZ _ _ hne).trans (zAk _ _ _)
    ·rw[if_neg e]
     show put (put S1.h id none) id1 none i=put (put S1.h id _) id1 none i;by_cases e':i=id1
     ·rw[e',zAk,zAk]
     ·rw[zZ _ _ e',zZ _ _ e',zZ _ _ e,zZ _ _ e])
  ⟨rfl,rfl,rfl,rfl,rfl,rfl⟩
 refine⟨R1.df,R1.sz,R1.ext,R1.hp,fun i z hz=> ?_,R1.fr,R1.le,R1.gd,R1.gh⟩
 by_cases e:i=id
 ·subst e
  have hz':put S1.t i (some (.c (.ls (n+m) _ G'))) i=some z:=hz;rw[zAk]at hz'
  cases hz'
  have h:=R1.sl i _ (zAk _ _ _)
  exact⟨h.1,zEh (fun k hk j hj=>(hc k hk j hj).1) h.2⟩
 ·have hz':put S1.t id (some (.c (.ls (n+m) _ G'))) i=some z:=hz
  rw[zZ _ _ e]at hz';exact R1.sl i z ((zZ _ _ e).trans hz')
end ops
end
end Go.AV
end
section
namespace Go.Proofs.YtpefnljgalpllaaGreat
open Go.RowKit Go.Flow Go.AV Go.Plain
theorem zJD(p:Pb)(hp:p.ok):ACalls Tryz.prog 32 [.ag (pbC p)] (.c (iC (zAJ p))):=by
 have hS:=zSi p hp;unfold zAJ;generalize zBu p=o at *
 obtain⟨ol,oe⟩:=o
 dsimp only at hS⊢;by_cases h0:oe=0
 ·rw [if_pos h0]
  subst h0;refine zH Tryz.func32 rfl rfl Tryz.ntmps32 rfl ?_
  repeat (first
   |refine vB [0,2,3] ?_
   | (refine rG 1 ?_
      refine vA ?_;refine xB Tryz.func57 hS ?_;refine xE5 ?_;refine aB ?_))
  refine⟨zD 15 [(2,.c (iC 7))] [] [],[],Wk.mk [] rfl rfl rfl ?_ trivial,rfl,rfl,aR1⟩
  exact zB
 ·rw[if_neg h0]
  by_cases h1:oe=60
  ·rw [if_pos h1]
   subst h1;refine zH Tryz.func32 rfl rfl Tryz.ntmps32 rfl ?_
   repeat (first
    |refine vB [0,2,4,5] ?_
    | (refine rG 1 ?_
       refine vA ?_;refine xB Tryz.func57 hS ?_;refine xE5 ?_;refine aB ?_))
   refine⟨zD 15 [(2,.c (iC 0))] [] [],[],Wk.mk [] rfl rfl rfl ?_ trivial,rfl,rfl,aR1⟩
   exact zB
  ·rw [if_neg h1]
   refine zH Tryz.func32 rfl rfl Tryz.ntmps32 rfl ?_
   repeat (first
    |refine vB [0,2,4,6] ?_
    | (refine rG 1 ?_
       refine vA ?_;refine xB Tryz.func57 hS ?_;refine xE5 ?_;refine aB ?_))
   refine⟨zD 15 [(2,.c (iC oe))] [] [],[],Wk.mk [] rfl rfl rfl ?_ trivial,rfl,rfl,aR1⟩
   exact zB
def zEw:Option (List Int)→List Int×Bool
 |some s=>(s,true)
 |none=>([],false)
def zDS(p:Pb):Nat→List Int→Nat→List Int×Bool
 |0,l,_=>(l,zAy p l)
 |r+1,l,x=>zEw ((zAo p.C.length (r+1) l x).find? (zAy p))
theorem zMt{p:Pb}{r:Nat}{l:List Int}{x:Nat}(h:(zDS p r l x).2=true):(zAo p.C.length r l x).find? (zAy p)=some (zDS p r l x).1:=by
 cases r with
 | zero=>
   show [l].find? (zAy p)=some l;rw[List.find?_cons,show zAy p l=true from h]
 | succ r=>
   change (zEw ((zAo p.C.length (r+1) l x).find? (zAy p))).2=true at h;show _=some (zEw ((zAo p.C.length (r+1) l x).find? (zAy p))).1
   cases hf:(zAo p.C.length (r+1) l x).find? (zAy p)with
   |none=>rw[hf]at h;cases h
   |some s=>rfl
theorem zMs{p:Pb}{r:Nat}{l:List Int}{x:Nat}(h:(zDS p r l x).2=false):(zAo p.C.length r l x).find? (zAy p)=none:=by
 cases r with
 | zero=>
   show [l].find? (zAy p)=none;rw[List.find?_cons,show zAy p l=false from h]
   rfl
 | succ r=>
   change (zEw ((zAo p.C.length (r+1) l x).find? (zAy p))).2=false at h
   cases hf:(zAo p.C.length (r+1) l x).find? (zAy p)with
   |none=>rfl
   |some s=>rw[hf]at h;cases h
theorem zS5{p:Pb}(hp:p.ok){l:List Int}(h:l.length≤1000):(zAV p l).ok:=zOp hp xD
abbrev pS9(p:Pb):AB:=⟨false,1,5,29,lF (pbC p)⟩
theorem zMu(p:Pb)(hp:p.ok)(hc:zAt p=0)(hC:p.C.length≤100):∀(r:Nat) (l:List Int) (x:Nat),zA1 p.C.length l=true→(∀k,k<l.length→fI l k<x)→x≤p.C.length→∀K:Nat,K=l.length+r→
 ACalls Tryz.prog 33 [.ag (pbC p),.c (lsI l),.c (iC x),.c (iC K)] (.tu [.c (lsI (zDS p r l x).1),.c (bC (zDS p r l x).2)])
 | 0,l,x,hl,hx,hxn,K,hK=>by
   have hl100:l.length≤100:=Nat.le_trans (zHj hl) hC;have hP:=zSd p hp l xD;rw[zNG hc hl]at hP;have hU:=zJD (zAV p l) (zS5 hp xD);have hKe:(l.length:Int)=(K:Int):=by omega
   show ACalls _ _ _ (.tu [.c (lsI l),.c (bC (zAy p l))]);unfold zAy;generalize zAJ (zAV p l)=u at *;by_cases hu:u=0
   ·rw [decide_eq_true hu]
    subst hu;refine zH Tryz.func33 rfl rfl Tryz.ntmps33 rfl ?_
    repeat (first
     |refine vB [0,1] ?_
     | (refine rG 2 ?_
        refine xE2 ?_;refine xB Tryz.func58 hP ?_;refine xE6 ?_;refine aB ?_)
     | (refine rG 3 ?_
        refine xE2 ?_;refine xB Tryz.func32 hU ?_;refine xE3 ?_;refine aB ?_))
    refine⟨zD 53 [(8,.c (lsI (l))),(9,.c (bC (true)))] [] [],[],Wk.mk [] rfl rfl rfl ?_ trivial,rfl,rfl,ARets.two (x:=.c _) (y:=.c _) (ARes.tmp rfl rfl) (ARes.tmp rfl rfl)⟩
    exact zB
   ·rw [decide_eq_false hu]
    refine zH Tryz.func33 rfl rfl Tryz.ntmps33 rfl ?_
    repeat (first
     |refine vB [0,1] ?_
     | (refine rG 2 ?_
        refine xE2 ?_;refine xB Tryz.func58 hP ?_;refine xE6 ?_;refine aB ?_)
     | (refine rG 3 ?_
        refine xE2 ?_;refine xB Tryz.func32 hU ?_;refine xE3 ?_;refine aB ?_))
    refine⟨zD 53 [(8,.c (lsI (l))),(9,.c (bC (false)))] [] [],[],Wk.mk [] rfl rfl rfl ?_ trivial,rfl,rfl,ARets.two (x:=.c _) (y:=.c _) (ARes.tmp rfl rfl) (ARes.tmp rfl rfl)⟩
    exact zB
 | r + 1,l,x,hl,hx,hxn,K,hK=>by
   have hl100:l.length≤100:=Nat.le_trans (zHj hl) hC;have hKe:¬(l.length:Int)=(K:Int):=by omega
   obtain⟨v,hv⟩:∃v,zDS p (r+1) l x=v:=⟨_,rfl⟩
   have hv':zEw ((zA5 (zAo p.C.length r) l (p.C.length-x) x).find? (zAy p))=v:=hv;rw[hv];refine zH Tryz.func33 rfl rfl Tryz.ntmps33 rfl ?_;refine vB [0,1,4] ?_;refine AWp.round (fun k:Nat=>zD 53 [(1,.c (lsI l)),(3,.c (iC K)),(4,.c (.pt 4 5 0 0)),(12,.c (iC (k:Nat)))] [(4,pS9 p)] [4]) (fun k=>(x≤k∧k≤p.C.length)∧zEw ((zA5 (zAo p.C.length r) l (p.C.length-k) k).find? (zAy p))=v) (fun k=>p.C.length-k) x ⟨⟨Nat.le_refl _,hxn⟩,hv'⟩ ?_ (fun k hk=> ?_)
   ·refine Wk.mk [(4,some 4)] rfl rfl rfl ?_ ?_
    ·exact zB
    ·exact⟨hSm,trivial⟩
   obtain⟨⟨hkx,hkn⟩,hkv⟩:=hk
   by_cases hk:k<p.C.length
   ·have hk':(k:Int)<p.C.length:=by omega
    have hF:=zMu p hp hc hC r (l++ [(k:Int)]) (k+1) (zNr hl (fun j hj=>by have:=hx j hj;omega) hk) (fun j hj=>by
     rw[List.length_append,List.length_singleton]at hj;by_cases e:j<l.length
     ·rw[zEs e];have:=hx j e;omega
     ·obtain rfl:j=l.length:=by omega
      rw[zIR];omega) xD K (by rw[List.length_append,List.length_singleton];omega)
    rw[show((k+1:Nat):Int)=(k:Int)+1 by omega]at hF;have ht:= @zMt p r (l++ [(k:Int)]) (k+1);have hf:= @zMs p r (l++ [(k:Int)]) (k+1);rw[show p.C.length-k=(p.C.length-(k+1))+1 by omega]at hkv;change zEw ((zAo p.C.length r (l++ [(k:Int)]) (k+1)++zA5 (zAo p.C.length r) l (p.C.length-(k+1)) (k+1)).find? (zAy p))=v at hkv;rw[List.find?_append]at hkv;generalize zDS p r (l++ [(k:Int)]) (k+1)=o at *
    obtain⟨s,b⟩:=o
    dsimp only at hF ht hf
    cases b with
    | true=>
      rw[ht rfl]at hkv;obtain rfl:(s,true)=v:=hkv
      repeat (first
       |refine vB [5] ?_
       |(refine AWp.draw (id:=7) zI ?_;refine xE3 ?_;refine xA ?_;refine xE2 ?_;refine zHW zA rfl rfl rfl rfl rfl rfl rfl rfl rfl rfl (@List.length_append _ l [(k:Int)]) (zCX l k) oM oM ?_;refine xE3 ?_;refine xB Tryz.func33 hF ?_;refine xE5 ?_;refine aB ⟨by kernel_rfl,?_⟩))
      refine vB [8,9] ?_
      refine⟨zD 53 [(8,.c (lsI (s))),(9,.c (bC (true)))] [] [],[],Wk.mk [] rfl rfl rfl ?_ trivial,rfl,rfl,ARets.two (x:=.c _) (y:=.c _) (ARes.tmp rfl rfl) (ARes.tmp rfl rfl)⟩
      exact zB
    | false=>
      rw[hf rfl]at hkv
      repeat (first
       |refine vB [5] ?_
       |(refine AWp.draw (id:=7) zI ?_;refine xE3 ?_;refine xA ?_;refine xE2 ?_;refine zHW zA rfl rfl rfl rfl rfl rfl rfl rfl rfl rfl (@List.length_append _ l [(k:Int)]) (zCX l k) oM oM ?_;refine xE3 ?_;refine xB Tryz.func33 hF ?_;refine xE5 ?_;refine aB ⟨by kernel_rfl,?_⟩))
      refine vB [6,8] ?_
      refine⟨k+1,⟨⟨by omega,hk⟩,hkv⟩,Wk.mk [(4,some 4)] rfl rfl rfl ?_ ?_,by omega⟩
      ·exact zB
      ·exact⟨hSm,trivial⟩
   obtain rfl:k=p.C.length:=by omega
   have hk':¬((p.C.length:Nat):Int)<p.C.length:=by omega
   rw[Nat.sub_self]at hkv;obtain rfl:(([]:List Int),false)=v:=hkv;refine vB [5,10] ?_
   refine⟨zD 53 [(8,.c (lsI ([]))),(9,.c (bC (false)))] [] [],[],Wk.mk [] rfl rfl rfl ?_ trivial,rfl,rfl,ARets.two (x:=.c _) (y:=.c _) (ARes.tmp rfl rfl) (ARes.tmp rfl rfl)⟩
   exact zB
theorem zQj{p:Pb}(sp:Sm p):zAy p []=false:=by
 have h0:zA1 p.C.length []=true:=nmOk_iff.2 fun k hk=>absurd hk (Nat.not_lt_zero _)
 refine decide_eq_false fun h=> ?_
 have h1:=(zFp (zFm sp h0)).1 h;have h2:=(zJM (zFm sp h0)).2 ⟨fun _=>0,fun k hk=>absurd hk (Nat.not_lt_zero _)⟩;rw[h1]at h2
 cases h2
theorem zSc(p:Pb)(hp:p.ok)(hs:zAt p=0→Sm p):ACalls Tryz.prog 9 [.ag (pbC p)] (.tu [.c (lsI (zAL p).1),.c (iC (zAL p).2)]):=by
 have hC:=zHx p hp
 obtain⟨e,he⟩:∃e,zAt p=e:=⟨_,rfl⟩
 rw[he]at hC;by_cases h0:e=0;rotate_left
 ·rw [show zAL p=([],e) by unfold zAL;rw[he,if_neg h0]]
  refine zH Tryz.func9 rfl rfl Tryz.ntmps9 rfl ?_
  repeat (first
   |refine vB [0,2,3] ?_
   | (refine rG 1 ?_
      refine vA ?_;refine xB Tryz.func31 hC ?_;refine vA ?_;refine aB ?_))
  refine⟨zD 37 [(2,.c (lsI ([]))),(3,.c (iC (e)))] [] [],[],Wk.mk [] rfl rfl rfl ?_ trivial,rfl,rfl,ARets.two (x:=.c _) (y:=.c _) (ARes.tmp rfl rfl) (ARes.tmp rfl rfl)⟩
  exact zB
 subst h0;have sp:=hs he;have h5:=sp.C;have hU:=zJD p hp;have h8:¬8<p.C.length:=by omega
 by_cases hu:zAJ p=0;rotate_left
 ·rw [show zAL p=([],zAJ p) by unfold zAL;rw[if_pos he,if_neg h8,if_neg hu]]
  generalize zAJ p=u at *;refine zH Tryz.func9 rfl rfl Tryz.ntmps9 rfl ?_
  repeat (first
   |refine vB [0,2,4,7,8] ?_
   | (refine rG 1 ?_
      refine vA ?_;refine xB Tryz.func31 hC ?_;refine vA ?_;refine aB ?_)
   | (refine rG 6 ?_
      refine vA ?_;refine xB Tryz.func32 hU ?_;refine vA ?_;refine aB ?_))
  refine⟨zD 37 [(2,.c (lsI ([]))),(3,.c (iC (u)))] [] [],[],Wk.mk [] rfl rfl rfl ?_ trivial,rfl,rfl,ARets.two (x:=.c _) (y:=.c _) (ARes.tmp rfl rfl) (ARes.tmp rfl rfl)⟩
  exact zB
 rw[hu]at hU
 obtain⟨v,hv⟩:∃v,zAL p=v:=⟨_,rfl⟩
 have hv':zFa ((zBj p.C.length (p.C.length+1)).find? (zAy p))=v:=by rw[←hv];unfold zAL;rw[if_pos he,if_neg h8,if_pos hu]
 rw[hv];refine zH Tryz.func9 rfl rfl Tryz.ntmps9 rfl ?_
 repeat (first
  |refine vB [0,2,4,7,9] ?_
  | (refine rG 1 ?_
     refine vA ?_;refine xB Tryz.func31 hC ?_;refine vA ?_;refine aB ?_)
  | (refine rG 6 ?_
     refine vA ?_;refine xB Tryz.func32 hU ?_;refine vA ?_;refine aB ?_))
 refine AWp.round (fun k:Nat=>zD 37 [(1,.c (.pt 1 5 0 0)),(5,.c (iC (k:Nat)))] [(1,pS9 p)] [1]) (fun k=>(1≤k∧k≤p.C.length+1)∧(zBj p.C.length k).find? (zAy p)=none) (fun k=>p.C.length+1-k) 1 ⟨⟨Nat.le_refl _,by omega⟩,zOA rfl fun j hj=>by
  have h1:zBt p.C.length 0= [[]]:=rfl;rw[h1]at hj⊢;obtain rfl:j=0:=Nat.lt_one_iff.mp hj;exact zQj sp⟩ ?_ (fun k hk=> ?_)
 ·refine Wk.mk [(1,some 1)] rfl rfl rfl ?_ ?_
  ·exact zB
  ·exact⟨hSm,trivial⟩
 obtain⟨⟨hk1,hkn⟩,hkv⟩:=hk
 by_cases hk:k≤p.C.length
 ·have hk':(k:Int)≤p.C.length:=by omega
  have hF:=(zMu p hp he xD k [] 0 (nmOk_iff.2 fun k hk=>absurd hk (Nat.not_lt_zero _)) (fun k hk=>absurd hk (Nat.not_lt_zero _)) (Nat.zero_le _) k (by simp)).cv (args':= [.ag (pbC p),.c (.p (.slice none 0 0)),.c (iC ((0:Nat))),.c (iC k)]) ⟨.ag (zGV _),.c Cv.nil,.c (Cv.refl _),.c (Cv.refl _),trivial⟩;have ht:= @zMt p k [] 0;have hf:= @zMs p k [] 0;generalize zDS p k [] 0=o at *
  obtain⟨s,b⟩:=o
  dsimp only at hF ht hf
  cases b with
  | true=>
    obtain⟨r,hr⟩:=zJY (n:=p.C.length) (show k+1≤p.C.length+1 by omega)
    have hv2:zFa (some s)=v:=by
     rw[←hv',hr];show zFa (some s)=zFa (((zBj p.C.length k++zBt p.C.length k)++r).find? (zAy p));rw[List.append_assoc,List.find?_append,hkv,List.find?_append,show(zBt p.C.length k).find? (zAy p)=some s from ht rfl]
     rfl
    obtain rfl:(s,(0:Int))=v:=hv2
    repeat (first
     |refine vB [10,13,14] ?_
     | (refine rG 12 ?_
        refine xE2 ?_;refine xB Tryz.func33 hF ?_;refine xE5 ?_;refine aB ?_))
    refine⟨zD 37 [(2,.c (lsI (s))),(3,.c (iC (0)))] [] [],[],Wk.mk [] rfl rfl rfl ?_ trivial,rfl,rfl,ARets.two (x:=.c _) (y:=.c _) (ARes.tmp rfl rfl) (ARes.tmp rfl rfl)⟩
    exact zB
  | false=>
    repeat (first
     |refine vB [10,11,13] ?_
     | (refine rG 12 ?_
        refine xE2 ?_;refine xB Tryz.func33 hF ?_;refine xE5 ?_;refine aB ?_))
    refine⟨k+1,⟨⟨by omega,by omega⟩,?_⟩,Wk.mk [(1,some 1)] rfl rfl rfl ?_ ?_,by omega⟩
    ·show(zBj p.C.length k++zBt p.C.length k).find? (zAy p)=none
     rw[List.find?_append,hkv];exact hf rfl
    ·exact zB
    ·exact⟨hSm,trivial⟩
 obtain rfl:k=p.C.length+1:=by omega
 have hk':¬((p.C.length+1:Nat):Int)≤p.C.length:=by omega
 rw[hkv]at hv';obtain rfl:(([]:List Int),(61:Int))=v:=hv';refine vB [10,15] ?_
 refine⟨zD 37 [(2,.c (lsI ([]))),(3,.c (iC (61)))] [] [],[],Wk.mk [] rfl rfl rfl ?_ trivial,rfl,rfl,ARets.two (x:=.c _) (y:=.c _) (ARes.tmp rfl rfl) (ARes.tmp rfl rfl)⟩
 exact zB
theorem zSv(p:Pb)(hp:p.fit)(ch:List Int)(n:Int)(h:(∃k:Nat,n = -1-(k:Int)∧k<p.F.length∧k<p.T.length)∨(∃k:Nat,n=k∧k<ch.length))(hc:ChOk p ch):
 ACalls Tryz.prog 63 [.ag (pbC p),.c (lsI ch),.c (iC n)] (.tu [.ag (bpC (obB p ch n)),.ag (bgC (obG p n))]):=by
 have lF0:=hp.f;have lC:=hp.c;have lO:=hp.o
 rcases h with ⟨k,rfl,h1,h2⟩|⟨k,rfl,h1⟩
 ·rw[obB_f.1,(obB_f (p:=p) (ch:=ch)).2]
  have hn:-1-(k:Int)<0:=by omega
  have he:-1-(-1-(k:Int))=k:=by omega
  refine zH Tryz.func63 rfl rfl Tryz.ntmps63 rfl ?_
  repeat (first
   |refine vB [0,1] ?_
   |(refine AWp.draw (id:=2) zI ?_;refine xE4 ?_;(first|refine zG (aP (k:=k) zA) ?_|refine zT (zO (k:=k) zA) ?_);refine xE5 ?_;(first|refine zG (aP (k:=k) zA) ?_|refine zT (zO (k:=k) zA) ?_);refine xE3 ?_;refine aB ⟨by kernel_rfl,?_⟩))
  refine⟨zD 38 [(6,.c (.pt 6 3 0 0)),(7,.c (.pt 7 4 0 0))] [(6,⟨false,1,3,53,lF (bpC (p.F.getD k bpZ))⟩),(7,⟨false,1,4,33,lF (bgC (p.T.getD k bgZ))⟩)] [6,7],[(6,⟨false,1,3,53,lF (bpC (p.F.getD k bpZ))⟩),(7,⟨false,1,4,33,lF (bgC (p.T.getD k bgZ))⟩)],Wk.mk [(6,some 6),(7,some 7)] rfl rfl rfl ?_ ?_,rfl,rfl,ARets.two (x:=.ag _) (y:=.ag _) (ARes.box zA rfl rfl rfl rfl rfl rfl rfl) (ARes.box zA rfl rfl rfl rfl rfl rfl rfl)⟩
  ·exact zB
  ·exact zAc
 ·obtain⟨c,h2,h3,h4,h5⟩:=hc.at h1
  rw[(zHk h2).1,(zHk (p:=p) (ch:=ch) h2).2];have hL32:=hp.l _ (zAO (L:=p.C) (k:=k) (z:= []) h3);have hn:¬(k:Int)<0:=by omega
  have hcF:chF p.C k 0=lsB (p.C.getD k []):=rfl;have hcc:iF (fI ch) k 0=iC (c:Nat):=congrArg iC h2;refine zH Tryz.func63 rfl rfl Tryz.ntmps63 rfl ?_
  repeat (first
   |refine vB [0,1] ?_
   |(refine AWp.draw (id:=3) zI ?_;refine xE3 ?_;(first|refine zG (aP (k:=k) zA) ?_|refine zT (zO (k:=k) zA) ?_);(first|refine zAw zA (hcF) rfl rfl rfl rfl rfl oM ?_|refine zB2 zA rfl rfl rfl rfl rfl rfl rfl oM oM (hcF) ?_);refine xE2 ?_;(first|refine zG (aP (k:=k) zA) ?_|refine zT (zO (k:=k) zA) ?_);(first|refine zAw zA (hcc) rfl rfl rfl rfl rfl oM ?_|refine zB2 zA rfl rfl rfl rfl rfl rfl rfl oM oM (hcc) ?_);(first|refine zG (aP (k:=c) zA) ?_|refine zT (zO (k:=c) zA) ?_);refine xE4 ?_;(first|refine zG (aP (k:=k) zA) ?_|refine zT (zO (k:=k) zA) ?_);refine xE3 ?_;refine aB ⟨by kernel_rfl,?_⟩))
  refine⟨zD 38 [(6,.c (.pt 6 3 0 0)),(7,.c (.pt 7 4 0 0))] [(6,⟨false,1,3,53,lF (bpC ((p.C.getD k []).getD c bpZ))⟩),(7,⟨false,1,4,33,lF (bgC (p.O.getD k bgZ))⟩)] [6,7],[(6,⟨false,1,3,53,lF (bpC ((p.C.getD k []).getD c bpZ))⟩),(7,⟨false,1,4,33,lF (bgC (p.O.getD k bgZ))⟩)],Wk.mk [(6,some 6),(7,some 7)] rfl rfl rfl ?_ ?_,rfl,rfl,ARets.two (x:=.ag _) (y:=.ag _) (ARes.box zA rfl rfl rfl rfl rfl rfl rfl) (ARes.box zA rfl rfl rfl rfl rfl rfl rfl)⟩
  ·exact zB
  ·exact zAc
theorem zRT{p:Pb}{k:Nat}(h:k<p.F.length):obN p k = -1-(k:Int):=if_pos h
theorem obN_hi{p:Pb}{k:Nat}:obN p (p.F.length+k)=(k:Int):=by
 unfold obN;rw[if_neg xD]
 omega
theorem zNu(p:Pb)(n:Nat){v:Int}(h:v=obN p n):∀i,i<n+1→∀j,j<1→zAh (iF (obN p)) n (sF [iC v] 1) i j=iF (obN p) i j∧zK (zAh (iF (obN p)) n (sF [iC v] 1) i j)=true:=by
 subst h;exact zEX (G:=iF (obN p)) (fun i _ j _=>rfl) (zY rfl) (fun _ _ _ _=>rfl)
theorem zSu(p:Pb)(i:Nat)(hF:p.F.length≤1000)(hi:i≤1000):ACalls Tryz.prog 62 [.ag (pbC p),.c (iC i)] (.c (.ls (p.F.length+i) 1 (iF (obN p)))):=by
 refine zH Tryz.func62 rfl rfl Tryz.ntmps62 rfl ?_;refine vB [0,1,2] ?_;refine AWp.round (fun k:Nat=>zD 30 [(1,.c (iC i)),(2,.c (.pt 2 5 0 0)),(5,.c (.ow 20)),(6,.c (iC (k:Nat)))] [(2,pS9 p),(20,zBl k (obN p))] [2,20]) (fun k=>k≤p.F.length) (fun k=>p.F.length-k) 0 (Nat.zero_le _) ?_ (fun k hk=> ?_)
 ·refine Wk.mk [(2,some 2),(20,none)] rfl rfl rfl ?_ ?_
  ·exact zB
  ·exact⟨hSm,HeapOk.nil rfl rfl,trivial⟩
 by_cases hkl:k<p.F.length
 ·have hkl':(k:Int)<p.F.length:=by omega
  repeat (first
   |refine vB [3,4] ?_
   | (refine rG 5 ?_
      refine xE4 ?_;refine xA ?_;refine vA ?_;refine aB ?_))
  refine⟨k+1,hkl,Wk.mk [(2,some 2),(20,some 19)] rfl rfl rfl ?_ ?_,by omega⟩
  ·exact zB
  ·exact⟨hSm,HeapOk.row rfl rfl rfl (zNu p k (zRT hkl).symm),trivial⟩
 have hkl':¬(k:Int)<p.F.length:=by omega
 obtain rfl:k=p.F.length:=by omega
 refine vB [3,6] ?_;refine AWp.round (fun k:Nat=>zD 30 [(1,.c (iC i)),(5,.c (.ow 20)),(7,.c (iC (k:Nat)))] [(20,zBl (p.F.length+k) (obN p))] [20]) (fun k=>k≤i) (fun k=>i-k) 0 (Nat.zero_le _) ?_ (fun k hk=> ?_)
 ·refine Wk.mk [(20,some 20)] rfl rfl rfl ?_ ?_
  ·exact zB
  ·exact⟨HeapOk.row rfl rfl rfl (fun i _ j _=>⟨rfl,rfl⟩),trivial⟩
 by_cases hkl:k<i
 ·have hkl':(k:Int)<i:=by omega
  have hn20:((20,zBl (p.F.length+k) (obN p)):Nat×AB).snd.n=p.F.length+k:=rfl
  repeat (first
   |refine vB [7,8] ?_
   | (refine rG 9 ?_
      refine xE3 ?_;refine xA ?_;refine vA ?_;refine aB ?_))
  refine⟨k+1,hkl,Wk.mk [(20,some 28)] rfl rfl rfl ?_ ?_,by omega⟩
  ·exact zB
  ·exact⟨HeapOk.row rfl rfl rfl (zNu p (p.F.length+k) obN_hi.symm),trivial⟩
 have hkl':¬(k:Int)<i:=by omega
 obtain rfl:k=i:=by omega
 refine vB [7,10] ?_
 refine⟨zD 30 [(4,.c (.ls (p.F.length+k) 1 (iF (obN p))))] [] [],[],Wk.mk [] rfl rfl rfl ?_ trivial,rfl,rfl,aR1⟩
 exact⟨⟨_,rfl,.c (zAn rfl rfl rfl (fun i _ j _=>⟨rfl,rfl⟩))⟩,trivial⟩
def sK(p:Pb)(ch:List Int)(c k:Nat):Stp:=zNE p ch c ((List.range k).find? fun j=>(zAU p ch c j).2.2)
theorem zJE{p:Pb}{ch:List Int}{c k:Nat}(h:(sK p ch c k).dp=true):sK p ch c k=zA6 ch.length c∧(List.range k).find? (fun j=>(zAU p ch c j).2.2)=none:=by
 unfold sK at h⊢
 cases hf:(List.range k).find? fun j=>(zAU p ch c j).2.2 with
 |none=>exact⟨rfl,rfl⟩
 |some j=>rw[hf]at h;cases h
theorem zSC{p:Pb}{ch:List Int}{c k:Nat}(h:(sK p ch c k).dp=true)(ht:(zAU p ch c k).2.2=true):sK p ch c (k+1)=⟨ch.length,c,obN p k,(zAU p ch c k).1,false,(zAU p ch c k).2.1⟩:=by
 unfold sK;rw[List.range_succ,List.find?_append,(zJE h).2,List.find?_cons,ht]
 rfl
theorem zSD{p:Pb}{ch:List Int}{c k:Nat}(h:(sK p ch c k).dp=true)(ht:(zAU p ch c k).2.2=false):sK p ch c (k+1)=zA6 ch.length c:=by
 unfold sK;rw[List.range_succ,List.find?_append,(zJE h).2,List.find?_cons,ht]
 rfl
theorem zSB{p:Pb}{ch:List Int}{c k:Nat}(h:(sK p ch c k).dp=false):∀{n:Nat},k≤n→sK p ch c n=sK p ch c k:=fun {n} hn=>by
 unfold sK at h⊢
 cases hf:(List.range k).find? fun j=>(zAU p ch c j).2.2 with
 |none=>rw[hf]at h;cases h
 | some j=>
   obtain⟨r,hr⟩:∃r,List.range n=List.range k++r:=⟨(List.range (n-k)).map (k+ ·),by rw[←List.range_add];congr 1;omega⟩
   rw[hr,List.find?_append,hf]
   rfl
theorem zOk{m:Nat}(h:m≤5):stT m≤20000:=by
 have:m=0∨m=1∨m=2∨m=3∨m=4∨m=5:=by omega
 rcases this with h|h|h|h|h|h<;>rw[h]<;>decide
abbrev bxS(s:Stp):AB:=⟨false,1,8,60,lF (stC s)⟩
theorem zN6(p:Pb)(hp:p.fit)(hc5:p.C.length≤5)(hl4:∀l∈p.C,l.length≤4):∀(m:Nat) (ch:List Int),ch.length+m=p.C.length→ChOk p ch→ACalls Tryz.prog 36 [.ag (pbC p),.c (lsI ch)] (.c (zAD (zA3 p m ch)))
 | 0,ch,hm,_=>by
   have hm':(ch.length:Int)=p.C.length:=by omega
   show ACalls _ _ _ (.c (zAD []));refine zH Tryz.func36 rfl rfl Tryz.ntmps36 rfl ?_;refine vB [0,1,2,3] ?_
   refine⟨zD 107 [(4,.c (zAD []))] [] [],[],Wk.mk [] rfl rfl rfl ?_ trivial,rfl,rfl,aR1⟩
   exact zB
 | m + 1, ch,hm,hch=>by
   have hm':¬(ch.length:Int)=p.C.length:=by omega
   have hlF:=hp.f;have hlO:=hp.o;have hN:=zSu p ch.length xD xD
   obtain⟨L,hL⟩:∃L,p.C.getD ch.length []=L:=⟨_,rfl⟩
   have hcL:chF p.C ch.length 0=lsB L:=by rw[←hL]
   have hL4:L.length≤4:=by rw[←hL];exact hl4 _ (zAO xD)
   have hwl:=zOk (m:=m+1) xD;have hwN:∀c,c≤L.length→(zAI p m ch c).length≤20000:=fun c hc=>by
    have h1:=zHT hl4 (m+1) ch;have h2:zA3 p (m+1) ch=zAI p m ch L.length:=by unfold zAI;rw[←hL];rfl
    rw[h2]at h1;have:=zJ6 (p:=p) (m:=m) (ch:=ch) hc
    omega
   rw[show zA3 p (m+1) ch=zAI p m ch L.length by unfold zAI;rw[←hL];rfl]
   refine zH Tryz.func36 rfl rfl Tryz.ntmps36 rfl ?_
   repeat (first
    |refine vB [0,1,2,4,6] ?_
    | (refine rG 5 ?_
       refine xE2 ?_;refine xB Tryz.func62 hN ?_;refine vA ?_;refine aB ?_))
   refine AWp.round (fun c:Nat=>zD 107 [
    (1,.c (lsI ch)),(2,.c (.pt 2 5 0 0)),(5,.c (iC ch.length)),(6,.c (.ow 200)),(7,.c (.ls (p.F.length+ch.length) 1 (iF (obN p)))),(8,.c (iC (c:Nat)))
    ] [(2,pS9 p),(200,stR (zAI p m ch c))] [2,200]) (fun c=>c≤L.length) (fun c=>L.length-c) 0 (Nat.zero_le _) ?_ (fun c hc=> ?_)
   ·refine Wk.mk [(2,some 2),(200,none)] rfl rfl rfl ?_ ?_
    ·exact zB
    ·exact⟨hSm,HeapOk.nil rfl rfl,trivial⟩
   have hwc:=hwN c hc;have h200:((200,stR (zAI p m ch c)):Nat×AB).snd.n=(zAI p m ch c).length:=rfl;by_cases hcl:c<L.length;rotate_left
   ·obtain rfl:c=L.length:=by omega
    have hcl':¬((L.length:Nat):Int)<L.length:=by omega
    repeat (first
     |refine vB [20] ?_
     | (refine rG 7 ?_
        refine xE4 ?_
        first|refine zG (aP (k:=ch.length) zA) ?_|refine zT (zO (k:=ch.length) zA) ?_
        first|refine zAw zA (hcL) rfl rfl rfl rfl rfl oM ?_|refine zB2 zA rfl rfl rfl rfl rfl rfl rfl oM oM (hcL) ?_
        refine xE2 ?_;refine aB ?_))
    refine⟨zD 107 [(4,.c (zAD (zAI p m ch L.length)))] [] [],[],Wk.mk [] rfl rfl rfl ?_ trivial,rfl,rfl,aR1⟩
    exact⟨⟨_,rfl,.c (zAn rfl rfl rfl (fun i _ j _=>⟨rfl,zM zBA _ i j⟩))⟩,trivial⟩
   have hcl':(c:Int)<L.length:=by omega
   have hsV:zBa p ch c=sK p ch c (p.F.length+ch.length):=rfl
   repeat (first
    |refine vB [9,10] ?_
    | (refine rG 7 ?_
       refine xE4 ?_
       first|refine zG (aP (k:=ch.length) zA) ?_|refine zT (zO (k:=ch.length) zA) ?_
       first|refine zAw zA (hcL) rfl rfl rfl rfl rfl oM ?_|refine zB2 zA rfl rfl rfl rfl rfl rfl rfl oM oM (hcL) ?_
       refine xE2 ?_;refine aB ?_))
   refine AWp.round (fun k:Nat=>
    zD 107 [
    (1,.c (lsI ch)),(2,.c (.pt 2 5 0 0)),(5,.c (iC ch.length)),(6,.c (.ow 200)),(7,.c (.ls (p.F.length+ch.length) 1 (iF (obN p)))),(8,.c (iC (c:Nat)))
    ,(9,.c (.pt 9 8 0 0)),(10,.c (iC ((k:Nat))))
    ] [(2,pS9 p),(9,bxS (sK p ch c k)),(200,stR (zAI p m ch c))] [2,9,200]
    ) (fun k=>k≤p.F.length+ch.length) (fun k=>p.F.length+ch.length-k) 0 (Nat.zero_le _) ?_ (fun k hk=> ?_)
   ·refine Wk.mk [(2,some 2),(9,some 9),(200,some 200)] rfl rfl rfl ?_ ?_
    ·exact zB
    ·exact⟨hSm,hSm,hrF zBA,trivial⟩
   have hend:= @zSB p ch c k;have hhit:= @zSC p ch c k;have hmiss:= @zSD p ch c k;have hdp:= @zJE p ch c k;by_cases hkn:k<p.F.length+ch.length;rotate_left
   ·obtain rfl:k=p.F.length+ch.length:=by omega
    have hkn':¬((p.F.length+ch.length:Nat):Int)<((p.F.length+ch.length:Nat):Int):=by omega
    rw[←hsV];rw[←hsV]at hdp;clear hend hhit hmiss
    obtain⟨s,hs⟩:∃s,zBa p ch c=s:=⟨_,rfl⟩
    rw[hs]at hdp⊢
    cases hd:s.dp with
    | true=>
      obtain rfl:=(hdp hd).1;have hW:=zN6 p hp hc5 hl4 m (ch++ [(c:Int)]) (by rw[List.length_append,List.length_singleton];omega) (hch.snoc (hp.pk xD (by rw[hL];exact hcl)))
      have hwm:=zHT hl4 m (ch++ [(c:Int)]);have hwm5:=zOk (m:=m) xD;generalize hWv:zA3 p m (ch++ [(c:Int)])=W at *;have hA1:(zAI p m ch c++ [zA6 ch.length c]).length≤20001:=by rw[List.length_append,List.length_singleton];omega
      repeat (first
       |refine vB [11,18] ?_
       | (refine rG 17 ?_
          refine xE3 ?_;refine xA ?_;refine vA ?_;refine aB ?_))
      refine AWp.weak (S':=zD 107 [
       (1,.c (lsI ch)),(2,.c (.pt 2 5 0 0)),(5,.c (iC ch.length)),(6,.c (.ow 200)),(7,.c (.ls (p.F.length+ch.length) 1 (iF (obN p)))),(8,.c (iC (c:Nat)))
       ] [(2,pS9 p),(200,stR (zAI p m ch c++ [zA6 ch.length c]))] [2,200]) (Wk.mk [(2,some 2),(200,some 93)] rfl rfl rfl ?_ ?_) ?_
      ·exact zB
      ·exact⟨hSm,HeapOk.row rfl rfl (by rw[List.length_append];rfl) (zBW (c:=stC) (z:=stZ) (zAI p m ch c) _ zBA rfl),trivial⟩
      have h201:((200,stR (zAI p m ch c++ [zA6 ch.length c])):Nat×AB).snd.n=(zAI p m ch c++ [zA6 ch.length c]).length:=rfl
      repeat (first
       |refine vB [] ?_
       |(refine AWp.draw (id:=19) zI ?_;refine xE4 ?_;refine xA ?_;refine xE2 ?_;refine zHW zA rfl rfl rfl rfl rfl rfl rfl rfl rfl rfl (@List.length_append _ ch [(c:Int)]) (zCX ch c) oM oM ?_;refine xB Tryz.func36 hW ?_;refine xA ?_;refine vA ?_;refine aB ⟨by kernel_rfl,?_⟩))
      refine vB [8] ?_
      refine⟨c+1,hcl,Wk.mk [(2,some 2),(200,some 105)] rfl rfl rfl ?_ ?_,by omega⟩
      ·exact zB
      ·rw[zFr]
       unfold zCS
       (rw[hs,if_pos rfl,hWv,show zAI p m ch c++zA6 ch.length c::W=(zAI p m ch c++ [zA6 ch.length c])++W by simp];exact⟨hSm,HeapOk.row rfl rfl List.length_append (fun i _ j _=>⟨zN3 _ _ i j,by rw[zN3];exact zM zBA _ i j⟩),trivial⟩)
    | false=>
      obtain⟨nm,sc,wi,rd,dp,cl⟩:=s
      obtain rfl:dp=false:=hd;refine vB [11] ?_
      repeat (first
       |refine vB [8,18] ?_
       | (refine rG 17 ?_
          refine xE3 ?_;refine xA ?_;refine vA ?_;refine aB ?_))
      refine⟨c+1,hcl,Wk.mk [(2,some 2),(200,some 93)] rfl rfl rfl ?_ ?_,by omega⟩
      ·exact zB
      ·rw[zFr]
       unfold zCS
       (rw[hs,if_neg (by simp)];exact⟨hSm,HeapOk.row rfl rfl (by rw[List.length_append];rfl) (zBW (c:=stC) (z:=stZ) (zAI p m ch c) _ zBA rfl),trivial⟩)
   have hkn':(k:Int)<((p.F.length+ch.length:Nat):Int):=by omega
   cases hd:(sK p ch c k).dp with
   | false=>
     have hs:=(hend hd (Nat.le_of_lt hkn)).symm.trans hsV.symm;rw[hs]at hd;rw[hs];clear hend hhit hmiss hdp;generalize hsg:zBa p ch c=s at *
     obtain⟨nm,sc,wi,rd,dp,cl⟩:=s
     obtain rfl:dp=false:=hd
     repeat (first
      |refine vB [8,11,18] ?_
      | (refine rG 17 ?_
         refine xE3 ?_;refine xA ?_;refine vA ?_;refine aB ?_))
     refine⟨c+1,hcl,Wk.mk [(2,some 2),(200,some 93)] rfl rfl rfl ?_ ?_,by omega⟩
     ·exact zB
     ·rw[zFr]
      unfold zCS
      (rw[hsg,if_neg (by simp)];exact⟨hSm,HeapOk.row rfl rfl (by rw[List.length_append];rfl) (zBW (c:=stC) (z:=stZ) (zAI p m ch c) _ zBA rfl),trivial⟩)
   | true=>
     rw[(hdp hd).1];have hOb:=zSv p hp ch (obN p k) (zNt hp hch hkn) hch;have hCl:ACalls Tryz.prog 64 [.ag (pbC p),.ag (bpC ((p.C.getD ch.length []).getD c bpZ)),.ag (bpC (obB p ch (obN p k))),.ag (bgC (p.O.getD ch.length bgZ)),.ag (bgC (obG p (obN p k)))] (.tu [.c (iC (zAU p ch c k).1),.ag (clC (zAU p ch c k).2.1),.c (bC (zAU p ch c k).2.2)]):=zJw p _ _ _ _ (by have:=hp.ok.lR;omega) hp.ok.rd
     rw[hL]at hCl;clear hend hdp hsV;generalize zAU p ch c k=o at *
     obtain⟨rd,cl,bb⟩:=o
     dsimp only at hCl hhit hmiss
     cases bb with
     | true=>
       repeat (first
        |refine vB [11,15] ?_
        |(refine AWp.draw (id:=13) zI ?_;refine xE4 ?_;(first|refine zG (aP (k:=k) zA) ?_|refine zT (zO (k:=k) zA) ?_);refine vA ?_;refine xB Tryz.func63 hOb ?_;refine xE7 ?_;refine aB ⟨by kernel_rfl,?_⟩)
        |(refine AWp.draw (id:=14) zI ?_;refine xE4 ?_;(first|refine zG (aP (k:=ch.length) zA) ?_|refine zT (zO (k:=ch.length) zA) ?_);(first|refine zAw zA (hcL) rfl rfl rfl rfl rfl oM ?_|refine zB2 zA rfl rfl rfl rfl rfl rfl rfl oM oM (hcL) ?_);refine vA ?_;(first|refine zG (aP (k:=c) zA) ?_|refine zT (zO (k:=c) zA) ?_);refine xE5 ?_;(first|refine zG (aP (k:=ch.length) zA) ?_|refine zT (zO (k:=ch.length) zA) ?_);refine xE2 ?_;refine xB Tryz.func64 hCl ?_;refine xE8 ?_;refine aB ⟨by kernel_rfl,?_⟩))
       repeat (first
        |refine vB [12] ?_
        |(refine AWp.draw (id:=16) zI ?_;refine xE4 ?_;(first|refine zG (aP (k:=k) zA) ?_|refine zT (zO (k:=k) zA) ?_);refine xE5 ?_;refine aB ⟨by kernel_rfl,?_⟩))
       refine⟨k+1,hkn,Wk.mk [(2,some 2),(9,some 9),(200,some 200)] rfl rfl rfl ?_ ?_,by omega⟩
       ·exact zB
       ·rw[hhit hd rfl]
        exact⟨hSm,hSm,hrF zBA,trivial⟩
     | false=>
       repeat (first
        |refine vB [11,12,15] ?_
        |(refine AWp.draw (id:=13) zI ?_;refine xE4 ?_;(first|refine zG (aP (k:=k) zA) ?_|refine zT (zO (k:=k) zA) ?_);refine vA ?_;refine xB Tryz.func63 hOb ?_;refine xE7 ?_;refine aB ⟨by kernel_rfl,?_⟩)
        |(refine AWp.draw (id:=14) zI ?_;refine xE4 ?_;(first|refine zG (aP (k:=ch.length) zA) ?_|refine zT (zO (k:=ch.length) zA) ?_);(first|refine zAw zA (hcL) rfl rfl rfl rfl rfl oM ?_|refine zB2 zA rfl rfl rfl rfl rfl rfl rfl oM oM (hcL) ?_);refine vA ?_;(first|refine zG (aP (k:=c) zA) ?_|refine zT (zO (k:=c) zA) ?_);refine xE5 ?_;(first|refine zG (aP (k:=ch.length) zA) ?_|refine zT (zO (k:=ch.length) zA) ?_);refine xE2 ?_;refine xB Tryz.func64 hCl ?_;refine xE8 ?_;refine aB ⟨by kernel_rfl,?_⟩))
       refine⟨k+1,hkn,Wk.mk [(2,some 2),(9,some 9),(200,some 200)] rfl rfl rfl ?_ ?_,by omega⟩
       ·exact zB
       ·rw[hmiss hd rfl]
        exact⟨hSm,hSm,hrF zBA,trivial⟩
theorem zSe(p:Pb)(hp:p.ok)(hs:zAt p=0→Sm p):ACalls Tryz.prog 11 [.ag (pbC p)] (.tu [.c (zAD (zBV p).1),.c (iC (zBV p).2)]):=by
 have hC:=zHx p hp;have hU:=zJD p hp;unfold zBV
 obtain⟨e,he⟩:∃e,zAt p=e:=⟨_,rfl⟩
 rw[he]at hC⊢;by_cases h0:e=0;rotate_left
 ·rw [if_neg h0]
  refine zH Tryz.func11 rfl rfl Tryz.ntmps11 rfl ?_
  repeat (first
   |refine vB [0,2,3] ?_
   | (refine rG 1 ?_
      refine vA ?_;refine xB Tryz.func31 hC ?_;refine vA ?_;refine aB ?_))
  refine⟨zD 17 [(2,.c (zAD ([]))),(3,.c (iC (e)))] [] [],[],Wk.mk [] rfl rfl rfl ?_ trivial,rfl,rfl,ARets.two (x:=.c _) (y:=.c _) (ARes.tmp rfl rfl) (ARes.tmp rfl rfl)⟩
  exact zB
 subst h0;have sp:=hs he;rw[if_pos rfl];generalize zAJ p=u at *;by_cases hu:u=0
 ·rw [if_pos hu]
  subst hu;have hW:=(zN6 p sp.fit sp.C (fun l hl=>(sp.Cc l hl).1) p.C.length [] (Nat.zero_add _) (fun k hk=>absurd hk (Nat.not_lt_zero _))).cv (args':= [.ag (pbC p),.c (.p (.slice none 0 0))]) ⟨.ag (zGV _),.c Cv.nil,trivial⟩;refine zH Tryz.func11 rfl rfl Tryz.ntmps11 rfl ?_
  repeat (first
   |refine vB [0,2,5] ?_
   | (refine rG 1 ?_
      refine vA ?_;refine xB Tryz.func31 hC ?_;refine vA ?_;refine aB ?_)
   | (refine rG 4 ?_
      refine vA ?_;refine xB Tryz.func32 hU ?_;refine vA ?_;refine aB ?_)
   | (refine rG 7 ?_
      refine vA ?_;refine xB Tryz.func36 hW ?_;refine xE2 ?_;refine aB ?_))
  refine⟨zD 17 [(2,.c (zAD (zA3 p p.C.length []))),(3,.c (iC (0)))] [] [],[],Wk.mk [] rfl rfl rfl ?_ trivial,rfl,rfl,ARets.two (x:=.c _) (y:=.c _) (ARes.tmp rfl rfl) (ARes.tmp rfl rfl)⟩
  exact zB
 ·rw [if_neg hu]
  refine zH Tryz.func11 rfl rfl Tryz.ntmps11 rfl ?_
  repeat (first
   |refine vB [0,2,5,6] ?_
   | (refine rG 1 ?_
      refine vA ?_;refine xB Tryz.func31 hC ?_;refine vA ?_;refine aB ?_)
   | (refine rG 4 ?_
      refine vA ?_;refine xB Tryz.func32 hU ?_;refine vA ?_;refine aB ?_))
  refine⟨zD 17 [(2,.c (zAD ([]))),(3,.c (iC (u)))] [] [],[],Wk.mk [] rfl rfl rfl ?_ trivial,rfl,rfl,ARets.two (x:=.c _) (y:=.c _) (ARes.tmp rfl rfl) (ARes.tmp rfl rfl)⟩
  exact zB
theorem j2{P:Nat→Prop}(h:P 0∧P 1):∀j,j<2→P j:=fun j hj=>by
 obtain⟨h0,h1⟩:=h
 match j,hj with
 |0,_=>exact h0
 |1,_=>exact h1
theorem zST(a b:Stp)(w:World):(Go.binOp .neq 60 (.agg #[.int .i64 a.nm,.int .i64 a.ch,.int .i64 a.wi,.int .i64 a.rd,.bool a.dp,.int .i64 a.cl.dx,.int .i64 a.cl.dy,.int .i64 a.cl.col]) (.agg #[.int .i64 b.nm,.int .i64 b.ch,.int .i64 b.wi,.int .i64 b.rd,.bool b.dp,.int .i64 b.cl.dx,.int .i64 b.cl.dy,.int .i64 b.cl.col])).run Tryz.prog w=.ok (.bool (!decide (a=b))) w:=by
 have hp:Tryz.prog.stoodInHeld 60=false:=by kernel_rfl
 obtain⟨a0,a1,a2,a3,a4,a5,a6,a7⟩:=a
 obtain⟨b0,b1,b2,b3,b4,b5,b6,b7⟩:=b
 go_simp
 by_cases e0:a0=b0<;>by_cases e1:a1=b1<;>by_cases e2:a2=b2<;>by_cases e3:a3=b3<;>by_cases e4:a4=b4<;>by_cases e5:a5=b5<;>by_cases e6:a6=b6<;>by_cases e7:a7=b7<;>simp[e0,e1,e2,e3,e4,e5,e6,e7]
theorem zSg(l m:List Stp)(hm:l=m)(hl:l.length≤1000000):ACalls Tryz.prog 13 [.c (zAD l),.c (zAD m)] (.c (bC true)):=by
 have hlm:(l.length:Int)=m.length:=by rw[hm]
 refine zH Tryz.func13 rfl rfl Tryz.ntmps13 rfl ?_;refine vB [0,1,3] ?_;refine AWp.round (fun k:Nat=>zD 26 [(0,.c (zAD l)),(1,.c (zAD m)),(5,.c (iC (k:Nat)))] [] []) (fun k=>k≤l.length) (fun k=>l.length-k) 0 (Nat.zero_le _) ?_ (fun k hk=> ?_)
 ·refine Wk.mk [] rfl rfl rfl ?_ trivial
  exact zB
 by_cases hkl:k<l.length
 ·have hkl':(k:Int)<l.length:=by omega
  have hkm:k<m.length:=by omega
  obtain⟨s,hs⟩:∃s,l.getD k stZ=s:=⟨_,rfl⟩
  have eS:zAR (zV stC stZ l k) 0 8=stC s:=by rw[←hs];rfl
  have eM:zAR (zV stC stZ m k) 0 8=stC s:=by rw[←hs,hm];rfl
  have hq:=zST s s;rw[decide_eq_true rfl]at hq
  obtain⟨a0,a1,a2,a3,a4,a5,a6,a7⟩:=s
  repeat (first
   |refine vB [4,5] ?_
   |(refine AWp.draw (id:=6) zI ?_;refine xE2 ?_;(first|refine zG (aP (k:=k) zA) ?_|refine zT (zO (k:=k) zA) ?_);refine zGo zA (eS) rfl rfl rfl rfl rfl oM ?_;refine xE2 ?_;(first|refine zG (aP (k:=k) zA) ?_|refine zT (zO (k:=k) zA) ?_);refine zGo zA (eM) rfl rfl rfl rfl rfl oM ?_;refine zDI rfl rfl rfl rfl rfl rfl xC (hq) ?_;refine aB ⟨by kernel_rfl,?_⟩))
  refine⟨k+1,hkl,Wk.mk [] rfl rfl rfl ?_ trivial,by omega⟩
  exact zB
 have hkl':¬(k:Int)<l.length:=by omega
 obtain rfl:k=l.length:=by omega
 refine vB [4,8] ?_
 refine⟨zD 26 [(4,.c (bC true))] [] [],[],Wk.mk [] rfl rfl rfl ?_ trivial,rfl,rfl,aR1⟩
 exact zB
theorem zSf(l:List Stp)(hl:l.length≤1000000):ACalls Tryz.prog 13 [.c (zAD l),.c (zAD l)] (.c (bC true)):=zSg l l rfl hl
end Go.Proofs.YtpefnljgalpllaaGreat
end
