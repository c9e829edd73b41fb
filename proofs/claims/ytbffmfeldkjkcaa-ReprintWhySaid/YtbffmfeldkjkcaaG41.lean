/- Parts of the proof: AFzA, A30g, A30h, A30i, A30j, A30k, A30l, A30m. -/
import Derived.Test.YtbffmfeldkjkcaaG40
set_option linter.unusedSimpArgs false
set_option linter.unusedVariables false
set_option maxHeartbeats 0
set_option maxRecDepth 100000
section
namespace Go.AV
open Go Go.RowKit Go.Flow
section
variable{P:Program}{tab:List (TypeId×TD)}
theorem GoesA.mono{K K':Value→World→Prop}{r:Result Next}(h:∀v w,K v w→K' v w)(hh:GoesA P K r):GoesA P K' r:=by
 rcases hh with hh|⟨l,f,tmps,assign,body,w',h1,h2⟩
 ·exact .inl (Goes.mono h hh)
 ·exact .inr ⟨l,f,tmps,assign,body,w',h1,RoundIn.mono (F:=Fence.wide) h2 fun e w'' ⟨v,he,hc⟩=>⟨v,he,h v w'' hc⟩⟩
theorem LStep.weak{ops:Array Oper}{o:Oper}{rd:List Nat}{e e':Eff}{S:St}(h:LStep P ops o rd e S)(ha:e'.al=e.al)
 (hw:∀(S1:St) b0 a w,Rel b0 (S1.eff o.dst e) a w→Rel b0 (S1.eff o.dst e') a w):LStep P ops o rd e' S:=fun S1 hn ht hr hf b0 a w R=>
 (h S1 hn ht hr (by rw[ha]at hf;exact hf) b0 a w R).imp (fun ⟨h1,h2⟩=>⟨h1,h2.mono fun v w'=>hw S1 b0 _ w'⟩) fun ⟨h1,h2⟩=>⟨h1,hw S1 b0 _ w h2⟩
theorem zPt{b0:zI}{σ:Nat→Option Value}{S S':St}{a:Act}{w:World}(R:Rel0 b0 σ S a w){t id n sz:Nat}{ty:TypeId}{F:Nat→Nat→CV}(ht:S.t t=some (.c (.ow id)))(hh:S.h id=some ⟨true,n,sz,ty,F⟩)(hlo:id<1000)
 (hi:∀k,k<n→∀j,j<sz→zM (F k j)=true) (e1:∀i,S'.t i=if i=t then some (.c (.ls n sz F))else S.t i) (e2:∀i,S'.h i=if i=id then none else S.h i) (e3:S'.n=S.n∧S'.ln=S.ln∧S'.G=S.G∧S'.gs=S.gs∧S'.dd=S.dd∧S'.fr=S.fr):Rel0 b0 σ S' a w:=by
 obtain⟨f1,f2,f3,f4,f5,f6⟩:=e3
 have hsub:∀i,S'.h i≠none→i≠id∧S'.h i=S.h i:=fun i h=>by
  rw[e2]at h⊢;by_cases e:i=id
  ·rw[if_pos e]at h;exact absurd rfl h
  ·rw[if_neg e];exact⟨e,rfl⟩
 have hown:∀b,own σ S'.h b→own σ S.h b:=fun b ⟨i,v,h1,h2,h3⟩=>⟨i,v,by rw[←(hsub i h1).2];exact h1,h2,h3⟩
 have hout:∀b,out b0 σ S'.h b→out b0 σ S.h b:=fun b h=>h.imp (hown b) fun h=>h
 have hne:S.h id≠none:=by rw[hh];simp
 refine⟨R.df,R.sz.trans f1.symm,?_,⟨fun i B hB=> ?_,fun i j v1 v2 b h1 h2=> ?_,fun b hb=>R.hp.new b (hown b hb),fun i v h=>⟨(R.hp.fx i v h).1,?_⟩,R.hp.big⟩,fun i x hx=> ?_,fun i h=>R.fr i (by rw[←f6];exact h),fun i v h=>by rw[f2];exact R.le i v h,by rw[f3];exact R.gd,by rw[f4,f5];exact R.gh⟩
 ·have:=R.ext
  unfold zC8 at this⊢;rw[f5];exact this
 ·obtain⟨-,q⟩:=hsub i (by rw[hB];simp)
  rw[q]at hB
  obtain⟨v,k1,k2⟩:=R.hp.blk i B hB
  exact⟨v,k1,OBk.less hout k2⟩
 ·obtain⟨-,q1⟩:=hsub i h1
  obtain⟨-,q2⟩:=hsub j h2
  rw[q1]at h1;rw[q2]at h2;exact R.hp.inj i j v1 v2 b h1 h2
 ·rw[e2,if_neg (fun e=>by have:=(b0.one i v h).1;omega)]
  exact(R.hp.fx i v h).2
 ·rw [e1]at hx
  by_cases e:i=t
  ·rw[if_pos e]at hx
   subst e
   cases hx
   have hr:=R.sl i _ ht
   refine⟨hr.1,zHg R.hp hh hi hout (fun v b h1 h2 h3=> ?_) hr.2.1⟩
   rcases h3 with ⟨j,u,g1,g2,g3⟩|h3
   ·obtain⟨q0,q1⟩:=hsub j g1
    rw[q1]at g1;exact q0 (R.hp.inj j id u v b g1 hne g2 h1 g3 h2)
   ·rcases R.hp.new b ⟨id,v,hne,h1,h2⟩with h4|h4
    ·have:=b0.lt b h3
     omega
    ·exact b0.dis b h3 h4
  ·rw[if_neg e]at hx
   exact RepA.less hout (R.sl i x hx)
section ops
variable{ops:Array Oper}{rest:List Oper}{acc:List (List Nat×List Nat)}{S:St}{Q:List (List Nat×List Nat)→St→Prop}{ty:TypeId}{pos:String}{after:Array Edge}{guard:Option (Nat×Bool)}{x:Operand}
theorem zKh(T:zAm P tab=true){id id1:Nat}{s:Operand}{t el:TypeId}{d e:TD}{n m n':Nat}{F G G':Nat→Nat→CV}
 (hw:S.wants ops {dst:=some id,op:=.call {callee:=.builtin .append,args:= #[s,x],argTypes:= #[t,t]},type:=ty,pos,after,guard}=some true) (hd:dOk S.n (some id)=true) (hf:S.fr id=true)
 (hs:S.opd s=some (.c (.ow id1))) (hx:S.opd x=some (.c (.ls m e.size G))) (ht:zB tab t=some d) (hk:d.k=.sl el) (he:zB tab el=some e) (hh:S.h id1=some ⟨true,n,e.size,el,F⟩) (hsz:(Nat.blt 0 e.size && (Nat.blt id1 1000 && (Nat.blt id 1000 && !Nat.beq id id1)))=true)
 (hm:n'=n+m) (hc:∀k,k<n+m→∀j,j<e.size→zAg F n G k j=G' k j∧zM (zAg F n G k j)=true) (h63:n+m≤4611686018427387904) (hb:(n+m)*e.bytes≤140737488355328)
 (hn:AList P ops rest (([id1,id],[id1,id,id])::acc) (S.eff (some id) ⟨.c (.ls n' e.size G'),[(id1,none),(id,none)],[id]⟩) Q):
 AList P ops ({dst:=some id,op:=.call {callee:=.builtin .append,args:= #[s,x],argTypes:= #[t,t]},type:=ty,pos,after,guard}::rest) acc S Q:=by
 simp only[Bool.and_eq_true]at hsz
 obtain⟨z1,z2,z3,z4⟩:=hsz
 have hne:id≠id1:=fun e=>by rw[e,Nat.beq_refl]at z4;cases z4
 have h3:=Nat.blt_eq.mp z3;subst hm;refine AList.cons [id1] ⟨.c (.ls (n+m) e.size G'),[(id1,none),(id,none)],[id]⟩ ((LStep.app T (o:=some id1) (F:=F) (G:=G) [] hw hd hf hs hx ht hk he (Nat.blt_eq.mp z1) (.inr ⟨id1,rfl,rfl,hh,Nat.blt_eq.mp z2⟩) (fun S1 _ b0 σ a w R u hu=>zFt hu) h63 hb).weak rfl fun S1 b0 a w ⟨σ,R⟩=>⟨σ,?_⟩) hn;have hB:zZ [(id1,none),(id,some (⟨true,n+m,e.size,el,zAg F n G⟩:AB))] S1.h id=some ⟨true,n+m,e.size,el,zAg F n G⟩:=(zX _ _ hne).trans (zAh _ _ _);have R1:=zPt (S':=⟨S1.n,S1.ln,put S1.t id (some (.c (.ls (n+m) e.size (zAg F n G)))),zZ [(id1,none),(id,none)] S1.h,(S1.eff (some id) ⟨.c (.ow id),[(id1,none),(id,some (⟨true,n+m,e.size,el,zAg F n G⟩:AB))],[id]⟩).fr,S1.G,S1.gs,S1.dd⟩) R (t:=id) (id:=id) (zAh _ _ _) hB h3 (fun k hk j hj=>(hc k hk j hj).2)
  (fun i=>by
    by_cases e:i=id
    ·rw[if_pos e,e];exact zAh _ _ _
    ·rw[if_neg e];exact(zX _ _ e).trans (zX _ _ e).symm)
  (fun i=>by
    by_cases e:i=id
    ·rw[if_pos e,e];exact(zX _ _ hne).trans (zAh _ _ _)
    ·rw[if_neg e]
     show put (put S1.h id none) id1 none i=put (put S1.h id _) id1 none i;by_cases e':i=id1
     ·rw[e',zAh,zAh]
     ·rw[zX _ _ e',zX _ _ e',zX _ _ e,zX _ _ e])
  ⟨rfl,rfl,rfl,rfl,rfl,rfl⟩
 refine⟨R1.df,R1.sz,R1.ext,R1.hp,fun i z hz=> ?_,R1.fr,R1.le,R1.gd,R1.gh⟩
 by_cases e:i=id
 ·subst e
  have hz':put S1.t i (some (.c (.ls (n+m) _ G'))) i=some z:=hz;rw[zAh]at hz'
  cases hz'
  have h:=R1.sl i _ (zAh _ _ _)
  exact⟨h.1,zEt (fun k hk j hj=>(hc k hk j hj).1) h.2⟩
 ·have hz':put S1.t id (some (.c (.ls (n+m) _ G'))) i=some z:=hz
  rw[zX _ _ e]at hz';exact R1.sl i z ((zX _ _ e).trans hz')
end ops
end
end Go.AV
end
section
namespace Go.Proofs.Ytbffmfeldkjkcaa
open Go.RowKit Go.Flow Go.AV Go.Plain
theorem zJJ(a b:List Int)(ha:a.length≤4611686018427387904):ACalls Try.prog 45 [.c (lsI a),.c (lsI b)] (.c (bC (decide (a=b)))):=by
 obtain⟨v,hv⟩:∃v,decide (a=b)=v:=⟨_,rfl⟩
 rw[hv];refine zK Try.func45 rfl rfl Try.ntmps45 rfl ?_;by_cases hl:a.length=b.length
 ·have hl':((a.length:Nat):Int)=b.length:=by omega
  refine vB [0,1,3] ?_;refine AWp.round (fun k:Nat=>zD 26 [(0,.c (lsI a)),(1,.c (lsI b)),(5,.c (iC (k:Nat)))] [] []) (fun k=>k≤a.length∧∀i,i<k→fI a i=fI b i) (fun k=>a.length-k) 0 ⟨Nat.zero_le _,fun _ h=>absurd h (Nat.not_lt_zero _)⟩ ?_ (fun k hk=> ?_)
  ·refine Wk.mk [] rfl rfl rfl ?_ trivial
   exact zC
  obtain⟨hk,hok⟩:=hk
  by_cases hkl:k<a.length
  ·have hkl':(k:Int)<a.length:=by omega
   by_cases he:fI a k=fI b k
   · -- ax 2 ref30.same
     repeat (first
      |refine vB [4,5] ?_
      |(refine AWp.draw (id:=6) zL ?_;refine xE2 ?_;(first|refine zG (aP (k:=k) zA) ?_|refine zJ (zH (k:=k) zA) ?_);refine xE3 ?_;(first|refine zG (aP (k:=k) zA) ?_|refine zJ (zH (k:=k) zA) ?_);refine xE2 ?_;refine aB ⟨by kernel_rfl,?_⟩))
     refine⟨k+1,⟨hkl,fun i hi=> ?_⟩,Wk.mk [] rfl rfl rfl ?_ trivial,by omega⟩
     ·by_cases ei:i=k
      ·rw[ei];exact he
      ·exact hok i xD
     ·exact zC
   ·obtain rfl:v=false:=by rw[←hv];exact decide_eq_false fun e=>he (by rw[e])
    repeat (first
     |refine vB [4,7] ?_
     |(refine AWp.draw (id:=6) zL ?_;refine xE2 ?_;(first|refine zG (aP (k:=k) zA) ?_|refine zJ (zH (k:=k) zA) ?_);refine xE3 ?_;(first|refine zG (aP (k:=k) zA) ?_|refine zJ (zH (k:=k) zA) ?_);refine xE2 ?_;refine aB ⟨by kernel_rfl,?_⟩))
    refine⟨zD 26 [(4,.c (bC false))] [] [],[],Wk.mk [] rfl rfl rfl ?_ trivial,rfl,rfl,aR1⟩
    exact zC
  ·have hkl':¬(k:Int)<a.length:=by omega
   obtain rfl:k=a.length:=by omega
   obtain rfl:v=true:=by rw[←hv];exact decide_eq_true (zQF hl hok)
   refine vB [4,8] ?_
   refine⟨zD 26 [(4,.c (bC true))] [] [],[],Wk.mk [] rfl rfl rfl ?_ trivial,rfl,rfl,aR1⟩
   exact zC
 ·have hl':¬((a.length:Nat):Int)=b.length:=by omega
  obtain rfl:v=false:=by rw[←hv];exact decide_eq_false fun e=>hl (by rw[e])
  refine vB [0,1,2] ?_
  refine⟨zD 26 [(4,.c (bC false))] [] [],[],Wk.mk [] rfl rfl rfl ?_ trivial,rfl,rfl,aR1⟩
  exact zC
structure Pl where
 rp:List Int
 an:List Int
 ch:List Int
 deriving DecidableEq
abbrev plC(x:Pl):List CV:= [lsI x.rp,lsI x.an,lsI x.ch]
abbrev plZ:Pl:=⟨[],[],[]⟩
def zGp(a b:Pl):Bool:=decide (a.rp=b.rp) && decide (a.an=b.an) && decide (a.ch=b.ch)
theorem samP_iff{a b:Pl}:zGp a b=true↔a=b:=by
 unfold zGp;rw[Bool.and_eq_true,Bool.and_eq_true,decide_eq_true_eq,decide_eq_true_eq,decide_eq_true_eq]
 obtain⟨a1,a2,a3⟩:=a
 obtain⟨b1,b2,b3⟩:=b
 exact⟨fun ⟨⟨h1,h2⟩,h3⟩=>by cases h1;cases h2;cases h3;rfl,fun h=>by cases h;exact⟨⟨rfl,rfl⟩,rfl⟩⟩
theorem zId(a b:Pl)(h1:a.rp.length≤4611686018427387904)(h2:a.an.length≤4611686018427387904)(h3:a.ch.length≤4611686018427387904):ACalls Try.prog 17 [.ag (plC a),.ag (plC b)] (.c (bC (zGp a b))):=by
 have hA:=zJJ a.rp b.rp h1;have hB:=zJJ a.an b.an h2;have hC:=zJJ a.ch b.ch h3
 obtain⟨v,hv⟩:∃v,zGp a b=v:=⟨_,rfl⟩
 rw[hv];unfold zGp at hv;generalize decide (a.rp=b.rp)=x at *;generalize decide (a.an=b.an)=y at *;generalize decide (a.ch=b.ch)=z at *
 cases x with
 | false=>
   obtain rfl:false=v:=hv;refine zK Try.func17 rfl rfl Try.ntmps17 rfl ?_
   repeat (first
    |refine vB [0] ?_
    | (refine rG 1 ?_
       refine xE4 ?_;refine xB Try.func45 hA ?_;refine xE5 ?_
       first|refine qr2 aG ?_|refine xB Try.func45 hA ?_
       refine xE6 ?_
       first|refine qr2 aG ?_|refine xB Try.func45 hA ?_
       refine xE2 ?_;refine aB ?_))
   refine⟨zD 24 [(4,.c (bC false))] [] [],[],Wk.mk [] rfl rfl rfl ?_ trivial,rfl,rfl,aR1⟩
   exact zC
 | true=>
   cases y with
   | false=>
     obtain rfl:false=v:=hv;refine zK Try.func17 rfl rfl Try.ntmps17 rfl ?_
     repeat (first
      |refine vB [0] ?_
      | (refine rG 1 ?_
         refine xE4 ?_
         first|refine xB Try.func45 hA ?_|refine xB Try.func45 hB ?_
         refine xE5 ?_
         first|refine qr2 aG ?_|refine xB Try.func45 hA ?_|refine xB Try.func45 hB ?_
         refine xE6 ?_
         first|refine qr2 aG ?_|refine xB Try.func45 hA ?_|refine xB Try.func45 hB ?_
         refine xE2 ?_;refine aB ?_))
     refine⟨zD 24 [(4,.c (bC false))] [] [],[],Wk.mk [] rfl rfl rfl ?_ trivial,rfl,rfl,aR1⟩
     exact zC
   | true=>
     obtain rfl:z=v:=hv;refine zK Try.func17 rfl rfl Try.ntmps17 rfl ?_
     repeat (first
      |refine vB [0] ?_
      | (refine rG 1 ?_
         refine xE4 ?_
         first|refine xB Try.func45 hA ?_|refine xB Try.func45 hB ?_|refine xB Try.func45 hC ?_
         refine xE5 ?_
         first|refine qr2 aG ?_|refine xB Try.func45 hA ?_|refine xB Try.func45 hB ?_|refine xB Try.func45 hC ?_
         refine xE6 ?_
         first|refine qr2 aG ?_|refine xB Try.func45 hA ?_|refine xB Try.func45 hB ?_|refine xB Try.func45 hC ?_
         refine xE2 ?_;refine aB ?_))
     refine⟨zD 24 [(4,.c (bC z))] [] [],[],Wk.mk [] rfl rfl rfl ?_ trivial,rfl,rfl,aR1⟩
     exact zC
def hg1(q:Pb)(k:Nat):Hg:=⟨if 0<(q.C.getD k []).length then (q.C.getD k []).getD ((q.C.getD k []).length-1) bpZ else zAY fun _=>false,(q.C.getD k []).take 2,q.O.getD k bgZ⟩
def zCZ(q:Pb)(k:Nat):List Hg:=(List.range k).map (hg1 q)
def zD1(q:Pb):List Hg:=zCZ q (min q.C.length 2)
theorem zMQ(q:Pb)(k:Nat):(zCZ q k).length=k:=by
 unfold zCZ;rw[List.length_map,List.length_range]
theorem zQ4(q:Pb)(k:Nat):zCZ q (k+1)=zCZ q k++ [hg1 q k]:=by
 unfold zCZ;rw[List.range_succ,List.map_append]
 rfl
abbrev hgB(L:List Hg):AB:=⟨true,L.length,8,64,zAd hgC hgZ L⟩
abbrev zFl(q:Pb):AB:=⟨false,1,5,34,lF (pbC q)⟩
theorem zQR(Z:Nat→Nat→CV)(T:List Bp):∀k,k<0+T.length→∀j,j<3→zAg Z 0 (zAd bpC bpZ T) k j=zAd bpC bpZ T k j∧zM (zAg Z 0 (zAd bpC bpZ T) k j)=true:=fun k _ j _=>⟨rfl,zN zAF T k j⟩
theorem zPg(ll:List (List Int))(hll:LlOk ll):ACalls Try.prog 25 [.c (lsL ll)] (.c (lsH (zD1 (zCN ll)))):=by
 have hM:=zK8 ll hll
 obtain⟨sm,-⟩:=zHt ll
 generalize zCN ll=q at *;have hf:=sm.fit;have lO:=hf.o;have lC:=hf.c
 obtain⟨v,hv⟩:∃v,zD1 q=v:=⟨_,rfl⟩
 rw[hv];refine zK Try.func25 rfl rfl Try.ntmps25 rfl ?_
 repeat (first
  |refine vB [0,2,3] ?_
  | (refine rG 1 ?_
     refine vA ?_;refine xB Try.func24 hM ?_;refine xE2 ?_;refine aB ?_))
 refine AWp.round (fun k:Nat=>zD 74 [(3,.c (.pt 3 5 0 0)),(4,.c (.ow 20)),(5,.c (iC (k:Nat)))] [(3,zFl q),(20,hgB (zCZ q k))] [3,20]) (fun k=>k≤min q.C.length 2) (fun k=>2-k) 0 (Nat.zero_le _) ?_ (fun k hk=> ?_)
 ·refine Wk.mk [(3,some 3),(20,none)] rfl rfl rfl ?_ ?_
  ·exact zC
  ·exact⟨hSm,HeapOk.nil rfl rfl,trivial⟩
 by_cases hkl:k<min q.C.length 2;rotate_left
 ·obtain rfl:k=min q.C.length 2:=by omega
  unfold zD1 at hv;rw[hv]
  obtain⟨m,hm⟩:∃m,min q.C.length 2=m:=⟨_,rfl⟩
  rw[hm]at hkl⊢;by_cases h1:m<q.C.length
  ·have h1':(m:Int)<q.C.length:=by omega
   have h2':¬(m:Int)<2:=by omega
   refine vB [4,11] ?_
   refine⟨zD 74 [(2,.c (lsH v))] [] [],[],Wk.mk [] rfl rfl rfl ?_ trivial,rfl,rfl,aR1⟩
   exact⟨⟨_,rfl,.c (zAp rfl rfl rfl (fun i _ j _=>⟨rfl,zN zEI _ i j⟩))⟩,trivial⟩
  ·have h1':¬(m:Int)<q.C.length:=by omega
   refine vB [4,11] ?_
   refine⟨zD 74 [(2,.c (lsH v))] [] [],[],Wk.mk [] rfl rfl rfl ?_ trivial,rfl,rfl,aR1⟩
   exact⟨⟨_,rfl,.c (zAp rfl rfl rfl (fun i _ j _=>⟨rfl,zN zEI _ i j⟩))⟩,trivial⟩
 have hk1:(k:Int)<q.C.length:=by omega
 have hk2:(k:Int)<2:=by omega
 have hko:k<q.O.length:=by omega
 obtain⟨L,hL⟩:∃L,q.C.getD k []=L:=⟨_,rfl⟩
 have hcL:chF q.C k 0=lsB L:=by rw[←hL]
 have hL32:L.length≤32:=by rw[←hL];exact hf.l _ (zAJ xD)
 obtain⟨m,hm⟩:∃m,m=min L.length 2:=⟨_,rfl⟩
 have hm':min (L.length:Int) 2=(m:Int):=by omega
 have hmL:m≤L.length:=by omega
 have hN65:=zFN 6 5 30 xD xD rfl xD
 obtain⟨b,hb⟩:∃b,(if 0<L.length then L.getD (L.length-1) bpZ else zAY fun _=>false)=b:=⟨_,rfl⟩
 have e1:zCZ q (k+1)=zCZ q k++ [⟨b,L.take m,q.O.getD k bgZ⟩]:=by
  rw[zQ4,←hb,←hL];unfold hg1;rw[show(q.C.getD k []).take m=(q.C.getD k []).take 2 by rw[hm,hL];rcases Nat.le_total L.length 2 with h|h;rw[Nat.min_eq_left h,List.take_length,List.take_of_length_le h];rw[Nat.min_eq_right h]]
 have l1:=zMQ q k;generalize zCZ q k=out at *;have l2:out.length≤2:=by omega
 repeat (first
  |refine vB [4] ?_
  | (refine rG 6 ?_
     refine zFG rfl rfl rfl rfl rfl Try.func58 rfl xC (hN65) (fun _ _ _ _=>rfl) ?_;refine xE6 ?_;refine aB ?_)
  |(refine AWp.draw (id:=7) zL ?_;refine xE3 ?_;(first|refine zG (aP (k:=k) zA) ?_|refine zJ (zH (k:=k) zA) ?_);(first|refine zAk zA (hcL) rfl rfl rfl rfl rfl oM ?_|refine zAH zA rfl rfl rfl rfl rfl rfl rfl oM oM (hcL) ?_);refine xE3 ?_;(first|refine zG (aP (k:=k) zA) ?_|refine zJ (zH (k:=k) zA) ?_);(first|refine zAk zA (hcL) rfl rfl rfl rfl rfl oM ?_|refine zAH zA rfl rfl rfl rfl rfl rfl rfl oM oM (hcL) ?_);refine xE2 ?_;refine AList.cut (l:=0) (h:=m) zA rfl rfl rfl rfl rfl rfl rfl rfl ⟨_,_,rfl,by first|rfl|omega⟩ xD xD ?_;refine vA ?_;refine aB ⟨by kernel_rfl,?_⟩))
 refine AWp.weak (S':=zD 74 [(3,.c (.pt 3 5 0 0)),(4,.c (.ow 20)),(5,.c (iC (k:Nat))),(6,.c (.pt 6 3 0 0)),(8,.c (lsB (L.take m)))] [(3,zFl q),(6,⟨false,1,3,60,lF (bpC (zAY fun _=>false))⟩),(20,hgB out)] [3,6,20]) (Wk.mk [(3,some 3),(6,some 6),(20,some 20)] rfl rfl rfl ?_ ?_) ?_
 ·repeat (first|exact trivial|refine⟨⟨_,rfl,by first|exact LeA.c (zDR (by rw[List.length_take];omega) (fun i hi j hj=>by show zAd bpC bpZ L (0+i) j=_;rw[Nat.zero_add];exact zNX (sz:=3) L m i xD j hj))|exact leT⟩,?_⟩)
 ·exact⟨hSm,HeapOk.box rfl rfl ⟨LeC.int rfl,LeC.int rfl,zAp rfl rfl rfl (fun i _=>zY ⟨rfl,rfl⟩),trivial⟩ rfl,hrF zEI,trivial⟩
 refine zFJ (zD 74 [(3,.c (.pt 3 5 0 0)),(4,.c (.ow 20)),(5,.c (iC (k:Nat))),(6,.c (.pt 6 3 0 0)),(8,.c (lsB (L.take m)))] [(3,zFl q),(6,⟨false,1,3,60,lF (bpC b)⟩),(20,hgB out)] [3,6,20]) ?_ ?_
 ·by_cases hL0:0<L.length
  ·rw [if_pos hL0]at hb
   have hL0':(L.length:Int)>0:=by omega
   have eB:zAO (zAd bpC bpZ L (L.length-1)) 0 3=bpC b:=by rw[←hb];rfl
   repeat (first
    |refine vB [] ?_
    | (refine rG 8 ?_
       refine xE3 ?_
       first|refine zG (aP (k:=k) zA) ?_|refine zJ (zH (k:=k) zA) ?_
       first|refine zAk zA (hcL) rfl rfl rfl rfl rfl oM ?_|refine zAH zA rfl rfl rfl rfl rfl rfl rfl oM oM (hcL) ?_
       refine xE2 ?_;refine aB ?_)
    |(refine AWp.draw (id:=9) zL ?_;refine xE3 ?_;(first|refine zG (aP (k:=k) zA) ?_|refine zJ (zH (k:=k) zA) ?_);(first|refine zAk zA (hcL) rfl rfl rfl rfl rfl oM ?_|refine zAH zA rfl rfl rfl rfl rfl rfl rfl oM oM (hcL) ?_);refine xE3 ?_;(first|refine zG (aP (k:=k) zA) ?_|refine zJ (zH (k:=k) zA) ?_);(first|refine zAk zA (hcL) rfl rfl rfl rfl rfl oM ?_|refine zAH zA rfl rfl rfl rfl rfl rfl rfl oM oM (hcL) ?_);refine xE2 ?_;(first|refine zG (aP (k:=L.length-1) zA) ?_|refine zJ (zH (k:=L.length-1) zA) ?_);refine zE1 zA (eB) rfl rfl rfl rfl rfl oM ?_;refine vA ?_;refine aB ⟨by kernel_rfl,?_⟩))
   refine⟨rfl,Wk.mk [(3,some 3),(6,some 6),(20,some 20)] rfl rfl rfl ?_ ?_⟩
   ·exact zC
   ·exact⟨hSm,hSm,hrF zEI,trivial⟩
  ·rw [if_neg hL0]at hb
   subst hb;have hL0':¬(L.length:Int)>0:=by omega
   repeat (first
    |refine vB [] ?_
    | (refine rG 8 ?_
       refine xE3 ?_
       first|refine zG (aP (k:=k) zA) ?_|refine zJ (zH (k:=k) zA) ?_
       first|refine zAk zA (hcL) rfl rfl rfl rfl rfl oM ?_|refine zAH zA rfl rfl rfl rfl rfl rfl rfl oM oM (hcL) ?_
       refine xE2 ?_;refine aB ?_))
   refine⟨rfl,Wk.mk [(3,some 3),(6,some 6),(20,some 20)] rfl rfl rfl ?_ ?_⟩
   ·exact zC
   ·exact⟨hSm,hSm,hrF zEI,trivial⟩
 obtain⟨T,hT⟩:∃T,L.take m=T:=⟨_,rfl⟩
 have lT:T.length≤2:=by rw[←hT,List.length_take];omega
 rw[hT]at e1⊢
 repeat (first
  |refine vB [5] ?_
  |(refine AWp.draw (id:=10) zL ?_;refine xE4 ?_;refine zKh zA rfl rfl rfl rfl rfl rfl rfl rfl rfl rfl ((Nat.zero_add T.length).symm) (zQR _ T) oM oM ?_;refine xE3 ?_;(first|refine zG (aP (k:=k) zA) ?_|refine zJ (zH (k:=k) zA) ?_);refine xE3 ?_;refine xA ?_;refine vA ?_;refine aB ⟨by kernel_rfl,?_⟩))
 refine⟨k+1,by omega,?_,by omega⟩
 rw[e1];refine Wk.mk [(3,some 3),(20,some 72)] rfl rfl rfl ?_ ?_
 ·exact zC
 ·exact⟨hSm,HeapOk.row rfl rfl List.length_append (zCB (c:=hgC) (z:=hgZ) out ⟨b,T,q.O.getD k bgZ⟩ zEI rfl),trivial⟩
structure Cs where
 P:List (List Int)
 Hs:List (List Int)
 st:List Int
 o0:Int
 o1:Int
 o2:Int
 l0:Int
 l1:Int
abbrev csC(c:Cs):List CV:= [lsL c.P,lsL c.Hs,lsI c.st,iC c.o0,iC c.o1,iC c.o2,iC c.l0,iC c.l1]
def zED(q:Pb):Pb:=⟨q.R,q.C.take (min q.C.length 2),q.F,q.O.take (min q.C.length 2),q.T⟩
theorem zRm(c:Cs)(hP:LlOk c.P)(hHs:LlOk c.Hs):ACalls Try.prog 8 [.ag (csC c)] (.tu [.ag (pbC (zED (zCN c.P))),.c (lsH (zD1 (zCN c.Hs)))]):=by
 have hM:=zK8 c.P hP;have hH:=zPg c.Hs hHs
 obtain⟨sm,-⟩:=zHt c.P
 generalize zCN c.P=q at *;generalize zD1 (zCN c.Hs)=H at *;have hf:=sm.fit;have lO:=hf.o;have lC:=hf.c
 obtain⟨m,hm⟩:∃m,m=min q.C.length 2:=⟨_,rfl⟩
 have hm':min (q.C.length:Int) 2=(m:Int):=by omega
 have hmC:m≤q.C.length:=by omega
 have hmO:m≤q.O.length:=by omega
 unfold zED;rw[←hm];refine zK Try.func8 rfl rfl Try.ntmps8 rfl ?_
 repeat (first
  |refine vB [0,2] ?_
  | (refine rG 1 ?_
     refine xE2 ?_;refine xB Try.func24 hM ?_;refine xE2 ?_;refine aB ?_)
  |(refine AWp.draw (id:=3) zL ?_;refine xE3 ?_;refine AList.cut (l:=0) (h:=m) zA rfl rfl rfl rfl rfl rfl rfl rfl ⟨_,_,rfl,by first|rfl|omega⟩ xD xD ?_;refine xE3 ?_;refine AList.cut (l:=0) (h:=m) zA rfl rfl rfl rfl rfl rfl rfl rfl ⟨_,_,rfl,by first|rfl|omega⟩ xD xD ?_;refine xE4 ?_;refine aB ⟨by kernel_rfl,?_⟩))
 refine AWp.weak (S':=zD 27 [(1,.c (.pt 1 8 0 0)),(2,.c (.pt 2 5 0 0)),(4,.c (.pt 4 5 0 0))] [(1,⟨false,1,8,27,lF (csC c)⟩),(2,⟨false,1,5,34,lF [nl8,nl8,nl8,nl8,nl8]⟩),(4,zFl ⟨q.R,q.C.take m,q.F,q.O.take m,q.T⟩)] [1,2,4]) (Wk.mk [(1,some 1),(2,some 2),(4,some 4)] rfl rfl rfl ?_ ?_) ?_
 ·exact zC
 ·exact⟨hSm,hSm,HeapOk.box rfl rfl ⟨LeC.refl _ rfl,zDR (by rw[List.length_take];omega) (fun i hi j hj=>by show lsB (q.C.getD (0+i) [])=lsB ((q.C.take m).getD i []);rw[Nat.zero_add,List.getD_eq_getElem?_getD,List.getD_eq_getElem?_getD,List.getElem?_take_of_lt xD]),LeC.refl _ rfl,zDR (by rw[List.length_take];omega) (fun i hi j hj=>by show zAd bgC bgZ q.O (0+i) j=_;rw[Nat.zero_add];exact zNX (sz:=4) q.O m i xD j hj),LeC.refl _ rfl,trivial⟩ rfl,trivial⟩
 repeat (first
  |refine vB [] ?_
  |(refine AWp.draw (id:=4) zL ?_;refine xE3 ?_;refine xB Try.func25 hH ?_;refine xE2 ?_;refine aB ⟨by kernel_rfl,?_⟩))
 refine⟨zD 27 [(2,.c (.pt 2 5 0 0)),(3,.c (lsH H))] [(2,zFl ⟨q.R,q.C.take m,q.F,q.O.take m,q.T⟩)] [2],[(2,zFl ⟨q.R,q.C.take m,q.F,q.O.take m,q.T⟩)],Wk.mk [(2,some 2)] rfl rfl rfl ?_ ?_,rfl,rfl,ARets.two (x:=.ag _) (y:=.c _) (ARes.box zA rfl rfl rfl rfl rfl rfl rfl) (ARes.tmp rfl rfl)⟩
 ·exact zC
 ·exact⟨hSm,trivial⟩
def zBB(x r:Nat):List Int:=(List.range' x r).map Int.ofNat
theorem zJ9(x r:Nat):(zBB x r).length=r:=by
 unfold zBB;rw[List.length_map,List.length_range']
theorem zG9{x r k:Nat}(h:k<r):fI (zBB x r) k=((x+k:Nat):Int):=by
 show(zBB x r).getD k 0=_
 unfold zBB;rw[List.getD_eq_getElem?_getD,List.getElem?_map,List.getElem?_range' h,Nat.one_mul]
 rfl
theorem zMr{l m:List Int}{k:Nat}(h:k<l.length):fI (l++m) k=fI l k:=by
 show(l++m).getD k 0=l.getD k 0
 rw[List.getD_eq_getElem?_getD,List.getD_eq_getElem?_getD,List.getElem?_append_left h]
theorem zIT{l m:List Int}{k:Nat}:fI (l++m) (l.length+k)=fI m k:=by
 show(l++m).getD _ 0=m.getD k 0
 rw[List.getD_eq_getElem?_getD,List.getD_eq_getElem?_getD,List.getElem?_append_right xD,Nat.add_sub_cancel_left]
def Nx(n:Nat)(a b:List Int):Prop:=∃(l:List Int) (y r:Nat),a=l++(y:Int)::zBB (n-r) r∧b=l++zBB (y+1) (r+1)∧y+r+1<n
inductive Ch30(n:Nat):List (List Int)→List Int→List Int→Prop
 |one (a:List Int):Ch30 n [a] a a
 |cons {a b z:List Int} {L:List (List Int)} (h:Nx n a b) (t:Ch30 n L b z):Ch30 n (a::L) a z
theorem Ch30.app{n:Nat}{L M:List (List Int)}{a y b z:List Int}(h:Ch30 n L a y)(hn:Nx n y b)(t:Ch30 n M b z):Ch30 n (L++M) a z:=by
 induction h with
 |one a=>exact .cons hn t
 |cons h _ ih=>exact .cons h (ih hn)
theorem zQq{n:Nat}:∀(r:Nat) (l:List Int) (x:Nat),n<x+(r+1)→zA9 n (r+1) l x= []:=fun r=>by
 induction r with
 | zero=>
   intro l x h;show zB6 (zA9 n 0) l (n-x) x= [];rw[show n-x=0 by omega]
   rfl
 | succ r ih=>
   intro l x h;show zB6 (zA9 n (r+1)) l (n-x) x= [];have key:∀m y,n<y+(r+2)→zB6 (zA9 n (r+1)) l m y= []:=fun m=>by
    induction m with
    |zero=>exact fun _ _=>rfl
    | succ m ihm=>
      intro y hy;show zA9 n (r+1) (l++ [(y:Int)]) (y+1)++zB6 (zA9 n (r+1)) l m (y+1)= [];rw[ih _ _ xD,ihm _ xD]
      rfl
   exact key _ _ h
theorem zQp{n r:Nat}{l:List Int}:∀{m x:Nat},x+m≤n→n<x+(r+1)→zB6 (zA9 n r) l m x= []:=fun {m}=>by
 induction m with
 |zero=>exact fun _ _=>rfl
 | succ m ih=>
   intro x hm hx;show zA9 n r (l++ [(x:Int)]) (x+1)++zB6 (zA9 n r) l m (x+1)= []
   obtain⟨q,rfl⟩:∃q,r=q+1:=⟨r-1,by omega⟩
   rw[zQq q _ _ xD,ih xD xD]
   rfl
theorem zL8{n:Nat}:∀(r:Nat) (l:List Int) (x:Nat),x+r≤n→Ch30 n (zA9 n r l x) (l++zBB x r) (l++zBB (n-r) r)
 | 0,l,x,_=>by
   have e:∀y,l++zBB y 0=l:=fun y=>List.append_nil l
   rw[e,e];exact .one l
 | r + 1,l,x,hx=>by
   have key:∀m x,x+m=n→x+(r+1)≤n→Ch30 n (zB6 (zA9 n r) l m x) (l++zBB x (r+1)) (l++zBB (n-(r+1)) (r+1)):=fun m=>by
    induction m with
    |zero=>intro x h1 h2;omega
    | succ m ih=>
      intro x h1 h2;show Ch30 n (zA9 n r (l++ [(x:Int)]) (x+1)++zB6 (zA9 n r) l m (x+1)) _ _;have h:=zL8 (n:=n) r (l++ [(x:Int)]) (x+1) xD;rw[List.append_assoc,List.append_assoc]at h;by_cases hx1:x+1+(r+1)≤n
      ·exact h.app ⟨l,x,r,rfl,rfl,by omega⟩ (ih (x+1) xD hx1)
      ·rw[zQp xD xD,List.append_nil,show n-(r+1)=x by omega]
       rw[show n-r=x+1 by omega]at h;exact h
   exact key (n-x) x xD hx
theorem zSA{n K:Nat}(h:K≤n):Ch30 n (zCQ n K) (zBB 0 K) (zBB (n-K) K):=zL8 K [] 0 xD
def upF(m y t:Nat)(a:List Int)(i:Nat):Int:=if i<m then fI a i else if i≤m+t then ((y+1+(i-m):Nat):Int)else fI a i
theorem zQE{y:Int}{m:List Int}{k:Nat}:fI (y::m) (k+1)=fI m k:=rfl
theorem zNq{n:Nat}{a b:List Int}(h:Nx n a b):∃m y r:Nat,a.length=m+(r+1)∧b.length=a.length∧fI a m=(y:Int)∧y+r+1<n∧(∀j,j<r→fI a (m+r-j)=(n:Int)-1-j)∧∀i,i<a.length→fI b i=upF m y r a i:=by
 obtain⟨l,y,r,rfl,rfl,hy⟩:=h
 have la:(l++(y:Int)::zBB (n-r) r).length=l.length+(r+1):=by rw[List.length_append,List.length_cons,zJ9]
 refine⟨l.length,y,r,la,by rw[la,List.length_append,zJ9],?_,hy,fun j hj=> ?_,fun i hi=> ?_⟩
 ·have:=zIT (l:=l) (m:=(y:Int)::zBB (n-r) r) (k:=0)
  rw[Nat.add_zero]at this;rw[this]
  rfl
 ·rw[show l.length+r-j=l.length+((r-1-j)+1) by omega,zIT,zQE,zG9 xD]
  omega
 ·rw[la]at hi
  unfold upF;by_cases h1:i<l.length
  ·rw[if_pos h1,zMr h1,zMr h1]
  ·obtain⟨k,rfl⟩:∃k,i=l.length+k:=⟨i-l.length,by omega⟩
   rw[if_neg h1,if_pos xD,zIT,zG9 xD,Nat.add_sub_cancel_left]
theorem zTh{n K:Nat}(h:K≤n):∀j,j<K→fI (zBB (n-K) K) (K-1-j)=(n:Int)-1-j:=fun j hj=>by
 rw[zG9 xD]
 omega
theorem zQb{n:Nat}{L:List (List Int)}{a z:List Int}(h:Ch30 n L a z):∃T,L=a::T:=by cases h<;>exact⟨_,rfl⟩
theorem zP9{n:Nat}{T:List (List Int)}{a z:List Int}(h:Ch30 n (a::T) a z):(T= []∧a=z)∨∃b,Nx n a b∧Ch30 n T b z:=by
 cases h with
 |one=>exact .inl ⟨rfl,rfl⟩
 |cons h t=>exact .inr ⟨_,h,t⟩
theorem zQc{n:Nat}{L:List (List Int)}{a z:List Int}(h:Ch30 n L a z):a.length=z.length:=by
 induction h with
 |one=>rfl
 | cons h _ ih=>
   obtain⟨m,y,r,h1,h2,-⟩:=zNq h
   omega
theorem zTl{m y:Nat}{a:List Int}(i:Nat):upF m y 0 a i=if i=m then (y:Int)+1 else fI a i:=by
 unfold upF;by_cases h:i=m
 ·rw[if_neg xD,if_pos xD,if_pos h]
  omega
 ·rw[if_neg h]
  by_cases h1:i<m
  ·rw[if_pos h1]
  ·rw[if_neg h1,if_neg xD]
theorem zTp{m y t:Nat}{a:List Int}(i:Nat):upF m y (t+1) a i=if i=m+t+1 then ((y+1+t:Nat):Int)+1 else upF m y t a i:=by
 unfold upF;by_cases h:i=m+t+1
 ·rw[if_neg xD,if_pos xD,if_pos h]
  omega
 ·rw[if_neg h]
  by_cases h1:i<m
  ·rw[if_pos h1,if_pos h1]
  ·rw[if_neg h1,if_neg h1]
   by_cases h2:i≤m+t
   ·rw[if_pos h2,if_pos xD]
   ·rw[if_neg h2,if_neg xD]
theorem zTo{m y t:Nat}{a:List Int}:upF m y t a (m+t)=((y+1+t:Nat):Int):=by
 unfold upF;rw[if_neg xD,if_pos xD,Nat.add_sub_cancel_left]
def zDu(n:Nat):Nat→Nat→List (List Int)
 |_,0=> []
 |K,d+1=>zCQ n K++zDu n (K+1) d
theorem zOu(n:Nat):∀d K,zBz n (K+d)=zBz n K++zDu n K d
 |0,K=>(List.append_nil _).symm
 | d+1,K=>by
   rw[show K+(d+1)=(K+1)+d by omega,zOu n d (K+1)]
   show(zBz n K++zCQ n K)++zDu n (K+1) d=zBz n K++(zCQ n K++zDu n (K+1) d)
   rw[List.append_assoc]
theorem zSz(n:Int):ACalls Try.prog 42 [.c (iC n)] (.c (.fn 71 1 fun i=> [pl1 (iC n)].getD i .any)):=by
 refine zK Try.func42 rfl rfl Try.ntmps42 rfl ?_
 repeat (first
  |refine vB [0] ?_
  | (refine rG 1 ?_
     refine qr5 zC9 ?_;refine vA ?_;refine aB ?_))
 refine⟨zD 4 [(2,.c (.fn 71 1 fun i=> [pl1 (iC n)].getD i .any))] [] [],[],Wk.mk [] rfl rfl rfl ⟨⟨_,rfl,.c (LeC.fn _ _ _ _ (fun i hi=> ?_) (fun i hi=> ?_))⟩,trivial⟩ trivial,rfl,rfl,ARets.one (x:=.c _) (ARes.fn rfl fun i hi=> ?_)⟩
 all_goals
  have hi1:i<1:=hi;obtain rfl:i=0:=by omega
 ·exact⟨trivial,trivial⟩
 ·exact zBq rfl rfl rfl rfl
 ·rfl
abbrev zBw:List CV:= [.p (.slice none 0 0),.p (.slice none 0 0),.p (.slice none 0 0)]
abbrev bxP(c:List CV):AB:=⟨false,1,3,49,lF c⟩
abbrev zAN(e:Int):AB:=⟨false,1,1,43,lF [iC e]⟩
def zA1(c:List CV)(e:Int)(b:Bool):List AB:= [bxP (bif b then c else zBw),zAN (bif b then e else 60)]
def laR:List Int→List AB
 | []=> []
 |x::l=> [zAa (x::l).length (fI (x::l))]
def laY:List Int→V1
 | []=>.c (lsI [])
 |_::_=>.c (.ow 1002)
def zBa(all:List (List Int))(N:Nat)(stop:Bool)(c:List CV)(e:Int):RM where
 nb:=2
 ys:=fun i=> [laY (all.getD i [])]
 hB:=fun _=> [bxP zBw,zAN 60]
 hE:=fun i=>zA1 c e (stop && Nat.beq i N)
 mv:=fun _=> []
 la:=fun i=>laR (all.getD i [])
abbrev zEJ(c:List CV):Prop:=∀j,j<3→zM (c.getD j .any)=true
theorem zF5{c:List CV}(hc:zEJ c)(b:Bool):zEJ (bif b then c else zBw):=by
 cases b with
 |true=>exact hc
 | false=>
   intro j hj
   match j,hj with
   |0,_|1,_|2,_=>rfl
theorem zHA{S:St}{ids mids l:List Nat}{bs:List AB}(h0:S.h 1000=some (bxP zBw))(h1:S.h 1001=some (zAN 60))(h:zBl S ids mids l bs):zBl S ids mids (1000::1001::l) (bxP zBw::zAN 60::bs):=
 ⟨⟨_,h0,(fun h=>by cases h),fun k hk j hj=>by
   obtain rfl:k=0:=Nat.lt_one_iff.mp hk
   match j,hj with
   |0,_|1,_|2,_=>exact .b (.imm _ rfl)⟩,⟨_,h1,(fun h=>by cases h),fun k hk j hj=>by
   obtain rfl:k=0:=Nat.lt_one_iff.mp hk;obtain rfl:j=0:=Nat.lt_one_iff.mp hj;exact .b (.imm _ rfl)⟩,h⟩
theorem zNW{S:St}{ids mids:List Nat}{o n:Nat}{F:Nat→Int}(h:S.h o=some (zAa n F))(hn:0<n):zBl S ids mids [o] [zAa n F]:=⟨⟨_,h,fun _=>hn,fun _ _ _ _=>.b (.imm _ rfl)⟩,trivial⟩
theorem zFZ{ids ni:List Nat}{c:List CV}{e:Int}{b:Bool}{l m:List AB}(hc:zEJ c)(h:zBd ids ni l m):zBd ids ni (zA1 c e b++l) (zA1 c e b++m):=
 ⟨⟨_,rfl,fun k hk j hj=>by
   obtain rfl:k=0:=Nat.lt_one_iff.mp hk;exact .b (.imm _ (zF5 hc b j hj))⟩,⟨_,rfl,fun k hk j hj=>by
   obtain rfl:k=0:=Nat.lt_one_iff.mp hk;obtain rfl:j=0:=Nat.lt_one_iff.mp hj;exact .b (.imm _ rfl)⟩,h⟩
theorem zA4{S:St}{ren:List (Nat×Option Nat)}{c:List CV}{e:Int}{rest:List (Nat×AB)}(hc:zEJ c)(h0:S.h 1000=some (bxP c))(h1:S.h 1001=some (zAN e))(h:zEq S ren rest):zEq S ren ((1000,bxP c)::(1001,zAN e)::rest):=
 ⟨.inr ⟨1000,1,_,.inr ⟨Nat.le_refl _,rfl⟩,rfl,h0,fun k hk j hj=>by
   obtain rfl:k=0:=Nat.lt_one_iff.mp hk;exact LeC.refl _ (hc j hj)⟩,zQ rfl h1 ⟨LeC.refl _ rfl,trivial⟩ rfl,h⟩
theorem zBg:zEJ zBw:=zF5 (c:=zBw) (fun j hj=>by match j,hj with|0,_|1,_|2,_=>rfl) false
theorem zTm{m y t:Nat}{a:List Int}:∀i j,j<1→zAv (iF (upF m y t a)) (m+t+1) 0 1 [iC (((y+1+t:Nat):Int)+1)] i j=iF (upF m y (t+1) a) i j:=fun i j hj=>by
 obtain rfl:j=0:=Nat.lt_one_iff.mp hj;rw[zGq];show _=iC (upF m y (t+1) a i);rw[zTp];by_cases h:i=m+t+1
 ·subst h;rw[if_pos ⟨rfl,rfl⟩,if_pos rfl]
 ·rw[if_neg (fun q=>h q.1),if_neg h]
theorem zTn{m y:Nat}{a:List Int}:∀i j,j<1→zAv (iF (fI a)) m 0 1 [iC ((y:Int)+1)] i j=iF (upF m y 0 a) i j:=fun i j hj=>by
 obtain rfl:j=0:=Nat.lt_one_iff.mp hj;rw[zGq];show _=iC (upF m y 0 a i);rw[zTl];by_cases h:i=m
 ·subst h;rw[if_pos ⟨rfl,rfl⟩,if_pos rfl]
 ·rw[if_neg (fun q=>h q.1),if_neg h]
theorem zMM{N g:Nat}{stop:Bool}(h:zAn N stop g=false):stop=true∧N=g+1:=by
 unfold zAn at h;rw[Bool.not_eq_false',Bool.and_eq_true]at h
 exact⟨h.1,(Nat.eq_of_beq_eq_true h.2).symm⟩
theorem zI6{N g:Nat}{stop:Bool}(h:zAn N stop g=true)(hs:stop=true):N≠g+1:=fun e=>by
 unfold zAn at h;rw[hs,e,Nat.beq_refl]at h
 cases h
theorem zSy(all:List (List Int))(n N:Nat)(stop:Bool)(c:List CV)(e:Int)(hc:zEJ c)(hn:n≤1000)(hall:all=zBz n (n+1))(h0:stop=true→0<N)(h1:stop=false→N=all.length):
 zH4 Try.prog 71 [.c (pl1 (iC (n:Nat)))] (zBa all N stop c e) all.length N stop:=by
 refine zRg Try.func71 rfl rfl Try.ntmps71 rfl (fun _ _=>by show 0≤100;omega) (fun _ _=>rfl) fun lp hN1 hN2=> ?_
 clear h0;have hallR:all.drop 0=zDu n 0 (n+1):=by
  have:=zOu n (n+1) 0;rw[Nat.zero_add]at this;rw[hall,this]
  rfl
 clear hall;refine vB [0] ?_;refine AWp.round (fun s:Nat×Nat=>(fun K g:Nat=>
  mkG (itM Try.prog lp (zBa all N stop c e) N stop) (g) false 70 2 [(0,.c (.p (yv lp))),(1,.c (pl1 (iC (n:Nat)))),(8,.c (iC ((n:Int)+1))),(9,.c (iC (K:Nat)))]
  [(1000,bxP zBw),(1001,zAN 60)] []) s.1 s.2) (fun s=>(s.1≤n+1∧s.2≤all.length)∧all.drop s.2=zDu n s.1 (n+1-s.1)∧(stop=true→s.2<N)) (fun s=>n+1-s.1) (0,0) ⟨⟨Nat.zero_le _,Nat.zero_le _⟩,hallR,fun h=>(hN1 h).1⟩ ?_ (fun s hs=> ?_)
 ·refine Wk.mkG [] rfl rfl rfl rfl rfl ?_ ?_
  ·exact zC
  ·exact zA4 zBg rfl rfl trivial
 obtain⟨K,g⟩:=s
 obtain⟨⟨hK,hga⟩,hdr,hgs⟩:=hs
 dsimp only at hK hga hdr hgs⊢;clear hallR;by_cases hKn:K<n+1;rotate_left
 ·have hKn':¬(K:Int)<(n:Int)+1:=by omega
  rw[show n+1-K=0 by omega]at hdr;have hge:g=all.length:=by
   have:=List.drop_eq_nil_iff.1 (show all.drop g= []from hdr)
   omega
  have hst:stop=false:=by
   cases hs:stop with
   |false=>rfl
   |true=>have:=hgs hs;have:=(hN1 hs).2;omega
  obtain rfl:N=g:=by rw[hN2 hst,hge]
  subst hst;refine vB [1] ?_
  refine⟨⟨rfl,rfl⟩,mkG (itM Try.prog lp (zBa all N false c e) N false) N false 70 2 [] (zAt [] (zA1 c e false)) [],[],Wk.mkG [] rfl rfl rfl rfl rfl trivial ?_,rfl,rfl⟩
  exact zA4 (zF5 hc _) rfl rfl trivial
 have hKn':(K:Int)<(n:Int)+1:=by omega
 have hgN':g<all.length→g<N:=fun h=>by
  cases hs:stop with
  |true=>exact hgs hs
  |false=>rw[hN2 hs];exact h
 have hd1:all.drop g=zCQ n K++zDu n (K+1) (n-K):=by rw[hdr,show n+1-K=(n-K)+1 by omega];rfl
 by_cases hK0:K=0
 ·obtain⟨hgl,hag,hdg⟩:=zMk (show all.drop g= []::zDu n (K+1) (n-K) by rw[hd1,hK0];rfl)
  have hgN:=hgN' hgl;have hla:(zBa all N stop c e).la g= []:=by show laR (all.getD g [])=_;rw[hag];rfl
  have hys:(zBa all N stop c e).ys g= [.c (lsI [])]:=by show [laY (all.getD g [])]=_;rw[hag];rfl
  obtain⟨b,hb⟩:∃b,zAn N stop g=b:=⟨_,rfl⟩
  have hE:(zBa all N stop c e).hE (g+1)=zA1 c e (!b):=by show zA1 c e (stop && Nat.beq (g+1) N)=_;rw[←hb];unfold zAn;rw[Bool.not_not]
  repeat (first
   |refine vB [1,2] ?_
   | (refine rG 3 ?_
      refine vA ?_;refine zEc (zDP (n:=K) zA) ?_;refine vA ?_;refine aB ?_))
  refine AWp.weak (S':=
   mkG (itM Try.prog lp (zBa all N stop c e) N stop) (g) false 70 2 [(0,.c (.p (yv lp))),(1,.c (pl1 (iC (n:Nat)))),(8,.c (iC ((n:Int)+1))),(9,.c (iC (K:Nat))),(3,.c (iC (K:Nat))),(4,.c (lsI []))]
   [(1000,bxP zBw),(1001,zAN 60)] []) (Wk.mkG [] rfl rfl rfl rfl rfl ?_ ?_) ?_
  ·repeat (first|exact trivial|refine⟨⟨_,rfl,by first|exact LeA.c (zAp rfl rfl hK0.symm (fun i hi=>absurd hi xD))|exact leT⟩,?_⟩)
  ·exact zA4 zBg rfl rfl trivial
  refine vB [4] ?_;refine AWp.round (fun _:Nat=>
   mkG (itM Try.prog lp (zBa all N stop c e) N stop) (g) false 70 2 [(0,.c (.p (yv lp))),(1,.c (pl1 (iC (n:Nat)))),(8,.c (iC ((n:Int)+1))),(9,.c (iC (K:Nat))),(3,.c (iC (K:Nat))),(4,.c (lsI [])),(15,.c (iC 0)),(16,.c (iC 0))]
   [(1000,bxP zBw),(1001,zAN 60)] []) (fun _=>True) (fun _=>0) 0 trivial ?_ (fun _ _=> ?_)
  ·refine Wk.mkG [] rfl rfl rfl rfl rfl ?_ ?_
   ·exact zC
   ·exact zA4 zBg rfl rfl trivial
  refine vB [5] ?_;refine AWp.round (fun _:Nat=>
   mkG (itM Try.prog lp (zBa all N stop c e) N stop) (g) false 70 2 [(0,.c (.p (yv lp))),(1,.c (pl1 (iC (n:Nat)))),(8,.c (iC ((n:Int)+1))),(9,.c (iC (K:Nat))),(3,.c (iC (K:Nat))),(4,.c (lsI []))]
   [(1000,bxP zBw),(1001,zAN 60)] []) (fun _=>True) (fun _=>0) 0 trivial ?_ (fun _ _=> ?_)
  ·refine Wk.mkG [] rfl rfl rfl rfl rfl ?_ ?_
   ·exact zC
   ·exact zA4 zBg rfl rfl trivial
  cases b with
  | false=>
    obtain⟨rfl,rfl⟩:=zMM hb
    refine vB [] ?_;refine AWp.text ?_;refine AText.split 2 ?_;refine xE2 ?_;refine aB ?_;refine AText.yieldM (i:=g) false [1000,1001] [] [] (zA1 c e (!false)++ []) [] rfl rfl rfl rfl (fun _ h=>h) rfl rfl hgN hb (by show ∀k,k<2→_;decide) (by rw[hla];exact zHA rfl rfl trivial) trivial (by rw[hla];rfl) (by rw[hys];exact⟨.c (.b (.imm _ rfl)),trivial⟩) (by rw[hE,hla];exact zFZ hc (l:= []) (m:= []) trivial) trivial ?_
    refine AText.all ?_;refine vA ?_;refine aB ?_;refine vB [] ?_
    refine⟨⟨rfl,rfl⟩,mkG (itM Try.prog lp (zBa all (g+1) true c e) (g+1) true) (g+1) true 70 2 [] (zAt [] (zA1 c e true)) [],[],Wk.mkG [] rfl rfl rfl rfl rfl trivial ?_,by rw[hE];rfl,rfl⟩
    exact zA4 (zF5 hc _) rfl rfl trivial
  | true=>
    refine vB [] ?_;refine AWp.text ?_;refine AText.split 2 ?_;refine xE2 ?_;refine aB ?_;refine AText.yieldM (i:=g) true [1000,1001] [] [] (zA1 c e (!true)++ []) [] rfl rfl rfl rfl (fun _ h=>h) rfl rfl hgN hb (by show ∀k,k<2→_;decide) (by rw[hla];exact zHA rfl rfl trivial) trivial (by rw[hla];rfl) (by rw[hys];exact⟨.c (.b (.imm _ rfl)),trivial⟩) (by rw[hE,hla];exact zFZ hc (l:= []) (m:= []) trivial) trivial ?_
    refine AText.all ?_;refine vA ?_;refine aB ?_;refine vB [10] ?_;refine AWp.round (fun _:Nat=>
     mkG (itM Try.prog lp (zBa all N stop c e) N stop) (g+1) false 70 2 [(0,.c (.p (yv lp))),(1,.c (pl1 (iC (n:Nat)))),(8,.c (iC ((n:Int)+1))),(9,.c (iC (K:Nat))),(3,.c (iC (K:Nat))),(4,.c (lsI [])),(6,.c (iC (-1)))]
     [(1000,bxP zBw),(1001,zAN 60)] []) (fun _=>True) (fun _=>0) 0 trivial ?_ (fun _ _=> ?_)
    ·refine Wk.mkG [] rfl rfl rfl rfl rfl ?_ ?_
     ·exact zC
     ·exact zA4 zBg rfl rfl trivial
    refine vB [11,13,18] ?_
    refine⟨(K+1,g+1),?_,Wk.mkG [] rfl rfl rfl rfl rfl ?_ ?_,by dsimp only;omega⟩
    ·exact⟨⟨by dsimp only;omega,by dsimp only;omega⟩,by dsimp only;rw[show n+1-(K+1)=n-K by omega];exact hdg,fun h=>by have:=zI6 hb h;dsimp only;omega⟩
    ·exact zC
    ·exact zA4 zBg rfl rfl trivial
 have hch:=zSA (show K≤n by omega)
 repeat (first
  |refine vB [1,2,4] ?_
  | (refine rG 3 ?_
     refine vA ?_;refine zEc (zDP (n:=K) zA) ?_;refine vA ?_;refine aB ?_))
 refine AWp.round (fun j:Nat=>
  mkG (itM Try.prog lp (zBa all N stop c e) N stop) (g) false 70 2 [(0,.c (.p (yv lp))),(1,.c (pl1 (iC (n:Nat)))),(8,.c (iC ((n:Int)+1))),(9,.c (iC (K:Nat))),(3,.c (iC (K:Nat))),(4,.c (.ow 20)),(15,.c (iC (K:Nat))),(16,.c (iC (j:Nat)))]
  [(20,zAa K (zCl j)),(1000,bxP zBw),(1001,zAN 60)] [20]
  ) (fun j=>j≤K) (fun j=>K-j) 0 (Nat.zero_le _) ?_ (fun j hj=> ?_)
 ·refine Wk.mkG [(20,some 13)] rfl rfl rfl rfl rfl ?_ ?_
  ·exact zC
  ·exact⟨HeapOk.row rfl rfl rfl (fun i hi q hq=>by obtain rfl:q=0:=Nat.lt_one_iff.mp hq;exact⟨rfl,rfl⟩),zA4 zBg rfl rfl trivial⟩
 by_cases hjl:j<K
 ·have hjl':(j:Int)<(K:Int):=by omega
  repeat (first
   |refine vB [5,6,8] ?_
   | (refine rG 7 ?_
      refine xE3 ?_
      first|refine zG (aP (k:=j) zA) ?_|refine zJ (zH (k:=j) zA) ?_
      refine vA ?_;refine aB ?_))
  refine⟨j+1,hjl,Wk.mkG [(20,some 20)] rfl rfl rfl rfl rfl ?_ ?_,by omega⟩
  ·exact zC
  ·exact⟨HeapOk.row rfl rfl rfl (fun i hi q hq=>by have e:=zMU j i q hq;exact⟨e,by rw[e];rfl⟩),zA4 zBg rfl rfl trivial⟩
 have hjl':¬(j:Int)<(K:Int):=by omega
 obtain rfl:K=j:=by omega
 refine vB [5] ?_;clear hdr hjl hjl' hj;refine AWp.round (fun s:List (List Int)×List Int×Nat=>(fun (a:List Int) (g:Nat)=>
  mkG (itM Try.prog lp (zBa all N stop c e) N stop) (g) false 70 2 [(0,.c (.p (yv lp))),(1,.c (pl1 (iC (n:Nat)))),(8,.c (iC ((n:Int)+1))),(9,.c (iC (K:Nat))),(3,.c (iC (K:Nat))),(4,.c (.ow 20))]
  [(20,zAa K (fI a)),(1000,bxP zBw),(1001,zAN 60)] [20]
  ) s.2.1 s.2.2) (fun s=>Ch30 n s.1 s.2.1 (zBB (n-K) K)∧all.drop s.2.2=s.1++zDu n (K+1) (n-K)∧s.2.2≤all.length∧(stop=true→s.2.2<N)) (fun s=>s.1.length) (zCQ n K,zBB 0 K,g) ⟨hch,hd1,hga,hgs⟩ ?_ (fun s hs=> ?_)
 ·refine Wk.mkG [(20,some 20)] rfl rfl rfl rfl rfl ?_ ?_
  ·exact zC
  ·exact⟨HeapOk.row rfl rfl rfl (fun i hi q hq=>⟨by obtain rfl:q=0:=Nat.lt_one_iff.mp hq;show iC (zCl K i)=iC (fI (zBB 0 K) i);rw[zG9 hi];unfold zCl;rw[if_pos hi,Nat.zero_add],rfl⟩),zA4 zBg rfl rfl trivial⟩
 clear hch hd1 hga hgs hgN'
 obtain⟨L,a,g⟩:=s
 obtain⟨hch,hdr,hga,hgs⟩:=hs
 dsimp only at hch hdr hga hgs⊢
 obtain⟨T,rfl⟩:=zQb hch
 have haK:a.length=K:=by rw[zQc hch,zJ9]
 obtain⟨hgl,hag,hdg⟩:=zMk (show all.drop g=a::(T++zDu n (K+1) (n-K))from hdr)
 have hgN:g<N:=by
  cases hs:stop with
  |true=>exact hgs hs
  |false=>rw[hN2 hs];exact hgl
 have hla:(zBa all N stop c e).la g= [zAa K (fI a)]:=by
  show laR (all.getD g [])=_;rw[hag]
  cases a with
  |nil=>exact absurd haK.symm hK0
  |cons x l=>rw[←haK];rfl
 have hys:(zBa all N stop c e).ys g= [.c (.ow 1002)]:=by
  show [laY (all.getD g [])]=_;rw[hag]
  cases a with
  |nil=>exact absurd haK.symm hK0
  |cons x l=>rfl
 obtain⟨b,hb⟩:∃b,zAn N stop g=b:=⟨_,rfl⟩
 have hE:(zBa all N stop c e).hE (g+1)=zA1 c e (!b):=by show zA1 c e (stop && Nat.beq (g+1) N)=_;rw[←hb];unfold zAn;rw[Bool.not_not]
 cases b with
 | false=>
   obtain⟨rfl,rfl⟩:=zMM hb
   refine vB [] ?_;refine AWp.text ?_;refine AText.split 2 ?_;refine xE2 ?_;refine aB ?_;refine AText.yieldM (i:=g) false [1000,1001,20] [] [] (zA1 c e (!false)++ [zAa K (fI a)]) [] rfl rfl rfl rfl (fun _ h=>h) rfl rfl hgN hb (by show ∀k,k<2→_;decide) (by rw[hla];exact zHA rfl rfl (zNW rfl xD)) trivial (by rw[hla];rfl) (by rw[hys];exact⟨.c (.b (.ow 20 2 rfl)),trivial⟩) (by rw[hE,hla];exact zFZ hc (zNV fun _ _ _ _=>rfl)) trivial ?_
   refine AText.all ?_;refine vA ?_;refine aB ?_;refine vB [] ?_
   refine⟨⟨rfl,rfl⟩,mkG (itM Try.prog lp (zBa all (g+1) true c e) (g+1) true) (g+1) true 70 2 [] (zAt [] (zA1 c e true)) [],[],Wk.mkG [] rfl rfl rfl rfl rfl trivial ?_,by rw[hE];rfl,rfl⟩
   exact zA4 (zF5 hc _) rfl rfl trivial
 | true =>
   refine vB [] ?_;refine AWp.text ?_;refine AText.split 2 ?_;refine xE2 ?_;refine aB ?_;refine AText.yieldM (i:=g) true [1000,1001,20] [] [] (zA1 c e (!true)++ [zAa K (fI a)]) [] rfl rfl rfl rfl (fun _ h=>h) rfl rfl hgN hb (by show ∀k,k<2→_;decide) (by rw[hla];exact zHA rfl rfl (zNW rfl xD)) trivial (by rw[hla];rfl) (by rw[hys];exact⟨.c (.b (.ow 20 2 rfl)),trivial⟩) (by rw[hE,hla];exact zFZ hc (zNV fun _ _ _ _=>rfl)) trivial ?_
   refine AText.all ?_;refine vA ?_;refine aB ?_;refine vB [10] ?_
   rcases zP9 hch with ⟨rfl,htop⟩|⟨b,hnx,hT⟩
   ·refine AWp.round (fun j:Nat=>
     mkG (itM Try.prog lp (zBa all N stop c e) N stop) (g+1) false 70 2 [(0,.c (.p (yv lp))),(1,.c (pl1 (iC (n:Nat)))),(8,.c (iC ((n:Int)+1))),(9,.c (iC (K:Nat))),(3,.c (iC (K:Nat))),(4,.c (.ow 20)),(6,.c (iC ((K:Int)-1-j)))]
     [(20,zAa K (fI a)),(1000,bxP zBw),(1001,zAN 60)] [20]
     ) (fun j=>j≤K) (fun j=>K-j) 0 (Nat.zero_le _) ?_ (fun j hj=> ?_)
    ·refine Wk.mkG [(20,some 20)] rfl rfl rfl rfl rfl ?_ ?_
     ·exact zC
     ·exact⟨HeapOk.row rfl rfl rfl (fun i hi q hq=>⟨rfl,rfl⟩),zA4 zBg rfl rfl trivial⟩
    by_cases hjK:j<K
    ·have hcy:iF (fI a) (K-1-j) 0=iC ((n:Int)-1-j):=by show iC (fI a _)=_;rw[htop,zTh xD j hjK]
     have c1:(K:Int)-1-j≥0:=by omega
     obtain⟨v,hv⟩:∃v:Int,v=(n:Int)-1-j:=⟨_,rfl⟩
     have c2:v=(n:Int)-K+((K:Int)-1-j):=by omega
     rw[←hv]at hcy
     repeat (first
      |refine vB [12] ?_
      |(refine AWp.draw (id:=11) zL ?_;refine xE5 ?_;(first|refine qr2 aG ?_|refine zG (aP (k:=K-1-j) zA) ?_|refine zJ (zH (k:=K-1-j) zA) ?_);(first|refine qr2 aG ?_|refine zAk zA (hcy) rfl rfl rfl rfl rfl oM ?_|refine zAH zA rfl rfl rfl rfl rfl rfl rfl oM oM (hcy) ?_);refine xE7 ?_;refine aB ⟨by kernel_rfl,?_⟩))
     refine⟨j+1,hjK,Wk.mkG [(20,some 20)] rfl rfl rfl rfl rfl ?_ ?_,by omega⟩
     ·exact zC
     ·exact⟨HeapOk.row rfl rfl rfl (fun i hi q hq=>⟨rfl,rfl⟩),zA4 zBg rfl rfl trivial⟩
    ·have c1:¬(K:Int)-1-j≥0:=by omega
     refine vB [11,13,18] ?_
     refine⟨(K+1,g+1),?_,Wk.mkG [] rfl rfl rfl rfl rfl ?_ ?_,by dsimp only;omega⟩
     ·exact⟨⟨by dsimp only;omega,by dsimp only;omega⟩,by dsimp only;rw[show n+1-(K+1)=n-K by omega];exact hdg,fun h=>by have:=zI6 hb h;dsimp only;omega⟩
     ·exact zC
     ·exact zA4 zBg rfl rfl trivial
   ·obtain⟨m,y,r,la,lb,hy,hlt,htop,hnb⟩:=zNq hnx
    refine AWp.round (fun j:Nat=>
     mkG (itM Try.prog lp (zBa all N stop c e) N stop) (g+1) false 70 2 [(0,.c (.p (yv lp))),(1,.c (pl1 (iC (n:Nat)))),(8,.c (iC ((n:Int)+1))),(9,.c (iC (K:Nat))),(3,.c (iC (K:Nat))),(4,.c (.ow 20)),(6,.c (iC ((K:Int)-1-j)))]
     [(20,zAa K (fI a)),(1000,bxP zBw),(1001,zAN 60)] [20]
     ) (fun j=>j≤r) (fun j=>r-j) 0 (Nat.zero_le _) ?_ (fun j hj=> ?_)
    ·refine Wk.mkG [(20,some 20)] rfl rfl rfl rfl rfl ?_ ?_
     ·exact zC
     ·exact⟨HeapOk.row rfl rfl rfl (fun i hi q hq=>⟨rfl,rfl⟩),zA4 zBg rfl rfl trivial⟩
    have c1:(K:Int)-1-j≥0:=by omega
    by_cases hjr:j<r
    ·have hcy:iF (fI a) (m+r-j) 0=iC ((n:Int)-1-j):=by show iC (fI a _)=_;rw[htop j hjr]
     obtain⟨v,hv⟩:∃v:Int,v=(n:Int)-1-j:=⟨_,rfl⟩
     have c2:v=(n:Int)-K+((K:Int)-1-j):=by omega
     rw[←hv]at hcy
     repeat (first
      |refine vB [12] ?_
      |(refine AWp.draw (id:=11) zL ?_;refine xE5 ?_;(first|refine qr2 aG ?_|refine zG (aP (k:=m+r-j) zA) ?_|refine zJ (zH (k:=m+r-j) zA) ?_);(first|refine qr2 aG ?_|refine zAk zA (hcy) rfl rfl rfl rfl rfl oM ?_|refine zAH zA rfl rfl rfl rfl rfl rfl rfl oM oM (hcy) ?_);refine xE7 ?_;refine aB ⟨by kernel_rfl,?_⟩))
     refine⟨j+1,hjr,Wk.mkG [(20,some 20)] rfl rfl rfl rfl rfl ?_ ?_,by omega⟩
     ·exact zC
     ·exact⟨HeapOk.row rfl rfl rfl (fun i hi q hq=>⟨rfl,rfl⟩),zA4 zBg rfl rfl trivial⟩
    obtain rfl:j=r:=by omega
    have hcy:iF (fI a) m 0=iC (y:Nat):=by show iC (fI a _)=_;rw[hy]
    have c2:¬(y:Int)=(n:Int)-K+((K:Int)-1-j):=by omega
    have c3:¬(K:Int)-1-j<0:=by omega
    repeat (first
     |refine vB [13] ?_
     |(refine AWp.draw (id:=11) zL ?_;refine xE5 ?_;(first|refine qr2 aG ?_|refine zG (aP (k:=m) zA) ?_|refine zJ (zH (k:=m) zA) ?_);(first|refine qr2 aG ?_|refine zAk zA (hcy) rfl rfl rfl rfl rfl oM ?_|refine zAH zA rfl rfl rfl rfl rfl rfl rfl oM oM (hcy) ?_);refine xE7 ?_;refine aB ⟨by kernel_rfl,?_⟩)
     | (refine rG 14 ?_
        refine xE2 ?_
        first|refine zG (aP (k:=m) zA) ?_|refine zJ (zH (k:=m) zA) ?_
        first|refine zAk zA (hcy) rfl rfl rfl rfl rfl oM ?_|refine zAH zA rfl rfl rfl rfl rfl rfl rfl oM oM (hcy) ?_
        refine vA ?_
        first|refine zG (aP (k:=m) zA) ?_|refine zJ (zH (k:=m) zA) ?_
        refine vA ?_;refine aB ?_))
    refine AWp.round (fun t:Nat=>
     mkG (itM Try.prog lp (zBa all N stop c e) N stop) (g+1) false 70 2 [(0,.c (.p (yv lp))),(1,.c (pl1 (iC (n:Nat)))),(8,.c (iC ((n:Int)+1))),(9,.c (iC (K:Nat))),(3,.c (iC (K:Nat))),(4,.c (.ow 20)),(6,.c (iC ((m+t:Nat):Int)))]
     [(20,zAa K (upF m y t a)),(1000,bxP zBw),(1001,zAN 60)] [20]
     ) (fun t=>t≤j) (fun t=>j-t) 0 (Nat.zero_le _) ?_ (fun t ht=> ?_)
    ·refine Wk.mkG [(20,some 20)] rfl rfl rfl rfl rfl ?_ ?_
     ·exact zC
     ·exact⟨HeapOk.row rfl rfl rfl (fun i hi q hq=>by have e:=zTn (m:=m) (y:=y) (a:=a) i q hq;exact⟨e,by rw[e];rfl⟩),zA4 zBg rfl rfl trivial⟩
    by_cases htj:t<j
    ·have c4:((m+t:Nat):Int)+1<K:=by omega
     have hcz:iF (upF m y t a) (m+t) 0=iC ((y+1+t:Nat):Int):=by show iC (upF m y t a _)=_;rw[zTo]
     repeat (first
      |refine vB [15,16] ?_
      | (refine rG 17 ?_
         refine xE5 ?_
         first|refine zG (aP (k:=m+t) zA) ?_|refine zJ (zH (k:=m+t) zA) ?_
         first|refine zAk zA (hcz) rfl rfl rfl rfl rfl oM ?_|refine zAH zA rfl rfl rfl rfl rfl rfl rfl oM oM (hcz) ?_
         refine vA ?_
         first|refine zG (aP (k:=m+t+1) zA) ?_|refine zJ (zH (k:=m+t+1) zA) ?_
         refine vA ?_;refine aB ?_))
     refine⟨t+1,htj,Wk.mkG [(20,some 20)] rfl rfl rfl rfl rfl ?_ ?_,by omega⟩
     ·exact zC
     ·exact⟨HeapOk.row rfl rfl rfl (fun i hi q hq=>by have e:=zTm (m:=m) (y:=y) (t:=t) (a:=a) i q hq;exact⟨e,by rw[e];rfl⟩),zA4 zBg rfl rfl trivial⟩
    obtain rfl:t=j:=by omega
    have c4:¬((m+t:Nat):Int)+1<K:=by omega
    refine vB [15] ?_
    refine⟨(T,b,g+1),⟨hT,hdg,hgl,fun h=>by have:=zI6 hb h;dsimp only;omega⟩,Wk.mkG [(20,some 20)] rfl rfl rfl rfl rfl ?_ ?_,by dsimp only;rw[List.length_cons];omega⟩
    ·exact zC
    ·exact⟨HeapOk.row rfl rfl rfl (fun i hi q hq=>⟨by obtain rfl:q=0:=Nat.lt_one_iff.mp hq;show iC (upF m y t a i)=iC (fI b i);rw[hnb i xD],rfl⟩),zA4 zBg rfl rfl trivial⟩
theorem zF2{S:St}{id n:Nat}{F:Nat→Int}(h:S.h id=some (zAa n F)){rd:List Nat}(hid:id∈rd):FzV S rd (.c (.ow id)) (.c (.ls n 1 (iF F))):=.inr ⟨id,n,1,_,_,_,rfl,rfl,hid,h,fun _ _ _ _=>⟨rfl,rfl⟩⟩
theorem zPC(p:Pb)(hp:p.ok)(H:List Hg)(hH:zDA H)(s:List Int)(hs:s.length≤1000000):zCH Try.prog 11 [.ag (pbC p),.c (lsH H),.c (.ow 1000)] [zAa s.length (fI s)] (.tu [.ag (pbC (zAe p H s).1),.c (iC (zAe p H s).2)]) [zAa s.length (fI s)] []:=by
 have hC:=zDz p hp
 obtain⟨e,he⟩:∃e,zAr p=e:=⟨_,rfl⟩
 rw[he]at hC;by_cases h0:e=0;rotate_left
 ·rw [show zAe p H s=(pbZ,e) by unfold zAe;rw[he,if_neg h0]]
  refine zBP Try.func11 rfl rfl Try.ntmps11 rfl ?_
  repeat (first
   |refine vB [0,2,3] ?_
   | (refine rG 1 ?_
      refine vA ?_;refine xB Try.func30 hC ?_;refine vA ?_;refine aB ?_))
  refine⟨mkL 92 1 [(6,.c (.pt 6 5 0 0)),(7,.c (iC (e)))] [(6,⟨false,1,5,34,lF (pbC pbZ)⟩),(1000,zAa s.length (fI s))] [6],[(6,⟨false,1,5,34,lF (pbC pbZ)⟩)],_,[zAa s.length (fI s)],[],⟨rfl,rfl,rfl⟩,rfl,zS [(6,some 6)] rfl rfl rfl rfl rfl ?_ ?_,rfl,rfl,GRets.two (x:=.ag _) (y:=.c _) (GRes.box zA rfl rfl rfl rfl rfl rfl) (GRes.tmp rfl)⟩
  ·repeat (first|exact trivial|refine⟨⟨_,rfl,by first|exact LeA.c (LeC.owB _ rfl)|exact leT⟩,?_⟩)
  ·exact⟨HeapOk.box rfl rfl ⟨LeC.nils _ _,LeC.nils _ _,LeC.nils _ _,LeC.nils _ _,LeC.nils _ _,trivial⟩ rfl,lrw,trivial⟩
 subst h0;have hfit:=zDf hp he;have hbn:=zLT he;have lC:=hfit.c;have lF0:=hfit.f;have lO:=hfit.o;have lT:=hfit.t;have lH:=hH.1;have hI:=zM5 H s xD hs
 obtain⟨V,hV⟩:∃V,zAe p H s=V:=⟨_,rfl⟩
 have hwv:(if zAP H.length s=true then (if zAr (anP p H s)=0 then (anP p H s,(0:Int))else (pbZ,zAr (anP p H s)))else (pbZ,1))=V:=by rw[←hV];unfold zAe;rw[if_pos he]
 rw[hV];generalize zAP H.length s=b at *
 cases b with
 | false=>
   obtain rfl:(pbZ,(1:Int))=V:=hwv;refine zBP Try.func11 rfl rfl Try.ntmps11 rfl ?_
   repeat (first
    |refine vB [0,2,5] ?_
    | (refine rG 1 ?_
       refine vA ?_;refine xB Try.func30 hC ?_;refine vA ?_;refine aB ?_)
    | (refine rG 4 ?_
       refine xE2 ?_;refine zFF [1000] rfl rfl rfl Try.func31 rfl xC (hI) (⟨.inl ⟨rfl,rfl⟩,zF2 rfl (by simp),trivial⟩) ?_;refine vA ?_;refine aB ?_))
   refine⟨mkL 92 1 [(6,.c (.pt 6 5 0 0)),(7,.c (iC (1)))] [(6,⟨false,1,5,34,lF (pbC pbZ)⟩),(1000,zAa s.length (fI s))] [6],[(6,⟨false,1,5,34,lF (pbC pbZ)⟩)],_,[zAa s.length (fI s)],[],⟨rfl,rfl,rfl⟩,rfl,zS [(6,some 6)] rfl rfl rfl rfl rfl ?_ ?_,rfl,rfl,GRets.two (x:=.ag _) (y:=.c _) (GRes.box zA rfl rfl rfl rfl rfl rfl) (GRes.tmp rfl)⟩
   ·repeat (first|exact trivial|refine⟨⟨_,rfl,by first|exact LeA.c (LeC.owB _ rfl)|exact leT⟩,?_⟩)
   ·exact⟨HeapOk.box rfl rfl ⟨LeC.nils _ _,LeC.nils _ _,LeC.nils _ _,LeC.nils _ _,LeC.nils _ _,trivial⟩ rfl,lrw,trivial⟩
 |true=>
 rw[if_pos rfl]at hwv;have hR:=zKX p.R.length (zAd rdC rdZ p.R) (fun i _ j _=>zN zA6 _ i j) hp.lR;have hF:=zFa p.F hp.lF (fun k hk=>by have:=hbn.1 _ (zAJ (L:=p.F) (k:=k) (z:=bpZ) hk);omega)
 have hO:=zKV p.O.length (zAd bgC bgZ p.O) (fun i _ j _=>zN zAj _ i j) xD;have hT:=zKU p.T.length (zAd bgC bgZ p.T) (fun i _ j _=>zN zAj _ i j) xD
 obtain⟨nO,hnO⟩:∃n,p.O.length=n:=⟨_,rfl⟩
 refine zBP Try.func11 rfl rfl Try.ntmps11 rfl ?_
 repeat (first
  |refine vB [0,2,7] ?_
  | (refine rG 1 ?_
     refine vA ?_;refine xB Try.func30 hC ?_;refine vA ?_;refine aB ?_)
  | (refine rG 4 ?_
     refine xE2 ?_;refine zFF [1000] rfl rfl rfl Try.func31 rfl xC (hI) (⟨.inl ⟨rfl,rfl⟩,zF2 rfl (by simp),trivial⟩) ?_;refine vA ?_;refine aB ?_)
  |(refine AWp.draw (id:=6) zL ?_;refine xE2 ?_;refine xB Try.func32 hR ?_;refine xE2 ?_;refine xB Try.func33 hF ?_;refine xE2 ?_;(first|refine AList.callG [] [35] [] [] [bgB p.O] [] [bgB p.O] rfl rfl FnV.func rfl Try.func34 rfl xC (trivial) rfl (.c (.owN 0 35 rfl)) (trivial) (⟨⟨_,rfl,fun i _ j _=>.imm _ (zN zAj p.O i j)⟩,trivial⟩) (hO) ?_|refine xB Try.func34 hT ?_);refine xE2 ?_;(first|refine AList.callG [] [35] [] [] [bgB p.O] [] [bgB p.O] rfl rfl FnV.func rfl Try.func34 rfl xC (trivial) rfl (.c (.owN 0 35 rfl)) (trivial) (⟨⟨_,rfl,fun i _ j _=>.imm _ (zN zAj p.O i j)⟩,trivial⟩) (hO) ?_|refine xB Try.func34 hT ?_);refine xE3 ?_;refine aB ⟨by kernel_rfl,?_⟩))
 refine AWp.round (fun k:Nat=>
  mkL 92 1 [(1,.c (lsH H)),(2,.c (.ow 1000)),(6,.c (.pt 6 5 0 0)),(9,.c (.pt 9 5 0 0)),(41,.c (.ls p.C.length 1 (chF p.C))),(42,.c (iC p.C.length)),(43,.c (iC (k:Nat)))] [(6,⟨false,1,5,34,lF [nl8,nl8,nl8,nl8,nl8]⟩),(9,⟨false,1,5,34,lF [lsR p.R,.ow 120,lsB p.F,.ow 121,lsG p.T]⟩),(120,chB (p.C.take k)),(121,bgB (p.O)),(1000,zAa s.length (fI s))] [6,9,120,121]
  ) (fun k=>k≤p.C.length) (fun k=>p.C.length-k) 0 (Nat.zero_le _) ?_ (fun k hk=> ?_)
 ·refine zS [(6,some 6),(9,some 9),(120,none),(121,some 35)] rfl rfl rfl rfl rfl ?_ ?_
  ·repeat (first|exact trivial|refine⟨⟨_,rfl,by first|exact LeA.c (LeC.owB _ rfl)|exact leT⟩,?_⟩)
  ·exact⟨hSm,HeapOk.box rfl rfl ⟨LeC.refl _ rfl,LeC.nil _ rfl,LeC.refl _ rfl,LeC.ow _ _ rfl,LeC.refl _ rfl,trivial⟩ rfl,HeapOk.nil rfl rfl,hrF zAj,lrw,trivial⟩
 by_cases hkl:k<p.C.length
 ·have hkl':(k:Int)<p.C.length:=by omega
  have hcF:chF p.C k 0=lsB (p.C.getD k []):=rfl;have hBk:=zFa (p.C.getD k []) (hp.lc _ (zAJ hkl)) (fun i hi=>by have:=hbn.2 _ (zAJ (L:=p.C) (k:=k) (z:= []) hkl) _ (zAJ (L:=p.C.getD k []) (k:=i) (z:=bpZ) hi);omega)
  have e1:p.C.take (k+1)=p.C.take k++ [p.C.getD k []]:=by
   rw[List.take_add_one,List.getElem?_eq_getElem hkl,List.getD_eq_getElem?_getD,List.getElem?_eq_getElem hkl];rfl
  have l1:(p.C.take k).length=k:=by rw[List.length_take];omega
  obtain⟨q1,hq1⟩:∃q,p.C.take k=q:=⟨_,rfl⟩
  rw[hq1]at l1 e1;have lq1:q1.length≤1000000:=by omega
  rw[hq1]
  repeat (first
   |refine vB [8,11] ?_
   | (refine rG 9 ?_
      first|refine zG (aP (k:=k) zA) ?_|refine zJ (zH (k:=k) zA) ?_
      first|refine zAk zA (hcF) rfl rfl rfl rfl rfl oM ?_|refine zAH zA rfl rfl rfl rfl rfl rfl rfl oM oM (hcF) ?_
      refine vA ?_;refine aB ?_)
   |(refine AWp.draw (id:=10) zL ?_;refine xE3 ?_;refine xB Try.func33 hBk ?_;refine vA ?_;refine xA ?_;refine xE2 ?_;refine aB ⟨by kernel_rfl,?_⟩))
  refine⟨k+1,hkl,?_,by omega⟩
  rw[e1];refine zS [(6,some 6),(9,some 9),(120,some 52),(121,some 121)] rfl rfl rfl rfl rfl ?_ ?_
  ·repeat (first|exact trivial|refine⟨⟨_,rfl,by first|exact LeA.c (LeC.owB _ rfl)|exact leT⟩,?_⟩)
  ·exact⟨hSm,HeapOk.box rfl rfl ⟨LeC.refl _ rfl,LeC.ow _ _ rfl,LeC.refl _ rfl,LeC.ow _ _ rfl,LeC.refl _ rfl,trivial⟩ rfl,HeapOk.row rfl rfl List.length_append (zDY _ _),hrF zAj,lrw,trivial⟩
 have hkl':¬(k:Int)<p.C.length:=by omega
 obtain rfl:k=p.C.length:=by omega
 rw[List.take_length];refine vB [8,12] ?_;refine AWp.round (fun k:Nat=>
  mkL 92 1 [(1,.c (lsH H)),(2,.c (.ow 1000)),(6,.c (.pt 6 5 0 0)),(9,.c (.pt 9 5 0 0)),(55,.c (lsH H)),(56,.c (iC H.length)),(57,.c (iC (k:Nat)))] [(6,⟨false,1,5,34,lF [nl8,nl8,nl8,nl8,nl8]⟩),(9,⟨false,1,5,34,lF [lsR p.R,.ow 120,lsB p.F,.ow 121,lsG p.T]⟩),(120,chB (p.C++anC H s k)),(121,bgB (p.O++anO H k)),(1000,zAa s.length (fI s))] [6,9,120,121]
  ) (fun k=>k≤H.length) (fun k=>H.length-k) 0 (Nat.zero_le _) ?_ (fun k hk=> ?_)
 ·rw[show p.C++anC H s 0=p.C from List.append_nil _,show p.O++anO H 0=p.O from List.append_nil _]
  refine zS [(6,some 6),(9,some 9),(120,some 120),(121,some 121)] rfl rfl rfl rfl rfl ?_ ?_
  ·repeat (first|exact trivial|refine⟨⟨_,rfl,by first|exact LeA.c (LeC.owB _ rfl)|exact leT⟩,?_⟩)
  ·exact⟨hSm,HeapOk.box rfl rfl ⟨LeC.refl _ rfl,LeC.ow _ _ rfl,LeC.refl _ rfl,LeC.ow _ _ rfl,LeC.refl _ rfl,trivial⟩ rfl,HeapOk.row rfl rfl rfl (fun i _ j _=>⟨rfl,rfl⟩),hrF zAj,lrw,trivial⟩
 by_cases hkl:k<H.length;rotate_left
 ·have hkl':¬(k:Int)<H.length:=by omega
  obtain rfl:k=H.length:=by omega
  have hW:=zDz (anP p H s) (zFS s hp hH he);refine vB [13] ?_;refine AWp.weak (S':=mkL 92 1 [(6,.c (.pt 6 5 0 0)),(9,.c (.pt 9 5 0 0))] [(6,⟨false,1,5,34,lF [nl8,nl8,nl8,nl8,nl8]⟩),(9,⟨false,1,5,34,lF (pbC (anP p H s))⟩),(1000,zAa s.length (fI s))] [6,9]) (zS [(6,some 6),(9,some 9)] rfl rfl rfl rfl rfl ?_ ?_) ?_
  ·repeat (first|exact trivial|refine⟨⟨_,rfl,by first|exact LeA.c (LeC.owB _ rfl)|exact leT⟩,?_⟩)
  ·exact⟨hSm,HeapOk.box rfl rfl ⟨LeC.refl _ rfl,zAp rfl rfl rfl (fun _ _ _ _=>⟨rfl,rfl⟩),LeC.refl _ rfl,zAp rfl rfl rfl (fun i _ j _=>⟨rfl,zN zAj _ i j⟩),LeC.refl _ rfl,trivial⟩ rfl,lrw,trivial⟩
  generalize zAr (anP p H s)=f at *;by_cases hf:f=0
  ·rw [if_pos hf]at hwv
   subst hf hwv
   repeat (first
    |refine vB [22,24] ?_
    | (refine rG 21 ?_
       refine vA ?_;refine xB Try.func30 hW ?_;refine vA ?_;refine aB ?_))
   refine⟨mkL 92 1 [(6,.c (.pt 6 5 0 0)),(7,.c (iC 0))] [(6,⟨false,1,5,34,lF (pbC (anP p H s))⟩),(1000,zAa s.length (fI s))] [6],[(6,⟨false,1,5,34,lF (pbC (anP p H s))⟩)],_,[zAa s.length (fI s)],[],⟨rfl,rfl,rfl⟩,rfl,zS [(6,some 6)] rfl rfl rfl rfl rfl ?_ ?_,rfl,rfl,GRets.two (x:=.ag _) (y:=.c _) (GRes.box zA rfl rfl rfl rfl rfl rfl) (GRes.tmp rfl)⟩
   ·repeat (first|exact trivial|refine⟨⟨_,rfl,by first|exact LeA.c (LeC.owB _ rfl)|exact leT⟩,?_⟩)
   ·exact⟨hSm,lrw,trivial⟩
  ·rw [if_neg hf]at hwv
   subst hwv
   repeat (first
    |refine vB [22,23] ?_
    | (refine rG 21 ?_
       refine vA ?_;refine xB Try.func30 hW ?_;refine vA ?_;refine aB ?_))
   refine⟨mkL 92 1 [(6,.c (.pt 6 5 0 0)),(7,.c (iC (f)))] [(6,⟨false,1,5,34,lF (pbC pbZ)⟩),(1000,zAa s.length (fI s))] [6],[(6,⟨false,1,5,34,lF (pbC pbZ)⟩)],_,[zAa s.length (fI s)],[],⟨rfl,rfl,rfl⟩,rfl,zS [(6,some 6)] rfl rfl rfl rfl rfl ?_ ?_,rfl,rfl,GRets.two (x:=.ag _) (y:=.c _) (GRes.box zA rfl rfl rfl rfl rfl rfl) (GRes.tmp rfl)⟩
   ·repeat (first|exact trivial|refine⟨⟨_,rfl,by first|exact LeA.c (LeC.owB _ rfl)|exact leT⟩,?_⟩)
   ·exact⟨HeapOk.box rfl rfl ⟨LeC.nils _ _,LeC.nils _ _,LeC.nils _ _,LeC.nils _ _,LeC.nils _ _,trivial⟩ rfl,lrw,trivial⟩
 have hkl':(k:Int)<H.length:=by omega
 have hb:=zI8 hH s hkl;have hBk:=zFa (zBY H s k) hb.1 (fun i hi=>hb.2 _ (zAJ hi));have hcn:=zKY s (k:Int) hs;have e1:p.C++anC H s (k+1)=(p.C++anC H s k)++ [zBY H s k]:=by rw[zLo,List.append_assoc]
 have e2:p.O++anO H (k+1)=(p.O++anO H k)++ [(H.getD k hgZ).own]:=by rw[zLp,List.append_assoc]
 have l1:(p.C++anC H s k).length≤1000000:=by rw[List.length_append,zE8];omega
 have l2:(p.O++anO H k).length≤1000000:=by rw[List.length_append,zGV];omega
 obtain⟨h,hh⟩:∃h,H.getD k hgZ=h:=⟨_,rfl⟩
 have eH:zAO (zAd hgC hgZ H k) 0 8=hgC h:=by rw[←hh];rfl
 have hX:zBY H s k=if (k:Int)∈s then h.ch else [h.now]:=by rw[←hh]
 rw[hh]at e2;generalize zBY H s k=X at *;generalize p.C++anC H s k=q1 at *;generalize p.O++anO H k=q2 at *;by_cases hm:(k:Int)∈s
 ·rw [decide_eq_true hm]at hcn
  rw[if_pos hm]at hX;subst hX
  repeat (first
   |refine vB [13,15,17,20] ?_
   | (refine rG 14 ?_
      refine vA ?_
      first|refine zG (aP (k:=k) zA) ?_|refine zJ (zH (k:=k) zA) ?_
      refine zE1 zA (eH) rfl rfl rfl rfl rfl oM ?_;refine xE3 ?_;refine aB ?_)
   | (refine rG 16 ?_
      refine xE2 ?_;refine zFF [1000] rfl rfl rfl Try.func35 rfl xC (hcn) (⟨zF2 rfl (by simp),.inl ⟨rfl,rfl⟩,trivial⟩) ?_;refine aB ?_)
   |(refine AWp.draw (id:=18) zL ?_;refine xE3 ?_;refine xB Try.func33 hBk ?_;refine vA ?_;refine xA ?_;refine xE2 ?_;refine aB ⟨by kernel_rfl,?_⟩)
   | (refine rG 19 ?_
      refine xE5 ?_;refine xA ?_;refine xE2 ?_;refine aB ?_))
  refine⟨k+1,hkl,?_,by omega⟩
  rw[e1,e2];refine zS [(6,some 6),(9,some 9),(120,some 75),(121,some 82)] rfl rfl rfl rfl rfl ?_ ?_
  ·repeat (first|exact trivial|refine⟨⟨_,rfl,by first|exact LeA.c (LeC.owB _ rfl)|exact leT⟩,?_⟩)
  ·exact⟨hSm,HeapOk.box rfl rfl ⟨LeC.refl _ rfl,LeC.ow _ _ rfl,LeC.refl _ rfl,LeC.ow _ _ rfl,LeC.refl _ rfl,trivial⟩ rfl,HeapOk.row rfl rfl List.length_append (zDY _ _),HeapOk.row rfl rfl List.length_append (zCB _ _ zAj rfl),lrw,trivial⟩
 ·rw [decide_eq_false hm]at hcn
  rw[if_neg hm]at hX;subst hX;have hB1:=hBk.cv (args':= [.c (.ls 1 3 (sF (bpC h.now) 3))]) ⟨.c (zNx h.now),trivial⟩
  repeat (first
   |refine vB [13,15,20] ?_
   | (refine rG 14 ?_
      refine vA ?_
      first|refine zG (aP (k:=k) zA) ?_|refine zJ (zH (k:=k) zA) ?_
      refine zE1 zA (eH) rfl rfl rfl rfl rfl oM ?_;refine xE3 ?_;refine aB ?_)
   | (refine rG 16 ?_
      refine xE2 ?_;refine zFF [1000] rfl rfl rfl Try.func35 rfl xC (hcn) (⟨zF2 rfl (by simp),.inl ⟨rfl,rfl⟩,trivial⟩) ?_;refine aB ?_)
   |(refine AWp.draw (id:=18) zL ?_;refine xE3 ?_;refine xB Try.func33 hB1 ?_;refine vA ?_;refine xA ?_;refine xE2 ?_;refine aB ⟨by kernel_rfl,?_⟩)
   | (refine rG 19 ?_
      refine xE5 ?_;refine xA ?_;refine xE2 ?_;refine aB ?_))
  refine⟨k+1,hkl,?_,by omega⟩
  rw[e1,e2];refine zS [(6,some 6),(9,some 9),(120,some 75),(121,some 82)] rfl rfl rfl rfl rfl ?_ ?_
  ·repeat (first|exact trivial|refine⟨⟨_,rfl,by first|exact LeA.c (LeC.owB _ rfl)|exact leT⟩,?_⟩)
  ·exact⟨hSm,HeapOk.box rfl rfl ⟨LeC.refl _ rfl,LeC.ow _ _ rfl,LeC.refl _ rfl,LeC.ow _ _ rfl,LeC.refl _ rfl,trivial⟩ rfl,HeapOk.row rfl rfl List.length_append (zDY _ _),HeapOk.row rfl rfl List.length_append (zCB _ _ zAj rfl),lrw,trivial⟩
end Go.Proofs.Ytbffmfeldkjkcaa
end
