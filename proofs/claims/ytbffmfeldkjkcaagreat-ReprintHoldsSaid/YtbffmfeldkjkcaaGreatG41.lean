/- Parts of the proof: AFzA, A30g, A30h, A30i, A30j, A30k, A30l, A30m. -/
import Derived.Test.YtbffmfeldkjkcaaGreatG40
set_option linter.unusedSimpArgs false
set_option linter.unusedVariables false
set_option maxHeartbeats 0
set_option maxRecDepth 100000
section
namespace Go.AV
open Go Go.RowKit Go.Flow
section
variable{P:Program}{tab:List (TypeId×TD)}
theorem GoesA.mono{K K':Value→World→Prop}{r:Result Next}(h:∀v w,K v w→K' v w)(hh:GoesA P K r):GoesA P K' r:=by
 rcases hh with hh|⟨l,f,tmps,assign,body,w',h1,h2⟩
 ·exact .inl (Goes.mono h hh)
 ·exact .inr ⟨l,f,tmps,assign,body,w',h1,RoundIn.mono (F:=Fence.wide) h2 fun e w'' ⟨v,he,hc⟩=>⟨v,he,h v w'' hc⟩⟩
theorem LStep.weak{ops:Array Oper}{o:Oper}{rd:List Nat}{e e':Eff}{S:St}(h:LStep P ops o rd e S)(ha:e'.al=e.al)
 (hw:∀(S1:St) b0 a w,Rel b0 (S1.eff o.dst e) a w→Rel b0 (S1.eff o.dst e') a w):LStep P ops o rd e' S:=fun S1 hn ht hr hf b0 a w R=>
 (h S1 hn ht hr (by rw[ha]at hf;exact hf) b0 a w R).imp (fun ⟨h1,h2⟩=>⟨h1,h2.mono fun v w'=>hw S1 b0 _ w'⟩) fun ⟨h1,h2⟩=>⟨h1,hw S1 b0 _ w h2⟩
theorem zO2{b0:zN}{σ:Nat→Option Value}{S S':St}{a:Act}{w:World}(R:Rel0 b0 σ S a w){t id n sz:Nat}{ty:TypeId}{F:Nat→Nat→CV}(ht:S.t t=some (.c (.ow id)))(hh:S.h id=some ⟨true,n,sz,ty,F⟩)(hlo:id<1000)
 (hi:∀k,k<n→∀j,j<sz→zM (F k j)=true) (e1:∀i,S'.t i=if i=t then some (.c (.ls n sz F))else S.t i) (e2:∀i,S'.h i=if i=id then none else S.h i) (e3:S'.n=S.n∧S'.ln=S.ln∧S'.G=S.G∧S'.gs=S.gs∧S'.dd=S.dd∧S'.fr=S.fr):Rel0 b0 σ S' a w:=by
 obtain⟨f1,f2,f3,f4,f5,f6⟩:=e3
 have hsub:∀i,S'.h i≠none→i≠id∧S'.h i=S.h i:=fun i h=>by
  rw[e2]at h⊢;by_cases e:i=id
  ·rw[if_pos e]at h;exact absurd rfl h
  ·rw[if_neg e];exact⟨e,rfl⟩
 have hown:∀b,own σ S'.h b→own σ S.h b:=fun b ⟨i,v,h1,h2,h3⟩=>⟨i,v,by rw[←(hsub i h1).2];exact h1,h2,h3⟩
 have hout:∀b,out b0 σ S'.h b→out b0 σ S.h b:=fun b h=>h.imp (hown b) fun h=>h
 have hne:S.h id≠none:=by rw[hh];simp
 refine⟨R.df,R.sz.trans f1.symm,?_,⟨fun i B hB=> ?_,fun i j v1 v2 b h1 h2=> ?_,fun b hb=>R.hp.new b (hown b hb),fun i v h=>⟨(R.hp.fx i v h).1,?_⟩,R.hp.big⟩,fun i x hx=> ?_,fun i h=>R.fr i (by rw[←f6];exact h),fun i v h=>by rw[f2];exact R.le i v h,by rw[f3];exact R.gd,by rw[f4,f5];exact R.gh⟩
 ·have:=R.ext
  unfold zC9 at this⊢;rw[f5];exact this
 ·obtain⟨-,q⟩:=hsub i (by rw[hB];simp)
  rw[q]at hB
  obtain⟨v,k1,k2⟩:=R.hp.blk i B hB
  exact⟨v,k1,OBk.less hout k2⟩
 ·obtain⟨-,q1⟩:=hsub i h1
  obtain⟨-,q2⟩:=hsub j h2
  rw[q1]at h1;rw[q2]at h2;exact R.hp.inj i j v1 v2 b h1 h2
 ·rw[e2,if_neg (fun e=>by have:=(b0.one i v h).1;omega)]
  exact(R.hp.fx i v h).2
 ·rw [e1]at hx
  by_cases e:i=t
  ·rw[if_pos e]at hx
   subst e
   cases hx
   have hr:=R.sl i _ ht
   refine⟨hr.1,zGW R.hp hh hi hout (fun v b h1 h2 h3=> ?_) hr.2.1⟩
   rcases h3 with ⟨j,u,g1,g2,g3⟩|h3
   ·obtain⟨q0,q1⟩:=hsub j g1
    rw[q1]at g1;exact q0 (R.hp.inj j id u v b g1 hne g2 h1 g3 h2)
   ·rcases R.hp.new b ⟨id,v,hne,h1,h2⟩with h4|h4
    ·have:=b0.lt b h3
     omega
    ·exact b0.dis b h3 h4
  ·rw[if_neg e]at hx
   exact RepA.less hout (R.sl i x hx)
section ops
variable{ops:Array Oper}{rest:List Oper}{acc:List (List Nat×List Nat)}{S:St}{Q:List (List Nat×List Nat)→St→Prop}{ty:TypeId}{pos:String}{after:Array Edge}{guard:Option (Nat×Bool)}{x:Operand}
theorem zFd(T:zAq P tab=true){id id1:Nat}{s:Operand}{t el:TypeId}{d e:TD}{n m n':Nat}{F G G':Nat→Nat→CV}
 (hw:S.wants ops {dst:=some id,op:=.call {callee:=.builtin .append,args:= #[s,x],argTypes:= #[t,t]},type:=ty,pos,after,guard}=some true) (hd:dOk S.n (some id)=true) (hf:S.fr id=true)
 (hs:S.opd s=some (.c (.ow id1))) (hx:S.opd x=some (.c (.ls m e.size G))) (ht:zD tab t=some d) (hk:d.k=.sl el) (he:zD tab el=some e) (hh:S.h id1=some ⟨true,n,e.size,el,F⟩) (hsz:(Nat.blt 0 e.size && (Nat.blt id1 1000 && (Nat.blt id 1000 && !Nat.beq id id1)))=true)
 (hm:n'=n+m) (hc:∀k,k<n+m→∀j,j<e.size→zAj F n G k j=G' k j∧zM (zAj F n G k j)=true) (h63:n+m≤4611686018427387904) (hb:(n+m)*e.bytes≤140737488355328)
 (hn:AList P ops rest (([id1,id],[id1,id,id])::acc) (S.eff (some id) ⟨.c (.ls n' e.size G'),[(id1,none),(id,none)],[id]⟩) Q):
 AList P ops ({dst:=some id,op:=.call {callee:=.builtin .append,args:= #[s,x],argTypes:= #[t,t]},type:=ty,pos,after,guard}::rest) acc S Q:=by
 simp only[Bool.and_eq_true]at hsz
 obtain⟨z1,z2,z3,z4⟩:=hsz
 have hne:id≠id1:=fun e=>by rw[e,Nat.beq_refl]at z4;cases z4
 have h3:=Nat.blt_eq.mp z3;subst hm;refine AList.cons [id1] ⟨.c (.ls (n+m) e.size G'),[(id1,none),(id,none)],[id]⟩ ((LStep.app T (o:=some id1) (F:=F) (G:=G) [] hw hd hf hs hx ht hk he (Nat.blt_eq.mp z1) (.inr ⟨id1,rfl,rfl,hh,Nat.blt_eq.mp z2⟩) (fun S1 _ b0 σ a w R u hu=>zE2 hu) h63 hb).weak rfl fun S1 b0 a w ⟨σ,R⟩=>⟨σ,?_⟩) hn;have hB:zAb [(id1,none),(id,some (⟨true,n+m,e.size,el,zAj F n G⟩:AB))] S1.h id=some ⟨true,n+m,e.size,el,zAj F n G⟩:=(zX _ _ hne).trans (zAn _ _ _);have R1:=zO2 (S':=⟨S1.n,S1.ln,put S1.t id (some (.c (.ls (n+m) e.size (zAj F n G)))),zAb [(id1,none),(id,none)] S1.h,(S1.eff (some id) ⟨.c (.ow id),[(id1,none),(id,some (⟨true,n+m,e.size,el,zAj F n G⟩:AB))],[id]⟩).fr,S1.G,S1.gs,S1.dd⟩) R (t:=id) (id:=id) (zAn _ _ _) hB h3 (fun k hk j hj=>(hc k hk j hj).2)
  (fun i=>by
    by_cases e:i=id
    ·rw[if_pos e,e];exact zAn _ _ _
    ·rw[if_neg e];exact(zX _ _ e).trans (zX _ _ e).symm)
  (fun i=>by
    by_cases e:i=id
    ·rw[if_pos e,e];exact(zX _ _ hne).trans (zAn _ _ _)
    ·rw[if_neg e]
     show put (put S1.h id none) id1 none i=put (put S1.h id _) id1 none i;by_cases e':i=id1
     ·rw[e',zAn,zAn]
     ·rw[zX _ _ e',zX _ _ e',zX _ _ e,zX _ _ e])
  ⟨rfl,rfl,rfl,rfl,rfl,rfl⟩
 refine⟨R1.df,R1.sz,R1.ext,R1.hp,fun i z hz=> ?_,R1.fr,R1.le,R1.gd,R1.gh⟩
 by_cases e:i=id
 ·subst e
  have hz':put S1.t i (some (.c (.ls (n+m) _ G'))) i=some z:=hz;rw[zAn]at hz'
  cases hz'
  have h:=R1.sl i _ (zAn _ _ _)
  exact⟨h.1,zEh (fun k hk j hj=>(hc k hk j hj).1) h.2⟩
 ·have hz':put S1.t id (some (.c (.ls (n+m) _ G'))) i=some z:=hz
  rw[zX _ _ e]at hz';exact R1.sl i z ((zX _ _ e).trans hz')
end ops
end
end Go.AV
end
section
namespace Go.Proofs.YtbffmfeldkjkcaaGreat
open Go.RowKit Go.Flow Go.AV Go.Plain
theorem zJy(a b:List Int)(ha:a.length≤4611686018427387904):ACalls Tryz.prog 35 [.c (lsI a),.c (lsI b)] (.c (bC (decide (a=b)))):=by
 obtain⟨v,hv⟩:∃v,decide (a=b)=v:=⟨_,rfl⟩
 rw[hv];refine zJ Tryz.func35 rfl rfl Tryz.ntmps35 rfl ?_;by_cases hl:a.length=b.length
 ·have hl':((a.length:Nat):Int)=b.length:=by omega
  refine vB [0,1,3] ?_;refine AWp.round (fun k:Nat=>zC 26 [(0,.c (lsI a)),(1,.c (lsI b)),(5,.c (iC (k:Nat)))] [] []) (fun k=>k≤a.length∧∀i,i<k→fI a i=fI b i) (fun k=>a.length-k) 0 ⟨Nat.zero_le _,fun _ h=>absurd h (Nat.not_lt_zero _)⟩ ?_ (fun k hk=> ?_)
  ·refine Wk.mk [] rfl rfl rfl ?_ trivial
   exact zB
  obtain⟨hk,hok⟩:=hk
  by_cases hkl:k<a.length
  ·have hkl':(k:Int)<a.length:=by omega
   by_cases he:fI a k=fI b k
   · -- ax 2 ref30.same
     repeat (first
      |refine vB [4,5] ?_
      |(refine AWp.draw (id:=6) zK ?_;refine xE2 ?_;(first|refine zG (aP (k:=k) zA) ?_|refine zI (zH (k:=k) zA) ?_);refine xE3 ?_;(first|refine zG (aP (k:=k) zA) ?_|refine zI (zH (k:=k) zA) ?_);refine xE2 ?_;refine aB ⟨by kernel_rfl,?_⟩))
     refine⟨k+1,⟨hkl,fun i hi=> ?_⟩,Wk.mk [] rfl rfl rfl ?_ trivial,by omega⟩
     ·by_cases ei:i=k
      ·rw[ei];exact he
      ·exact hok i xD
     ·exact zB
   ·obtain rfl:v=false:=by rw[←hv];exact decide_eq_false fun e=>he (by rw[e])
    repeat (first
     |refine vB [4,7] ?_
     |(refine AWp.draw (id:=6) zK ?_;refine xE2 ?_;(first|refine zG (aP (k:=k) zA) ?_|refine zI (zH (k:=k) zA) ?_);refine xE3 ?_;(first|refine zG (aP (k:=k) zA) ?_|refine zI (zH (k:=k) zA) ?_);refine xE2 ?_;refine aB ⟨by kernel_rfl,?_⟩))
    refine⟨zC 26 [(4,.c (bC false))] [] [],[],Wk.mk [] rfl rfl rfl ?_ trivial,rfl,rfl,aR1⟩
    exact zB
  ·have hkl':¬(k:Int)<a.length:=by omega
   obtain rfl:k=a.length:=by omega
   obtain rfl:v=true:=by rw[←hv];exact decide_eq_true (zQh hl hok)
   refine vB [4,8] ?_
   refine⟨zC 26 [(4,.c (bC true))] [] [],[],Wk.mk [] rfl rfl rfl ?_ trivial,rfl,rfl,aR1⟩
   exact zB
 ·have hl':¬((a.length:Nat):Int)=b.length:=by omega
  obtain rfl:v=false:=by rw[←hv];exact decide_eq_false fun e=>hl (by rw[e])
  refine vB [0,1,2] ?_
  refine⟨zC 26 [(4,.c (bC false))] [] [],[],Wk.mk [] rfl rfl rfl ?_ trivial,rfl,rfl,aR1⟩
  exact zB
structure Pl where
 rp:List Int
 an:List Int
 ch:List Int
 deriving DecidableEq
abbrev plC(x:Pl):List CV:= [lsI x.rp,lsI x.an,lsI x.ch]
abbrev plZ:Pl:=⟨[],[],[]⟩
def zF9(a b:Pl):Bool:=decide (a.rp=b.rp) && decide (a.an=b.an) && decide (a.ch=b.ch)
theorem samP_iff{a b:Pl}:zF9 a b=true↔a=b:=by
 unfold zF9;rw[Bool.and_eq_true,Bool.and_eq_true,decide_eq_true_eq,decide_eq_true_eq,decide_eq_true_eq]
 obtain⟨a1,a2,a3⟩:=a
 obtain⟨b1,b2,b3⟩:=b
 exact⟨fun ⟨⟨h1,h2⟩,h3⟩=>by cases h1;cases h2;cases h3;rfl,fun h=>by cases h;exact⟨⟨rfl,rfl⟩,rfl⟩⟩
theorem zGy(a b:Pl)(h1:a.rp.length≤4611686018427387904)(h2:a.an.length≤4611686018427387904)(h3:a.ch.length≤4611686018427387904):ACalls Tryz.prog 11 [.ag (plC a),.ag (plC b)] (.c (bC (zF9 a b))):=by
 have hA:=zJy a.rp b.rp h1;have hB:=zJy a.an b.an h2;have hC:=zJy a.ch b.ch h3
 obtain⟨v,hv⟩:∃v,zF9 a b=v:=⟨_,rfl⟩
 rw[hv];unfold zF9 at hv;generalize decide (a.rp=b.rp)=x at *;generalize decide (a.an=b.an)=y at *;generalize decide (a.ch=b.ch)=z at *
 cases x with
 | false=>
   obtain rfl:false=v:=hv;refine zJ Tryz.func11 rfl rfl Tryz.ntmps11 rfl ?_
   repeat (first
    |refine vB [0] ?_
    | (refine rG 1 ?_
       refine xE4 ?_;refine xB Tryz.func35 hA ?_;refine xE5 ?_
       first|refine qr2 aG ?_|refine xB Tryz.func35 hA ?_
       refine xE6 ?_
       first|refine qr2 aG ?_|refine xB Tryz.func35 hA ?_
       refine xE2 ?_;refine aB ?_))
   refine⟨zC 24 [(4,.c (bC false))] [] [],[],Wk.mk [] rfl rfl rfl ?_ trivial,rfl,rfl,aR1⟩
   exact zB
 | true=>
   cases y with
   | false=>
     obtain rfl:false=v:=hv;refine zJ Tryz.func11 rfl rfl Tryz.ntmps11 rfl ?_
     repeat (first
      |refine vB [0] ?_
      | (refine rG 1 ?_
         refine xE4 ?_
         first|refine xB Tryz.func35 hA ?_|refine xB Tryz.func35 hB ?_
         refine xE5 ?_
         first|refine qr2 aG ?_|refine xB Tryz.func35 hA ?_|refine xB Tryz.func35 hB ?_
         refine xE6 ?_
         first|refine qr2 aG ?_|refine xB Tryz.func35 hA ?_|refine xB Tryz.func35 hB ?_
         refine xE2 ?_;refine aB ?_))
     refine⟨zC 24 [(4,.c (bC false))] [] [],[],Wk.mk [] rfl rfl rfl ?_ trivial,rfl,rfl,aR1⟩
     exact zB
   | true=>
     obtain rfl:z=v:=hv;refine zJ Tryz.func11 rfl rfl Tryz.ntmps11 rfl ?_
     repeat (first
      |refine vB [0] ?_
      | (refine rG 1 ?_
         refine xE4 ?_
         first|refine xB Tryz.func35 hA ?_|refine xB Tryz.func35 hB ?_|refine xB Tryz.func35 hC ?_
         refine xE5 ?_
         first|refine qr2 aG ?_|refine xB Tryz.func35 hA ?_|refine xB Tryz.func35 hB ?_|refine xB Tryz.func35 hC ?_
         refine xE6 ?_
         first|refine qr2 aG ?_|refine xB Tryz.func35 hA ?_|refine xB Tryz.func35 hB ?_|refine xB Tryz.func35 hC ?_
         refine xE2 ?_;refine aB ?_))
     refine⟨zC 24 [(4,.c (bC z))] [] [],[],Wk.mk [] rfl rfl rfl ?_ trivial,rfl,rfl,aR1⟩
     exact zB
def hg1(q:Pb)(k:Nat):Hg:=⟨if 0<(q.C.getD k []).length then (q.C.getD k []).getD ((q.C.getD k []).length-1) bpZ else zAY fun _=>false,(q.C.getD k []).take 2,q.O.getD k bgZ⟩
def zCX(q:Pb)(k:Nat):List Hg:=(List.range k).map (hg1 q)
def zDQ(q:Pb):List Hg:=zCX q (min q.C.length 2)
theorem zMp(q:Pb)(k:Nat):(zCX q k).length=k:=by
 unfold zCX;rw[List.length_map,List.length_range]
theorem zQB(q:Pb)(k:Nat):zCX q (k+1)=zCX q k++ [hg1 q k]:=by
 unfold zCX;rw[List.range_succ,List.map_append]
 rfl
abbrev hgB(L:List Hg):AB:=⟨true,L.length,8,63,zS hgC hgZ L⟩
abbrev zES(q:Pb):AB:=⟨false,1,5,34,lF (pbC q)⟩
theorem zQq(Z:Nat→Nat→CV)(T:List Bp):∀k,k<0+T.length→∀j,j<3→zAj Z 0 (zS bpC bpZ T) k j=zS bpC bpZ T k j∧zM (zAj Z 0 (zS bpC bpZ T) k j)=true:=fun k _ j _=>⟨rfl,zL zAm T k j⟩
theorem zOP(ll:List (List Int))(hll:LlOk ll):ACalls Tryz.prog 21 [.c (lsL ll)] (.c (lsH (zDQ (zCH ll)))):=by
 have hM:=zKK ll hll
 obtain⟨sm,-⟩:=zG9 ll
 generalize zCH ll=q at *;have hf:=sm.fit;have lO:=hf.o;have lC:=hf.c
 obtain⟨v,hv⟩:∃v,zDQ q=v:=⟨_,rfl⟩
 rw[hv];refine zJ Tryz.func21 rfl rfl Tryz.ntmps21 rfl ?_
 repeat (first
  |refine vB [0,2,3] ?_
  | (refine rG 1 ?_
     refine vA ?_;refine xB Tryz.func20 hM ?_;refine xE2 ?_;refine aB ?_))
 refine AWp.round (fun k:Nat=>zC 74 [(3,.c (.pt 3 5 0 0)),(4,.c (.ow 20)),(5,.c (iC (k:Nat)))] [(3,zES q),(20,hgB (zCX q k))] [3,20]) (fun k=>k≤min q.C.length 2) (fun k=>2-k) 0 (Nat.zero_le _) ?_ (fun k hk=> ?_)
 ·refine Wk.mk [(3,some 3),(20,none)] rfl rfl rfl ?_ ?_
  ·exact zB
  ·exact⟨hSm,HeapOk.nil rfl rfl,trivial⟩
 by_cases hkl:k<min q.C.length 2;rotate_left
 ·obtain rfl:k=min q.C.length 2:=by omega
  unfold zDQ at hv;rw[hv]
  obtain⟨m,hm⟩:∃m,min q.C.length 2=m:=⟨_,rfl⟩
  rw[hm]at hkl⊢;by_cases h1:m<q.C.length
  ·have h1':(m:Int)<q.C.length:=by omega
   have h2':¬(m:Int)<2:=by omega
   refine vB [4,11] ?_
   refine⟨zC 74 [(2,.c (lsH v))] [] [],[],Wk.mk [] rfl rfl rfl ?_ trivial,rfl,rfl,aR1⟩
   exact⟨⟨_,rfl,.c (zZ rfl rfl rfl (fun i _ j _=>⟨rfl,zL zCY _ i j⟩))⟩,trivial⟩
  ·have h1':¬(m:Int)<q.C.length:=by omega
   refine vB [4,11] ?_
   refine⟨zC 74 [(2,.c (lsH v))] [] [],[],Wk.mk [] rfl rfl rfl ?_ trivial,rfl,rfl,aR1⟩
   exact⟨⟨_,rfl,.c (zZ rfl rfl rfl (fun i _ j _=>⟨rfl,zL zCY _ i j⟩))⟩,trivial⟩
 have hk1:(k:Int)<q.C.length:=by omega
 have hk2:(k:Int)<2:=by omega
 have hko:k<q.O.length:=by omega
 obtain⟨L,hL⟩:∃L,q.C.getD k []=L:=⟨_,rfl⟩
 have hcL:chF q.C k 0=lsB L:=by rw[←hL]
 have hL32:L.length≤32:=by rw[←hL];exact hf.l _ (zAB xD)
 obtain⟨m,hm⟩:∃m,m=min L.length 2:=⟨_,rfl⟩
 have hm':min (L.length:Int) 2=(m:Int):=by omega
 have hmL:m≤L.length:=by omega
 have hN65:=zFn 6 5 30 xD xD rfl xD
 obtain⟨b,hb⟩:∃b,(if 0<L.length then L.getD (L.length-1) bpZ else zAY fun _=>false)=b:=⟨_,rfl⟩
 have e1:zCX q (k+1)=zCX q k++ [⟨b,L.take m,q.O.getD k bgZ⟩]:=by
  rw[zQB,←hb,←hL];unfold hg1;rw[show(q.C.getD k []).take m=(q.C.getD k []).take 2 by rw[hm,hL];rcases Nat.le_total L.length 2 with h|h;rw[Nat.min_eq_left h,List.take_length,List.take_of_length_le h];rw[Nat.min_eq_right h]]
 have l1:=zMp q k;generalize zCX q k=out at *;have l2:out.length≤2:=by omega
 repeat (first
  |refine vB [4] ?_
  | (refine rG 6 ?_
     refine zFf rfl rfl rfl rfl rfl Tryz.func46 rfl xC (hN65) (fun _ _ _ _=>rfl) ?_;refine xE6 ?_;refine aB ?_)
  |(refine AWp.draw (id:=7) zK ?_;refine xE3 ?_;(first|refine zG (aP (k:=k) zA) ?_|refine zI (zH (k:=k) zA) ?_);(first|refine zY zA (hcL) rfl rfl rfl rfl rfl oM ?_|refine zAp zA rfl rfl rfl rfl rfl rfl rfl oM oM (hcL) ?_);refine xE3 ?_;(first|refine zG (aP (k:=k) zA) ?_|refine zI (zH (k:=k) zA) ?_);(first|refine zY zA (hcL) rfl rfl rfl rfl rfl oM ?_|refine zAp zA rfl rfl rfl rfl rfl rfl rfl oM oM (hcL) ?_);refine xE2 ?_;refine AList.cut (l:=0) (h:=m) zA rfl rfl rfl rfl rfl rfl rfl rfl ⟨_,_,rfl,by first|rfl|omega⟩ xD xD ?_;refine vA ?_;refine aB ⟨by kernel_rfl,?_⟩))
 refine AWp.weak (S':=zC 74 [(3,.c (.pt 3 5 0 0)),(4,.c (.ow 20)),(5,.c (iC (k:Nat))),(6,.c (.pt 6 3 0 0)),(8,.c (lsB (L.take m)))] [(3,zES q),(6,⟨false,1,3,58,lF (bpC (zAY fun _=>false))⟩),(20,hgB out)] [3,6,20]) (Wk.mk [(3,some 3),(6,some 6),(20,some 20)] rfl rfl rfl ?_ ?_) ?_
 ·repeat (first|exact trivial|refine⟨⟨_,rfl,by first|exact LeA.c (zCO (by rw[List.length_take];omega) (fun i hi j hj=>by show zS bpC bpZ L (0+i) j=_;rw[Nat.zero_add];exact zJx (sz:=3) L m i xD j hj))|exact leT⟩,?_⟩)
 ·exact⟨hSm,HeapOk.box rfl rfl ⟨LeC.int rfl,LeC.int rfl,zZ rfl rfl rfl (fun i _=>zAa ⟨rfl,rfl⟩),trivial⟩ rfl,hrF zCY,trivial⟩
 refine zEd (zC 74 [(3,.c (.pt 3 5 0 0)),(4,.c (.ow 20)),(5,.c (iC (k:Nat))),(6,.c (.pt 6 3 0 0)),(8,.c (lsB (L.take m)))] [(3,zES q),(6,⟨false,1,3,58,lF (bpC b)⟩),(20,hgB out)] [3,6,20]) ?_ ?_
 ·by_cases hL0:0<L.length
  ·rw [if_pos hL0]at hb
   have hL0':(L.length:Int)>0:=by omega
   have eB:zAD (zS bpC bpZ L (L.length-1)) 0 3=bpC b:=by rw[←hb];rfl
   repeat (first
    |refine vB [] ?_
    | (refine rG 8 ?_
       refine xE3 ?_
       first|refine zG (aP (k:=k) zA) ?_|refine zI (zH (k:=k) zA) ?_
       first|refine zY zA (hcL) rfl rfl rfl rfl rfl oM ?_|refine zAp zA rfl rfl rfl rfl rfl rfl rfl oM oM (hcL) ?_
       refine xE2 ?_;refine aB ?_)
    |(refine AWp.draw (id:=9) zK ?_;refine xE3 ?_;(first|refine zG (aP (k:=k) zA) ?_|refine zI (zH (k:=k) zA) ?_);(first|refine zY zA (hcL) rfl rfl rfl rfl rfl oM ?_|refine zAp zA rfl rfl rfl rfl rfl rfl rfl oM oM (hcL) ?_);refine xE3 ?_;(first|refine zG (aP (k:=k) zA) ?_|refine zI (zH (k:=k) zA) ?_);(first|refine zY zA (hcL) rfl rfl rfl rfl rfl oM ?_|refine zAp zA rfl rfl rfl rfl rfl rfl rfl oM oM (hcL) ?_);refine xE2 ?_;(first|refine zG (aP (k:=L.length-1) zA) ?_|refine zI (zH (k:=L.length-1) zA) ?_);refine zEb zA (eB) rfl rfl rfl rfl rfl oM ?_;refine vA ?_;refine aB ⟨by kernel_rfl,?_⟩))
   refine⟨rfl,Wk.mk [(3,some 3),(6,some 6),(20,some 20)] rfl rfl rfl ?_ ?_⟩
   ·exact zB
   ·exact⟨hSm,hSm,hrF zCY,trivial⟩
  ·rw [if_neg hL0]at hb
   subst hb;have hL0':¬(L.length:Int)>0:=by omega
   repeat (first
    |refine vB [] ?_
    | (refine rG 8 ?_
       refine xE3 ?_
       first|refine zG (aP (k:=k) zA) ?_|refine zI (zH (k:=k) zA) ?_
       first|refine zY zA (hcL) rfl rfl rfl rfl rfl oM ?_|refine zAp zA rfl rfl rfl rfl rfl rfl rfl oM oM (hcL) ?_
       refine xE2 ?_;refine aB ?_))
   refine⟨rfl,Wk.mk [(3,some 3),(6,some 6),(20,some 20)] rfl rfl rfl ?_ ?_⟩
   ·exact zB
   ·exact⟨hSm,hSm,hrF zCY,trivial⟩
 obtain⟨T,hT⟩:∃T,L.take m=T:=⟨_,rfl⟩
 have lT:T.length≤2:=by rw[←hT,List.length_take];omega
 rw[hT]at e1⊢
 repeat (first
  |refine vB [5] ?_
  |(refine AWp.draw (id:=10) zK ?_;refine xE4 ?_;refine zFd zA rfl rfl rfl rfl rfl rfl rfl rfl rfl rfl ((Nat.zero_add T.length).symm) (zQq _ T) oM oM ?_;refine xE3 ?_;(first|refine zG (aP (k:=k) zA) ?_|refine zI (zH (k:=k) zA) ?_);refine xE3 ?_;refine xA ?_;refine vA ?_;refine aB ⟨by kernel_rfl,?_⟩))
 refine⟨k+1,by omega,?_,by omega⟩
 rw[e1];refine Wk.mk [(3,some 3),(20,some 72)] rfl rfl rfl ?_ ?_
 ·exact zB
 ·exact⟨hSm,HeapOk.row rfl rfl List.length_append (zBh (c:=hgC) (z:=hgZ) out ⟨b,T,q.O.getD k bgZ⟩ zCY rfl),trivial⟩
structure Cs where
 P:List (List Int)
 Hs:List (List Int)
 st:List Int
 o0:Int
 o1:Int
 o2:Int
 l0:Int
 l1:Int
abbrev csC(c:Cs):List CV:= [lsL c.P,lsL c.Hs,lsI c.st,iC c.o0,iC c.o1,iC c.o2,iC c.l0,iC c.l1]
def zEq(q:Pb):Pb:=⟨q.R,q.C.take (min q.C.length 2),q.F,q.O.take (min q.C.length 2),q.T⟩
theorem zQY(c:Cs)(hP:LlOk c.P)(hHs:LlOk c.Hs):ACalls Tryz.prog 6 [.ag (csC c)] (.tu [.ag (pbC (zEq (zCH c.P))),.c (lsH (zDQ (zCH c.Hs)))]):=by
 have hM:=zKK c.P hP;have hH:=zOP c.Hs hHs
 obtain⟨sm,-⟩:=zG9 c.P
 generalize zCH c.P=q at *;generalize zDQ (zCH c.Hs)=H at *;have hf:=sm.fit;have lO:=hf.o;have lC:=hf.c
 obtain⟨m,hm⟩:∃m,m=min q.C.length 2:=⟨_,rfl⟩
 have hm':min (q.C.length:Int) 2=(m:Int):=by omega
 have hmC:m≤q.C.length:=by omega
 have hmO:m≤q.O.length:=by omega
 unfold zEq;rw[←hm];refine zJ Tryz.func6 rfl rfl Tryz.ntmps6 rfl ?_
 repeat (first
  |refine vB [0,2] ?_
  | (refine rG 1 ?_
     refine xE2 ?_;refine xB Tryz.func20 hM ?_;refine xE2 ?_;refine aB ?_)
  |(refine AWp.draw (id:=3) zK ?_;refine xE3 ?_;refine AList.cut (l:=0) (h:=m) zA rfl rfl rfl rfl rfl rfl rfl rfl ⟨_,_,rfl,by first|rfl|omega⟩ xD xD ?_;refine xE3 ?_;refine AList.cut (l:=0) (h:=m) zA rfl rfl rfl rfl rfl rfl rfl rfl ⟨_,_,rfl,by first|rfl|omega⟩ xD xD ?_;refine xE4 ?_;refine aB ⟨by kernel_rfl,?_⟩))
 refine AWp.weak (S':=zC 27 [(1,.c (.pt 1 8 0 0)),(2,.c (.pt 2 5 0 0)),(4,.c (.pt 4 5 0 0))] [(1,⟨false,1,8,27,lF (csC c)⟩),(2,⟨false,1,5,34,lF [nl8,nl8,nl8,nl8,nl8]⟩),(4,zES ⟨q.R,q.C.take m,q.F,q.O.take m,q.T⟩)] [1,2,4]) (Wk.mk [(1,some 1),(2,some 2),(4,some 4)] rfl rfl rfl ?_ ?_) ?_
 ·exact zB
 ·exact⟨hSm,hSm,HeapOk.box rfl rfl ⟨LeC.refl _ rfl,zCO (by rw[List.length_take];omega) (fun i hi j hj=>by show lsB (q.C.getD (0+i) [])=lsB ((q.C.take m).getD i []);rw[Nat.zero_add,List.getD_eq_getElem?_getD,List.getD_eq_getElem?_getD,List.getElem?_take_of_lt xD]),LeC.refl _ rfl,zCO (by rw[List.length_take];omega) (fun i hi j hj=>by show zS bgC bgZ q.O (0+i) j=_;rw[Nat.zero_add];exact zJx (sz:=4) q.O m i xD j hj),LeC.refl _ rfl,trivial⟩ rfl,trivial⟩
 repeat (first
  |refine vB [] ?_
  |(refine AWp.draw (id:=4) zK ?_;refine xE3 ?_;refine xB Tryz.func21 hH ?_;refine xE2 ?_;refine aB ⟨by kernel_rfl,?_⟩))
 refine⟨zC 27 [(2,.c (.pt 2 5 0 0)),(3,.c (lsH H))] [(2,zES ⟨q.R,q.C.take m,q.F,q.O.take m,q.T⟩)] [2],[(2,zES ⟨q.R,q.C.take m,q.F,q.O.take m,q.T⟩)],Wk.mk [(2,some 2)] rfl rfl rfl ?_ ?_,rfl,rfl,ARets.two (x:=.ag _) (y:=.c _) (ARes.box zA rfl rfl rfl rfl rfl rfl rfl) (ARes.tmp rfl rfl)⟩
 ·exact zB
 ·exact⟨hSm,trivial⟩
def zBp(x r:Nat):List Int:=(List.range' x r).map Int.ofNat
theorem zJU(x r:Nat):(zBp x r).length=r:=by
 unfold zBp;rw[List.length_map,List.length_range']
theorem zGR{x r k:Nat}(h:k<r):fI (zBp x r) k=((x+k:Nat):Int):=by
 show(zBp x r).getD k 0=_
 unfold zBp;rw[List.getD_eq_getElem?_getD,List.getElem?_map,List.getElem?_range' h,Nat.one_mul]
 rfl
theorem zL6{l m:List Int}{k:Nat}(h:k<l.length):fI (l++m) k=fI l k:=by
 show(l++m).getD k 0=l.getD k 0
 rw[List.getD_eq_getElem?_getD,List.getD_eq_getElem?_getD,List.getElem?_append_left h]
theorem zIK{l m:List Int}{k:Nat}:fI (l++m) (l.length+k)=fI m k:=by
 show(l++m).getD _ 0=m.getD k 0
 rw[List.getD_eq_getElem?_getD,List.getD_eq_getElem?_getD,List.getElem?_append_right xD,Nat.add_sub_cancel_left]
def Nx(n:Nat)(a b:List Int):Prop:=∃(l:List Int) (y r:Nat),a=l++(y:Int)::zBp (n-r) r∧b=l++zBp (y+1) (r+1)∧y+r+1<n
inductive Ch30(n:Nat):List (List Int)→List Int→List Int→Prop
 |one (a:List Int):Ch30 n [a] a a
 |cons {a b z:List Int} {L:List (List Int)} (h:Nx n a b) (t:Ch30 n L b z):Ch30 n (a::L) a z
theorem Ch30.app{n:Nat}{L M:List (List Int)}{a y b z:List Int}(h:Ch30 n L a y)(hn:Nx n y b)(t:Ch30 n M b z):Ch30 n (L++M) a z:=by
 induction h with
 |one a=>exact .cons hn t
 |cons h _ ih=>exact .cons h (ih hn)
theorem zP2{n:Nat}:∀(r:Nat) (l:List Int) (x:Nat),n<x+(r+1)→zAN n (r+1) l x= []:=fun r=>by
 induction r with
 | zero=>
   intro l x h;show zBG (zAN n 0) l (n-x) x= [];rw[show n-x=0 by omega]
   rfl
 | succ r ih=>
   intro l x h;show zBG (zAN n (r+1)) l (n-x) x= [];have key:∀m y,n<y+(r+2)→zBG (zAN n (r+1)) l m y= []:=fun m=>by
    induction m with
    |zero=>exact fun _ _=>rfl
    | succ m ihm=>
      intro y hy;show zAN n (r+1) (l++ [(y:Int)]) (y+1)++zBG (zAN n (r+1)) l m (y+1)= [];rw[ih _ _ xD,ihm _ xD]
      rfl
   exact key _ _ h
theorem zP1{n r:Nat}{l:List Int}:∀{m x:Nat},x+m≤n→n<x+(r+1)→zBG (zAN n r) l m x= []:=fun {m}=>by
 induction m with
 |zero=>exact fun _ _=>rfl
 | succ m ih=>
   intro x hm hx;show zAN n r (l++ [(x:Int)]) (x+1)++zBG (zAN n r) l m (x+1)= []
   obtain⟨q,rfl⟩:∃q,r=q+1:=⟨r-1,by omega⟩
   rw[zP2 q _ _ xD,ih xD xD]
   rfl
theorem zLR{n:Nat}:∀(r:Nat) (l:List Int) (x:Nat),x+r≤n→Ch30 n (zAN n r l x) (l++zBp x r) (l++zBp (n-r) r)
 | 0,l,x,_=>by
   have e:∀y,l++zBp y 0=l:=fun y=>List.append_nil l
   rw[e,e];exact .one l
 | r + 1,l,x,hx=>by
   have key:∀m x,x+m=n→x+(r+1)≤n→Ch30 n (zBG (zAN n r) l m x) (l++zBp x (r+1)) (l++zBp (n-(r+1)) (r+1)):=fun m=>by
    induction m with
    |zero=>intro x h1 h2;omega
    | succ m ih=>
      intro x h1 h2;show Ch30 n (zAN n r (l++ [(x:Int)]) (x+1)++zBG (zAN n r) l m (x+1)) _ _;have h:=zLR (n:=n) r (l++ [(x:Int)]) (x+1) xD;rw[List.append_assoc,List.append_assoc]at h;by_cases hx1:x+1+(r+1)≤n
      ·exact h.app ⟨l,x,r,rfl,rfl,by omega⟩ (ih (x+1) xD hx1)
      ·rw[zP1 xD xD,List.append_nil,show n-(r+1)=x by omega]
       rw[show n-r=x+1 by omega]at h;exact h
   exact key (n-x) x xD hx
theorem zNN{n K:Nat}(h:K≤n):Ch30 n (zBz n K) (zBp 0 K) (zBp (n-K) K):=zLR K [] 0 xD
def upF(m y t:Nat)(a:List Int)(i:Nat):Int:=if i<m then fI a i else if i≤m+t then ((y+1+(i-m):Nat):Int)else fI a i
theorem zQg{y:Int}{m:List Int}{k:Nat}:fI (y::m) (k+1)=fI m k:=rfl
theorem zMY{n:Nat}{a b:List Int}(h:Nx n a b):∃m y r:Nat,a.length=m+(r+1)∧b.length=a.length∧fI a m=(y:Int)∧y+r+1<n∧(∀j,j<r→fI a (m+r-j)=(n:Int)-1-j)∧∀i,i<a.length→fI b i=upF m y r a i:=by
 obtain⟨l,y,r,rfl,rfl,hy⟩:=h
 have la:(l++(y:Int)::zBp (n-r) r).length=l.length+(r+1):=by rw[List.length_append,List.length_cons,zJU]
 refine⟨l.length,y,r,la,by rw[la,List.length_append,zJU],?_,hy,fun j hj=> ?_,fun i hi=> ?_⟩
 ·have:=zIK (l:=l) (m:=(y:Int)::zBp (n-r) r) (k:=0)
  rw[Nat.add_zero]at this;rw[this]
  rfl
 ·rw[show l.length+r-j=l.length+((r-1-j)+1) by omega,zIK,zQg,zGR xD]
  omega
 ·rw[la]at hi
  unfold upF;by_cases h1:i<l.length
  ·rw[if_pos h1,zL6 h1,zL6 h1]
  ·obtain⟨k,rfl⟩:∃k,i=l.length+k:=⟨i-l.length,by omega⟩
   rw[if_neg h1,if_pos xD,zIK,zGR xD,Nat.add_sub_cancel_left]
theorem zSC{n K:Nat}(h:K≤n):∀j,j<K→fI (zBp (n-K) K) (K-1-j)=(n:Int)-1-j:=fun j hj=>by
 rw[zGR xD]
 omega
theorem zLy{n:Nat}{L:List (List Int)}{a z:List Int}(h:Ch30 n L a z):∃T,L=a::T:=by cases h<;>exact⟨_,rfl⟩
theorem zPT{n:Nat}{T:List (List Int)}{a z:List Int}(h:Ch30 n (a::T) a z):(T= []∧a=z)∨∃b,Nx n a b∧Ch30 n T b z:=by
 cases h with
 |one=>exact .inl ⟨rfl,rfl⟩
 |cons h t=>exact .inr ⟨_,h,t⟩
theorem zPU{n:Nat}{L:List (List Int)}{a z:List Int}(h:Ch30 n L a z):a.length=z.length:=by
 induction h with
 |one=>rfl
 | cons h _ ih=>
   obtain⟨m,y,r,h1,h2,-⟩:=zMY h
   omega
theorem zSG{m y:Nat}{a:List Int}(i:Nat):upF m y 0 a i=if i=m then (y:Int)+1 else fI a i:=by
 unfold upF;by_cases h:i=m
 ·rw[if_neg xD,if_pos xD,if_pos h]
  omega
 ·rw[if_neg h]
  by_cases h1:i<m
  ·rw[if_pos h1]
  ·rw[if_neg h1,if_neg xD]
theorem zSK{m y t:Nat}{a:List Int}(i:Nat):upF m y (t+1) a i=if i=m+t+1 then ((y+1+t:Nat):Int)+1 else upF m y t a i:=by
 unfold upF;by_cases h:i=m+t+1
 ·rw[if_neg xD,if_pos xD,if_pos h]
  omega
 ·rw[if_neg h]
  by_cases h1:i<m
  ·rw[if_pos h1,if_pos h1]
  ·rw[if_neg h1,if_neg h1]
   by_cases h2:i≤m+t
   ·rw[if_pos h2,if_pos xD]
   ·rw[if_neg h2,if_neg xD]
theorem zSJ{m y t:Nat}{a:List Int}:upF m y t a (m+t)=((y+1+t:Nat):Int):=by
 unfold upF;rw[if_neg xD,if_pos xD,Nat.add_sub_cancel_left]
def zDl(n:Nat):Nat→Nat→List (List Int)
 |_,0=> []
 |K,d+1=>zBz n K++zDl n (K+1) d
theorem zN3(n:Nat):∀d K,zBA n (K+d)=zBA n K++zDl n K d
 |0,K=>(List.append_nil _).symm
 | d+1,K=>by
   rw[show K+(d+1)=(K+1)+d by omega,zN3 n d (K+1)]
   show(zBA n K++zBz n K)++zDl n (K+1) d=zBA n K++(zBz n K++zDl n (K+1) d)
   rw[List.append_assoc]
theorem zR4(n:Int):ACalls Tryz.prog 28 [.c (iC n)] (.c (.fn 57 1 fun i=> [pl1 (iC n)].getD i .any)):=by
 refine zJ Tryz.func28 rfl rfl Tryz.ntmps28 rfl ?_
 repeat (first
  |refine vB [0] ?_
  | (refine rG 1 ?_
     refine qr5 zEH ?_;refine vA ?_;refine aB ?_))
 refine⟨zC 4 [(2,.c (.fn 57 1 fun i=> [pl1 (iC n)].getD i .any))] [] [],[],Wk.mk [] rfl rfl rfl ⟨⟨_,rfl,.c (LeC.fn _ _ _ _ (fun i hi=> ?_) (fun i hi=> ?_))⟩,trivial⟩ trivial,rfl,rfl,ARets.one (x:=.c _) (ARes.fn rfl fun i hi=> ?_)⟩
 all_goals
  have hi1:i<1:=hi;obtain rfl:i=0:=by omega
 ·exact⟨trivial,trivial⟩
 ·exact zCp rfl rfl rfl rfl
 ·rfl
abbrev zBg:List CV:= [.p (.slice none 0 0),.p (.slice none 0 0),.p (.slice none 0 0)]
abbrev bxP(c:List CV):AB:=⟨false,1,3,41,lF c⟩
abbrev zAQ(e:Int):AB:=⟨false,1,1,42,lF [iC e]⟩
def zA1(c:List CV)(e:Int)(b:Bool):List AB:= [bxP (bif b then c else zBg),zAQ (bif b then e else 60)]
def laR:List Int→List AB
 | []=> []
 |x::l=> [zAc (x::l).length (fI (x::l))]
def laY:List Int→V1
 | []=>.c (lsI [])
 |_::_=>.c (.ow 1002)
def zA8(all:List (List Int))(N:Nat)(stop:Bool)(c:List CV)(e:Int):RM where
 nb:=2
 ys:=fun i=> [laY (all.getD i [])]
 hB:=fun _=> [bxP zBg,zAQ 60]
 hE:=fun i=>zA1 c e (stop && Nat.beq i N)
 mv:=fun _=> []
 la:=fun i=>laR (all.getD i [])
abbrev zEs(c:List CV):Prop:=∀j,j<3→zM (c.getD j .any)=true
theorem zFP{c:List CV}(hc:zEs c)(b:Bool):zEs (bif b then c else zBg):=by
 cases b with
 |true=>exact hc
 | false=>
   intro j hj
   match j,hj with
   |0,_|1,_|2,_=>rfl
theorem zHe{S:St}{ids mids l:List Nat}{bs:List AB}(h0:S.h 1000=some (bxP zBg))(h1:S.h 1001=some (zAQ 60))(h:zBm S ids mids l bs):zBm S ids mids (1000::1001::l) (bxP zBg::zAQ 60::bs):=
 ⟨⟨_,h0,(fun h=>by cases h),fun k hk j hj=>by
   obtain rfl:k=0:=Nat.lt_one_iff.mp hk
   match j,hj with
   |0,_|1,_|2,_=>exact .b (.imm _ rfl)⟩,⟨_,h1,(fun h=>by cases h),fun k hk j hj=>by
   obtain rfl:k=0:=Nat.lt_one_iff.mp hk;obtain rfl:j=0:=Nat.lt_one_iff.mp hj;exact .b (.imm _ rfl)⟩,h⟩
theorem zNz{S:St}{ids mids:List Nat}{o n:Nat}{F:Nat→Int}(h:S.h o=some (zAc n F))(hn:0<n):zBm S ids mids [o] [zAc n F]:=⟨⟨_,h,fun _=>hn,fun _ _ _ _=>.b (.imm _ rfl)⟩,trivial⟩
theorem zFF{ids ni:List Nat}{c:List CV}{e:Int}{b:Bool}{l m:List AB}(hc:zEs c)(h:zBq ids ni l m):zBq ids ni (zA1 c e b++l) (zA1 c e b++m):=
 ⟨⟨_,rfl,fun k hk j hj=>by
   obtain rfl:k=0:=Nat.lt_one_iff.mp hk;exact .b (.imm _ (zFP hc b j hj))⟩,⟨_,rfl,fun k hk j hj=>by
   obtain rfl:k=0:=Nat.lt_one_iff.mp hk;obtain rfl:j=0:=Nat.lt_one_iff.mp hj;exact .b (.imm _ rfl)⟩,h⟩
theorem zA3{S:St}{ren:List (Nat×Option Nat)}{c:List CV}{e:Int}{rest:List (Nat×AB)}(hc:zEs c)(h0:S.h 1000=some (bxP c))(h1:S.h 1001=some (zAQ e))(h:zEe S ren rest):zEe S ren ((1000,bxP c)::(1001,zAQ e)::rest):=
 ⟨.inr ⟨1000,1,_,.inr ⟨Nat.le_refl _,rfl⟩,rfl,h0,fun k hk j hj=>by
   obtain rfl:k=0:=Nat.lt_one_iff.mp hk;exact LeC.refl _ (hc j hj)⟩,zAe rfl h1 ⟨LeC.refl _ rfl,trivial⟩ rfl,h⟩
theorem zBf:zEs zBg:=zFP (c:=zBg) (fun j hj=>by match j,hj with|0,_|1,_|2,_=>rfl) false
theorem zSH{m y t:Nat}{a:List Int}:∀i j,j<1→zAw (iF (upF m y t a)) (m+t+1) 0 1 [iC (((y+1+t:Nat):Int)+1)] i j=iF (upF m y (t+1) a) i j:=fun i j hj=>by
 obtain rfl:j=0:=Nat.lt_one_iff.mp hj;rw[zGa];show _=iC (upF m y (t+1) a i);rw[zSK];by_cases h:i=m+t+1
 ·subst h;rw[if_pos ⟨rfl,rfl⟩,if_pos rfl]
 ·rw[if_neg (fun q=>h q.1),if_neg h]
theorem zSI{m y:Nat}{a:List Int}:∀i j,j<1→zAw (iF (fI a)) m 0 1 [iC ((y:Int)+1)] i j=iF (upF m y 0 a) i j:=fun i j hj=>by
 obtain rfl:j=0:=Nat.lt_one_iff.mp hj;rw[zGa];show _=iC (upF m y 0 a i);rw[zSG];by_cases h:i=m
 ·subst h;rw[if_pos ⟨rfl,rfl⟩,if_pos rfl]
 ·rw[if_neg (fun q=>h q.1),if_neg h]
theorem zMn{N g:Nat}{stop:Bool}(h:zAs N stop g=false):stop=true∧N=g+1:=by
 unfold zAs at h;rw[Bool.not_eq_false',Bool.and_eq_true]at h
 exact⟨h.1,(Nat.eq_of_beq_eq_true h.2).symm⟩
theorem zIY{N g:Nat}{stop:Bool}(h:zAs N stop g=true)(hs:stop=true):N≠g+1:=fun e=>by
 unfold zAs at h;rw[hs,e,Nat.beq_refl]at h
 cases h
theorem zR3(all:List (List Int))(n N:Nat)(stop:Bool)(c:List CV)(e:Int)(hc:zEs c)(hn:n≤1000)(hall:all=zBA n (n+1))(h0:stop=true→0<N)(h1:stop=false→N=all.length):
 zHV Tryz.prog 57 [.c (pl1 (iC (n:Nat)))] (zA8 all N stop c e) all.length N stop:=by
 refine zQO Tryz.func57 rfl rfl Tryz.ntmps57 rfl (fun _ _=>by show 0≤100;omega) (fun _ _=>rfl) fun lp hN1 hN2=> ?_
 clear h0;have hallR:all.drop 0=zDl n 0 (n+1):=by
  have:=zN3 n (n+1) 0;rw[Nat.zero_add]at this;rw[hall,this]
  rfl
 clear hall;refine vB [0] ?_;refine AWp.round (fun s:Nat×Nat=>(fun K g:Nat=>
  mkG (itM Tryz.prog lp (zA8 all N stop c e) N stop) (g) false 70 2 [(0,.c (.p (yv lp))),(1,.c (pl1 (iC (n:Nat)))),(8,.c (iC ((n:Int)+1))),(9,.c (iC (K:Nat)))]
  [(1000,bxP zBg),(1001,zAQ 60)] []) s.1 s.2) (fun s=>(s.1≤n+1∧s.2≤all.length)∧all.drop s.2=zDl n s.1 (n+1-s.1)∧(stop=true→s.2<N)) (fun s=>n+1-s.1) (0,0) ⟨⟨Nat.zero_le _,Nat.zero_le _⟩,hallR,fun h=>(hN1 h).1⟩ ?_ (fun s hs=> ?_)
 ·refine Wk.mkG [] rfl rfl rfl rfl rfl ?_ ?_
  ·exact zB
  ·exact zA3 zBf rfl rfl trivial
 obtain⟨K,g⟩:=s
 obtain⟨⟨hK,hga⟩,hdr,hgs⟩:=hs
 dsimp only at hK hga hdr hgs⊢;clear hallR;by_cases hKn:K<n+1;rotate_left
 ·have hKn':¬(K:Int)<(n:Int)+1:=by omega
  rw[show n+1-K=0 by omega]at hdr;have hge:g=all.length:=by
   have:=List.drop_eq_nil_iff.1 (show all.drop g= []from hdr)
   omega
  have hst:stop=false:=by
   cases hs:stop with
   |false=>rfl
   |true=>have:=hgs hs;have:=(hN1 hs).2;omega
  obtain rfl:N=g:=by rw[hN2 hst,hge]
  subst hst;refine vB [1] ?_
  refine⟨⟨rfl,rfl⟩,mkG (itM Tryz.prog lp (zA8 all N false c e) N false) N false 70 2 [] (zAy [] (zA1 c e false)) [],[],Wk.mkG [] rfl rfl rfl rfl rfl trivial ?_,rfl,rfl⟩
  exact zA3 (zFP hc _) rfl rfl trivial
 have hKn':(K:Int)<(n:Int)+1:=by omega
 have hgN':g<all.length→g<N:=fun h=>by
  cases hs:stop with
  |true=>exact hgs hs
  |false=>rw[hN2 hs];exact h
 have hd1:all.drop g=zBz n K++zDl n (K+1) (n-K):=by rw[hdr,show n+1-K=(n-K)+1 by omega];rfl
 by_cases hK0:K=0
 ·obtain⟨hgl,hag,hdg⟩:=zL3 (show all.drop g= []::zDl n (K+1) (n-K) by rw[hd1,hK0];rfl)
  have hgN:=hgN' hgl;have hla:(zA8 all N stop c e).la g= []:=by show laR (all.getD g [])=_;rw[hag];rfl
  have hys:(zA8 all N stop c e).ys g= [.c (lsI [])]:=by show [laY (all.getD g [])]=_;rw[hag];rfl
  obtain⟨b,hb⟩:∃b,zAs N stop g=b:=⟨_,rfl⟩
  have hE:(zA8 all N stop c e).hE (g+1)=zA1 c e (!b):=by show zA1 c e (stop && Nat.beq (g+1) N)=_;rw[←hb];unfold zAs;rw[Bool.not_not]
  repeat (first
   |refine vB [1,2] ?_
   | (refine rG 3 ?_
      refine vA ?_;refine zC5 (zCN (n:=K) zA) ?_;refine vA ?_;refine aB ?_))
  refine AWp.weak (S':=
   mkG (itM Tryz.prog lp (zA8 all N stop c e) N stop) (g) false 70 2 [(0,.c (.p (yv lp))),(1,.c (pl1 (iC (n:Nat)))),(8,.c (iC ((n:Int)+1))),(9,.c (iC (K:Nat))),(3,.c (iC (K:Nat))),(4,.c (lsI []))]
   [(1000,bxP zBg),(1001,zAQ 60)] []) (Wk.mkG [] rfl rfl rfl rfl rfl ?_ ?_) ?_
  ·repeat (first|exact trivial|refine⟨⟨_,rfl,by first|exact LeA.c (zZ rfl rfl hK0.symm (fun i hi=>absurd hi xD))|exact leT⟩,?_⟩)
  ·exact zA3 zBf rfl rfl trivial
  refine vB [4] ?_;refine AWp.round (fun _:Nat=>
   mkG (itM Tryz.prog lp (zA8 all N stop c e) N stop) (g) false 70 2 [(0,.c (.p (yv lp))),(1,.c (pl1 (iC (n:Nat)))),(8,.c (iC ((n:Int)+1))),(9,.c (iC (K:Nat))),(3,.c (iC (K:Nat))),(4,.c (lsI [])),(15,.c (iC 0)),(16,.c (iC 0))]
   [(1000,bxP zBg),(1001,zAQ 60)] []) (fun _=>True) (fun _=>0) 0 trivial ?_ (fun _ _=> ?_)
  ·refine Wk.mkG [] rfl rfl rfl rfl rfl ?_ ?_
   ·exact zB
   ·exact zA3 zBf rfl rfl trivial
  refine vB [5] ?_;refine AWp.round (fun _:Nat=>
   mkG (itM Tryz.prog lp (zA8 all N stop c e) N stop) (g) false 70 2 [(0,.c (.p (yv lp))),(1,.c (pl1 (iC (n:Nat)))),(8,.c (iC ((n:Int)+1))),(9,.c (iC (K:Nat))),(3,.c (iC (K:Nat))),(4,.c (lsI []))]
   [(1000,bxP zBg),(1001,zAQ 60)] []) (fun _=>True) (fun _=>0) 0 trivial ?_ (fun _ _=> ?_)
  ·refine Wk.mkG [] rfl rfl rfl rfl rfl ?_ ?_
   ·exact zB
   ·exact zA3 zBf rfl rfl trivial
  cases b with
  | false=>
    obtain⟨rfl,rfl⟩:=zMn hb
    refine vB [] ?_;refine AWp.text ?_;refine AText.split 2 ?_;refine xE2 ?_;refine aB ?_;refine AText.yieldM (i:=g) false [1000,1001] [] [] (zA1 c e (!false)++ []) [] rfl rfl rfl rfl (fun _ h=>h) rfl rfl hgN hb (by show ∀k,k<2→_;decide) (by rw[hla];exact zHe rfl rfl trivial) trivial (by rw[hla];rfl) (by rw[hys];exact⟨.c (.b (.imm _ rfl)),trivial⟩) (by rw[hE,hla];exact zFF hc (l:= []) (m:= []) trivial) trivial ?_
    refine AText.all ?_;refine vA ?_;refine aB ?_;refine vB [] ?_
    refine⟨⟨rfl,rfl⟩,mkG (itM Tryz.prog lp (zA8 all (g+1) true c e) (g+1) true) (g+1) true 70 2 [] (zAy [] (zA1 c e true)) [],[],Wk.mkG [] rfl rfl rfl rfl rfl trivial ?_,by rw[hE];rfl,rfl⟩
    exact zA3 (zFP hc _) rfl rfl trivial
  | true=>
    refine vB [] ?_;refine AWp.text ?_;refine AText.split 2 ?_;refine xE2 ?_;refine aB ?_;refine AText.yieldM (i:=g) true [1000,1001] [] [] (zA1 c e (!true)++ []) [] rfl rfl rfl rfl (fun _ h=>h) rfl rfl hgN hb (by show ∀k,k<2→_;decide) (by rw[hla];exact zHe rfl rfl trivial) trivial (by rw[hla];rfl) (by rw[hys];exact⟨.c (.b (.imm _ rfl)),trivial⟩) (by rw[hE,hla];exact zFF hc (l:= []) (m:= []) trivial) trivial ?_
    refine AText.all ?_;refine vA ?_;refine aB ?_;refine vB [10] ?_;refine AWp.round (fun _:Nat=>
     mkG (itM Tryz.prog lp (zA8 all N stop c e) N stop) (g+1) false 70 2 [(0,.c (.p (yv lp))),(1,.c (pl1 (iC (n:Nat)))),(8,.c (iC ((n:Int)+1))),(9,.c (iC (K:Nat))),(3,.c (iC (K:Nat))),(4,.c (lsI [])),(6,.c (iC (-1)))]
     [(1000,bxP zBg),(1001,zAQ 60)] []) (fun _=>True) (fun _=>0) 0 trivial ?_ (fun _ _=> ?_)
    ·refine Wk.mkG [] rfl rfl rfl rfl rfl ?_ ?_
     ·exact zB
     ·exact zA3 zBf rfl rfl trivial
    refine vB [11,13,18] ?_
    refine⟨(K+1,g+1),?_,Wk.mkG [] rfl rfl rfl rfl rfl ?_ ?_,by dsimp only;omega⟩
    ·exact⟨⟨by dsimp only;omega,by dsimp only;omega⟩,by dsimp only;rw[show n+1-(K+1)=n-K by omega];exact hdg,fun h=>by have:=zIY hb h;dsimp only;omega⟩
    ·exact zB
    ·exact zA3 zBf rfl rfl trivial
 have hch:=zNN (show K≤n by omega)
 repeat (first
  |refine vB [1,2,4] ?_
  | (refine rG 3 ?_
     refine vA ?_;refine zC5 (zCN (n:=K) zA) ?_;refine vA ?_;refine aB ?_))
 refine AWp.round (fun j:Nat=>
  mkG (itM Tryz.prog lp (zA8 all N stop c e) N stop) (g) false 70 2 [(0,.c (.p (yv lp))),(1,.c (pl1 (iC (n:Nat)))),(8,.c (iC ((n:Int)+1))),(9,.c (iC (K:Nat))),(3,.c (iC (K:Nat))),(4,.c (.ow 20)),(15,.c (iC (K:Nat))),(16,.c (iC (j:Nat)))]
  [(20,zAc K (zCG j)),(1000,bxP zBg),(1001,zAQ 60)] [20]
  ) (fun j=>j≤K) (fun j=>K-j) 0 (Nat.zero_le _) ?_ (fun j hj=> ?_)
 ·refine Wk.mkG [(20,some 13)] rfl rfl rfl rfl rfl ?_ ?_
  ·exact zB
  ·exact⟨HeapOk.row rfl rfl rfl (fun i hi q hq=>by obtain rfl:q=0:=Nat.lt_one_iff.mp hq;exact⟨rfl,rfl⟩),zA3 zBf rfl rfl trivial⟩
 by_cases hjl:j<K
 ·have hjl':(j:Int)<(K:Int):=by omega
  repeat (first
   |refine vB [5,6,8] ?_
   | (refine rG 7 ?_
      refine xE3 ?_
      first|refine zG (aP (k:=j) zA) ?_|refine zI (zH (k:=j) zA) ?_
      refine vA ?_;refine aB ?_))
  refine⟨j+1,hjl,Wk.mkG [(20,some 20)] rfl rfl rfl rfl rfl ?_ ?_,by omega⟩
  ·exact zB
  ·exact⟨HeapOk.row rfl rfl rfl (fun i hi q hq=>by have e:=zMs j i q hq;exact⟨e,by rw[e];rfl⟩),zA3 zBf rfl rfl trivial⟩
 have hjl':¬(j:Int)<(K:Int):=by omega
 obtain rfl:K=j:=by omega
 refine vB [5] ?_;clear hdr hjl hjl' hj;refine AWp.round (fun s:List (List Int)×List Int×Nat=>(fun (a:List Int) (g:Nat)=>
  mkG (itM Tryz.prog lp (zA8 all N stop c e) N stop) (g) false 70 2 [(0,.c (.p (yv lp))),(1,.c (pl1 (iC (n:Nat)))),(8,.c (iC ((n:Int)+1))),(9,.c (iC (K:Nat))),(3,.c (iC (K:Nat))),(4,.c (.ow 20))]
  [(20,zAc K (fI a)),(1000,bxP zBg),(1001,zAQ 60)] [20]
  ) s.2.1 s.2.2) (fun s=>Ch30 n s.1 s.2.1 (zBp (n-K) K)∧all.drop s.2.2=s.1++zDl n (K+1) (n-K)∧s.2.2≤all.length∧(stop=true→s.2.2<N)) (fun s=>s.1.length) (zBz n K,zBp 0 K,g) ⟨hch,hd1,hga,hgs⟩ ?_ (fun s hs=> ?_)
 ·refine Wk.mkG [(20,some 20)] rfl rfl rfl rfl rfl ?_ ?_
  ·exact zB
  ·exact⟨HeapOk.row rfl rfl rfl (fun i hi q hq=>⟨by obtain rfl:q=0:=Nat.lt_one_iff.mp hq;show iC (zCG K i)=iC (fI (zBp 0 K) i);rw[zGR hi];unfold zCG;rw[if_pos hi,Nat.zero_add],rfl⟩),zA3 zBf rfl rfl trivial⟩
 clear hch hd1 hga hgs hgN'
 obtain⟨L,a,g⟩:=s
 obtain⟨hch,hdr,hga,hgs⟩:=hs
 dsimp only at hch hdr hga hgs⊢
 obtain⟨T,rfl⟩:=zLy hch
 have haK:a.length=K:=by rw[zPU hch,zJU]
 obtain⟨hgl,hag,hdg⟩:=zL3 (show all.drop g=a::(T++zDl n (K+1) (n-K))from hdr)
 have hgN:g<N:=by
  cases hs:stop with
  |true=>exact hgs hs
  |false=>rw[hN2 hs];exact hgl
 have hla:(zA8 all N stop c e).la g= [zAc K (fI a)]:=by
  show laR (all.getD g [])=_;rw[hag]
  cases a with
  |nil=>exact absurd haK.symm hK0
  |cons x l=>rw[←haK];rfl
 have hys:(zA8 all N stop c e).ys g= [.c (.ow 1002)]:=by
  show [laY (all.getD g [])]=_;rw[hag]
  cases a with
  |nil=>exact absurd haK.symm hK0
  |cons x l=>rfl
 obtain⟨b,hb⟩:∃b,zAs N stop g=b:=⟨_,rfl⟩
 have hE:(zA8 all N stop c e).hE (g+1)=zA1 c e (!b):=by show zA1 c e (stop && Nat.beq (g+1) N)=_;rw[←hb];unfold zAs;rw[Bool.not_not]
 cases b with
 | false=>
   obtain⟨rfl,rfl⟩:=zMn hb
   refine vB [] ?_;refine AWp.text ?_;refine AText.split 2 ?_;refine xE2 ?_;refine aB ?_;refine AText.yieldM (i:=g) false [1000,1001,20] [] [] (zA1 c e (!false)++ [zAc K (fI a)]) [] rfl rfl rfl rfl (fun _ h=>h) rfl rfl hgN hb (by show ∀k,k<2→_;decide) (by rw[hla];exact zHe rfl rfl (zNz rfl xD)) trivial (by rw[hla];rfl) (by rw[hys];exact⟨.c (.b (.ow 20 2 rfl)),trivial⟩) (by rw[hE,hla];exact zFF hc (zNy fun _ _ _ _=>rfl)) trivial ?_
   refine AText.all ?_;refine vA ?_;refine aB ?_;refine vB [] ?_
   refine⟨⟨rfl,rfl⟩,mkG (itM Tryz.prog lp (zA8 all (g+1) true c e) (g+1) true) (g+1) true 70 2 [] (zAy [] (zA1 c e true)) [],[],Wk.mkG [] rfl rfl rfl rfl rfl trivial ?_,by rw[hE];rfl,rfl⟩
   exact zA3 (zFP hc _) rfl rfl trivial
 | true =>
   refine vB [] ?_;refine AWp.text ?_;refine AText.split 2 ?_;refine xE2 ?_;refine aB ?_;refine AText.yieldM (i:=g) true [1000,1001,20] [] [] (zA1 c e (!true)++ [zAc K (fI a)]) [] rfl rfl rfl rfl (fun _ h=>h) rfl rfl hgN hb (by show ∀k,k<2→_;decide) (by rw[hla];exact zHe rfl rfl (zNz rfl xD)) trivial (by rw[hla];rfl) (by rw[hys];exact⟨.c (.b (.ow 20 2 rfl)),trivial⟩) (by rw[hE,hla];exact zFF hc (zNy fun _ _ _ _=>rfl)) trivial ?_
   refine AText.all ?_;refine vA ?_;refine aB ?_;refine vB [10] ?_
   rcases zPT hch with ⟨rfl,htop⟩|⟨b,hnx,hT⟩
   ·refine AWp.round (fun j:Nat=>
     mkG (itM Tryz.prog lp (zA8 all N stop c e) N stop) (g+1) false 70 2 [(0,.c (.p (yv lp))),(1,.c (pl1 (iC (n:Nat)))),(8,.c (iC ((n:Int)+1))),(9,.c (iC (K:Nat))),(3,.c (iC (K:Nat))),(4,.c (.ow 20)),(6,.c (iC ((K:Int)-1-j)))]
     [(20,zAc K (fI a)),(1000,bxP zBg),(1001,zAQ 60)] [20]
     ) (fun j=>j≤K) (fun j=>K-j) 0 (Nat.zero_le _) ?_ (fun j hj=> ?_)
    ·refine Wk.mkG [(20,some 20)] rfl rfl rfl rfl rfl ?_ ?_
     ·exact zB
     ·exact⟨HeapOk.row rfl rfl rfl (fun i hi q hq=>⟨rfl,rfl⟩),zA3 zBf rfl rfl trivial⟩
    by_cases hjK:j<K
    ·have hcy:iF (fI a) (K-1-j) 0=iC ((n:Int)-1-j):=by show iC (fI a _)=_;rw[htop,zSC xD j hjK]
     have c1:(K:Int)-1-j≥0:=by omega
     obtain⟨v,hv⟩:∃v:Int,v=(n:Int)-1-j:=⟨_,rfl⟩
     have c2:v=(n:Int)-K+((K:Int)-1-j):=by omega
     rw[←hv]at hcy
     repeat (first
      |refine vB [12] ?_
      |(refine AWp.draw (id:=11) zK ?_;refine xE5 ?_;(first|refine qr2 aG ?_|refine zG (aP (k:=K-1-j) zA) ?_|refine zI (zH (k:=K-1-j) zA) ?_);(first|refine qr2 aG ?_|refine zY zA (hcy) rfl rfl rfl rfl rfl oM ?_|refine zAp zA rfl rfl rfl rfl rfl rfl rfl oM oM (hcy) ?_);refine xE7 ?_;refine aB ⟨by kernel_rfl,?_⟩))
     refine⟨j+1,hjK,Wk.mkG [(20,some 20)] rfl rfl rfl rfl rfl ?_ ?_,by omega⟩
     ·exact zB
     ·exact⟨HeapOk.row rfl rfl rfl (fun i hi q hq=>⟨rfl,rfl⟩),zA3 zBf rfl rfl trivial⟩
    ·have c1:¬(K:Int)-1-j≥0:=by omega
     refine vB [11,13,18] ?_
     refine⟨(K+1,g+1),?_,Wk.mkG [] rfl rfl rfl rfl rfl ?_ ?_,by dsimp only;omega⟩
     ·exact⟨⟨by dsimp only;omega,by dsimp only;omega⟩,by dsimp only;rw[show n+1-(K+1)=n-K by omega];exact hdg,fun h=>by have:=zIY hb h;dsimp only;omega⟩
     ·exact zB
     ·exact zA3 zBf rfl rfl trivial
   ·obtain⟨m,y,r,la,lb,hy,hlt,htop,hnb⟩:=zMY hnx
    refine AWp.round (fun j:Nat=>
     mkG (itM Tryz.prog lp (zA8 all N stop c e) N stop) (g+1) false 70 2 [(0,.c (.p (yv lp))),(1,.c (pl1 (iC (n:Nat)))),(8,.c (iC ((n:Int)+1))),(9,.c (iC (K:Nat))),(3,.c (iC (K:Nat))),(4,.c (.ow 20)),(6,.c (iC ((K:Int)-1-j)))]
     [(20,zAc K (fI a)),(1000,bxP zBg),(1001,zAQ 60)] [20]
     ) (fun j=>j≤r) (fun j=>r-j) 0 (Nat.zero_le _) ?_ (fun j hj=> ?_)
    ·refine Wk.mkG [(20,some 20)] rfl rfl rfl rfl rfl ?_ ?_
     ·exact zB
     ·exact⟨HeapOk.row rfl rfl rfl (fun i hi q hq=>⟨rfl,rfl⟩),zA3 zBf rfl rfl trivial⟩
    have c1:(K:Int)-1-j≥0:=by omega
    by_cases hjr:j<r
    ·have hcy:iF (fI a) (m+r-j) 0=iC ((n:Int)-1-j):=by show iC (fI a _)=_;rw[htop j hjr]
     obtain⟨v,hv⟩:∃v:Int,v=(n:Int)-1-j:=⟨_,rfl⟩
     have c2:v=(n:Int)-K+((K:Int)-1-j):=by omega
     rw[←hv]at hcy
     repeat (first
      |refine vB [12] ?_
      |(refine AWp.draw (id:=11) zK ?_;refine xE5 ?_;(first|refine qr2 aG ?_|refine zG (aP (k:=m+r-j) zA) ?_|refine zI (zH (k:=m+r-j) zA) ?_);(first|refine qr2 aG ?_|refine zY zA (hcy) rfl rfl rfl rfl rfl oM ?_|refine zAp zA rfl rfl rfl rfl rfl rfl rfl oM oM (hcy) ?_);refine xE7 ?_;refine aB ⟨by kernel_rfl,?_⟩))
     refine⟨j+1,hjr,Wk.mkG [(20,some 20)] rfl rfl rfl rfl rfl ?_ ?_,by omega⟩
     ·exact zB
     ·exact⟨HeapOk.row rfl rfl rfl (fun i hi q hq=>⟨rfl,rfl⟩),zA3 zBf rfl rfl trivial⟩
    obtain rfl:j=r:=by omega
    have hcy:iF (fI a) m 0=iC (y:Nat):=by show iC (fI a _)=_;rw[hy]
    have c2:¬(y:Int)=(n:Int)-K+((K:Int)-1-j):=by omega
    have c3:¬(K:Int)-1-j<0:=by omega
    repeat (first
     |refine vB [13] ?_
     |(refine AWp.draw (id:=11) zK ?_;refine xE5 ?_;(first|refine qr2 aG ?_|refine zG (aP (k:=m) zA) ?_|refine zI (zH (k:=m) zA) ?_);(first|refine qr2 aG ?_|refine zY zA (hcy) rfl rfl rfl rfl rfl oM ?_|refine zAp zA rfl rfl rfl rfl rfl rfl rfl oM oM (hcy) ?_);refine xE7 ?_;refine aB ⟨by kernel_rfl,?_⟩)
     | (refine rG 14 ?_
        refine xE2 ?_
        first|refine zG (aP (k:=m) zA) ?_|refine zI (zH (k:=m) zA) ?_
        first|refine zY zA (hcy) rfl rfl rfl rfl rfl oM ?_|refine zAp zA rfl rfl rfl rfl rfl rfl rfl oM oM (hcy) ?_
        refine vA ?_
        first|refine zG (aP (k:=m) zA) ?_|refine zI (zH (k:=m) zA) ?_
        refine vA ?_;refine aB ?_))
    refine AWp.round (fun t:Nat=>
     mkG (itM Tryz.prog lp (zA8 all N stop c e) N stop) (g+1) false 70 2 [(0,.c (.p (yv lp))),(1,.c (pl1 (iC (n:Nat)))),(8,.c (iC ((n:Int)+1))),(9,.c (iC (K:Nat))),(3,.c (iC (K:Nat))),(4,.c (.ow 20)),(6,.c (iC ((m+t:Nat):Int)))]
     [(20,zAc K (upF m y t a)),(1000,bxP zBg),(1001,zAQ 60)] [20]
     ) (fun t=>t≤j) (fun t=>j-t) 0 (Nat.zero_le _) ?_ (fun t ht=> ?_)
    ·refine Wk.mkG [(20,some 20)] rfl rfl rfl rfl rfl ?_ ?_
     ·exact zB
     ·exact⟨HeapOk.row rfl rfl rfl (fun i hi q hq=>by have e:=zSI (m:=m) (y:=y) (a:=a) i q hq;exact⟨e,by rw[e];rfl⟩),zA3 zBf rfl rfl trivial⟩
    by_cases htj:t<j
    ·have c4:((m+t:Nat):Int)+1<K:=by omega
     have hcz:iF (upF m y t a) (m+t) 0=iC ((y+1+t:Nat):Int):=by show iC (upF m y t a _)=_;rw[zSJ]
     repeat (first
      |refine vB [15,16] ?_
      | (refine rG 17 ?_
         refine xE5 ?_
         first|refine zG (aP (k:=m+t) zA) ?_|refine zI (zH (k:=m+t) zA) ?_
         first|refine zY zA (hcz) rfl rfl rfl rfl rfl oM ?_|refine zAp zA rfl rfl rfl rfl rfl rfl rfl oM oM (hcz) ?_
         refine vA ?_
         first|refine zG (aP (k:=m+t+1) zA) ?_|refine zI (zH (k:=m+t+1) zA) ?_
         refine vA ?_;refine aB ?_))
     refine⟨t+1,htj,Wk.mkG [(20,some 20)] rfl rfl rfl rfl rfl ?_ ?_,by omega⟩
     ·exact zB
     ·exact⟨HeapOk.row rfl rfl rfl (fun i hi q hq=>by have e:=zSH (m:=m) (y:=y) (t:=t) (a:=a) i q hq;exact⟨e,by rw[e];rfl⟩),zA3 zBf rfl rfl trivial⟩
    obtain rfl:t=j:=by omega
    have c4:¬((m+t:Nat):Int)+1<K:=by omega
    refine vB [15] ?_
    refine⟨(T,b,g+1),⟨hT,hdg,hgl,fun h=>by have:=zIY hb h;dsimp only;omega⟩,Wk.mkG [(20,some 20)] rfl rfl rfl rfl rfl ?_ ?_,by dsimp only;rw[List.length_cons];omega⟩
    ·exact zB
    ·exact⟨HeapOk.row rfl rfl rfl (fun i hi q hq=>⟨by obtain rfl:q=0:=Nat.lt_one_iff.mp hq;show iC (upF m y t a i)=iC (fI b i);rw[hnb i xD],rfl⟩),zA3 zBf rfl rfl trivial⟩
theorem zFL{S:St}{id n:Nat}{F:Nat→Int}(h:S.h id=some (zAc n F)){rd:List Nat}(hid:id∈rd):FzV S rd (.c (.ow id)) (.c (.ls n 1 (iF F))):=.inr ⟨id,n,1,_,_,_,rfl,rfl,hid,h,fun _ _ _ _=>⟨rfl,rfl⟩⟩
theorem zPc(p:Pb)(hp:p.ok)(H:List Hg)(hH:zCB H)(s:List Int)(hs:s.length≤1000000):zCg Tryz.prog 27 [.ag (pbC p),.c (lsH H),.c (.ow 1000)] [zAc s.length (fI s)] (.tu [.ag (pbC (zAd p H s).1),.c (iC (zAd p H s).2)]) [zAc s.length (fI s)] []:=by
 have hC:=zDH p hp
 obtain⟨e,he⟩:∃e,zAr p=e:=⟨_,rfl⟩
 rw[he]at hC;by_cases h0:e=0;rotate_left
 ·rw [show zAd p H s=(pbZ,e) by unfold zAd;rw[he,if_neg h0]]
  refine zBw Tryz.func27 rfl rfl Tryz.ntmps27 rfl ?_
  repeat (first
   |refine vB [0,2,3] ?_
   | (refine rG 1 ?_
      refine vA ?_;refine xB Tryz.func25 hC ?_;refine vA ?_;refine aB ?_))
  refine⟨mkL 92 1 [(6,.c (.pt 6 5 0 0)),(7,.c (iC (e)))] [(6,⟨false,1,5,34,lF (pbC pbZ)⟩),(1000,zAc s.length (fI s))] [6],[(6,⟨false,1,5,34,lF (pbC pbZ)⟩)],_,[zAc s.length (fI s)],[],⟨rfl,rfl,rfl⟩,rfl,zQ [(6,some 6)] rfl rfl rfl rfl rfl ?_ ?_,rfl,rfl,GRets.two (x:=.ag _) (y:=.c _) (GRes.box zA rfl rfl rfl rfl rfl rfl) (GRes.tmp rfl)⟩
  ·repeat (first|exact trivial|refine⟨⟨_,rfl,by first|exact LeA.c (LeC.owB _ rfl)|exact leT⟩,?_⟩)
  ·exact⟨HeapOk.box rfl rfl ⟨LeC.nils _ _,LeC.nils _ _,LeC.nils _ _,LeC.nils _ _,LeC.nils _ _,trivial⟩ rfl,lrw,trivial⟩
 subst h0;have hfit:=zCE hp he;have hbn:=zLC he;have lC:=hfit.c;have lF0:=hfit.f;have lO:=hfit.o;have lT:=hfit.t;have lH:=hH.1;have hI:=zMC H s xD hs
 obtain⟨V,hV⟩:∃V,zAd p H s=V:=⟨_,rfl⟩
 have hwv:(if zA9 H.length s=true then (if zAr (anP p H s)=0 then (anP p H s,(0:Int))else (pbZ,zAr (anP p H s)))else (pbZ,1))=V:=by rw[←hV];unfold zAd;rw[if_pos he]
 rw[hV];generalize zA9 H.length s=b at *
 cases b with
 | false=>
   obtain rfl:(pbZ,(1:Int))=V:=hwv;refine zBw Tryz.func27 rfl rfl Tryz.ntmps27 rfl ?_
   repeat (first
    |refine vB [0,2,5] ?_
    | (refine rG 1 ?_
       refine vA ?_;refine xB Tryz.func25 hC ?_;refine vA ?_;refine aB ?_)
    | (refine rG 4 ?_
       refine xE2 ?_;refine zFe [1000] rfl rfl rfl Tryz.func52 rfl xC (hI) (⟨.inl ⟨rfl,rfl⟩,zFL rfl (by simp),trivial⟩) ?_;refine vA ?_;refine aB ?_))
   refine⟨mkL 92 1 [(6,.c (.pt 6 5 0 0)),(7,.c (iC (1)))] [(6,⟨false,1,5,34,lF (pbC pbZ)⟩),(1000,zAc s.length (fI s))] [6],[(6,⟨false,1,5,34,lF (pbC pbZ)⟩)],_,[zAc s.length (fI s)],[],⟨rfl,rfl,rfl⟩,rfl,zQ [(6,some 6)] rfl rfl rfl rfl rfl ?_ ?_,rfl,rfl,GRets.two (x:=.ag _) (y:=.c _) (GRes.box zA rfl rfl rfl rfl rfl rfl) (GRes.tmp rfl)⟩
   ·repeat (first|exact trivial|refine⟨⟨_,rfl,by first|exact LeA.c (LeC.owB _ rfl)|exact leT⟩,?_⟩)
   ·exact⟨HeapOk.box rfl rfl ⟨LeC.nils _ _,LeC.nils _ _,LeC.nils _ _,LeC.nils _ _,LeC.nils _ _,trivial⟩ rfl,lrw,trivial⟩
 |true=>
 rw[if_pos rfl]at hwv;have hR:=zKA p.R.length (zS rdC rdZ p.R) (fun i _ j _=>zL zAF _ i j) hp.lR;have hF:=zEL p.F hp.lF (fun k hk=>by have:=hbn.1 _ (zAB (L:=p.F) (k:=k) (z:=bpZ) hk);omega)
 have hO:=zKx p.O.length (zS bgC bgZ p.O) (fun i _ j _=>zL zU _ i j) xD;have hT:=zKw p.T.length (zS bgC bgZ p.T) (fun i _ j _=>zL zU _ i j) xD
 obtain⟨nO,hnO⟩:∃n,p.O.length=n:=⟨_,rfl⟩
 refine zBw Tryz.func27 rfl rfl Tryz.ntmps27 rfl ?_
 repeat (first
  |refine vB [0,2,7] ?_
  | (refine rG 1 ?_
     refine vA ?_;refine xB Tryz.func25 hC ?_;refine vA ?_;refine aB ?_)
  | (refine rG 4 ?_
     refine xE2 ?_;refine zFe [1000] rfl rfl rfl Tryz.func52 rfl xC (hI) (⟨.inl ⟨rfl,rfl⟩,zFL rfl (by simp),trivial⟩) ?_;refine vA ?_;refine aB ?_)
  |(refine AWp.draw (id:=6) zK ?_;refine xE2 ?_;refine xB Tryz.func53 hR ?_;refine xE2 ?_;refine xB Tryz.func54 hF ?_;refine xE2 ?_;(first|refine AList.callG [] [35] [] [] [bgB p.O] [] [bgB p.O] rfl rfl FnV.func rfl Tryz.func55 rfl xC (trivial) rfl (.c (.owN 0 35 rfl)) (trivial) (⟨⟨_,rfl,fun i _ j _=>.imm _ (zL zU p.O i j)⟩,trivial⟩) (hO) ?_|refine xB Tryz.func55 hT ?_);refine xE2 ?_;(first|refine AList.callG [] [35] [] [] [bgB p.O] [] [bgB p.O] rfl rfl FnV.func rfl Tryz.func55 rfl xC (trivial) rfl (.c (.owN 0 35 rfl)) (trivial) (⟨⟨_,rfl,fun i _ j _=>.imm _ (zL zU p.O i j)⟩,trivial⟩) (hO) ?_|refine xB Tryz.func55 hT ?_);refine xE3 ?_;refine aB ⟨by kernel_rfl,?_⟩))
 refine AWp.round (fun k:Nat=>
  mkL 92 1 [(1,.c (lsH H)),(2,.c (.ow 1000)),(6,.c (.pt 6 5 0 0)),(9,.c (.pt 9 5 0 0)),(41,.c (.ls p.C.length 1 (chF p.C))),(42,.c (iC p.C.length)),(43,.c (iC (k:Nat)))] [(6,⟨false,1,5,34,lF [nl8,nl8,nl8,nl8,nl8]⟩),(9,⟨false,1,5,34,lF [lsR p.R,.ow 120,lsB p.F,.ow 121,lsG p.T]⟩),(120,chB (p.C.take k)),(121,bgB (p.O)),(1000,zAc s.length (fI s))] [6,9,120,121]
  ) (fun k=>k≤p.C.length) (fun k=>p.C.length-k) 0 (Nat.zero_le _) ?_ (fun k hk=> ?_)
 ·refine zQ [(6,some 6),(9,some 9),(120,none),(121,some 35)] rfl rfl rfl rfl rfl ?_ ?_
  ·repeat (first|exact trivial|refine⟨⟨_,rfl,by first|exact LeA.c (LeC.owB _ rfl)|exact leT⟩,?_⟩)
  ·exact⟨hSm,HeapOk.box rfl rfl ⟨LeC.refl _ rfl,LeC.nil _ rfl,LeC.refl _ rfl,LeC.ow _ _ rfl,LeC.refl _ rfl,trivial⟩ rfl,HeapOk.nil rfl rfl,hrF zU,lrw,trivial⟩
 by_cases hkl:k<p.C.length
 ·have hkl':(k:Int)<p.C.length:=by omega
  have hcF:chF p.C k 0=lsB (p.C.getD k []):=rfl;have hBk:=zEL (p.C.getD k []) (hp.lc _ (zAB hkl)) (fun i hi=>by have:=hbn.2 _ (zAB (L:=p.C) (k:=k) (z:= []) hkl) _ (zAB (L:=p.C.getD k []) (k:=i) (z:=bpZ) hi);omega)
  have e1:p.C.take (k+1)=p.C.take k++ [p.C.getD k []]:=by
   rw[List.take_add_one,List.getElem?_eq_getElem hkl,List.getD_eq_getElem?_getD,List.getElem?_eq_getElem hkl];rfl
  have l1:(p.C.take k).length=k:=by rw[List.length_take];omega
  obtain⟨q1,hq1⟩:∃q,p.C.take k=q:=⟨_,rfl⟩
  rw[hq1]at l1 e1;have lq1:q1.length≤1000000:=by omega
  rw[hq1]
  repeat (first
   |refine vB [8,11] ?_
   | (refine rG 9 ?_
      first|refine zG (aP (k:=k) zA) ?_|refine zI (zH (k:=k) zA) ?_
      first|refine zY zA (hcF) rfl rfl rfl rfl rfl oM ?_|refine zAp zA rfl rfl rfl rfl rfl rfl rfl oM oM (hcF) ?_
      refine vA ?_;refine aB ?_)
   |(refine AWp.draw (id:=10) zK ?_;refine xE3 ?_;refine xB Tryz.func54 hBk ?_;refine vA ?_;refine xA ?_;refine xE2 ?_;refine aB ⟨by kernel_rfl,?_⟩))
  refine⟨k+1,hkl,?_,by omega⟩
  rw[e1];refine zQ [(6,some 6),(9,some 9),(120,some 52),(121,some 121)] rfl rfl rfl rfl rfl ?_ ?_
  ·repeat (first|exact trivial|refine⟨⟨_,rfl,by first|exact LeA.c (LeC.owB _ rfl)|exact leT⟩,?_⟩)
  ·exact⟨hSm,HeapOk.box rfl rfl ⟨LeC.refl _ rfl,LeC.ow _ _ rfl,LeC.refl _ rfl,LeC.ow _ _ rfl,LeC.refl _ rfl,trivial⟩ rfl,HeapOk.row rfl rfl List.length_append (zDs _ _),hrF zU,lrw,trivial⟩
 have hkl':¬(k:Int)<p.C.length:=by omega
 obtain rfl:k=p.C.length:=by omega
 rw[List.take_length];refine vB [8,12] ?_;refine AWp.round (fun k:Nat=>
  mkL 92 1 [(1,.c (lsH H)),(2,.c (.ow 1000)),(6,.c (.pt 6 5 0 0)),(9,.c (.pt 9 5 0 0)),(55,.c (lsH H)),(56,.c (iC H.length)),(57,.c (iC (k:Nat)))] [(6,⟨false,1,5,34,lF [nl8,nl8,nl8,nl8,nl8]⟩),(9,⟨false,1,5,34,lF [lsR p.R,.ow 120,lsB p.F,.ow 121,lsG p.T]⟩),(120,chB (p.C++anC H s k)),(121,bgB (p.O++anO H k)),(1000,zAc s.length (fI s))] [6,9,120,121]
  ) (fun k=>k≤H.length) (fun k=>H.length-k) 0 (Nat.zero_le _) ?_ (fun k hk=> ?_)
 ·rw[show p.C++anC H s 0=p.C from List.append_nil _,show p.O++anO H 0=p.O from List.append_nil _]
  refine zQ [(6,some 6),(9,some 9),(120,some 120),(121,some 121)] rfl rfl rfl rfl rfl ?_ ?_
  ·repeat (first|exact trivial|refine⟨⟨_,rfl,by first|exact LeA.c (LeC.owB _ rfl)|exact leT⟩,?_⟩)
  ·exact⟨hSm,HeapOk.box rfl rfl ⟨LeC.refl _ rfl,LeC.ow _ _ rfl,LeC.refl _ rfl,LeC.ow _ _ rfl,LeC.refl _ rfl,trivial⟩ rfl,HeapOk.row rfl rfl rfl (fun i _ j _=>⟨rfl,rfl⟩),hrF zU,lrw,trivial⟩
 by_cases hkl:k<H.length;rotate_left
 ·have hkl':¬(k:Int)<H.length:=by omega
  obtain rfl:k=H.length:=by omega
  have hW:=zDH (anP p H s) (zEl s hp hH he);refine vB [13] ?_;refine AWp.weak (S':=mkL 92 1 [(6,.c (.pt 6 5 0 0)),(9,.c (.pt 9 5 0 0))] [(6,⟨false,1,5,34,lF [nl8,nl8,nl8,nl8,nl8]⟩),(9,⟨false,1,5,34,lF (pbC (anP p H s))⟩),(1000,zAc s.length (fI s))] [6,9]) (zQ [(6,some 6),(9,some 9)] rfl rfl rfl rfl rfl ?_ ?_) ?_
  ·repeat (first|exact trivial|refine⟨⟨_,rfl,by first|exact LeA.c (LeC.owB _ rfl)|exact leT⟩,?_⟩)
  ·exact⟨hSm,HeapOk.box rfl rfl ⟨LeC.refl _ rfl,zZ rfl rfl rfl (fun _ _ _ _=>⟨rfl,rfl⟩),LeC.refl _ rfl,zZ rfl rfl rfl (fun i _ j _=>⟨rfl,zL zU _ i j⟩),LeC.refl _ rfl,trivial⟩ rfl,lrw,trivial⟩
  generalize zAr (anP p H s)=f at *;by_cases hf:f=0
  ·rw [if_pos hf]at hwv
   subst hf hwv
   repeat (first
    |refine vB [22,24] ?_
    | (refine rG 21 ?_
       refine vA ?_;refine xB Tryz.func25 hW ?_;refine vA ?_;refine aB ?_))
   refine⟨mkL 92 1 [(6,.c (.pt 6 5 0 0)),(7,.c (iC 0))] [(6,⟨false,1,5,34,lF (pbC (anP p H s))⟩),(1000,zAc s.length (fI s))] [6],[(6,⟨false,1,5,34,lF (pbC (anP p H s))⟩)],_,[zAc s.length (fI s)],[],⟨rfl,rfl,rfl⟩,rfl,zQ [(6,some 6)] rfl rfl rfl rfl rfl ?_ ?_,rfl,rfl,GRets.two (x:=.ag _) (y:=.c _) (GRes.box zA rfl rfl rfl rfl rfl rfl) (GRes.tmp rfl)⟩
   ·repeat (first|exact trivial|refine⟨⟨_,rfl,by first|exact LeA.c (LeC.owB _ rfl)|exact leT⟩,?_⟩)
   ·exact⟨hSm,lrw,trivial⟩
  ·rw [if_neg hf]at hwv
   subst hwv
   repeat (first
    |refine vB [22,23] ?_
    | (refine rG 21 ?_
       refine vA ?_;refine xB Tryz.func25 hW ?_;refine vA ?_;refine aB ?_))
   refine⟨mkL 92 1 [(6,.c (.pt 6 5 0 0)),(7,.c (iC (f)))] [(6,⟨false,1,5,34,lF (pbC pbZ)⟩),(1000,zAc s.length (fI s))] [6],[(6,⟨false,1,5,34,lF (pbC pbZ)⟩)],_,[zAc s.length (fI s)],[],⟨rfl,rfl,rfl⟩,rfl,zQ [(6,some 6)] rfl rfl rfl rfl rfl ?_ ?_,rfl,rfl,GRets.two (x:=.ag _) (y:=.c _) (GRes.box zA rfl rfl rfl rfl rfl rfl) (GRes.tmp rfl)⟩
   ·repeat (first|exact trivial|refine⟨⟨_,rfl,by first|exact LeA.c (LeC.owB _ rfl)|exact leT⟩,?_⟩)
   ·exact⟨HeapOk.box rfl rfl ⟨LeC.nils _ _,LeC.nils _ _,LeC.nils _ _,LeC.nils _ _,LeC.nils _ _,trivial⟩ rfl,lrw,trivial⟩
 have hkl':(k:Int)<H.length:=by omega
 have hb:=zG2 hH s hkl;have hBk:=zEL (zBY H s k) hb.1 (fun i hi=>hb.2 _ (zAB hi));have hcn:=zKB s (k:Int) hs;have e1:p.C++anC H s (k+1)=(p.C++anC H s k)++ [zBY H s k]:=by rw[zIa,List.append_assoc]
 have e2:p.O++anO H (k+1)=(p.O++anO H k)++ [(H.getD k hgZ).own]:=by rw[zIb,List.append_assoc]
 have l1:(p.C++anC H s k).length≤1000000:=by rw[List.length_append,zEJ];omega
 have l2:(p.O++anO H k).length≤1000000:=by rw[List.length_append,zGE];omega
 obtain⟨h,hh⟩:∃h,H.getD k hgZ=h:=⟨_,rfl⟩
 have eH:zAD (zS hgC hgZ H k) 0 8=hgC h:=by rw[←hh];rfl
 have hX:zBY H s k=if (k:Int)∈s then h.ch else [h.now]:=by rw[←hh]
 rw[hh]at e2;generalize zBY H s k=X at *;generalize p.C++anC H s k=q1 at *;generalize p.O++anO H k=q2 at *;by_cases hm:(k:Int)∈s
 ·rw [decide_eq_true hm]at hcn
  rw[if_pos hm]at hX;subst hX
  repeat (first
   |refine vB [13,15,17,20] ?_
   | (refine rG 14 ?_
      refine vA ?_
      first|refine zG (aP (k:=k) zA) ?_|refine zI (zH (k:=k) zA) ?_
      refine zEb zA (eH) rfl rfl rfl rfl rfl oM ?_;refine xE3 ?_;refine aB ?_)
   | (refine rG 16 ?_
      refine xE2 ?_;refine zFe [1000] rfl rfl rfl Tryz.func56 rfl xC (hcn) (⟨zFL rfl (by simp),.inl ⟨rfl,rfl⟩,trivial⟩) ?_;refine aB ?_)
   |(refine AWp.draw (id:=18) zK ?_;refine xE3 ?_;refine xB Tryz.func54 hBk ?_;refine vA ?_;refine xA ?_;refine xE2 ?_;refine aB ⟨by kernel_rfl,?_⟩)
   | (refine rG 19 ?_
      refine xE5 ?_;refine xA ?_;refine xE2 ?_;refine aB ?_))
  refine⟨k+1,hkl,?_,by omega⟩
  rw[e1,e2];refine zQ [(6,some 6),(9,some 9),(120,some 75),(121,some 82)] rfl rfl rfl rfl rfl ?_ ?_
  ·repeat (first|exact trivial|refine⟨⟨_,rfl,by first|exact LeA.c (LeC.owB _ rfl)|exact leT⟩,?_⟩)
  ·exact⟨hSm,HeapOk.box rfl rfl ⟨LeC.refl _ rfl,LeC.ow _ _ rfl,LeC.refl _ rfl,LeC.ow _ _ rfl,LeC.refl _ rfl,trivial⟩ rfl,HeapOk.row rfl rfl List.length_append (zDs _ _),HeapOk.row rfl rfl List.length_append (zBh _ _ zU rfl),lrw,trivial⟩
 ·rw [decide_eq_false hm]at hcn
  rw[if_neg hm]at hX;subst hX;have hB1:=hBk.cv (args':= [.c (.ls 1 3 (sF (bpC h.now) 3))]) ⟨.c (zM5 h.now),trivial⟩
  repeat (first
   |refine vB [13,15,20] ?_
   | (refine rG 14 ?_
      refine vA ?_
      first|refine zG (aP (k:=k) zA) ?_|refine zI (zH (k:=k) zA) ?_
      refine zEb zA (eH) rfl rfl rfl rfl rfl oM ?_;refine xE3 ?_;refine aB ?_)
   | (refine rG 16 ?_
      refine xE2 ?_;refine zFe [1000] rfl rfl rfl Tryz.func56 rfl xC (hcn) (⟨zFL rfl (by simp),.inl ⟨rfl,rfl⟩,trivial⟩) ?_;refine aB ?_)
   |(refine AWp.draw (id:=18) zK ?_;refine xE3 ?_;refine xB Tryz.func54 hB1 ?_;refine vA ?_;refine xA ?_;refine xE2 ?_;refine aB ⟨by kernel_rfl,?_⟩)
   | (refine rG 19 ?_
      refine xE5 ?_;refine xA ?_;refine xE2 ?_;refine aB ?_))
  refine⟨k+1,hkl,?_,by omega⟩
  rw[e1,e2];refine zQ [(6,some 6),(9,some 9),(120,some 75),(121,some 82)] rfl rfl rfl rfl rfl ?_ ?_
  ·repeat (first|exact trivial|refine⟨⟨_,rfl,by first|exact LeA.c (LeC.owB _ rfl)|exact leT⟩,?_⟩)
  ·exact⟨hSm,HeapOk.box rfl rfl ⟨LeC.refl _ rfl,LeC.ow _ _ rfl,LeC.refl _ rfl,LeC.ow _ _ rfl,LeC.refl _ rfl,trivial⟩ rfl,HeapOk.row rfl rfl List.length_append (zDs _ _),HeapOk.row rfl rfl List.length_append (zBh _ _ zU rfl),lrw,trivial⟩
end Go.Proofs.YtbffmfeldkjkcaaGreat
end
