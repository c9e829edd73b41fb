/- Parts of the proof: AShr, A29c, A29d, A29e, A29f, A30a, A30b, A30c, A30d, A30f. -/
import Derived.Test.YtbffmfeldkjkcaaGreatG36
import Derived.Test.YtbffmfeldkjkcaaGreatG38
import Derived.Test.YtbffmfeldkjkcaaGreatG39
set_option linter.unusedSimpArgs false
set_option linter.unusedVariables false
set_option maxHeartbeats 0
set_option maxRecDepth 100000
section
namespace Go.AV
open Go Go.RowKit Go.Flow
section
variable{P:Program}{tab:List (TypeId×TD)}
variable{ops:Array Oper}{rest:List Oper}{acc:List (List Nat×List Nat)}{S:St}{Q:List (List Nat×List Nat)→St→Prop}{dst:Option Tmp}{ty:TypeId}{pos:String}{after:Array Edge}{guard:Option (Nat×Bool)}
theorem zOo(T:zAq P tab=true){id id1:Nat}{x y:Operand}{t el:TypeId}{d e:TD}{n m:Nat}{F:Nat→Nat→CV}
 (hw:S.wants ops {dst:=some id,op:=.slice t x none (some y) none,type:=ty,pos,after,guard}=some true) (hd:dOk S.n (some id)=true) (hf:S.fr id=true)
 (hx:S.opd x=some (.c (.ow id1))) (ht:zD tab t=some d) (hk:d.k=.sl el) (he:zD tab el=some e) (hh:S.h id1=some ⟨true,n,e.size,el,F⟩) (hlo:Nat.blt id1 1000=true)
 (hy:∃k i,S.opd y=some (.c (.p (.int k i)))∧i=(m:Int)) (hm:m≤n)
 (hn:AList P ops rest (([id1,id],[id1,id,id])::acc) (S.eff (some id) ⟨.c (.ow id),[(id1,none),(id,some ⟨true,m,e.size,el,F⟩)],[id]⟩) Q):
 AList P ops ({dst:=some id,op:=.slice t x none (some y) none,type:=ty,pos,after,guard}::rest) acc S Q:=
 AList.cons [id1] ⟨.c (.ow id),[(id1,none),(id,some ⟨true,m,e.size,el,F⟩)],[id]⟩ (LStep.of hw fun S1 hA hr1 hal b0 σ a w R=>by
  obtain⟨inf,z,u,i1,i2,i3,-⟩:=zAS T he
  have hu:=zBL T ht hk
  obtain⟨hfr,hidl⟩:=R.fr id ((hal id (by simp)).trans hf)
  have rs:=zW R ((hA.op x (by simp[Op.operands])).trans hx)
  obtain⟨k,i,f1,f2⟩:=hy
  have ey:a.eval y=.int k m:=by rw[←f2];exact zAU (zW R ((hA.op y (by simp[Op.operands])).trans f1))
  have hB1:=(hr1 id1 (by simp)).trans hh;have e0:σ id1=some (a.eval x):=rs.2.1
  obtain⟨v,g1,g2⟩:=R.hp.blk id1 _ hB1
  rw[e0]at g1
  cases g1
  have hne:S1.h id1≠none:=by rw[hB1];simp
  have hn1:id1≠id:=fun e=>by rw[e,hfr]at e0;cases e0
  have hlo:=Nat.blt_eq.mp hlo;have hK:Keep (own σ S1.h) w w:=⟨rfl,rfl,rfl,Nat.le_refl _,fun _ _ _=>rfl⟩
  obtain⟨v',hex,h1c,hbb,hOB⟩:∃v',(execOp a.eval {dst:=some id,op:=.slice t x none (some y) none,type:=ty,pos,after,guard}).run P w=.ok (.value v') w∧(v'.oneCell'=true∧∃A n c,v'=.slice A n c)∧(∀b,zAl v'=some b→zAl (a.eval x)=some b)∧
   ∀(σ':Nat→Option Value) (h':Nat→Option AB),(∀b,out b0 σ' h' b→out b0 σ S1.h b)→(∀i v,σ i=some v→σ' i=some v)→OBk σ' (out b0 σ' h') w v' ⟨true,m,e.size,el,F⟩:=by
   rcases g2.row rfl with ⟨_,q1,q2⟩|⟨b,cap,cs,q1,q2,q3,q4⟩
   ·have q2:n=0:=q2
    obtain rfl:m=0:=by omega
    refine⟨.slice none 0 0,?_,⟨rfl,none,0,0,rfl⟩,fun b hb=>(by cases hb),fun σ' h' _ _=>.inl ⟨rfl,rfl,rfl⟩⟩
    simp[execOp,Instr.sliceAt,Instr.slice,run_underlying hu,q1,Instr.sliceBounds,Instr.sliceBound,asIntOf,ey,sizeOf,typeInfo,i1,i2]
   ·rcases q1 with ⟨_,q1,q5,q6⟩|⟨q1,_⟩
    rotate_left
    ·cases q1
    replace q5:n≤cap:=q5
    replace q1:a.eval x=.slice (some ⟨b,0,none⟩) n cap:=q1
    have c1:(m:Int)≤cap:=by omega
    have c3:m≤cap:=by omega
    have c4:¬cap<m:=by omega
    refine⟨.slice (some ⟨b,0,none⟩) m cap,?_,⟨rfl,_,_,_,rfl⟩,fun b' hb=>by rw[q1];exact hb,fun σ' h' hO hs=>.inr (.inl ⟨b,cap,cs,.inl ⟨rfl,rfl,c3,q6⟩,q2,q3,fun k hk j hj=> ?_⟩)⟩
    ·simp[execOp,Instr.sliceAt,Instr.slice,run_underlying hu,q1,Instr.sliceBounds,Instr.sliceBound,asIntOf,ey,sizeOf,typeInfo,i1,i2,c1,c3,c4,Addr.add]
    ·have hk:k<m:=hk
     obtain⟨u,r1,r2⟩:=q4 k (show k<n by omega) j hj
     exact⟨u,r1,r2.keep ⟨rfl,rfl,rfl,Nat.le_refl _,fun _ _ _=>rfl⟩ (fun b hb=>.inl (hO b hb)) hs⟩
  rw[hex];have hsub:∀i u,σ i=some u→put σ id (some v') i=some u:=fun i u h=>by
   rw[zX _ _ (fun e=>by rw[e,hfr]at h;cases h)];exact h
  generalize hB':(⟨true,m,e.size,el,F⟩:AB)=B' at hOB⊢;have hlk:zAb [(id1,none),(id,some B')] S1.h=put (put S1.h id (some B')) id1 none:=rfl;have hid:zAb [(id1,none),(id,some B')] S1.h id=some B':=by
   rw[hlk]
   exact(zX _ _ (Ne.symm hn1)).trans (zAn _ _ _)
  have hoth:∀i,i≠id→zAb [(id1,none),(id,some B')] S1.h i=none∨(zAb [(id1,none),(id,some B')] S1.h i=S1.h i∧i≠id1):=fun i hi=>by
   rw[hlk];by_cases h1:i=id1
   ·subst h1;exact .inl (zAn _ _ _)
   ·exact .inr ⟨(zX _ _ h1).trans (zX _ _ hi),h1⟩
  have hout:∀b,out b0 (put σ id (some v')) (zAb [(id1,none),(id,some B')] S1.h) b→out b0 σ S1.h b:=fun b hb=>by
   rcases hb with ⟨i,u,h1,h2,h3⟩|hb
   ·by_cases hi:i=id
    ·subst hi
     rw[zAn]at h2
     cases h2
     exact .inl ⟨id1,_,hne,e0,hbb b h3⟩
    ·rw[zX _ _ hi]at h2
     rcases hoth i hi with h0|⟨h0,_⟩
     ·exact absurd h0 h1
     ·rw[h0]at h1
      exact .inl ⟨i,u,h1,h2,h3⟩
   ·exact .inr hb
  obtain⟨H,_,hO⟩:=R.hp.put (id:=id) (B':=B') (v':=v') (σ':=put σ id (some v')) (h':=zAb [(id1,none),(id,some B')] S1.h) (w':=w) hsub hid (zAn _ _ _)
   (fun i hi=>(hoth i hi).imp (fun h=>h) fun h=>h.1) hK
   (fun i u hi=>by
     obtain⟨h1,-⟩:=b0.one i u hi
     have h3:=R.hp.fx i u hi
     rcases hoth i (by omega)with h0|h0
     ·rw[hlk]at h0
      exact absurd ((zX _ _ (by omega)).symm.trans ((zX _ _ (by omega)).symm.trans h0)) h3.2
     ·rw[h0.1];exact h3.2) (fun i hi=>zX _ _ (by omega))
   (fun i u b hi h1 h2 h3=>rfl) (hOB _ _ hout hsub)
   (fun b hb=>by
     have ho:own σ S1.h b:=⟨id1,_,hne,e0,hbb b hb⟩
     refine⟨R.hp.new b ho,.inl ho,fun i u hi h1 h2 h3=> ?_⟩
     rcases hoth i hi with h0|⟨h0,h00⟩
     ·exact absurd h0 h1
     ·rw[h0]at h1
      exact h00 (R.hp.inj i id1 u _ b h1 hne h2 e0 h3 (hbb b hb)))
  exact⟨_,R.step (e:=⟨.c (.ow id),[(id1,none),(id,some B')],[id]⟩) (by rw[hA.n];exact hd) hsub hK H hO (fun _=>⟨h1c.1,zAn _ _ _,.inl h1c.2⟩) fun i hi=>by
   by_cases h:i=id
   ·exact .inr (by simp[h])
   ·rw[zX _ _ h]at hi;exact .inl hi⟩) hn
end
end Go.AV
end
section
namespace Go.Proofs.YtbffmfeldkjkcaaGreat
open Go.RowKit Go.Flow Go.AV Go.Plain
def zEE(p:Pb):Int:=if (zAZ p).2=0 then 7 else if (zAZ p).2=60 then 0 else (zAZ p).2
theorem zSF(p:Pb)(hp:p.ok):ACalls Tryz.prog 64 [.ag (pbC p)] (.c (iC (zEE p))):=by
 have hS:=zKU p hp;unfold zEE;generalize zAZ p=o at *
 obtain⟨ol,oe⟩:=o
 dsimp only at hS⊢;by_cases h0:oe=0
 ·rw [if_pos h0]
  subst h0;refine zJ Tryz.func64 rfl rfl Tryz.ntmps64 rfl ?_
  repeat (first
   |refine vB [0,2,4,5] ?_
   | (refine rG 1 ?_
      refine vA ?_;refine xB Tryz.func29 hS ?_;refine xE5 ?_;refine aB ?_))
  refine⟨zC 16 [(2,.c (iC 7))] [] [],[],Wk.mk [] rfl rfl rfl ?_ trivial,rfl,rfl,aR1⟩
  exact zB
 ·rw[if_neg h0]
  by_cases h1:oe=60
  ·rw [if_pos h1]
   subst h1;refine zJ Tryz.func64 rfl rfl Tryz.ntmps64 rfl ?_
   repeat (first
    |refine vB [0,2,4,6,7] ?_
    | (refine rG 1 ?_
       refine vA ?_;refine xB Tryz.func29 hS ?_;refine xE5 ?_;refine aB ?_))
   refine⟨zC 16 [(2,.c (iC 0))] [] [],[],Wk.mk [] rfl rfl rfl ?_ trivial,rfl,rfl,aR1⟩
   exact zB
  ·rw [if_neg h1]
   refine zJ Tryz.func64 rfl rfl Tryz.ntmps64 rfl ?_
   repeat (first
    |refine vB [0,2,3,4,6] ?_
    | (refine rG 1 ?_
       refine vA ?_;refine xB Tryz.func29 hS ?_;refine xE5 ?_;refine aB ?_))
   refine⟨zC 16 [(2,.c (iC oe))] [] [],[],Wk.mk [] rfl rfl rfl ?_ trivial,rfl,rfl,aR1⟩
   exact zB
def zBG(rec:List Int→Nat→List (List Int))(l:List Int):Nat→Nat→List (List Int)
 |0,_=> []
 |m+1,x=>rec (l++ [(x:Int)]) (x+1)++zBG rec l m (x+1)
def zAN(n:Nat):Nat→List Int→Nat→List (List Int)
 |0,l,_=> [l]
 |r+1,l,x=>zBG (zAN n r) l (n-x) x
theorem zLS{n:Nat}:∀(r:Nat) (l:List Int) (x:Nat),∀s∈zAN n r l x,s.length=l.length+r
 | 0,l,x,s,h=>by
   obtain rfl:s=l:=by simpa[zAN]using h
   rfl
 | r + 1,l,x,s,h=>by
   have key:∀m x,∀s∈zBG (zAN n r) l m x,s.length=l.length+(r+1):=fun m=>by
    induction m with
    |zero=>intro x s h;cases h
    | succ m ih=>
      intro x s h
      rcases List.mem_append.1 h with h|h
      ·rw[zLS r _ _ s h,List.length_append]
       show l.length+1+r=_
       omega
      ·exact ih _ s h
   exact key _ _ s h
abbrev pl1(c:CV):CV:=.pl 1 1 (lF [c]) 0 0
theorem zL3{all:List (List Int)}{g:Nat}{l:List Int}{rest:List (List Int)}(h:all.drop g=l::rest):g<all.length∧all.getD g []=l∧all.drop (g+1)=rest:=by
 have hlt:g<all.length:=Decidable.byContradiction fun hn=>by rw[List.drop_eq_nil_of_le xD]at h;cases h
 rw[List.drop_eq_getElem_cons hlt]at h
 cases h
 exact⟨hlt,by rw[List.getD_eq_getElem?_getD,List.getElem?_eq_getElem hlt];rfl,rfl⟩
theorem zNy{ids ni:List Nat}{n:Nat}{ty:TypeId}{F:Nat→Nat→CV}(hi:∀k,k<n→∀j,j<1→zM (F k j)=true):zBq ids ni [⟨true,n,1,ty,F⟩] [⟨true,n,1,ty,F⟩]:=⟨⟨_,rfl,fun k hk j hj=>.b (.imm _ (hi k hk j hj))⟩,trivial⟩
abbrev zBz(n K:Nat):List (List Int):=zAN n K [] 0
theorem zFG{l:List Int}{x:Int}{k:Nat}(h:k<l.length):fI (l++ [x]) k=fI l k:=by
 show(l++ [x]).getD k 0=l.getD k 0
 rw[List.getD_eq_getElem?_getD,List.getD_eq_getElem?_getD,List.getElem?_append_left h]
theorem zII{l:List Int}{x:Int}:fI (l++ [x]) l.length=x:=by
 show(l++ [x]).getD l.length 0=x
 rw[List.getD_eq_getElem?_getD,List.getElem?_append_right (Nat.le_refl _)]
 simp
theorem zRa{n:Nat}{l:List Int}{x:Nat}(h:zA9 n l=true)(hx:∀k,k<l.length→fI l k<x)(hn:x<n):zA9 n (l++ [(x:Int)])=true:=nmOk_iff.2 fun k hk=>by
 rw[List.length_append,List.length_singleton]at hk;by_cases hkl:k<l.length
 ·obtain⟨h1,h2,h3⟩:=nmOk_iff.1 h k hkl
  rw[zFG hkl]
  refine⟨h1,h2,fun h0=> ?_⟩
  rw[zFG xD];exact h3 h0
 ·obtain rfl:k=l.length:=by omega
  rw[zII]
  refine⟨by omega,by omega,fun h0=> ?_⟩
  rw[zFG xD];exact hx _ xD
theorem zLT{n:Nat}:∀(r:Nat) (l:List Int) (x:Nat),zA9 n l=true→(∀k,k<l.length→fI l k<x)→∀s∈zAN n r l x,zA9 n s=true
 | 0,l,x,h,_,s,hs=>by
   obtain rfl:s=l:=by simpa[zAN]using hs
   exact h
 | r + 1,l,x,h,hx,s,hs=>by
   have key:∀m y,x≤y→(m=0∨y+m≤n)→∀s∈zBG (zAN n r) l m y,zA9 n s=true:=fun m=>by
    induction m with
    |zero=>intro y _ _ s h;cases h
    | succ m ih=>
      intro y hy hm s hs;have hyn:y<n:=by omega
      rcases List.mem_append.1 hs with hs|hs
      ·refine zLT r _ _ (zRa h (fun k hk=>by have:=hx k hk;omega) hyn) (fun k hk=> ?_) s hs
       rw[List.length_append,List.length_singleton]at hk;by_cases hkl:k<l.length
       ·rw[zFG hkl];have:=hx k hkl;omega
       ·obtain rfl:k=l.length:=by omega
        rw[zII];omega
      ·exact ih (y+1) xD xD s hs
   exact key (n-x) x (Nat.le_refl _) xD s hs
theorem zNO{n K:Nat}{s:List Int}(h:s∈zBz n K):zA9 n s=true∧s.length=K:=
 ⟨zLT K [] 0 (nmOk_iff.2 fun k hk=>absurd hk (Nat.not_lt_zero _)) (fun k hk=>absurd hk (Nat.not_lt_zero _)) s h,by have:=zLS K [] 0 s h;simpa using this⟩
def zBA(n:Nat):Nat→List (List Int)
 |0=> []
 |k+1=>zBA n k++zBz n k
theorem zIO(bad:List Int→Bool):∀all:List (List Int),(∃i,i<all.length∧bad (all.getD i [])=true∧∀j,j<i→bad (all.getD j [])=false)∨∀j,j<all.length→bad (all.getD j [])=false
 | []=>.inr fun _ h=>absurd h (Nat.not_lt_zero _)
 | s ::l=>by
   cases h:bad s with
   |true=>exact .inl ⟨0,Nat.succ_pos _,h,fun _ h=>absurd h (Nat.not_lt_zero _)⟩
   | false=>
     rcases zIO bad l with ⟨i,h1,h2,h3⟩|h1
     ·exact .inl ⟨i+1,Nat.succ_lt_succ h1,h2,fun j hj=>by
       cases j with
       |zero=>exact h
       |succ j=>exact h3 j xD⟩
     ·exact .inr fun j hj=>by
       cases j with
       |zero=>exact h
       |succ j=>exact h1 j (by simpa using hj)
theorem zIM{bad:List Int→Bool}:∀{all:List (List Int)} {i:Nat},i<all.length→bad (all.getD i [])=true→(∀j,j<i→bad (all.getD j [])=false)→all.find? bad=some (all.getD i [])
 | s::l,0,_,h,_=>by
   rw[List.find?_cons]
   show(match bad s with|true=>some s|false=>_)=_
   rw[show bad s=true from h];rfl
 | s::l,i+1,hi,h,hl=>by
   rw[List.find?_cons,show bad s=false from hl 0 (Nat.succ_pos _)];exact zIM (all:=l) (i:=i) (by simpa using hi) h fun j hj=>hl (j+1) xD
theorem zL7{bad:List Int→Bool}{all:List (List Int)}(h:∀j,j<all.length→bad (all.getD j [])=false):all.find? bad=none:=by
 rw[List.find?_eq_none];intro s hs
 obtain⟨j,hj,rfl⟩:=List.mem_iff_getElem.1 hs
 have:=h j hj;rw[List.getD_eq_getElem?_getD,List.getElem?_eq_getElem hj]at this
 simpa using this
structure Hg where
 now:Bp
 ch:List Bp
 own:Bg
abbrev hgC(h:Hg):List CV:=bpC h.now++ [lsB h.ch]++bgC h.own
abbrev hgZ:Hg:=⟨bpZ,[],bgZ⟩
abbrev lsH(H:List Hg):CV:=.ls H.length 8 (zS hgC hgZ H)
theorem zCY(h:Hg):(hgC h).all zM=true:=rfl
theorem zEL(L:List Bp)(hl:L.length≤1000000)(hb:∀k,k<L.length→(L.getD k bpZ).n≤1000000):ACalls Tryz.prog 54 [.c (lsB L)] (.c (lsB L)):=by
 by_cases h0:L.length=0
 ·obtain rfl:L= []:=List.eq_nil_of_length_eq_zero h0
  have hC:=zOD 0 (zS bpC bpZ []) (fun k hk=>absurd hk (Nat.not_lt_zero _)) xD;refine zJ Tryz.func54 rfl rfl Tryz.ntmps54 rfl ?_
  repeat (first
   |refine vB [0,2] ?_
   | (refine rG 1 ?_
      refine vA ?_;refine xB Tryz.func75 hC ?_;refine vA ?_;refine aB ?_))
  refine AWp.round (fun _:Nat=>zC 23 [(0,.c (lsB [])),(7,.c (iC 0)),(8,.c (iC 0))] [] []) (fun _=>True) (fun _=>0) 0 trivial ?_ (fun k _=> ?_)
  ·refine Wk.mk [] rfl rfl rfl ?_ trivial
   exact zB
  refine vB [3,7] ?_
  refine⟨zC 23 [(2,.c (lsB []))] [] [],[],Wk.mk [] rfl rfl rfl ?_ trivial,rfl,rfl,aR1⟩
  exact zB
 ·have h0:0<L.length:=Nat.pos_of_ne_zero h0
  have hC:=zOE L.length (zS bpC bpZ L) (fun k _ j _=>zL zAm L k j) h0 hl
  obtain⟨n,hn⟩:∃n,L.length=n:=⟨_,rfl⟩
  refine zJ Tryz.func54 rfl rfl Tryz.ntmps54 rfl ?_
  repeat (first
   |refine vB [0,2] ?_
   | (refine rG 1 ?_
      refine vA ?_;refine AList.callG [] [5] [] [] [bpB L] [] [bpB L] rfl rfl FnV.func rfl Tryz.func75 rfl xC (trivial) rfl (.c (.owN 0 5 rfl)) (trivial) (⟨⟨_,rfl,fun i _ j _=>.imm _ (zL zAm L i j)⟩,trivial⟩) (hC) ?_;refine vA ?_;refine aB ?_))
  refine AWp.round (fun k:Nat=>zC 23 [(0,.c (.ow 5)),(7,.c (iC L.length)),(8,.c (iC k))] [(5,bpB L)] [5]) (fun k=>k≤L.length) (fun k=>L.length-k) 0 (Nat.zero_le _) ?_ (fun k hk=> ?_)
  ·refine Wk.mk [(5,some 5)] rfl rfl rfl ?_ ?_
   ·exact zB
   ·exact⟨hrF zAm,trivial⟩
  by_cases hkl:k<L.length
  ·have hkl':(k:Int)<L.length:=by omega
   have hb1:=hb k hkl;have hD:=zOC (L.getD k bpZ).n (bF (L.getD k bpZ).d) (fun _ _ _ _=>rfl) hb1;have hcell:zS bpC bpZ L k 2=.ls (L.getD k bpZ).n 1 (bF (L.getD k bpZ).d):=rfl
   repeat (first
    |refine vB [3,4,6] ?_
    | (refine rG 5 ?_
       refine xE4 ?_
       first|refine zG (aP (k:=k) zA) ?_|refine zI (zH (k:=k) zA) ?_
       refine vA ?_
       first|refine zY zA (hcell) rfl rfl rfl rfl rfl oM ?_|refine zAp zA rfl rfl rfl rfl rfl rfl rfl oM oM (hcell) ?_
       refine xB Tryz.func76 hD ?_
       first|refine zG (aP (k:=k) zA) ?_|refine zI (zH (k:=k) zA) ?_
       refine xE2 ?_;refine aB ?_))
   refine⟨k+1,hkl,Wk.mk [(5,some 5)] rfl rfl rfl ?_ ?_,by omega⟩
   ·exact zB
   ·refine⟨HeapOk.row rfl rfl rfl (fun i _ j _=> ?_),trivial⟩
    have e:zAw (zS bpC bpZ L) k 2 1 [.ls (L.getD k bpZ).n 1 (bF (L.getD k bpZ).d)] i j=zS bpC bpZ L i j:=by
     rw[zGa];by_cases h:i=k∧j=2
     ·rw[if_pos h,h.1,h.2];rfl
     ·rw[if_neg h]
    exact⟨e,by rw[e];exact zL zAm _ i j⟩
  ·have hkl':¬(k:Int)<L.length:=by omega
   refine vB [3,7] ?_
   refine⟨zC 23 [(2,.c (lsB L))] [] [],[],Wk.mk [] rfl rfl rfl ?_ trivial,rfl,rfl,aR1⟩
   exact⟨⟨_,rfl,.c (zZ rfl rfl rfl (fun i _ j _=>⟨rfl,zL zAm _ i j⟩))⟩,trivial⟩
theorem zQP(s:List Int)(x:Int):(∃i,i<s.length∧fI s i=x∧∀j,j<i→¬fI s j=x)∨∀j,j<s.length→¬fI s j=x:=by
 rcases zIO (fun l=>decide (fI l 0=x)) (s.map fun y=> [y])with ⟨i,h1,h2,h3⟩|h
 ·left
  rw[List.length_map]at h1;have e:∀j,j<s.length→(s.map fun y=> [y]).getD j []= [fI s j]:=fun j hj=>by
   show _= [s.getD j 0];rw[List.getD_eq_getElem?_getD,List.getElem?_map,List.getElem?_eq_getElem hj,List.getD_eq_getElem?_getD,List.getElem?_eq_getElem hj]
   rfl
  refine⟨i,h1,?_,fun j hj=> ?_⟩
  ·rw[e i h1]at h2
   exact of_decide_eq_true h2
  ·have:=h3 j hj
   rw[e j xD]at this;exact of_decide_eq_false this
 ·right
  intro j hj;have:=h j (by rw[List.length_map];exact hj)
  rw[show(s.map fun y=> [y]).getD j []= [fI s j] by
   show _= [s.getD j 0];rw[List.getD_eq_getElem?_getD,List.getElem?_map,List.getElem?_eq_getElem hj,List.getD_eq_getElem?_getD,List.getElem?_eq_getElem hj]
   rfl]at this
  exact of_decide_eq_false this
theorem mem_fI{s:List Int}{x:Int}:x∈s↔∃i,i<s.length∧fI s i=x:=by
 rw[List.mem_iff_getElem]
 constructor
 ·rintro⟨i,h,e⟩
  exact⟨i,h,by show s.getD i 0=x;rw[List.getD_eq_getElem?_getD,List.getElem?_eq_getElem h];exact e⟩
 ·rintro⟨i,h,e⟩
  refine⟨i,h,?_⟩
  have e':s.getD i 0=x:=e
  rwa [List.getD_eq_getElem?_getD,List.getElem?_eq_getElem h]at e'
theorem zOR(s:List Int)(x:Int)(hl:s.length≤1000000):∃i:Int,(0≤i↔x∈s)∧ACalls Tryz.prog 77 [.c (lsI s),.c (iC x)] (.c (iC i)):=by
 rcases zQP s x with ⟨i,h1,h2,h3⟩|h
 ·refine⟨i,⟨fun _=>mem_fI.2 ⟨i,h1,h2⟩,fun _=>by omega⟩,?_⟩
  refine zJ Tryz.func77 rfl rfl Tryz.ntmps77 rfl ?_;refine vB [0,1] ?_;refine AWp.round (fun k:Nat=>zC 19 [(0,.c (lsI s)),(1,.c (iC x)),(7,.c (iC s.length)),(8,.c (iC (k:Nat)))] [] []) (fun k=>k≤i) (fun k=>i-k) 0 (Nat.zero_le _) ?_ (fun k hk=> ?_)
  ·refine Wk.mk [] rfl rfl rfl ?_ trivial
   exact zB
  have hkl:(k:Int)<s.length:=by omega
  have hks:k<s.length:=by omega
  obtain⟨y,hy⟩:∃y,fI s k=y:=⟨_,rfl⟩
  have hcy:iF (fI s) k 0=iC y:=by rw[←hy]
  by_cases e:k=i
  ·subst e
   have hxy:x=y:=by omega
   repeat (first
    |refine vB [2,3,5] ?_
    | (refine rG 4 ?_
       refine xE3 ?_
       first|refine zG (aP (k:=k) zA) ?_|refine zI (zH (k:=k) zA) ?_
       first|refine zY zA (hcy) rfl rfl rfl rfl rfl oM ?_|refine zAp zA rfl rfl rfl rfl rfl rfl rfl oM oM (hcy) ?_
       refine vA ?_;refine aB ?_))
   refine⟨zC 19 [(4,.c (iC (k:Nat)))] [] [],[],Wk.mk [] rfl rfl rfl ?_ trivial,rfl,rfl,aR1⟩
   exact zB
  ·have hxy:¬x=y:=fun e'=>h3 k xD (by rw[hy];exact e'.symm)
   repeat (first
    |refine vB [2,3,6] ?_
    | (refine rG 4 ?_
       refine xE3 ?_
       first|refine zG (aP (k:=k) zA) ?_|refine zI (zH (k:=k) zA) ?_
       first|refine zY zA (hcy) rfl rfl rfl rfl rfl oM ?_|refine zAp zA rfl rfl rfl rfl rfl rfl rfl oM oM (hcy) ?_
       refine vA ?_;refine aB ?_))
   refine⟨k+1,by omega,Wk.mk [] rfl rfl rfl ?_ trivial,by omega⟩
   exact zB
 ·refine⟨-1,⟨fun h=>absurd h (by decide),fun hm=> ?_⟩,?_⟩
  ·obtain⟨i,h1,h2⟩:=mem_fI.1 hm
   exact absurd h2 (h i h1)
  refine zJ Tryz.func77 rfl rfl Tryz.ntmps77 rfl ?_;refine vB [0,1] ?_;refine AWp.round (fun k:Nat=>zC 19 [(0,.c (lsI s)),(1,.c (iC x)),(7,.c (iC s.length)),(8,.c (iC (k:Nat)))] [] []) (fun k=>k≤s.length) (fun k=>s.length-k) 0 (Nat.zero_le _) ?_ (fun k hk=> ?_)
  ·refine Wk.mk [] rfl rfl rfl ?_ trivial
   exact zB
  by_cases hks:k<s.length
  ·have hkl:(k:Int)<s.length:=by omega
   obtain⟨y,hy⟩:∃y,fI s k=y:=⟨_,rfl⟩
   have hcy:iF (fI s) k 0=iC y:=by rw[←hy]
   have hxy:¬x=y:=fun e'=>h k hks (by rw[hy];exact e'.symm)
   repeat (first
    |refine vB [2,3,6] ?_
    | (refine rG 4 ?_
       refine xE3 ?_
       first|refine zG (aP (k:=k) zA) ?_|refine zI (zH (k:=k) zA) ?_
       first|refine zY zA (hcy) rfl rfl rfl rfl rfl oM ?_|refine zAp zA rfl rfl rfl rfl rfl rfl rfl oM oM (hcy) ?_
       refine vA ?_;refine aB ?_))
   refine⟨k+1,hks,Wk.mk [] rfl rfl rfl ?_ trivial,by omega⟩
   exact zB
  ·obtain rfl:k=s.length:=by omega
   have hkl:¬((s.length:Nat):Int)<s.length:=by omega
   refine vB [2,7] ?_
   refine⟨zC 19 [(4,.c (iC (-1)))] [] [],[],Wk.mk [] rfl rfl rfl ?_ trivial,rfl,rfl,aR1⟩
   exact zB
theorem zKB(s:List Int)(x:Int)(hl:s.length≤1000000):ACalls Tryz.prog 56 [.c (lsI s),.c (iC x)] (.c (bC (decide (x∈s)))):=by
 obtain⟨i,hi,hI⟩:=zOR s x hl
 by_cases h:x∈s
 ·have h0:=hi.2 h
  rw[decide_eq_true h];refine zJ Tryz.func56 rfl rfl Tryz.ntmps56 rfl ?_
  repeat (first
   |refine vB [0] ?_
   | (refine rG 1 ?_
      refine xE2 ?_;refine xB Tryz.func77 hI ?_;refine xE2 ?_;refine aB ?_))
  refine⟨zC 9 [(4,.c (bC true))] [] [],[],Wk.mk [] rfl rfl rfl ?_ trivial,rfl,rfl,aR1⟩
  exact zB
 ·have h0:¬0≤i:=fun h1=>h (hi.1 h1)
  rw[decide_eq_false h];refine zJ Tryz.func56 rfl rfl Tryz.ntmps56 rfl ?_
  repeat (first
   |refine vB [0] ?_
   | (refine rG 1 ?_
      refine xE2 ?_;refine xB Tryz.func77 hI ?_;refine xE2 ?_;refine aB ?_))
  refine⟨zC 9 [(4,.c (bC false))] [] [],[],Wk.mk [] rfl rfl rfl ?_ trivial,rfl,rfl,aR1⟩
  exact zB
abbrev zBY(H:List Hg)(s:List Int)(k:Nat):List Bp:=if (k:Int)∈s then (H.getD k hgZ).ch else [(H.getD k hgZ).now]
abbrev anC(H:List Hg)(s:List Int)(k:Nat):List (List Bp):=(List.range k).map (zBY H s)
abbrev anO(H:List Hg)(k:Nat):List Bg:=(List.range k).map fun k=>(H.getD k hgZ).own
def anP(p:Pb)(H:List Hg)(s:List Int):Pb:=⟨p.R,p.C++anC H s H.length,p.F,p.O++anO H H.length,p.T⟩
def zAd(p:Pb)(H:List Hg)(s:List Int):Pb×Int:=
 if zAr p=0 then (if zA9 H.length s=true then (if zAr (anP p H s)=0 then (anP p H s,0)else (pbZ,zAr (anP p H s)))else (pbZ,1))else (pbZ,zAr p)
theorem zIa(H:List Hg)(s:List Int)(k:Nat):anC H s (k+1)=anC H s k++ [zBY H s k]:=by
 unfold anC;rw[List.range_succ,List.map_append]
 rfl
theorem zIb(H:List Hg)(k:Nat):anO H (k+1)=anO H k++ [(H.getD k hgZ).own]:=by
 unfold anO;rw[List.range_succ,List.map_append]
 rfl
theorem zMC(H:List Hg)(s:List Int)(hH:H.length≤1000000)(hs:s.length≤1000000):ACalls Tryz.prog 52 [.c (lsH H),.c (lsI s)] (.c (bC (zA9 H.length s))):=by
 obtain⟨v,hv⟩:∃v,zA9 H.length s=v:=⟨_,rfl⟩
 rw[hv];refine zJ Tryz.func52 rfl rfl Tryz.ntmps52 rfl ?_;refine vB [0,1] ?_;refine AWp.round (fun k:Nat=>zC 36 [(0,.c (lsH H)),(1,.c (lsI s)),(7,.c (lsI s)),(8,.c (iC s.length)),(9,.c (iC (k:Nat)))] [] []) (fun k=>k≤s.length∧∀i,i<k→0≤fI s i∧fI s i<H.length∧(0<i→fI s (i-1)<fI s i)) (fun k=>s.length-k) 0 ⟨Nat.zero_le _,fun _ h=>absurd h (Nat.not_lt_zero _)⟩ ?_ (fun k hk=> ?_)
 ·refine Wk.mk [] rfl rfl rfl ?_ trivial
  exact zB
 obtain⟨hk,hok⟩:=hk
 by_cases hkl:k<s.length;rotate_left
 ·have hkl':¬(k:Int)<s.length:=by omega
  obtain rfl:k=s.length:=by omega
  rw[nmOk_iff.2 hok]at hv;subst hv;refine vB [2,7] ?_
  refine⟨zC 36 [(4,.c (bC true))] [] [],[],Wk.mk [] rfl rfl rfl ?_ trivial,rfl,rfl,aR1⟩
  exact zB
 have hkl':(k:Int)<s.length:=by omega
 have bad:¬(0≤fI s k∧fI s k<H.length∧(0<k→fI s (k-1)<fI s k))→v=false:=fun h=>by rw[←hv,zMX hkl h]
 have go:0≤fI s k∧fI s k<H.length∧(0<k→fI s (k-1)<fI s k)→k+1≤s.length∧∀i,i<k+1→0≤fI s i∧fI s i<H.length∧(0<i→fI s (i-1)<fI s i):=fun h=>⟨hkl,fun i hi=>by
  by_cases e:i=k
  ·rw[e];exact h
  ·exact hok i xD⟩
 obtain⟨y,hy⟩:∃y,fI s k=y:=⟨_,rfl⟩
 have hcy:iF (fI s) k 0=iC y:=by rw[←hy]
 rw[hy]at bad go;clear hok;by_cases c1:y<0
 ·obtain rfl:=bad fun h=>by omega
  repeat (first
   |refine vB [2,4,5] ?_
   | (refine rG 3 ?_
      refine vA ?_
      first|refine zG (aP (k:=k) zA) ?_|refine zI (zH (k:=k) zA) ?_
      first|refine zY zA (hcy) rfl rfl rfl rfl rfl oM ?_|refine zAp zA rfl rfl rfl rfl rfl rfl rfl oM oM (hcy) ?_
      refine xE2 ?_;refine aB ?_))
  refine⟨zC 36 [(4,.c (bC false))] [] [],[],Wk.mk [] rfl rfl rfl ?_ trivial,rfl,rfl,aR1⟩
  exact zB
 by_cases c2:y≥H.length
 ·obtain rfl:=bad fun h=>by omega
  repeat (first
   |refine vB [2,4,5] ?_
   | (refine rG 3 ?_
      refine vA ?_
      first|refine zG (aP (k:=k) zA) ?_|refine zI (zH (k:=k) zA) ?_
      first|refine zY zA (hcy) rfl rfl rfl rfl rfl oM ?_|refine zAp zA rfl rfl rfl rfl rfl rfl rfl oM oM (hcy) ?_
      refine xE2 ?_;refine aB ?_))
  refine⟨zC 36 [(4,.c (bC false))] [] [],[],Wk.mk [] rfl rfl rfl ?_ trivial,rfl,rfl,aR1⟩
  exact zB
 by_cases c3:k=0
 ·have g:=go ⟨by omega,by omega,fun h=>by omega⟩
  have c3':¬(k:Int)>0:=by omega
  repeat (first
   |refine vB [2,4,6] ?_
   | (refine rG 3 ?_
      refine vA ?_
      first|refine zG (aP (k:=k) zA) ?_|refine zI (zH (k:=k) zA) ?_
      first|refine zY zA (hcy) rfl rfl rfl rfl rfl oM ?_|refine zAp zA rfl rfl rfl rfl rfl rfl rfl oM oM (hcy) ?_
      refine xE2 ?_;refine aB ?_))
  refine⟨k+1,g,Wk.mk [] rfl rfl rfl ?_ trivial,by omega⟩
  exact zB
 have c3':(k:Int)>0:=by omega
 obtain⟨m,hm⟩:∃m,k=m+1:=⟨k-1,by omega⟩
 have hm1:k-1=m:=by omega
 have hml:m<s.length:=by omega
 rw[hm1]at bad go
 obtain⟨z,hz⟩:∃z,fI s m=z:=⟨_,rfl⟩
 have hcz:iF (fI s) m 0=iC z:=by rw[←hz]
 rw[hz]at bad go;by_cases c4:y≤z
 ·obtain rfl:=bad fun h=>by have:=h.2.2 xD;omega
  repeat (first
   |refine vB [2,5] ?_
   | (refine rG 3 ?_
      refine vA ?_
      first|refine zG (aP (k:=k) zA) ?_|refine zI (zH (k:=k) zA) ?_
      first|refine zY zA (hcy) rfl rfl rfl rfl rfl oM ?_|refine zAp zA rfl rfl rfl rfl rfl rfl rfl oM oM (hcy) ?_
      refine xE2 ?_;refine aB ?_)
   | (refine rG 4 ?_
      refine zJX ?_
      first|refine qr2 aG ?_|refine zG (aP (k:=m) zA) ?_|refine zI (zH (k:=m) zA) ?_
      first|refine qr2 aG ?_|refine zY zA (hcz) rfl rfl rfl rfl rfl oM ?_|refine zAp zA rfl rfl rfl rfl rfl rfl rfl oM oM (hcz) ?_
      refine xE3 ?_;refine aB ?_))
  refine⟨zC 36 [(4,.c (bC false))] [] [],[],Wk.mk [] rfl rfl rfl ?_ trivial,rfl,rfl,aR1⟩
  exact zB
 have g:=go ⟨by omega,by omega,fun h=>by omega⟩
 repeat (first
  |refine vB [2,6] ?_
  | (refine rG 3 ?_
     refine vA ?_
     first|refine zG (aP (k:=k) zA) ?_|refine zI (zH (k:=k) zA) ?_
     first|refine zY zA (hcy) rfl rfl rfl rfl rfl oM ?_|refine zAp zA rfl rfl rfl rfl rfl rfl rfl oM oM (hcy) ?_
     refine xE2 ?_;refine aB ?_)
  | (refine rG 4 ?_
     refine zJX ?_
     first|refine qr2 aG ?_|refine zG (aP (k:=m) zA) ?_|refine zI (zH (k:=m) zA) ?_
     first|refine qr2 aG ?_|refine zY zA (hcz) rfl rfl rfl rfl rfl oM ?_|refine zAp zA rfl rfl rfl rfl rfl rfl rfl oM oM (hcz) ?_
     refine xE3 ?_;refine aB ?_))
 refine⟨k+1,g,Wk.mk [] rfl rfl rfl ?_ trivial,by omega⟩
 exact zB
abbrev zCB(H:List Hg):Prop:=H.length≤900000∧∀h∈H,h.now.n≤1000000∧h.ch.length≤1000000∧∀b∈h.ch,b.n≤1000000
theorem zEJ(H:List Hg)(s:List Int)(k:Nat):(anC H s k).length=k:=by
 unfold anC;rw[List.length_map,List.length_range]
theorem zGE(H:List Hg)(k:Nat):(anO H k).length=k:=by
 unfold anO;rw[List.length_map,List.length_range]
theorem zG2{H:List Hg}(hH:zCB H)(s:List Int){k:Nat}(hk:k<H.length):(zBY H s k).length≤1000000∧∀b∈zBY H s k,b.n≤1000000:=by
 obtain⟨h1,h2,h3⟩:=hH.2 _ (zAB (L:=H) (k:=k) (z:=hgZ) hk)
 unfold zBY;by_cases c:(k:Int)∈s
 ·rw[if_pos c];exact⟨h2,h3⟩
 ·rw[if_neg c]
  exact⟨by simp,fun b hb=>by rw[List.mem_singleton.1 hb];exact h1⟩
theorem zEl{p:Pb}{H:List Hg}(s:List Int)(hp:p.ok)(hH:zCB H)(hc:zAr p=0):(anP p H s).ok:=by
 have hf:=zCE hp hc;have lC:=hf.c;have lO:=hf.o;have hl:=hH.1
 refine⟨hp.rd,hp.lR,?_,hp.lF,?_,hp.lT,fun l hl=> ?_⟩
 ·show(p.C++anC H s H.length).length≤1000000
  rw[List.length_append,zEJ];omega
 ·show(p.O++anO H H.length).length≤1000000
  rw[List.length_append,zGE];omega
 ·rcases List.mem_append.1 (show l∈p.C++anC H s H.length from hl)with h|h
  ·exact hp.lc l h
  ·obtain⟨k,hk,rfl⟩:=List.mem_map.1 h
   exact(zG2 hH s (List.mem_range.1 hk)).1

theorem zKx(n:Nat)(F:Nat→Nat→CV)(hF:∀k,k<n→∀j,j<4→zM (F k j)=true)(hn:n≤1000000):zCg Tryz.prog 55 [.c (.ls n 4 F)] [] (.c (.ow 900)) [] [⟨true,n,4,61,F⟩]:=by
 by_cases h0:n=0
 ·subst h0
  refine zBw Tryz.func55 rfl rfl Tryz.ntmps55 rfl ?_;refine zEc (t:=0) rfl fun A cap=> ?_
  refine AWp.weak (S':=zC 8 [(0,.c (.p (.slice A 0 cap)))] [] []) (Wk.mk [] rfl rfl rfl ⟨⟨_,rfl,.c (LeC.refl _ rfl)⟩,trivial⟩ trivial) ?_
  cases A with
  | none=>
    repeat (first
     |refine vB [0,2] ?_
     | (refine rG 1 ?_
        refine vA ?_
        first|refine zBc rfl rfl rfl Tryz.underlying32 oM oM ?_|refine zBl rfl rfl rfl Tryz.underlying32 ?_|refine zBk rfl rfl rfl Tryz.underlying32 ?_
        refine aB ?_)
     | (refine rG 3 ?_
        refine xE2 ?_
        first|refine zAT zA rfl rfl rfl rfl rfl rfl rfl rfl rfl rfl oM oM ?_|refine zBj zA rfl rfl rfl rfl rfl rfl rfl rfl rfl rfl oM oM ?_
        refine vA ?_;refine aB ?_))
    refine⟨zC 8 [(2,.c (.ow 900))] [(900,⟨true,0,4,61,F⟩)] [900],[],_,[],[⟨true,0,4,61,F⟩],⟨rfl,rfl,rfl⟩,rfl,Wk.mk [(900,none)] rfl rfl rfl ?_ ?_,rfl,rfl,GRets.one (x:=.c _) (GRes.tmp rfl)⟩
    ·exact zB
    ·exact⟨HeapOk.nil rfl rfl,trivial⟩
  | some ad=>
    repeat (first
     |refine vB [0,2] ?_
     | (refine rG 1 ?_
        refine vA ?_
        first|refine zBc rfl rfl rfl Tryz.underlying32 oM oM ?_|refine zBl rfl rfl rfl Tryz.underlying32 ?_|refine zBk rfl rfl rfl Tryz.underlying32 ?_
        refine aB ?_)
     | (refine rG 3 ?_
        refine xE2 ?_
        first|refine zAT zA rfl rfl rfl rfl rfl rfl rfl rfl rfl rfl oM oM ?_|refine zBj zA rfl rfl rfl rfl rfl rfl rfl rfl rfl rfl oM oM ?_
        refine vA ?_;refine aB ?_))
    refine⟨zC 8 [(2,.c (.ow 900))] [(900,⟨true,0,4,61,F⟩)] [900],[],_,[],[⟨true,0,4,61,F⟩],⟨rfl,rfl,rfl⟩,rfl,Wk.mk [(900,some 7)] rfl rfl rfl ?_ ?_,rfl,rfl,GRets.one (x:=.c _) (GRes.tmp rfl)⟩
    ·exact zB
    ·exact⟨.inr ⟨7,0,_,.inl rfl,rfl,rfl,fun i hi=>absurd hi (Nat.not_lt_zero _)⟩,trivial⟩
 ·have h0:0<n:=Nat.pos_of_ne_zero h0
  refine zBw Tryz.func55 rfl rfl Tryz.ntmps55 rfl ?_
  repeat (first
   |refine vB [0,2] ?_
   | (refine rG 1 ?_
      refine vA ?_
      first|refine zBc rfl rfl rfl Tryz.underlying32 oM oM ?_|refine zBl rfl rfl rfl Tryz.underlying32 ?_|refine zBk rfl rfl rfl Tryz.underlying32 ?_
      refine aB ?_)
   | (refine rG 3 ?_
      refine xE2 ?_
      first|refine zAT zA rfl rfl rfl rfl rfl rfl rfl rfl rfl rfl oM oM ?_|refine zBj zA rfl rfl rfl rfl rfl rfl rfl rfl rfl rfl oM oM ?_
      refine vA ?_;refine aB ?_))
  refine⟨zC 8 [(2,.c (.ow 900))] [(900,⟨true,n,4,61,F⟩)] [900],[],_,[],[⟨true,n,4,61,F⟩],⟨rfl,rfl,rfl⟩,rfl,Wk.mk [(900,some 7)] rfl rfl rfl ?_ ?_,rfl,rfl,GRets.one (x:=.c _) (GRes.tmp rfl)⟩
  ·exact zB
  ·exact⟨.inr ⟨7,n,_,.inl rfl,rfl,rfl,fun i hi j hj=>LeC.refl _ (hF i hi j hj)⟩,trivial⟩
theorem zM5(b:Bp):Cv (.ls 1 3 (sF (bpC b) 3)) (lsB [b]):=zFk fun k hk j hj O w u h=>by
 obtain rfl:k=0:=Nat.lt_one_iff.mp hk
 match j,hj with
 |0,_=>exact h
 |1,_=>exact h
 |2,_=>exact h
theorem zFq(p:Pb)(hp:p.ok)(H:List Hg)(hH:zCB H)(s:List Int)(hs:s.length≤1000000):ACalls Tryz.prog 27 [.ag (pbC p),.c (lsH H),.c (lsI s)] (.tu [.ag (pbC (zAd p H s).1),.c (iC (zAd p H s).2)]):=by
 have hC:=zDH p hp
 obtain⟨e,he⟩:∃e,zAr p=e:=⟨_,rfl⟩
 rw[he]at hC;by_cases h0:e=0;rotate_left
 ·rw [show zAd p H s=(pbZ,e) by unfold zAd;rw[he,if_neg h0]]
  refine zJ Tryz.func27 rfl rfl Tryz.ntmps27 rfl ?_
  repeat (first
   |refine vB [0,2,3] ?_
   | (refine rG 1 ?_
      refine vA ?_;refine xB Tryz.func25 hC ?_;refine vA ?_;refine aB ?_))
  refine⟨zC 92 [(6,.c (.pt 6 5 0 0)),(7,.c (iC (e)))] [(6,⟨false,1,5,34,lF (pbC pbZ)⟩)] [6],[(6,⟨false,1,5,34,lF (pbC pbZ)⟩)],Wk.mk [(6,some 6)] rfl rfl rfl ?_ ?_,rfl,rfl,ARets.two (x:=.ag _) (y:=.c _) (ARes.box zA rfl rfl rfl rfl rfl rfl rfl) (ARes.tmp rfl rfl)⟩
  ·exact zB
  ·exact⟨HeapOk.box rfl rfl ⟨LeC.nils _ _,LeC.nils _ _,LeC.nils _ _,LeC.nils _ _,LeC.nils _ _,trivial⟩ rfl,trivial⟩
 subst h0;have hfit:=zCE hp he;have hbn:=zLC he;have lC:=hfit.c;have lF0:=hfit.f;have lO:=hfit.o;have lT:=hfit.t;have lH:=hH.1;have hI:=zMC H s xD hs
 obtain⟨V,hV⟩:∃V,zAd p H s=V:=⟨_,rfl⟩
 have hwv:(if zA9 H.length s=true then (if zAr (anP p H s)=0 then (anP p H s,(0:Int))else (pbZ,zAr (anP p H s)))else (pbZ,1))=V:=by rw[←hV];unfold zAd;rw[if_pos he]
 rw[hV];generalize zA9 H.length s=b at *
 cases b with
 | false=>
   obtain rfl:(pbZ,(1:Int))=V:=hwv;refine zJ Tryz.func27 rfl rfl Tryz.ntmps27 rfl ?_
   repeat (first
    |refine vB [0,2,5] ?_
    | (refine rG 1 ?_
       refine vA ?_;refine xB Tryz.func25 hC ?_;refine vA ?_;refine aB ?_)
    | (refine rG 4 ?_
       refine xE2 ?_;refine xB Tryz.func52 hI ?_;refine vA ?_;refine aB ?_))
   refine⟨zC 92 [(6,.c (.pt 6 5 0 0)),(7,.c (iC (1)))] [(6,⟨false,1,5,34,lF (pbC pbZ)⟩)] [6],[(6,⟨false,1,5,34,lF (pbC pbZ)⟩)],Wk.mk [(6,some 6)] rfl rfl rfl ?_ ?_,rfl,rfl,ARets.two (x:=.ag _) (y:=.c _) (ARes.box zA rfl rfl rfl rfl rfl rfl rfl) (ARes.tmp rfl rfl)⟩
   ·exact zB
   ·exact⟨HeapOk.box rfl rfl ⟨LeC.nils _ _,LeC.nils _ _,LeC.nils _ _,LeC.nils _ _,LeC.nils _ _,trivial⟩ rfl,trivial⟩
 |true=>
 rw[if_pos rfl]at hwv;have hR:=zKA p.R.length (zS rdC rdZ p.R) (fun i _ j _=>zL zAF _ i j) hp.lR;have hF:=zEL p.F hp.lF (fun k hk=>by have:=hbn.1 _ (zAB (L:=p.F) (k:=k) (z:=bpZ) hk);omega)
 have hO:=zKx p.O.length (zS bgC bgZ p.O) (fun i _ j _=>zL zU _ i j) xD;have hT:=zKw p.T.length (zS bgC bgZ p.T) (fun i _ j _=>zL zU _ i j) xD
 obtain⟨nO,hnO⟩:∃n,p.O.length=n:=⟨_,rfl⟩
 refine zJ Tryz.func27 rfl rfl Tryz.ntmps27 rfl ?_
 repeat (first
  |refine vB [0,2,7] ?_
  | (refine rG 1 ?_
     refine vA ?_;refine xB Tryz.func25 hC ?_;refine vA ?_;refine aB ?_)
  | (refine rG 4 ?_
     refine xE2 ?_;refine xB Tryz.func52 hI ?_;refine vA ?_;refine aB ?_)
  |(refine AWp.draw (id:=6) zK ?_;refine xE2 ?_;refine xB Tryz.func53 hR ?_;refine xE2 ?_;refine xB Tryz.func54 hF ?_;refine xE2 ?_;(first|refine AList.callG [] [35] [] [] [bgB p.O] [] [bgB p.O] rfl rfl FnV.func rfl Tryz.func55 rfl xC (trivial) rfl (.c (.owN 0 35 rfl)) (trivial) (⟨⟨_,rfl,fun i _ j _=>.imm _ (zL zU p.O i j)⟩,trivial⟩) (hO) ?_|refine xB Tryz.func55 hT ?_);refine xE2 ?_;(first|refine AList.callG [] [35] [] [] [bgB p.O] [] [bgB p.O] rfl rfl FnV.func rfl Tryz.func55 rfl xC (trivial) rfl (.c (.owN 0 35 rfl)) (trivial) (⟨⟨_,rfl,fun i _ j _=>.imm _ (zL zU p.O i j)⟩,trivial⟩) (hO) ?_|refine xB Tryz.func55 hT ?_);refine xE3 ?_;refine aB ⟨by kernel_rfl,?_⟩))
 refine AWp.round (fun k:Nat=>
  zC 92 [(1,.c (lsH H)),(2,.c (lsI s)),(6,.c (.pt 6 5 0 0)),(9,.c (.pt 9 5 0 0)),(41,.c (.ls p.C.length 1 (chF p.C))),(42,.c (iC p.C.length)),(43,.c (iC (k:Nat)))] [(6,⟨false,1,5,34,lF [nl8,nl8,nl8,nl8,nl8]⟩),(9,⟨false,1,5,34,lF [lsR p.R,.ow 120,lsB p.F,.ow 121,lsG p.T]⟩),(120,chB (p.C.take k)),(121,bgB (p.O))] [6,9,120,121]
  ) (fun k=>k≤p.C.length) (fun k=>p.C.length-k) 0 (Nat.zero_le _) ?_ (fun k hk=> ?_)
 ·refine Wk.mk [(6,some 6),(9,some 9),(120,none),(121,some 35)] rfl rfl rfl ?_ ?_
  ·exact zB
  ·exact⟨hSm,HeapOk.box rfl rfl ⟨LeC.refl _ rfl,LeC.nil _ rfl,LeC.refl _ rfl,LeC.ow _ _ rfl,LeC.refl _ rfl,trivial⟩ rfl,HeapOk.nil rfl rfl,hrF zU,trivial⟩
 by_cases hkl:k<p.C.length
 ·have hkl':(k:Int)<p.C.length:=by omega
  have hcF:chF p.C k 0=lsB (p.C.getD k []):=rfl;have hBk:=zEL (p.C.getD k []) (hp.lc _ (zAB hkl)) (fun i hi=>by have:=hbn.2 _ (zAB (L:=p.C) (k:=k) (z:= []) hkl) _ (zAB (L:=p.C.getD k []) (k:=i) (z:=bpZ) hi);omega)
  have e1:p.C.take (k+1)=p.C.take k++ [p.C.getD k []]:=by
   rw[List.take_add_one,List.getElem?_eq_getElem hkl,List.getD_eq_getElem?_getD,List.getElem?_eq_getElem hkl];rfl
  have l1:(p.C.take k).length=k:=by rw[List.length_take];omega
  obtain⟨q1,hq1⟩:∃q,p.C.take k=q:=⟨_,rfl⟩
  rw[hq1]at l1 e1;have lq1:q1.length≤1000000:=by omega
  rw[hq1]
  repeat (first
   |refine vB [8,11] ?_
   | (refine rG 9 ?_
      first|refine zG (aP (k:=k) zA) ?_|refine zI (zH (k:=k) zA) ?_
      first|refine zY zA (hcF) rfl rfl rfl rfl rfl oM ?_|refine zAp zA rfl rfl rfl rfl rfl rfl rfl oM oM (hcF) ?_
      refine vA ?_;refine aB ?_)
   |(refine AWp.draw (id:=10) zK ?_;refine xE3 ?_;refine xB Tryz.func54 hBk ?_;refine vA ?_;refine xA ?_;refine xE2 ?_;refine aB ⟨by kernel_rfl,?_⟩))
  refine⟨k+1,hkl,?_,by omega⟩
  rw[e1];refine Wk.mk [(6,some 6),(9,some 9),(120,some 52),(121,some 121)] rfl rfl rfl ?_ ?_
  ·exact zB
  ·exact⟨hSm,HeapOk.box rfl rfl ⟨LeC.refl _ rfl,LeC.ow _ _ rfl,LeC.refl _ rfl,LeC.ow _ _ rfl,LeC.refl _ rfl,trivial⟩ rfl,HeapOk.row rfl rfl List.length_append (zDs _ _),hrF zU,trivial⟩
 have hkl':¬(k:Int)<p.C.length:=by omega
 obtain rfl:k=p.C.length:=by omega
 rw[List.take_length];refine vB [8,12] ?_;refine AWp.round (fun k:Nat=>
  zC 92 [(1,.c (lsH H)),(2,.c (lsI s)),(6,.c (.pt 6 5 0 0)),(9,.c (.pt 9 5 0 0)),(55,.c (lsH H)),(56,.c (iC H.length)),(57,.c (iC (k:Nat)))] [(6,⟨false,1,5,34,lF [nl8,nl8,nl8,nl8,nl8]⟩),(9,⟨false,1,5,34,lF [lsR p.R,.ow 120,lsB p.F,.ow 121,lsG p.T]⟩),(120,chB (p.C++anC H s k)),(121,bgB (p.O++anO H k))] [6,9,120,121]
  ) (fun k=>k≤H.length) (fun k=>H.length-k) 0 (Nat.zero_le _) ?_ (fun k hk=> ?_)
 ·rw[show p.C++anC H s 0=p.C from List.append_nil _,show p.O++anO H 0=p.O from List.append_nil _]
  refine Wk.mk [(6,some 6),(9,some 9),(120,some 120),(121,some 121)] rfl rfl rfl ?_ ?_
  ·exact zB
  ·exact⟨hSm,HeapOk.box rfl rfl ⟨LeC.refl _ rfl,LeC.ow _ _ rfl,LeC.refl _ rfl,LeC.ow _ _ rfl,LeC.refl _ rfl,trivial⟩ rfl,HeapOk.row rfl rfl rfl (fun i _ j _=>⟨rfl,rfl⟩),hrF zU,trivial⟩
 by_cases hkl:k<H.length;rotate_left
 ·have hkl':¬(k:Int)<H.length:=by omega
  obtain rfl:k=H.length:=by omega
  have hW:=zDH (anP p H s) (zEl s hp hH he);refine vB [13] ?_;refine AWp.weak (S':=zC 92 [(6,.c (.pt 6 5 0 0)),(9,.c (.pt 9 5 0 0))] [(6,⟨false,1,5,34,lF [nl8,nl8,nl8,nl8,nl8]⟩),(9,⟨false,1,5,34,lF (pbC (anP p H s))⟩)] [6,9]) (Wk.mk [(6,some 6),(9,some 9)] rfl rfl rfl ?_ ?_) ?_
  ·exact zB
  ·exact⟨hSm,HeapOk.box rfl rfl ⟨LeC.refl _ rfl,zZ rfl rfl rfl (fun _ _ _ _=>⟨rfl,rfl⟩),LeC.refl _ rfl,zZ rfl rfl rfl (fun i _ j _=>⟨rfl,zL zU _ i j⟩),LeC.refl _ rfl,trivial⟩ rfl,trivial⟩
  generalize zAr (anP p H s)=f at *;by_cases hf:f=0
  ·rw [if_pos hf]at hwv
   subst hf hwv
   repeat (first
    |refine vB [22,24] ?_
    | (refine rG 21 ?_
       refine vA ?_;refine xB Tryz.func25 hW ?_;refine vA ?_;refine aB ?_))
   refine⟨zC 92 [(6,.c (.pt 6 5 0 0)),(7,.c (iC 0))] [(6,⟨false,1,5,34,lF (pbC (anP p H s))⟩)] [6],[(6,⟨false,1,5,34,lF (pbC (anP p H s))⟩)],Wk.mk [(6,some 6)] rfl rfl rfl ?_ ?_,rfl,rfl,ARets.two (x:=.ag _) (y:=.c _) (ARes.box zA rfl rfl rfl rfl rfl rfl rfl) (ARes.tmp rfl rfl)⟩
   ·exact zB
   ·exact⟨hSm,trivial⟩
  ·rw [if_neg hf]at hwv
   subst hwv
   repeat (first
    |refine vB [22,23] ?_
    | (refine rG 21 ?_
       refine vA ?_;refine xB Tryz.func25 hW ?_;refine vA ?_;refine aB ?_))
   refine⟨zC 92 [(6,.c (.pt 6 5 0 0)),(7,.c (iC (f)))] [(6,⟨false,1,5,34,lF (pbC pbZ)⟩)] [6],[(6,⟨false,1,5,34,lF (pbC pbZ)⟩)],Wk.mk [(6,some 6)] rfl rfl rfl ?_ ?_,rfl,rfl,ARets.two (x:=.ag _) (y:=.c _) (ARes.box zA rfl rfl rfl rfl rfl rfl rfl) (ARes.tmp rfl rfl)⟩
   ·exact zB
   ·exact⟨HeapOk.box rfl rfl ⟨LeC.nils _ _,LeC.nils _ _,LeC.nils _ _,LeC.nils _ _,LeC.nils _ _,trivial⟩ rfl,trivial⟩
 have hkl':(k:Int)<H.length:=by omega
 have hb:=zG2 hH s hkl;have hBk:=zEL (zBY H s k) hb.1 (fun i hi=>hb.2 _ (zAB hi));have hcn:=zKB s (k:Int) hs;have e1:p.C++anC H s (k+1)=(p.C++anC H s k)++ [zBY H s k]:=by rw[zIa,List.append_assoc]
 have e2:p.O++anO H (k+1)=(p.O++anO H k)++ [(H.getD k hgZ).own]:=by rw[zIb,List.append_assoc]
 have l1:(p.C++anC H s k).length≤1000000:=by rw[List.length_append,zEJ];omega
 have l2:(p.O++anO H k).length≤1000000:=by rw[List.length_append,zGE];omega
 obtain⟨h,hh⟩:∃h,H.getD k hgZ=h:=⟨_,rfl⟩
 have eH:zAD (zS hgC hgZ H k) 0 8=hgC h:=by rw[←hh];rfl
 have hX:zBY H s k=if (k:Int)∈s then h.ch else [h.now]:=by rw[←hh]
 rw[hh]at e2;generalize zBY H s k=X at *;generalize p.C++anC H s k=q1 at *;generalize p.O++anO H k=q2 at *;by_cases hm:(k:Int)∈s
 ·rw [decide_eq_true hm]at hcn
  rw[if_pos hm]at hX;subst hX
  repeat (first
   |refine vB [13,15,17,20] ?_
   | (refine rG 14 ?_
      refine vA ?_
      first|refine zG (aP (k:=k) zA) ?_|refine zI (zH (k:=k) zA) ?_
      refine zEb zA (eH) rfl rfl rfl rfl rfl oM ?_;refine xE3 ?_;refine aB ?_)
   | (refine rG 16 ?_
      refine xE2 ?_;refine xB Tryz.func56 hcn ?_;refine aB ?_)
   |(refine AWp.draw (id:=18) zK ?_;refine xE3 ?_;refine xB Tryz.func54 hBk ?_;refine vA ?_;refine xA ?_;refine xE2 ?_;refine aB ⟨by kernel_rfl,?_⟩)
   | (refine rG 19 ?_
      refine xE5 ?_;refine xA ?_;refine xE2 ?_;refine aB ?_))
  refine⟨k+1,hkl,?_,by omega⟩
  rw[e1,e2];refine Wk.mk [(6,some 6),(9,some 9),(120,some 75),(121,some 82)] rfl rfl rfl ?_ ?_
  ·exact zB
  ·exact⟨hSm,HeapOk.box rfl rfl ⟨LeC.refl _ rfl,LeC.ow _ _ rfl,LeC.refl _ rfl,LeC.ow _ _ rfl,LeC.refl _ rfl,trivial⟩ rfl,HeapOk.row rfl rfl List.length_append (zDs _ _),HeapOk.row rfl rfl List.length_append (zBh _ _ zU rfl),trivial⟩
 ·rw [decide_eq_false hm]at hcn
  rw[if_neg hm]at hX;subst hX;have hB1:=hBk.cv (args':= [.c (.ls 1 3 (sF (bpC h.now) 3))]) ⟨.c (zM5 h.now),trivial⟩
  repeat (first
   |refine vB [13,15,20] ?_
   | (refine rG 14 ?_
      refine vA ?_
      first|refine zG (aP (k:=k) zA) ?_|refine zI (zH (k:=k) zA) ?_
      refine zEb zA (eH) rfl rfl rfl rfl rfl oM ?_;refine xE3 ?_;refine aB ?_)
   | (refine rG 16 ?_
      refine xE2 ?_;refine xB Tryz.func56 hcn ?_;refine aB ?_)
   |(refine AWp.draw (id:=18) zK ?_;refine xE3 ?_;refine xB Tryz.func54 hB1 ?_;refine vA ?_;refine xA ?_;refine xE2 ?_;refine aB ⟨by kernel_rfl,?_⟩)
   | (refine rG 19 ?_
      refine xE5 ?_;refine xA ?_;refine xE2 ?_;refine aB ?_))
  refine⟨k+1,hkl,?_,by omega⟩
  rw[e1,e2];refine Wk.mk [(6,some 6),(9,some 9),(120,some 75),(121,some 82)] rfl rfl rfl ?_ ?_
  ·exact zB
  ·exact⟨hSm,HeapOk.box rfl rfl ⟨LeC.refl _ rfl,LeC.ow _ _ rfl,LeC.refl _ rfl,LeC.ow _ _ rfl,LeC.refl _ rfl,trivial⟩ rfl,HeapOk.row rfl rfl List.length_append (zDs _ _),HeapOk.row rfl rfl List.length_append (zBh _ _ zU rfl),trivial⟩
def zCG(k i:Nat):Int:=if i<k then (i:Int)else 0
def zBr(n:Nat):List Int:=(List.range n).map Int.ofNat
theorem zH9(n:Nat):(zBr n).length=n:=by
 unfold zBr;rw[List.length_map,List.length_range]
theorem zQd(n i:Nat):fI (zBr n) i=zCG n i:=by
 unfold zBr zCG
 show((List.range n).map Int.ofNat).getD i 0=_
 rw[List.getD_eq_getElem?_getD,List.getElem?_map];by_cases h:i<n
 ·rw[List.getElem?_range h,if_pos h];rfl
 ·rw[List.getElem?_eq_none (by rw[List.length_range];omega),if_neg h];rfl
theorem zMs(k:Nat):∀i j,j<1→zAw (iF (zCG k)) k 0 1 [iC k] i j=iF (zCG (k+1)) i j:=fun i j hj=>by
 obtain rfl:j=0:=Nat.lt_one_iff.mp hj;rw[zGa];show _=iC (zCG (k+1) i);unfold zCG;by_cases h:i=k
 ·subst h;rw[if_pos ⟨rfl,rfl⟩,if_pos (Nat.lt_succ_self _)]
 ·rw[if_neg (fun q=>h q.1)]
  show iC (zCG k i)=_;unfold zCG;by_cases g:i<k
  ·rw[if_pos g,if_pos xD]
  ·rw[if_neg g,if_neg xD]
theorem zPn(H:List Hg)(hH:H.length≤1000000):ACalls Tryz.prog 26 [.c (lsH H)] (.c (lsI (zBr H.length))):=by
 obtain⟨n,hn⟩:∃n,H.length=n:=⟨_,rfl⟩
 refine zJ Tryz.func26 rfl rfl Tryz.ntmps26 rfl ?_
 repeat (first
  |refine vB [0,2] ?_
  | (refine rG 1 ?_
     refine xE2 ?_;refine zC5 (zCN (n:=H.length) zA) ?_;refine vA ?_;refine aB ?_))
 refine AWp.round (fun k:Nat=>zC 19 [(3,.c (.ow 20)),(9,.c (iC H.length)),(10,.c (iC (k:Nat)))] [(20,zAc H.length (zCG k))] [20]) (fun k=>k≤H.length) (fun k=>H.length-k) 0 (Nat.zero_le _) ?_ (fun k hk=> ?_)
 ·refine Wk.mk [(20,some 7)] rfl rfl rfl ?_ ?_
  ·exact zB
  ·exact⟨HeapOk.row rfl rfl rfl (fun i _ j hj=>by obtain rfl:j=0:=Nat.lt_one_iff.mp hj;exact⟨rfl,rfl⟩),trivial⟩
 by_cases hkl:k<H.length
 ·have hkl':(k:Int)<H.length:=by omega
  repeat (first
   |refine vB [3,4,6] ?_
   | (refine rG 5 ?_
      refine xE3 ?_
      first|refine zG (aP (k:=k) zA) ?_|refine zI (zH (k:=k) zA) ?_
      refine vA ?_;refine aB ?_))
  refine⟨k+1,hkl,Wk.mk [(20,some 20)] rfl rfl rfl ?_ ?_,by omega⟩
  ·exact zB
  ·exact⟨HeapOk.row rfl rfl rfl (fun i _ j hj=>by have e:=zMs k i j hj;exact⟨e,by rw[e];rfl⟩),trivial⟩
 have hkl':¬(k:Int)<H.length:=by omega
 obtain rfl:k=H.length:=by omega
 refine vB [3,7] ?_
 refine⟨zC 19 [(2,.c (lsI (zBr H.length)))] [] [],[],Wk.mk [] rfl rfl rfl ?_ trivial,rfl,rfl,aR1⟩
 exact⟨⟨_,rfl,.c (zZ rfl rfl (zH9 _) (fun i _ j _=>⟨congrArg iC (zQd _ i).symm,rfl⟩))⟩,trivial⟩
end Go.Proofs.YtbffmfeldkjkcaaGreat
end
