/- Parts of the proof: AShr, A29c, A29d, A29e, A29f, A30a, A30b, A30c, A30d, A30f. -/
import Derived.Test.YtbffmfeldkjkcaaG36
import Derived.Test.YtbffmfeldkjkcaaG38
import Derived.Test.YtbffmfeldkjkcaaG39
set_option linter.unusedSimpArgs false
set_option linter.unusedVariables false
set_option maxHeartbeats 0
section
namespace Go.AV
open Go Go.RowKit Go.Flow
section
variable{P:Program}{tab:List (TypeId×TD)}
variable{ops:Array Oper}{rest:List Oper}{acc:List (List Nat×List Nat)}{S:St}{Q:List (List Nat×List Nat)→St→Prop}{dst:Option Tmp}{ty:TypeId}{pos:String}{after:Array Edge}{guard:Option (Nat×Bool)}
theorem AList.cutOw(T:tabOk P tab=true){id id1:Nat}{x y:Operand}{t el:TypeId}{d e:TD}{n m:Nat}{F:Nat→Nat→CV}
 (hw:S.wants ops {dst:=some id,op:=.slice t x none (some y) none,type:=ty,pos,after,guard}=some true) (hd:dOk S.n (some id)=true) (hf:S.fr id=true)
 (hx:S.opd x=some (.c (.ow id1))) (ht:assoc tab t=some d) (hk:d.k=.sl el) (he:assoc tab el=some e) (hh:S.h id1=some ⟨true,n,e.size,el,F⟩) (hlo:Nat.blt id1 1000=true)
 (hy:∃k i,S.opd y=some (.c (.p (.int k i)))∧i=(m:Int)) (hm:m≤n)
 (hn:AList P ops rest (([id1,id],[id1,id,id])::acc) (S.eff (some id) ⟨.c (.ow id),[(id1,none),(id,some ⟨true,m,e.size,el,F⟩)],[id]⟩) Q):
 AList P ops ({dst:=some id,op:=.slice t x none (some y) none,type:=ty,pos,after,guard}::rest) acc S Q:=
 AList.cons [id1] ⟨.c (.ow id),[(id1,none),(id,some ⟨true,m,e.size,el,F⟩)],[id]⟩ (LStep.of hw fun S1 hA hr1 hal b0 σ a w R=>by
  obtain⟨inf,z,u,i1,i2,i3,-⟩:=ty_info T he
  have hu:=ty_sl T ht hk
  obtain⟨hfr,hidl⟩:=R.fr id ((hal id (by simp)).trans hf)
  have rs:=opd_rep R ((hA.op x (by simp[Op.operands])).trans hx)
  obtain⟨k,i,f1,f2⟩:=hy
  have ey:a.eval y=.int k m:=by rw[←f2];exact rep_int (opd_rep R ((hA.op y (by simp[Op.operands])).trans f1))
  have hB1:=(hr1 id1 (by simp)).trans hh
  have e0:σ id1=some (a.eval x):=rs.2.1
  obtain⟨v,g1,g2⟩:=R.hp.blk id1 _ hB1
  rw[e0]at g1
  cases g1
  have hne:S1.h id1≠none:=by rw[hB1];simp
  have hn1:id1≠id:=fun e=>by rw[e,hfr]at e0;cases e0
  have hlo:=Nat.blt_eq.mp hlo
  have hK:Keep (own σ S1.h) w w:=⟨rfl,rfl,rfl,Nat.le_refl _,fun _ _ _=>rfl⟩
  obtain⟨v',hex,h1c,hbb,hOB⟩:∃v',(execOp a.eval {dst:=some id,op:=.slice t x none (some y) none,type:=ty,pos,after,guard}).run P w=.ok (.value v') w∧(v'.oneCell'=true∧∃A n c,v'=.slice A n c)∧(∀b,baseBlk v'=some b→baseBlk (a.eval x)=some b)∧
   ∀(σ':Nat→Option Value) (h':Nat→Option AB),(∀b,out b0 σ' h' b→out b0 σ S1.h b)→(∀i v,σ i=some v→σ' i=some v)→OBk σ' (out b0 σ' h') w v' ⟨true,m,e.size,el,F⟩:=by
   rcases g2.row rfl with ⟨_,q1,q2⟩|⟨b,cap,cs,q1,q2,q3,q4⟩
   ·have q2:n=0:=q2
    obtain rfl:m=0:=by omega
    refine⟨.slice none 0 0,?_,⟨rfl,none,0,0,rfl⟩,fun b hb=>(by cases hb),fun σ' h' _ _=>.inl ⟨rfl,rfl,rfl⟩⟩
    simp[execOp,Instr.sliceAt,Instr.slice,run_underlying hu,q1,Instr.sliceBounds,Instr.sliceBound,asIntOf,ey,sizeOf,typeInfo,i1,i2]
   ·rcases q1 with ⟨_,q1,q5,q6⟩|⟨q1,_⟩
    rotate_left
    ·cases q1
    replace q5:n≤cap:=q5
    replace q1:a.eval x=.slice (some ⟨b,0,none⟩) n cap:=q1
    have c1:(m:Int)≤cap:=by omega
    have c3:m≤cap:=by omega
    have c4:¬cap<m:=by omega
    refine⟨.slice (some ⟨b,0,none⟩) m cap,?_,⟨rfl,_,_,_,rfl⟩,fun b' hb=>by rw[q1];exact hb,fun σ' h' hO hs=>.inr (.inl ⟨b,cap,cs,.inl ⟨rfl,rfl,c3,q6⟩,q2,q3,fun k hk j hj=> ?_⟩)⟩
    ·simp[execOp,Instr.sliceAt,Instr.slice,run_underlying hu,q1,Instr.sliceBounds,Instr.sliceBound,asIntOf,ey,sizeOf,typeInfo,i1,i2,c1,c3,c4,Addr.add]
    ·have hk:k<m:=hk
     obtain⟨u,r1,r2⟩:=q4 k (show k<n by omega) j hj
     exact⟨u,r1,r2.keep ⟨rfl,rfl,rfl,Nat.le_refl _,fun _ _ _=>rfl⟩ (fun b hb=>.inl (hO b hb)) hs⟩
  rw[hex]
  have hsub:∀i u,σ i=some u→put σ id (some v') i=some u:=fun i u h=>by
   rw[put_ne _ _ (fun e=>by rw[e,hfr]at h;cases h)];exact h
  generalize hB':(⟨true,m,e.size,el,F⟩:AB)=B' at hOB⊢
  have hlk:look [(id1,none),(id,some B')] S1.h=put (put S1.h id (some B')) id1 none:=rfl
  have hid:look [(id1,none),(id,some B')] S1.h id=some B':=by
   rw[hlk]
   exact(put_ne _ _ (Ne.symm hn1)).trans (put_same _ _ _)
  have hoth:∀i,i≠id→look [(id1,none),(id,some B')] S1.h i=none∨(look [(id1,none),(id,some B')] S1.h i=S1.h i∧i≠id1):=fun i hi=>by
   rw[hlk]
   by_cases h1:i=id1
   ·subst h1;exact .inl (put_same _ _ _)
   ·exact .inr ⟨(put_ne _ _ h1).trans (put_ne _ _ hi),h1⟩
  have hout:∀b,out b0 (put σ id (some v')) (look [(id1,none),(id,some B')] S1.h) b→out b0 σ S1.h b:=fun b hb=>by
   rcases hb with ⟨i,u,h1,h2,h3⟩|hb
   ·by_cases hi:i=id
    ·subst hi
     rw[put_same]at h2
     cases h2
     exact .inl ⟨id1,_,hne,e0,hbb b h3⟩
    ·rw[put_ne _ _ hi]at h2
     rcases hoth i hi with h0|⟨h0,_⟩
     ·exact absurd h0 h1
     ·rw[h0]at h1
      exact .inl ⟨i,u,h1,h2,h3⟩
   ·exact .inr hb
  obtain⟨H,_,hO⟩:=R.hp.put (id:=id) (B':=B') (v':=v') (σ':=put σ id (some v')) (h':=look [(id1,none),(id,some B')] S1.h) (w':=w) hsub hid (put_same _ _ _)
   (fun i hi=>(hoth i hi).imp (fun h=>h) fun h=>h.1) hK
   (fun i u hi=>by
     obtain⟨h1,-⟩:=b0.one i u hi
     have h3:=R.hp.fx i u hi
     rcases hoth i (by omega)with h0|h0
     ·rw[hlk]at h0
      exact absurd ((put_ne _ _ (by omega)).symm.trans ((put_ne _ _ (by omega)).symm.trans h0)) h3.2
     ·rw[h0.1];exact h3.2) (fun i hi=>put_ne _ _ (by omega))
   (fun i u b hi h1 h2 h3=>rfl) (hOB _ _ hout hsub)
   (fun b hb=>by
     have ho:own σ S1.h b:=⟨id1,_,hne,e0,hbb b hb⟩
     refine⟨R.hp.new b ho,.inl ho,fun i u hi h1 h2 h3=> ?_⟩
     rcases hoth i hi with h0|⟨h0,h00⟩
     ·exact absurd h0 h1
     ·rw[h0]at h1
      exact h00 (R.hp.inj i id1 u _ b h1 hne h2 e0 h3 (hbb b hb)))
  exact⟨_,R.step (e:=⟨.c (.ow id),[(id1,none),(id,some B')],[id]⟩) (by rw[hA.n];exact hd) hsub hK H hO (fun _=>⟨h1c.1,put_same _ _ _,.inl h1c.2⟩) fun i hi=>by
   by_cases h:i=id
   ·exact .inr (by simp[h])
   ·rw[put_ne _ _ h]at hi;exact .inl hi⟩) hn
end
end Go.AV
end
section
namespace Go.Proofs.Ytbffmfeldkjkcaa
open Go.RowKit Go.Flow Go.AV Go.Plain
def unsV(p:Pb):Int:=if (solveV p).2=0 then 7 else if (solveV p).2=60 then 0 else (solveV p).2
set_option maxRecDepth 100000 in
theorem uns_A(p:Pb)(hp:p.ok):ACalls Try.prog 78 [.ag (pbC p)] (.c (iC (unsV p))):=by
 have hS:=Solve28_A p hp
 unfold unsV
 generalize solveV p=o at *
 obtain⟨ol,oe⟩:=o
 dsimp only at hS⊢
 by_cases h0:oe=0
 ·rw [if_pos h0]
  subst h0
  refine acalls_at Try.func78 rfl rfl Try.ntmps78 rfl ?_
  repeat (first
   |refine vB [0,2,4,5] ?_
   | (refine rG 1 ?_
      refine vA ?_
      refine aH rfl rfl rfl rfl Try.func18 rfl (by kernel_rfl) (hS) ?_
      (iterate 5 refine vA ?_)
      refine aB ?_))
  refine⟨mkSt 16 [(2,.c (iC 7))] [] [],[],Wk.mk [] rfl rfl rfl ?_ trivial,rfl,rfl,aR1⟩
  exact allT
 ·rw[if_neg h0]
  by_cases h1:oe=60
  ·rw [if_pos h1]
   subst h1
   refine acalls_at Try.func78 rfl rfl Try.ntmps78 rfl ?_
   repeat (first
    |refine vB [0,2,4,6,7] ?_
    | (refine rG 1 ?_
       refine vA ?_
       refine aH rfl rfl rfl rfl Try.func18 rfl (by kernel_rfl) (hS) ?_
       (iterate 5 refine vA ?_)
       refine aB ?_))
   refine⟨mkSt 16 [(2,.c (iC 0))] [] [],[],Wk.mk [] rfl rfl rfl ?_ trivial,rfl,rfl,aR1⟩
   exact allT
  ·rw [if_neg h1]
   refine acalls_at Try.func78 rfl rfl Try.ntmps78 rfl ?_
   repeat (first
    |refine vB [0,2,3,4,6] ?_
    | (refine rG 1 ?_
       refine vA ?_
       refine aH rfl rfl rfl rfl Try.func18 rfl (by kernel_rfl) (hS) ?_
       (iterate 5 refine vA ?_)
       refine aB ?_))
   refine⟨mkSt 16 [(2,.c (iC oe))] [] [],[],Wk.mk [] rfl rfl rfl ?_ trivial,rfl,rfl,aR1⟩
   exact allT
def combX(rec:List Int→Nat→List (List Int))(l:List Int):Nat→Nat→List (List Int)
 |0,_=> []
 |m+1,x=>rec (l++ [(x:Int)]) (x+1)++combX rec l m (x+1)
def combG(n:Nat):Nat→List Int→Nat→List (List Int)
 |0,l,_=> [l]
 |r+1,l,x=>combX (combG n r) l (n-x) x
theorem comb_len{n:Nat}:∀(r:Nat) (l:List Int) (x:Nat),∀s∈combG n r l x,s.length=l.length+r
 | 0,l,x,s,h=>by
   obtain rfl:s=l:=by simpa[combG]using h
   rfl
 | r + 1,l,x,s,h=>by
   have key:∀m x,∀s∈combX (combG n r) l m x,s.length=l.length+(r+1):=fun m=>by
    induction m with
    |zero=>intro x s h;cases h
    | succ m ih=>
      intro x s h
      rcases List.mem_append.1 h with h|h
      ·rw[comb_len r _ _ s h,List.length_append]
       show l.length+1+r=_
       omega
      ·exact ih _ s h
   exact key _ _ s h
abbrev pl1(c:CV):CV:=.pl 1 1 (lF [c]) 0 0
theorem drop_hd{all:List (List Int)}{g:Nat}{l:List Int}{rest:List (List Int)}(h:all.drop g=l::rest):g<all.length∧all.getD g []=l∧all.drop (g+1)=rest:=by
 have hlt:g<all.length:=Decidable.byContradiction fun hn=>by rw[List.drop_eq_nil_of_le (by omega)]at h;cases h
 rw[List.drop_eq_getElem_cons hlt]at h
 cases h
 exact⟨hlt,by rw[List.getD_eq_getElem?_getD,List.getElem?_eq_getElem hlt];rfl,rfl⟩
theorem row_back{ids ni:List Nat}{n:Nat}{ty:TypeId}{F:Nat→Nat→CV}(hi:∀k,k<n→∀j,j<1→immC (F k j)=true):BackBM ids ni [⟨true,n,1,ty,F⟩] [⟨true,n,1,ty,F⟩]:=⟨⟨_,rfl,fun k hk j hj=>.b (.imm _ (hi k hk j hj))⟩,trivial⟩
abbrev setsL(n K:Nat):List (List Int):=combG n K [] 0
theorem fI_ap1{l:List Int}{x:Int}{k:Nat}(h:k<l.length):fI (l++ [x]) k=fI l k:=by
 show(l++ [x]).getD k 0=l.getD k 0
 rw[List.getD_eq_getElem?_getD,List.getD_eq_getElem?_getD,List.getElem?_append_left h]
theorem fI_at1{l:List Int}{x:Int}:fI (l++ [x]) l.length=x:=by
 show(l++ [x]).getD l.length 0=x
 rw[List.getD_eq_getElem?_getD,List.getElem?_append_right (Nat.le_refl _)]
 simp
theorem nmOk_snoc{n:Nat}{l:List Int}{x:Nat}(h:nmOk n l=true)(hx:∀k,k<l.length→fI l k<x)(hn:x<n):nmOk n (l++ [(x:Int)])=true:=nmOk_iff.2 fun k hk=>by
 rw[List.length_append,List.length_singleton]at hk
 by_cases hkl:k<l.length
 ·obtain⟨h1,h2,h3⟩:=nmOk_iff.1 h k hkl
  rw[fI_ap1 hkl]
  refine⟨h1,h2,fun h0=> ?_⟩
  rw[fI_ap1 (by omega)]
  exact h3 h0
 ·obtain rfl:k=l.length:=by omega
  rw[fI_at1]
  refine⟨by omega,by omega,fun h0=> ?_⟩
  rw[fI_ap1 (by omega)]
  exact hx _ (by omega)
theorem comb_ok{n:Nat}:∀(r:Nat) (l:List Int) (x:Nat),nmOk n l=true→(∀k,k<l.length→fI l k<x)→∀s∈combG n r l x,nmOk n s=true
 | 0,l,x,h,_,s,hs=>by
   obtain rfl:s=l:=by simpa[combG]using hs
   exact h
 | r + 1,l,x,h,hx,s,hs=>by
   have key:∀m y,x≤y→(m=0∨y+m≤n)→∀s∈combX (combG n r) l m y,nmOk n s=true:=fun m=>by
    induction m with
    |zero=>intro y _ _ s h;cases h
    | succ m ih=>
      intro y hy hm s hs
      have hyn:y<n:=by omega
      rcases List.mem_append.1 hs with hs|hs
      ·refine comb_ok r _ _ (nmOk_snoc h (fun k hk=>by have:=hx k hk;omega) hyn) (fun k hk=> ?_) s hs
       rw[List.length_append,List.length_singleton]at hk
       by_cases hkl:k<l.length
       ·rw[fI_ap1 hkl];have:=hx k hkl;omega
       ·obtain rfl:k=l.length:=by omega
        rw[fI_at1];omega
      ·exact ih (y+1) (by omega) (by omega) s hs
   exact key (n-x) x (Nat.le_refl _) (by omega) s hs
theorem sets_ok{n K:Nat}{s:List Int}(h:s∈setsL n K):nmOk n s=true∧s.length=K:=
 ⟨comb_ok K [] 0 (nmOk_iff.2 fun k hk=>absurd hk (Nat.not_lt_zero _)) (fun k hk=>absurd hk (Nat.not_lt_zero _)) s h,by have:=comb_len K [] 0 s h;simpa using this⟩
def setsTo(n:Nat):Nat→List (List Int)
 |0=> []
 |k+1=>setsTo n k++setsL n k
theorem first_or(bad:List Int→Bool):∀all:List (List Int),(∃i,i<all.length∧bad (all.getD i [])=true∧∀j,j<i→bad (all.getD j [])=false)∨∀j,j<all.length→bad (all.getD j [])=false
 | []=>.inr fun _ h=>absurd h (Nat.not_lt_zero _)
 | s ::l=>by
   cases h:bad s with
   |true=>exact .inl ⟨0,Nat.succ_pos _,h,fun _ h=>absurd h (Nat.not_lt_zero _)⟩
   | false=>
     rcases first_or bad l with ⟨i,h1,h2,h3⟩|h1
     ·exact .inl ⟨i+1,Nat.succ_lt_succ h1,h2,fun j hj=>by
       cases j with
       |zero=>exact h
       |succ j=>exact h3 j (by omega)⟩
     ·exact .inr fun j hj=>by
       cases j with
       |zero=>exact h
       |succ j=>exact h1 j (by simpa using hj)
theorem findS_hit{bad:List Int→Bool}:∀{all:List (List Int)} {i:Nat},i<all.length→bad (all.getD i [])=true→(∀j,j<i→bad (all.getD j [])=false)→all.find? bad=some (all.getD i [])
 | s::l,0,_,h,_=>by
   rw[List.find?_cons]
   show(match bad s with|true=>some s|false=>_)=_
   rw[show bad s=true from h];rfl
 | s::l,i+1,hi,h,hl=>by
   rw[List.find?_cons,show bad s=false from hl 0 (Nat.succ_pos _)]
   exact findS_hit (all:=l) (i:=i) (by simpa using hi) h fun j hj=>hl (j+1) (by omega)
theorem findS_no{bad:List Int→Bool}{all:List (List Int)}(h:∀j,j<all.length→bad (all.getD j [])=false):all.find? bad=none:=by
 rw[List.find?_eq_none]
 intro s hs
 obtain⟨j,hj,rfl⟩:=List.mem_iff_getElem.1 hs
 have:=h j hj
 rw[List.getD_eq_getElem?_getD,List.getElem?_eq_getElem hj]at this
 simpa using this
structure Hg where
 now:Bp
 ch:List Bp
 own:Bg
abbrev hgC(h:Hg):List CV:=bpC h.now++ [lsB h.ch]++bgC h.own
abbrev hgZ:Hg:=⟨bpZ,[],bgZ⟩
abbrev lsH(H:List Hg):CV:=.ls H.length 8 (rowF hgC hgZ H)
theorem hgC_imm(h:Hg):(hgC h).all immC=true:=rfl
set_option maxRecDepth 100000 in
theorem bitmaps30_A(L:List Bp)(hl:L.length≤1000000)(hb:∀k,k<L.length→(L.getD k bpZ).n≤1000000):ACalls Try.prog 33 [.c (lsB L)] (.c (lsB L)):=by
 by_cases h0:L.length=0
 ·obtain rfl:L= []:=List.eq_nil_of_length_eq_zero h0
  have hC:=CloneBp_A 0 (rowF bpC bpZ []) (fun k hk=>absurd hk (Nat.not_lt_zero _)) (by omega)
  refine acalls_at Try.func33 rfl rfl Try.ntmps33 rfl ?_
  repeat (first
   |refine vB [0,2] ?_
   | (refine rG 1 ?_
      refine vA ?_
      refine aH rfl rfl rfl rfl Try.func64 rfl (by kernel_rfl) (hC) ?_
      refine vA ?_
      refine aB ?_))
  refine AWp.round (fun _:Nat=>mkSt 23 [(0,.c (lsB [])),(7,.c (iC 0)),(8,.c (iC 0))] [] []) (fun _=>True) (fun _=>0) 0 trivial ?_ (fun k _=> ?_)
  ·refine Wk.mk [] rfl rfl rfl ?_ trivial
   exact allT
  refine vB [3,7] ?_
  refine⟨mkSt 23 [(2,.c (lsB []))] [] [],[],Wk.mk [] rfl rfl rfl ?_ trivial,rfl,rfl,aR1⟩
  exact allT
 ·have h0:0<L.length:=Nat.pos_of_ne_zero h0
  have hC:=CloneBp_G L.length (rowF bpC bpZ L) (fun k _ j _=>rowF_imm bpC_imm L k j) h0 hl
  obtain⟨n,hn⟩:∃n,L.length=n:=⟨_,rfl⟩
  refine acalls_at Try.func33 rfl rfl Try.ntmps33 rfl ?_
  repeat (first
   |refine vB [0,2] ?_
   | (refine rG 1 ?_
      refine vA ?_
      refine AList.callG [] [5] [] [] [bpB L] [] [bpB L] rfl rfl FnV.func rfl Try.func64 rfl (by kernel_rfl) (trivial) rfl (.c (.owN 0 5 rfl)) (trivial) (⟨⟨_,rfl,fun i _ j _=>.imm _ (rowF_imm bpC_imm L i j)⟩,trivial⟩) (hC) ?_
      refine vA ?_
      refine aB ?_))
  refine AWp.round (fun k:Nat=>mkSt 23 [(0,.c (.ow 5)),(7,.c (iC L.length)),(8,.c (iC k))] [(5,bpB L)] [5]) (fun k=>k≤L.length) (fun k=>L.length-k) 0 (Nat.zero_le _) ?_ (fun k hk=> ?_)
  ·refine Wk.mk [(5,some 5)] rfl rfl rfl ?_ ?_
   ·exact allT
   ·exact⟨hrF bpC_imm,trivial⟩
  by_cases hkl:k<L.length
  ·have hkl':(k:Int)<L.length:=by omega
   have hb1:=hb k hkl
   have hD:=CloneB_A (L.getD k bpZ).n (bF (L.getD k bpZ).d) (fun _ _ _ _=>rfl) hb1
   have hcell:rowF bpC bpZ L k 2=.ls (L.getD k bpZ).n 1 (bF (L.getD k bpZ).d):=rfl
   repeat (first
    |refine vB [3,4,6] ?_
    | (refine rG 5 ?_
       (iterate 4 refine vA ?_)
       first|refine qr8eo2 (aP (k:=k) tyOk) ?_|refine qr10eo (AList.idxOw (k:=k) tyOk) ?_
       refine vA ?_
       first|refine AList.load1lE tyOk (hcell) rfl rfl rfl rfl rfl oM ?_|refine AList.load1F tyOk rfl rfl rfl rfl rfl rfl rfl oM oM (hcell) ?_
       refine aH rfl rfl rfl rfl Try.func65 rfl (by kernel_rfl) (hD) ?_
       first|refine qr8eo2 (aP (k:=k) tyOk) ?_|refine qr10eo (AList.idxOw (k:=k) tyOk) ?_
       (iterate 2 refine vA ?_)
       refine aB ?_))
   refine⟨k+1,hkl,Wk.mk [(5,some 5)] rfl rfl rfl ?_ ?_,by omega⟩
   ·exact allT
   ·refine⟨HeapOk.row rfl rfl rfl (fun i _ j _=> ?_),trivial⟩
    have e:setF (rowF bpC bpZ L) k 2 1 [.ls (L.getD k bpZ).n 1 (bF (L.getD k bpZ).d)] i j=rowF bpC bpZ L i j:=by
     rw[setG1]
     by_cases h:i=k∧j=2
     ·rw[if_pos h,h.1,h.2];rfl
     ·rw[if_neg h]
    exact⟨e,by rw[e];exact rowF_imm bpC_imm _ i j⟩
  ·have hkl':¬(k:Int)<L.length:=by omega
   refine vB [3,7] ?_
   refine⟨mkSt 23 [(2,.c (lsB L))] [] [],[],Wk.mk [] rfl rfl rfl ?_ trivial,rfl,rfl,aR1⟩
   exact⟨⟨_,rfl,.c (LeC.fz rfl rfl rfl (fun i _ j _=>⟨rfl,rowF_imm bpC_imm _ i j⟩))⟩,trivial⟩
theorem ix_or(s:List Int)(x:Int):(∃i,i<s.length∧fI s i=x∧∀j,j<i→¬fI s j=x)∨∀j,j<s.length→¬fI s j=x:=by
 rcases first_or (fun l=>decide (fI l 0=x)) (s.map fun y=> [y])with ⟨i,h1,h2,h3⟩|h
 ·left
  rw[List.length_map]at h1
  have e:∀j,j<s.length→(s.map fun y=> [y]).getD j []= [fI s j]:=fun j hj=>by
   show _= [s.getD j 0]
   rw[List.getD_eq_getElem?_getD,List.getElem?_map,List.getElem?_eq_getElem hj,List.getD_eq_getElem?_getD,List.getElem?_eq_getElem hj]
   rfl
  refine⟨i,h1,?_,fun j hj=> ?_⟩
  ·rw[e i h1]at h2
   exact of_decide_eq_true h2
  ·have:=h3 j hj
   rw[e j (by omega)]at this
   exact of_decide_eq_false this
 ·right
  intro j hj
  have:=h j (by rw[List.length_map];exact hj)
  rw[show(s.map fun y=> [y]).getD j []= [fI s j] by
   show _= [s.getD j 0]
   rw[List.getD_eq_getElem?_getD,List.getElem?_map,List.getElem?_eq_getElem hj,List.getD_eq_getElem?_getD,List.getElem?_eq_getElem hj]
   rfl]at this
  exact of_decide_eq_false this
theorem mem_fI{s:List Int}{x:Int}:x∈s↔∃i,i<s.length∧fI s i=x:=by
 rw[List.mem_iff_getElem]
 constructor
 ·rintro⟨i,h,e⟩
  exact⟨i,h,by show s.getD i 0=x;rw[List.getD_eq_getElem?_getD,List.getElem?_eq_getElem h];exact e⟩
 ·rintro⟨i,h,e⟩
  refine⟨i,h,?_⟩
  have e':s.getD i 0=x:=e
  rwa [List.getD_eq_getElem?_getD,List.getElem?_eq_getElem h]at e'
set_option maxRecDepth 100000 in
theorem IndexI_A(s:List Int)(x:Int)(hl:s.length≤1000000):∃i:Int,(0≤i↔x∈s)∧ACalls Try.prog 66 [.c (lsI s),.c (iC x)] (.c (iC i)):=by
 rcases ix_or s x with ⟨i,h1,h2,h3⟩|h
 ·refine⟨i,⟨fun _=>mem_fI.2 ⟨i,h1,h2⟩,fun _=>by omega⟩,?_⟩
  refine acalls_at Try.func66 rfl rfl Try.ntmps66 rfl ?_
  refine vB [0,1] ?_
  refine AWp.round (fun k:Nat=>mkSt 19 [(0,.c (lsI s)),(1,.c (iC x)),(7,.c (iC s.length)),(8,.c (iC (k:Nat)))] [] []) (fun k=>k≤i) (fun k=>i-k) 0 (Nat.zero_le _) ?_ (fun k hk=> ?_)
  ·refine Wk.mk [] rfl rfl rfl ?_ trivial
   exact allT
  have hkl:(k:Int)<s.length:=by omega
  have hks:k<s.length:=by omega
  obtain⟨y,hy⟩:∃y,fI s k=y:=⟨_,rfl⟩
  have hcy:iF (fI s) k 0=iC y:=by rw[←hy]
  by_cases e:k=i
  ·subst e
   have hxy:x=y:=by omega
   repeat (first
    |refine vB [2,3,5] ?_
    | (refine rG 4 ?_
       (iterate 3 refine vA ?_)
       first|refine qr8eo2 (aP (k:=k) tyOk) ?_|refine qr10eo (AList.idxOw (k:=k) tyOk) ?_
       first|refine AList.load1lE tyOk (hcy) rfl rfl rfl rfl rfl oM ?_|refine AList.load1F tyOk rfl rfl rfl rfl rfl rfl rfl oM oM (hcy) ?_
       refine vA ?_
       refine aB ?_))
   refine⟨mkSt 19 [(4,.c (iC (k:Nat)))] [] [],[],Wk.mk [] rfl rfl rfl ?_ trivial,rfl,rfl,aR1⟩
   exact allT
  ·have hxy:¬x=y:=fun e'=>h3 k (by omega) (by rw[hy];exact e'.symm)
   repeat (first
    |refine vB [2,3,6] ?_
    | (refine rG 4 ?_
       (iterate 3 refine vA ?_)
       first|refine qr8eo2 (aP (k:=k) tyOk) ?_|refine qr10eo (AList.idxOw (k:=k) tyOk) ?_
       first|refine AList.load1lE tyOk (hcy) rfl rfl rfl rfl rfl oM ?_|refine AList.load1F tyOk rfl rfl rfl rfl rfl rfl rfl oM oM (hcy) ?_
       refine vA ?_
       refine aB ?_))
   refine⟨k+1,by omega,Wk.mk [] rfl rfl rfl ?_ trivial,by omega⟩
   exact allT
 ·refine⟨-1,⟨fun h=>absurd h (by decide),fun hm=> ?_⟩,?_⟩
  ·obtain⟨i,h1,h2⟩:=mem_fI.1 hm
   exact absurd h2 (h i h1)
  refine acalls_at Try.func66 rfl rfl Try.ntmps66 rfl ?_
  refine vB [0,1] ?_
  refine AWp.round (fun k:Nat=>mkSt 19 [(0,.c (lsI s)),(1,.c (iC x)),(7,.c (iC s.length)),(8,.c (iC (k:Nat)))] [] []) (fun k=>k≤s.length) (fun k=>s.length-k) 0 (Nat.zero_le _) ?_ (fun k hk=> ?_)
  ·refine Wk.mk [] rfl rfl rfl ?_ trivial
   exact allT
  by_cases hks:k<s.length
  ·have hkl:(k:Int)<s.length:=by omega
   obtain⟨y,hy⟩:∃y,fI s k=y:=⟨_,rfl⟩
   have hcy:iF (fI s) k 0=iC y:=by rw[←hy]
   have hxy:¬x=y:=fun e'=>h k hks (by rw[hy];exact e'.symm)
   repeat (first
    |refine vB [2,3,6] ?_
    | (refine rG 4 ?_
       (iterate 3 refine vA ?_)
       first|refine qr8eo2 (aP (k:=k) tyOk) ?_|refine qr10eo (AList.idxOw (k:=k) tyOk) ?_
       first|refine AList.load1lE tyOk (hcy) rfl rfl rfl rfl rfl oM ?_|refine AList.load1F tyOk rfl rfl rfl rfl rfl rfl rfl oM oM (hcy) ?_
       refine vA ?_
       refine aB ?_))
   refine⟨k+1,hks,Wk.mk [] rfl rfl rfl ?_ trivial,by omega⟩
   exact allT
  ·obtain rfl:k=s.length:=by omega
   have hkl:¬((s.length:Nat):Int)<s.length:=by omega
   refine vB [2,7] ?_
   refine⟨mkSt 19 [(4,.c (iC (-1)))] [] [],[],Wk.mk [] rfl rfl rfl ?_ trivial,rfl,rfl,aR1⟩
   exact allT
set_option maxRecDepth 100000 in
theorem ContainsI_A(s:List Int)(x:Int)(hl:s.length≤1000000):ACalls Try.prog 35 [.c (lsI s),.c (iC x)] (.c (bC (decide (x∈s)))):=by
 obtain⟨i,hi,hI⟩:=IndexI_A s x hl
 by_cases h:x∈s
 ·have h0:=hi.2 h
  rw[decide_eq_true h]
  refine acalls_at Try.func35 rfl rfl Try.ntmps35 rfl ?_
  repeat (first
   |refine vB [0] ?_
   | (refine rG 1 ?_
      (iterate 2 refine vA ?_)
      refine aH rfl rfl rfl rfl Try.func66 rfl (by kernel_rfl) (hI) ?_
      (iterate 2 refine vA ?_)
      refine aB ?_))
  refine⟨mkSt 9 [(4,.c (bC true))] [] [],[],Wk.mk [] rfl rfl rfl ?_ trivial,rfl,rfl,aR1⟩
  exact allT
 ·have h0:¬0≤i:=fun h1=>h (hi.1 h1)
  rw[decide_eq_false h]
  refine acalls_at Try.func35 rfl rfl Try.ntmps35 rfl ?_
  repeat (first
   |refine vB [0] ?_
   | (refine rG 1 ?_
      (iterate 2 refine vA ?_)
      refine aH rfl rfl rfl rfl Try.func66 rfl (by kernel_rfl) (hI) ?_
      (iterate 2 refine vA ?_)
      refine aB ?_))
  refine⟨mkSt 9 [(4,.c (bC false))] [] [],[],Wk.mk [] rfl rfl rfl ?_ trivial,rfl,rfl,aR1⟩
  exact allT
abbrev hgC1(H:List Hg)(s:List Int)(k:Nat):List Bp:=if (k:Int)∈s then (H.getD k hgZ).ch else [(H.getD k hgZ).now]
abbrev anC(H:List Hg)(s:List Int)(k:Nat):List (List Bp):=(List.range k).map (hgC1 H s)
abbrev anO(H:List Hg)(k:Nat):List Bg:=(List.range k).map fun k=>(H.getD k hgZ).own
def anP(p:Pb)(H:List Hg)(s:List Int):Pb:=⟨p.R,p.C++anC H s H.length,p.F,p.O++anO H H.length,p.T⟩
def withV(p:Pb)(H:List Hg)(s:List Int):Pb×Int:=
 if chkP p=0 then (if nmOk H.length s=true then (if chkP (anP p H s)=0 then (anP p H s,0)else (pbZ,chkP (anP p H s)))else (pbZ,1))else (pbZ,chkP p)
theorem anC_succ(H:List Hg)(s:List Int)(k:Nat):anC H s (k+1)=anC H s k++ [hgC1 H s k]:=by
 unfold anC
 rw[List.range_succ,List.map_append]
 rfl
theorem anO_succ(H:List Hg)(k:Nat):anO H (k+1)=anO H k++ [(H.getD k hgZ).own]:=by
 unfold anO
 rw[List.range_succ,List.map_append]
 rfl
set_option maxRecDepth 100000 in
theorem isSet_A(H:List Hg)(s:List Int)(hH:H.length≤1000000)(hs:s.length≤1000000):ACalls Try.prog 31 [.c (lsH H),.c (lsI s)] (.c (bC (nmOk H.length s))):=by
 obtain⟨v,hv⟩:∃v,nmOk H.length s=v:=⟨_,rfl⟩
 rw[hv]
 refine acalls_at Try.func31 rfl rfl Try.ntmps31 rfl ?_
 refine vB [0,1] ?_
 refine AWp.round (fun k:Nat=>mkSt 36 [(0,.c (lsH H)),(1,.c (lsI s)),(7,.c (lsI s)),(8,.c (iC s.length)),(9,.c (iC (k:Nat)))] [] []) (fun k=>k≤s.length∧∀i,i<k→0≤fI s i∧fI s i<H.length∧(0<i→fI s (i-1)<fI s i)) (fun k=>s.length-k) 0 ⟨Nat.zero_le _,fun _ h=>absurd h (Nat.not_lt_zero _)⟩ ?_ (fun k hk=> ?_)
 ·refine Wk.mk [] rfl rfl rfl ?_ trivial
  exact allT
 obtain⟨hk,hok⟩:=hk
 by_cases hkl:k<s.length
 rotate_left
 ·have hkl':¬(k:Int)<s.length:=by omega
  obtain rfl:k=s.length:=by omega
  rw[nmOk_iff.2 hok]at hv
  subst hv
  refine vB [2,7] ?_
  refine⟨mkSt 36 [(4,.c (bC true))] [] [],[],Wk.mk [] rfl rfl rfl ?_ trivial,rfl,rfl,aR1⟩
  exact allT
 have hkl':(k:Int)<s.length:=by omega
 have bad:¬(0≤fI s k∧fI s k<H.length∧(0<k→fI s (k-1)<fI s k))→v=false:=fun h=>by rw[←hv,nmOk_no hkl h]
 have go:0≤fI s k∧fI s k<H.length∧(0<k→fI s (k-1)<fI s k)→k+1≤s.length∧∀i,i<k+1→0≤fI s i∧fI s i<H.length∧(0<i→fI s (i-1)<fI s i):=fun h=>⟨hkl,fun i hi=>by
  by_cases e:i=k
  ·rw[e];exact h
  ·exact hok i (by omega)⟩
 obtain⟨y,hy⟩:∃y,fI s k=y:=⟨_,rfl⟩
 have hcy:iF (fI s) k 0=iC y:=by rw[←hy]
 rw[hy]at bad go
 clear hok
 by_cases c1:y<0
 ·obtain rfl:=bad fun h=>by omega
  repeat (first
   |refine vB [2,4,5] ?_
   | (refine rG 3 ?_
      refine vA ?_
      first|refine qr8eo2 (aP (k:=k) tyOk) ?_|refine qr10eo (AList.idxOw (k:=k) tyOk) ?_
      first|refine AList.load1lE tyOk (hcy) rfl rfl rfl rfl rfl oM ?_|refine AList.load1F tyOk rfl rfl rfl rfl rfl rfl rfl oM oM (hcy) ?_
      (iterate 2 refine vA ?_)
      refine aB ?_))
  refine⟨mkSt 36 [(4,.c (bC false))] [] [],[],Wk.mk [] rfl rfl rfl ?_ trivial,rfl,rfl,aR1⟩
  exact allT
 by_cases c2:y≥H.length
 ·obtain rfl:=bad fun h=>by omega
  repeat (first
   |refine vB [2,4,5] ?_
   | (refine rG 3 ?_
      refine vA ?_
      first|refine qr8eo2 (aP (k:=k) tyOk) ?_|refine qr10eo (AList.idxOw (k:=k) tyOk) ?_
      first|refine AList.load1lE tyOk (hcy) rfl rfl rfl rfl rfl oM ?_|refine AList.load1F tyOk rfl rfl rfl rfl rfl rfl rfl oM oM (hcy) ?_
      (iterate 2 refine vA ?_)
      refine aB ?_))
  refine⟨mkSt 36 [(4,.c (bC false))] [] [],[],Wk.mk [] rfl rfl rfl ?_ trivial,rfl,rfl,aR1⟩
  exact allT
 by_cases c3:k=0
 ·have g:=go ⟨by omega,by omega,fun h=>by omega⟩
  have c3':¬(k:Int)>0:=by omega
  repeat (first
   |refine vB [2,4,6] ?_
   | (refine rG 3 ?_
      refine vA ?_
      first|refine qr8eo2 (aP (k:=k) tyOk) ?_|refine qr10eo (AList.idxOw (k:=k) tyOk) ?_
      first|refine AList.load1lE tyOk (hcy) rfl rfl rfl rfl rfl oM ?_|refine AList.load1F tyOk rfl rfl rfl rfl rfl rfl rfl oM oM (hcy) ?_
      (iterate 2 refine vA ?_)
      refine aB ?_))
  refine⟨k+1,g,Wk.mk [] rfl rfl rfl ?_ trivial,by omega⟩
  exact allT
 have c3':(k:Int)>0:=by omega
 obtain⟨m,hm⟩:∃m,k=m+1:=⟨k-1,by omega⟩
 have hm1:k-1=m:=by omega
 have hml:m<s.length:=by omega
 rw[hm1]at bad go
 obtain⟨z,hz⟩:∃z,fI s m=z:=⟨_,rfl⟩
 have hcz:iF (fI s) m 0=iC z:=by rw[←hz]
 rw[hz]at bad go
 by_cases c4:y≤z
 ·obtain rfl:=bad fun h=>by have:=h.2.2 (by omega);omega
  repeat (first
   |refine vB [2,5] ?_
   | (refine rG 3 ?_
      refine vA ?_
      first|refine qr8eo2 (aP (k:=k) tyOk) ?_|refine qr10eo (AList.idxOw (k:=k) tyOk) ?_
      first|refine AList.load1lE tyOk (hcy) rfl rfl rfl rfl rfl oM ?_|refine AList.load1F tyOk rfl rfl rfl rfl rfl rfl rfl oM oM (hcy) ?_
      (iterate 2 refine vA ?_)
      refine aB ?_)
   | (refine rG 4 ?_
      (iterate 16 refine vA ?_)
      first|refine qr2 aG ?_|refine qr8eo2 (aP (k:=m) tyOk) ?_|refine qr10eo (AList.idxOw (k:=m) tyOk) ?_
      first|refine qr2 aG ?_|refine AList.load1lE tyOk (hcz) rfl rfl rfl rfl rfl oM ?_|refine AList.load1F tyOk rfl rfl rfl rfl rfl rfl rfl oM oM (hcz) ?_
      (iterate 3 refine vA ?_)
      refine aB ?_))
  refine⟨mkSt 36 [(4,.c (bC false))] [] [],[],Wk.mk [] rfl rfl rfl ?_ trivial,rfl,rfl,aR1⟩
  exact allT
 have g:=go ⟨by omega,by omega,fun h=>by omega⟩
 repeat (first
  |refine vB [2,6] ?_
  | (refine rG 3 ?_
     refine vA ?_
     first|refine qr8eo2 (aP (k:=k) tyOk) ?_|refine qr10eo (AList.idxOw (k:=k) tyOk) ?_
     first|refine AList.load1lE tyOk (hcy) rfl rfl rfl rfl rfl oM ?_|refine AList.load1F tyOk rfl rfl rfl rfl rfl rfl rfl oM oM (hcy) ?_
     (iterate 2 refine vA ?_)
     refine aB ?_)
  | (refine rG 4 ?_
     (iterate 16 refine vA ?_)
     first|refine qr2 aG ?_|refine qr8eo2 (aP (k:=m) tyOk) ?_|refine qr10eo (AList.idxOw (k:=m) tyOk) ?_
     first|refine qr2 aG ?_|refine AList.load1lE tyOk (hcz) rfl rfl rfl rfl rfl oM ?_|refine AList.load1F tyOk rfl rfl rfl rfl rfl rfl rfl oM oM (hcz) ?_
     (iterate 3 refine vA ?_)
     refine aB ?_))
 refine⟨k+1,g,Wk.mk [] rfl rfl rfl ?_ trivial,by omega⟩
 exact allT
abbrev HgOk(H:List Hg):Prop:=H.length≤900000∧∀h∈H,h.now.n≤1000000∧h.ch.length≤1000000∧∀b∈h.ch,b.n≤1000000
theorem anC_len(H:List Hg)(s:List Int)(k:Nat):(anC H s k).length=k:=by
 unfold anC
 rw[List.length_map,List.length_range]
theorem anO_len(H:List Hg)(k:Nat):(anO H k).length=k:=by
 unfold anO
 rw[List.length_map,List.length_range]
theorem hgC1_len{H:List Hg}(hH:HgOk H)(s:List Int){k:Nat}(hk:k<H.length):(hgC1 H s k).length≤1000000∧∀b∈hgC1 H s k,b.n≤1000000:=by
 obtain⟨h1,h2,h3⟩:=hH.2 _ (getD_mem28 (L:=H) (k:=k) (z:=hgZ) hk)
 unfold hgC1
 by_cases c:(k:Int)∈s
 ·rw[if_pos c];exact⟨h2,h3⟩
 ·rw[if_neg c]
  exact⟨by simp,fun b hb=>by rw[List.mem_singleton.1 hb];exact h1⟩
theorem anP_ok{p:Pb}{H:List Hg}(s:List Int)(hp:p.ok)(hH:HgOk H)(hc:chkP p=0):(anP p H s).ok:=by
 have hf:=chkP_fit hp hc
 have lC:=hf.c
 have lO:=hf.o
 have hl:=hH.1
 refine⟨hp.rd,hp.lR,?_,hp.lF,?_,hp.lT,fun l hl=> ?_⟩
 ·show(p.C++anC H s H.length).length≤1000000
  rw[List.length_append,anC_len];omega
 ·show(p.O++anO H H.length).length≤1000000
  rw[List.length_append,anO_len];omega
 ·rcases List.mem_append.1 (show l∈p.C++anC H s H.length from hl)with h|h
  ·exact hp.lc l h
  ·obtain⟨k,hk,rfl⟩:=List.mem_map.1 h
   exact(hgC1_len hH s (List.mem_range.1 hk)).1

theorem CloneBg_G(n:Nat)(F:Nat→Nat→CV)(hF:∀k,k<n→∀j,j<4→immC (F k j)=true)(hn:n≤1000000):GCalls Try.prog 34 [.c (.ls n 4 F)] [] (.c (.ow 900)) [] [⟨true,n,4,62,F⟩]:=by
 by_cases h0:n=0
 ·subst h0
  refine ge_at Try.func34 rfl rfl Try.ntmps34 rfl ?_
  refine AWp.ask0 (t:=0) rfl fun A cap=> ?_
  refine AWp.weak (S':=mkSt 8 [(0,.c (.p (.slice A 0 cap)))] [] []) (Wk.mk [] rfl rfl rfl ⟨⟨_,rfl,.c (LeC.refl _ rfl)⟩,trivial⟩ trivial) ?_
  cases A with
  | none=>
    repeat (first
     |refine vB [0,2] ?_
     | (refine rG 1 ?_
        refine vA ?_
        first|refine AList.nilLs rfl rfl rfl Try.underlying32 oM oM ?_|refine AList.nilPT rfl rfl rfl Try.underlying32 ?_|refine AList.nilPF rfl rfl rfl Try.underlying32 ?_
        refine aB ?_)
     | (refine rG 3 ?_
        (iterate 2 refine vA ?_)
        first|refine AList.appL0 tyOk rfl rfl rfl rfl rfl rfl rfl rfl rfl rfl oM oM ?_|refine AList.appP0 tyOk rfl rfl rfl rfl rfl rfl rfl rfl rfl rfl oM oM ?_
        refine vA ?_
        refine aB ?_))
    refine⟨mkSt 8 [(2,.c (.ow 900))] [(900,⟨true,0,4,62,F⟩)] [900],[],_,[],[⟨true,0,4,62,F⟩],⟨rfl,rfl,rfl⟩,rfl,Wk.mk [(900,none)] rfl rfl rfl ?_ ?_,rfl,rfl,GRets.one (x:=.c _) (GRes.tmp rfl)⟩
    ·exact allT
    ·exact⟨HeapOk.nil rfl rfl,trivial⟩
  | some ad=>
    repeat (first
     |refine vB [0,2] ?_
     | (refine rG 1 ?_
        refine vA ?_
        first|refine AList.nilLs rfl rfl rfl Try.underlying32 oM oM ?_|refine AList.nilPT rfl rfl rfl Try.underlying32 ?_|refine AList.nilPF rfl rfl rfl Try.underlying32 ?_
        refine aB ?_)
     | (refine rG 3 ?_
        (iterate 2 refine vA ?_)
        first|refine AList.appL0 tyOk rfl rfl rfl rfl rfl rfl rfl rfl rfl rfl oM oM ?_|refine AList.appP0 tyOk rfl rfl rfl rfl rfl rfl rfl rfl rfl rfl oM oM ?_
        refine vA ?_
        refine aB ?_))
    refine⟨mkSt 8 [(2,.c (.ow 900))] [(900,⟨true,0,4,62,F⟩)] [900],[],_,[],[⟨true,0,4,62,F⟩],⟨rfl,rfl,rfl⟩,rfl,Wk.mk [(900,some 7)] rfl rfl rfl ?_ ?_,rfl,rfl,GRets.one (x:=.c _) (GRes.tmp rfl)⟩
    ·exact allT
    ·exact⟨.inr ⟨7,0,_,.inl rfl,rfl,rfl,fun i hi=>absurd hi (Nat.not_lt_zero _)⟩,trivial⟩
 ·have h0:0<n:=Nat.pos_of_ne_zero h0
  refine ge_at Try.func34 rfl rfl Try.ntmps34 rfl ?_
  repeat (first
   |refine vB [0,2] ?_
   | (refine rG 1 ?_
      refine vA ?_
      first|refine AList.nilLs rfl rfl rfl Try.underlying32 oM oM ?_|refine AList.nilPT rfl rfl rfl Try.underlying32 ?_|refine AList.nilPF rfl rfl rfl Try.underlying32 ?_
      refine aB ?_)
   | (refine rG 3 ?_
      (iterate 2 refine vA ?_)
      first|refine AList.appL0 tyOk rfl rfl rfl rfl rfl rfl rfl rfl rfl rfl oM oM ?_|refine AList.appP0 tyOk rfl rfl rfl rfl rfl rfl rfl rfl rfl rfl oM oM ?_
      refine vA ?_
      refine aB ?_))
  refine⟨mkSt 8 [(2,.c (.ow 900))] [(900,⟨true,n,4,62,F⟩)] [900],[],_,[],[⟨true,n,4,62,F⟩],⟨rfl,rfl,rfl⟩,rfl,Wk.mk [(900,some 7)] rfl rfl rfl ?_ ?_,rfl,rfl,GRets.one (x:=.c _) (GRes.tmp rfl)⟩
  ·exact allT
  ·exact⟨.inr ⟨7,n,_,.inl rfl,rfl,rfl,fun i hi j hj=>LeC.refl _ (hF i hi j hj)⟩,trivial⟩
theorem oneB_cv(b:Bp):Cv (.ls 1 3 (sF (bpC b) 3)) (lsB [b]):=Cv.lsN fun k hk j hj O w u h=>by
 obtain rfl:k=0:=Nat.lt_one_iff.mp hk
 match j,hj with
 |0,_=>exact h
 |1,_=>exact h
 |2,_=>exact h
set_option maxRecDepth 100000 in
theorem With_A(p:Pb)(hp:p.ok)(H:List Hg)(hH:HgOk H)(s:List Int)(hs:s.length≤1000000):ACalls Try.prog 11 [.ag (pbC p),.c (lsH H),.c (lsI s)] (.tu [.ag (pbC (withV p H s).1),.c (iC (withV p H s).2)]):=by
 have hC:=Check28_A p hp
 obtain⟨e,he⟩:∃e,chkP p=e:=⟨_,rfl⟩
 rw[he]at hC
 by_cases h0:e=0
 rotate_left
 ·rw [show withV p H s=(pbZ,e) by unfold withV;rw[he,if_neg h0]]
  refine acalls_at Try.func11 rfl rfl Try.ntmps11 rfl ?_
  repeat (first
   |refine vB [0,2,3] ?_
   | (refine rG 1 ?_
      refine vA ?_
      refine aH rfl rfl rfl rfl Try.func30 rfl (by kernel_rfl) (hC) ?_
      refine vA ?_
      refine aB ?_))
  refine⟨mkSt 92 [(6,.c (.pt 6 5 0 0)),(7,.c (iC (e)))] [(6,⟨false,1,5,34,lF (pbC pbZ)⟩)] [6],[(6,⟨false,1,5,34,lF (pbC pbZ)⟩)],Wk.mk [(6,some 6)] rfl rfl rfl ?_ ?_,rfl,rfl,ARets.two (x:=.ag _) (y:=.c _) (ARes.box tyOk rfl rfl rfl rfl rfl rfl rfl) (ARes.tmp rfl rfl)⟩
  ·exact allT
  ·exact⟨HeapOk.box rfl rfl ⟨LeC.nils _ _,LeC.nils _ _,LeC.nils _ _,LeC.nils _ _,LeC.nils _ _,trivial⟩ rfl,trivial⟩
 subst h0
 have hfit:=chkP_fit hp he
 have hbn:=chkP_bn he
 have lC:=hfit.c
 have lF0:=hfit.f
 have lO:=hfit.o
 have lT:=hfit.t
 have lH:=hH.1
 have hI:=isSet_A H s (by omega) hs
 obtain⟨V,hV⟩:∃V,withV p H s=V:=⟨_,rfl⟩
 have hwv:(if nmOk H.length s=true then (if chkP (anP p H s)=0 then (anP p H s,(0:Int))else (pbZ,chkP (anP p H s)))else (pbZ,1))=V:=by rw[←hV];unfold withV;rw[if_pos he]
 rw[hV]
 generalize nmOk H.length s=b at *
 cases b with
 | false=>
   obtain rfl:(pbZ,(1:Int))=V:=hwv
   refine acalls_at Try.func11 rfl rfl Try.ntmps11 rfl ?_
   repeat (first
    |refine vB [0,2,5] ?_
    | (refine rG 1 ?_
       refine vA ?_
       refine aH rfl rfl rfl rfl Try.func30 rfl (by kernel_rfl) (hC) ?_
       refine vA ?_
       refine aB ?_)
    | (refine rG 4 ?_
       (iterate 2 refine vA ?_)
       refine aH rfl rfl rfl rfl Try.func31 rfl (by kernel_rfl) (hI) ?_
       refine vA ?_
       refine aB ?_))
   refine⟨mkSt 92 [(6,.c (.pt 6 5 0 0)),(7,.c (iC (1)))] [(6,⟨false,1,5,34,lF (pbC pbZ)⟩)] [6],[(6,⟨false,1,5,34,lF (pbC pbZ)⟩)],Wk.mk [(6,some 6)] rfl rfl rfl ?_ ?_,rfl,rfl,ARets.two (x:=.ag _) (y:=.c _) (ARes.box tyOk rfl rfl rfl rfl rfl rfl rfl) (ARes.tmp rfl rfl)⟩
   ·exact allT
   ·exact⟨HeapOk.box rfl rfl ⟨LeC.nils _ _,LeC.nils _ _,LeC.nils _ _,LeC.nils _ _,LeC.nils _ _,trivial⟩ rfl,trivial⟩
 |true=>
 rw[if_pos rfl]at hwv
 have hR:=CloneRd_A p.R.length (rowF rdC rdZ p.R) (fun i _ j _=>rowF_imm rdC_imm _ i j) hp.lR
 have hF:=bitmaps30_A p.F hp.lF (fun k hk=>by have:=hbn.1 _ (getD_mem28 (L:=p.F) (k:=k) (z:=bpZ) hk);omega)
 have hO:=CloneBg_G p.O.length (rowF bgC bgZ p.O) (fun i _ j _=>rowF_imm bgC_imm28 _ i j) (by omega)
 have hT:=CloneBg_A p.T.length (rowF bgC bgZ p.T) (fun i _ j _=>rowF_imm bgC_imm28 _ i j) (by omega)
 obtain⟨nO,hnO⟩:∃n,p.O.length=n:=⟨_,rfl⟩
 refine acalls_at Try.func11 rfl rfl Try.ntmps11 rfl ?_
 repeat (first
  |refine vB [0,2,7] ?_
  | (refine rG 1 ?_
     refine vA ?_
     refine aH rfl rfl rfl rfl Try.func30 rfl (by kernel_rfl) (hC) ?_
     refine vA ?_
     refine aB ?_)
  | (refine rG 4 ?_
     (iterate 2 refine vA ?_)
     refine aH rfl rfl rfl rfl Try.func31 rfl (by kernel_rfl) (hI) ?_
     refine vA ?_
     refine aB ?_)
  |(refine AWp.draw (id:=6) mixed ?_;(iterate 2 refine vA ?_);refine aH rfl rfl rfl rfl Try.func32 rfl (by kernel_rfl) (hR) ?_;(iterate 2 refine vA ?_);refine aH rfl rfl rfl rfl Try.func33 rfl (by kernel_rfl) (hF) ?_;(iterate 2 refine vA ?_);(first|refine AList.callG [] [35] [] [] [bgB p.O] [] [bgB p.O] rfl rfl FnV.func rfl Try.func34 rfl (by kernel_rfl) (trivial) rfl (.c (.owN 0 35 rfl)) (trivial) (⟨⟨_,rfl,fun i _ j _=>.imm _ (rowF_imm bgC_imm28 p.O i j)⟩,trivial⟩) (hO) ?_|refine aH rfl rfl rfl rfl Try.func34 rfl (by kernel_rfl) (hT) ?_);(iterate 2 refine vA ?_);(first|refine AList.callG [] [35] [] [] [bgB p.O] [] [bgB p.O] rfl rfl FnV.func rfl Try.func34 rfl (by kernel_rfl) (trivial) rfl (.c (.owN 0 35 rfl)) (trivial) (⟨⟨_,rfl,fun i _ j _=>.imm _ (rowF_imm bgC_imm28 p.O i j)⟩,trivial⟩) (hO) ?_|refine aH rfl rfl rfl rfl Try.func34 rfl (by kernel_rfl) (hT) ?_);(iterate 3 refine vA ?_);refine aB ⟨by kernel_rfl,?_⟩))
 refine AWp.round (fun k:Nat=>
  mkSt 92 [(1,.c (lsH H)),(2,.c (lsI s)),(6,.c (.pt 6 5 0 0)),(9,.c (.pt 9 5 0 0)),(41,.c (.ls p.C.length 1 (chF p.C))),(42,.c (iC p.C.length)),(43,.c (iC (k:Nat)))] [(6,⟨false,1,5,34,lF [nl8,nl8,nl8,nl8,nl8]⟩),(9,⟨false,1,5,34,lF [lsR p.R,.ow 120,lsB p.F,.ow 121,lsG p.T]⟩),(120,chB (p.C.take k)),(121,bgB (p.O))] [6,9,120,121]
  ) (fun k=>k≤p.C.length) (fun k=>p.C.length-k) 0 (Nat.zero_le _) ?_ (fun k hk=> ?_)
 ·refine Wk.mk [(6,some 6),(9,some 9),(120,none),(121,some 35)] rfl rfl rfl ?_ ?_
  ·exact allT
  ·exact⟨hSm,HeapOk.box rfl rfl ⟨LeC.refl _ rfl,LeC.nil _ rfl,LeC.refl _ rfl,LeC.ow _ _ rfl,LeC.refl _ rfl,trivial⟩ rfl,HeapOk.nil rfl rfl,hrF bgC_imm28,trivial⟩
 by_cases hkl:k<p.C.length
 ·have hkl':(k:Int)<p.C.length:=by omega
  have hcF:chF p.C k 0=lsB (p.C.getD k []):=rfl
  have hBk:=bitmaps30_A (p.C.getD k []) (hp.lc _ (getD_mem28 hkl)) (fun i hi=>by have:=hbn.2 _ (getD_mem28 (L:=p.C) (k:=k) (z:= []) hkl) _ (getD_mem28 (L:=p.C.getD k []) (k:=i) (z:=bpZ) hi);omega)
  have e1:p.C.take (k+1)=p.C.take k++ [p.C.getD k []]:=by
   rw[List.take_add_one,List.getElem?_eq_getElem hkl,List.getD_eq_getElem?_getD,List.getElem?_eq_getElem hkl];rfl
  have l1:(p.C.take k).length=k:=by rw[List.length_take];omega
  obtain⟨q1,hq1⟩:∃q,p.C.take k=q:=⟨_,rfl⟩
  rw[hq1]at l1 e1
  have lq1:q1.length≤1000000:=by omega
  rw[hq1]
  repeat (first
   |refine vB [8,11] ?_
   | (refine rG 9 ?_
      first|refine qr8eo2 (aP (k:=k) tyOk) ?_|refine qr10eo (AList.idxOw (k:=k) tyOk) ?_
      first|refine AList.load1lE tyOk (hcF) rfl rfl rfl rfl rfl oM ?_|refine AList.load1F tyOk rfl rfl rfl rfl rfl rfl rfl oM oM (hcF) ?_
      refine vA ?_
      refine aB ?_)
   |(refine AWp.draw (id:=10) mixed ?_;(iterate 3 refine vA ?_);refine aH rfl rfl rfl rfl Try.func33 rfl (by kernel_rfl) (hBk) ?_;refine vA ?_;(first|refine AList.appL0 tyOk rfl rfl rfl rfl rfl rfl rfl rfl rfl rfl oM oM ?_|refine AList.appL tyOk rfl rfl rfl rfl rfl rfl rfl rfl rfl rfl oM oM ?_|refine AList.appN tyOk rfl rfl rfl rfl rfl rfl rfl rfl rfl oM oM ?_|refine AList.appO tyOk rfl rfl rfl rfl rfl rfl rfl rfl rfl rfl rfl oM oM ?_|refine AList.appE tyOk rfl rfl rfl rfl rfl rfl rfl rfl rfl rfl oM oM ?_);(iterate 2 refine vA ?_);refine aB ⟨by kernel_rfl,?_⟩))
  refine⟨k+1,hkl,?_,by omega⟩
  rw[e1]
  refine Wk.mk [(6,some 6),(9,some 9),(120,some 52),(121,some 121)] rfl rfl rfl ?_ ?_
  ·exact allT
  ·exact⟨hSm,HeapOk.box rfl rfl ⟨LeC.refl _ rfl,LeC.ow _ _ rfl,LeC.refl _ rfl,LeC.ow _ _ rfl,LeC.refl _ rfl,trivial⟩ rfl,HeapOk.row rfl rfl List.length_append (chF_snoc _ _),hrF bgC_imm28,trivial⟩
 have hkl':¬(k:Int)<p.C.length:=by omega
 obtain rfl:k=p.C.length:=by omega
 rw[List.take_length]
 refine vB [8,12] ?_
 refine AWp.round (fun k:Nat=>
  mkSt 92 [(1,.c (lsH H)),(2,.c (lsI s)),(6,.c (.pt 6 5 0 0)),(9,.c (.pt 9 5 0 0)),(55,.c (lsH H)),(56,.c (iC H.length)),(57,.c (iC (k:Nat)))] [(6,⟨false,1,5,34,lF [nl8,nl8,nl8,nl8,nl8]⟩),(9,⟨false,1,5,34,lF [lsR p.R,.ow 120,lsB p.F,.ow 121,lsG p.T]⟩),(120,chB (p.C++anC H s k)),(121,bgB (p.O++anO H k))] [6,9,120,121]
  ) (fun k=>k≤H.length) (fun k=>H.length-k) 0 (Nat.zero_le _) ?_ (fun k hk=> ?_)
 ·rw[show p.C++anC H s 0=p.C from List.append_nil _,show p.O++anO H 0=p.O from List.append_nil _]
  refine Wk.mk [(6,some 6),(9,some 9),(120,some 120),(121,some 121)] rfl rfl rfl ?_ ?_
  ·exact allT
  ·exact⟨hSm,HeapOk.box rfl rfl ⟨LeC.refl _ rfl,LeC.ow _ _ rfl,LeC.refl _ rfl,LeC.ow _ _ rfl,LeC.refl _ rfl,trivial⟩ rfl,HeapOk.row rfl rfl rfl (fun i _ j _=>⟨rfl,rfl⟩),hrF bgC_imm28,trivial⟩
 by_cases hkl:k<H.length
 rotate_left
 ·have hkl':¬(k:Int)<H.length:=by omega
  obtain rfl:k=H.length:=by omega
  have hW:=Check28_A (anP p H s) (anP_ok s hp hH he)
  refine vB [13] ?_
  refine AWp.weak (S':=mkSt 92 [(6,.c (.pt 6 5 0 0)),(9,.c (.pt 9 5 0 0))] [(6,⟨false,1,5,34,lF [nl8,nl8,nl8,nl8,nl8]⟩),(9,⟨false,1,5,34,lF (pbC (anP p H s))⟩)] [6,9]) (Wk.mk [(6,some 6),(9,some 9)] rfl rfl rfl ?_ ?_) ?_
  ·exact allT
  ·exact⟨hSm,HeapOk.box rfl rfl ⟨LeC.refl _ rfl,LeC.fz rfl rfl rfl (fun _ _ _ _=>⟨rfl,rfl⟩),LeC.refl _ rfl,LeC.fz rfl rfl rfl (fun i _ j _=>⟨rfl,rowF_imm bgC_imm28 _ i j⟩),LeC.refl _ rfl,trivial⟩ rfl,trivial⟩
  generalize chkP (anP p H s)=f at *
  by_cases hf:f=0
  ·rw [if_pos hf]at hwv
   subst hf hwv
   repeat (first
    |refine vB [22,24] ?_
    | (refine rG 21 ?_
       refine vA ?_
       refine aH rfl rfl rfl rfl Try.func30 rfl (by kernel_rfl) (hW) ?_
       refine vA ?_
       refine aB ?_))
   refine⟨mkSt 92 [(6,.c (.pt 6 5 0 0)),(7,.c (iC 0))] [(6,⟨false,1,5,34,lF (pbC (anP p H s))⟩)] [6],[(6,⟨false,1,5,34,lF (pbC (anP p H s))⟩)],Wk.mk [(6,some 6)] rfl rfl rfl ?_ ?_,rfl,rfl,ARets.two (x:=.ag _) (y:=.c _) (ARes.box tyOk rfl rfl rfl rfl rfl rfl rfl) (ARes.tmp rfl rfl)⟩
   ·exact allT
   ·exact⟨hSm,trivial⟩
  ·rw [if_neg hf]at hwv
   subst hwv
   repeat (first
    |refine vB [22,23] ?_
    | (refine rG 21 ?_
       refine vA ?_
       refine aH rfl rfl rfl rfl Try.func30 rfl (by kernel_rfl) (hW) ?_
       refine vA ?_
       refine aB ?_))
   refine⟨mkSt 92 [(6,.c (.pt 6 5 0 0)),(7,.c (iC (f)))] [(6,⟨false,1,5,34,lF (pbC pbZ)⟩)] [6],[(6,⟨false,1,5,34,lF (pbC pbZ)⟩)],Wk.mk [(6,some 6)] rfl rfl rfl ?_ ?_,rfl,rfl,ARets.two (x:=.ag _) (y:=.c _) (ARes.box tyOk rfl rfl rfl rfl rfl rfl rfl) (ARes.tmp rfl rfl)⟩
   ·exact allT
   ·exact⟨HeapOk.box rfl rfl ⟨LeC.nils _ _,LeC.nils _ _,LeC.nils _ _,LeC.nils _ _,LeC.nils _ _,trivial⟩ rfl,trivial⟩
 have hkl':(k:Int)<H.length:=by omega
 have hb:=hgC1_len hH s hkl
 have hBk:=bitmaps30_A (hgC1 H s k) hb.1 (fun i hi=>hb.2 _ (getD_mem28 hi))
 have hcn:=ContainsI_A s (k:Int) hs
 have e1:p.C++anC H s (k+1)=(p.C++anC H s k)++ [hgC1 H s k]:=by rw[anC_succ,List.append_assoc]
 have e2:p.O++anO H (k+1)=(p.O++anO H k)++ [(H.getD k hgZ).own]:=by rw[anO_succ,List.append_assoc]
 have l1:(p.C++anC H s k).length≤1000000:=by rw[List.length_append,anC_len];omega
 have l2:(p.O++anO H k).length≤1000000:=by rw[List.length_append,anO_len];omega
 obtain⟨h,hh⟩:∃h,H.getD k hgZ=h:=⟨_,rfl⟩
 have eH:cellsFrom (rowF hgC hgZ H k) 0 8=hgC h:=by rw[←hh];rfl
 have hX:hgC1 H s k=if (k:Int)∈s then h.ch else [h.now]:=by rw[←hh]
 rw[hh]at e2
 generalize hgC1 H s k=X at *
 generalize p.C++anC H s k=q1 at *
 generalize p.O++anO H k=q2 at *
 by_cases hm:(k:Int)∈s
 ·rw [decide_eq_true hm]at hcn
  rw[if_pos hm]at hX
  subst hX
  repeat (first
   |refine vB [13,15,17,20] ?_
   | (refine rG 14 ?_
      refine vA ?_
      first|refine qr8eo2 (aP (k:=k) tyOk) ?_|refine qr10eo (AList.idxOw (k:=k) tyOk) ?_
      refine AList.loadAlE tyOk (eH) rfl rfl rfl rfl rfl oM ?_
      (iterate 3 refine vA ?_)
      refine aB ?_)
   | (refine rG 16 ?_
      (iterate 2 refine vA ?_)
      refine aH rfl rfl rfl rfl Try.func35 rfl (by kernel_rfl) (hcn) ?_
      refine aB ?_)
   |(refine AWp.draw (id:=18) mixed ?_;(iterate 3 refine vA ?_);refine aH rfl rfl rfl rfl Try.func33 rfl (by kernel_rfl) (hBk) ?_;refine vA ?_;(first|refine AList.appL0 tyOk rfl rfl rfl rfl rfl rfl rfl rfl rfl rfl oM oM ?_|refine AList.appL tyOk rfl rfl rfl rfl rfl rfl rfl rfl rfl rfl oM oM ?_|refine AList.appN tyOk rfl rfl rfl rfl rfl rfl rfl rfl rfl oM oM ?_|refine AList.appO tyOk rfl rfl rfl rfl rfl rfl rfl rfl rfl rfl rfl oM oM ?_|refine AList.appE tyOk rfl rfl rfl rfl rfl rfl rfl rfl rfl rfl oM oM ?_);(iterate 2 refine vA ?_);refine aB ⟨by kernel_rfl,?_⟩)
   | (refine rG 19 ?_
      (iterate 5 refine vA ?_)
      first|refine AList.appL0 tyOk rfl rfl rfl rfl rfl rfl rfl rfl rfl rfl oM oM ?_|refine AList.appL tyOk rfl rfl rfl rfl rfl rfl rfl rfl rfl rfl oM oM ?_|refine AList.appN tyOk rfl rfl rfl rfl rfl rfl rfl rfl rfl oM oM ?_|refine AList.appO tyOk rfl rfl rfl rfl rfl rfl rfl rfl rfl rfl rfl oM oM ?_|refine AList.appE tyOk rfl rfl rfl rfl rfl rfl rfl rfl rfl rfl oM oM ?_
      (iterate 2 refine vA ?_)
      refine aB ?_))
  refine⟨k+1,hkl,?_,by omega⟩
  rw[e1,e2]
  refine Wk.mk [(6,some 6),(9,some 9),(120,some 75),(121,some 82)] rfl rfl rfl ?_ ?_
  ·exact allT
  ·exact⟨hSm,HeapOk.box rfl rfl ⟨LeC.refl _ rfl,LeC.ow _ _ rfl,LeC.refl _ rfl,LeC.ow _ _ rfl,LeC.refl _ rfl,trivial⟩ rfl,HeapOk.row rfl rfl List.length_append (chF_snoc _ _),HeapOk.row rfl rfl List.length_append (row_snoc _ _ bgC_imm28 rfl),trivial⟩
 ·rw [decide_eq_false hm]at hcn
  rw[if_neg hm]at hX
  subst hX
  have hB1:=hBk.cv (args':= [.c (.ls 1 3 (sF (bpC h.now) 3))]) ⟨.c (oneB_cv h.now),trivial⟩
  repeat (first
   |refine vB [13,15,20] ?_
   | (refine rG 14 ?_
      refine vA ?_
      first|refine qr8eo2 (aP (k:=k) tyOk) ?_|refine qr10eo (AList.idxOw (k:=k) tyOk) ?_
      refine AList.loadAlE tyOk (eH) rfl rfl rfl rfl rfl oM ?_
      (iterate 3 refine vA ?_)
      refine aB ?_)
   | (refine rG 16 ?_
      (iterate 2 refine vA ?_)
      refine aH rfl rfl rfl rfl Try.func35 rfl (by kernel_rfl) (hcn) ?_
      refine aB ?_)
   |(refine AWp.draw (id:=18) mixed ?_;(iterate 3 refine vA ?_);refine aH rfl rfl rfl rfl Try.func33 rfl (by kernel_rfl) (hB1) ?_;refine vA ?_;(first|refine AList.appL0 tyOk rfl rfl rfl rfl rfl rfl rfl rfl rfl rfl oM oM ?_|refine AList.appL tyOk rfl rfl rfl rfl rfl rfl rfl rfl rfl rfl oM oM ?_|refine AList.appN tyOk rfl rfl rfl rfl rfl rfl rfl rfl rfl oM oM ?_|refine AList.appO tyOk rfl rfl rfl rfl rfl rfl rfl rfl rfl rfl rfl oM oM ?_|refine AList.appE tyOk rfl rfl rfl rfl rfl rfl rfl rfl rfl rfl oM oM ?_);(iterate 2 refine vA ?_);refine aB ⟨by kernel_rfl,?_⟩)
   | (refine rG 19 ?_
      (iterate 5 refine vA ?_)
      first|refine AList.appL0 tyOk rfl rfl rfl rfl rfl rfl rfl rfl rfl rfl oM oM ?_|refine AList.appL tyOk rfl rfl rfl rfl rfl rfl rfl rfl rfl rfl oM oM ?_|refine AList.appN tyOk rfl rfl rfl rfl rfl rfl rfl rfl rfl oM oM ?_|refine AList.appO tyOk rfl rfl rfl rfl rfl rfl rfl rfl rfl rfl rfl oM oM ?_|refine AList.appE tyOk rfl rfl rfl rfl rfl rfl rfl rfl rfl rfl oM oM ?_
      (iterate 2 refine vA ?_)
      refine aB ?_))
  refine⟨k+1,hkl,?_,by omega⟩
  rw[e1,e2]
  refine Wk.mk [(6,some 6),(9,some 9),(120,some 75),(121,some 82)] rfl rfl rfl ?_ ?_
  ·exact allT
  ·exact⟨hSm,HeapOk.box rfl rfl ⟨LeC.refl _ rfl,LeC.ow _ _ rfl,LeC.refl _ rfl,LeC.ow _ _ rfl,LeC.refl _ rfl,trivial⟩ rfl,HeapOk.row rfl rfl List.length_append (chF_snoc _ _),HeapOk.row rfl rfl List.length_append (row_snoc _ _ bgC_imm28 rfl),trivial⟩
def idF30(k i:Nat):Int:=if i<k then (i:Int)else 0
def allV(n:Nat):List Int:=(List.range n).map Int.ofNat
theorem allV_len(n:Nat):(allV n).length=n:=by
 unfold allV
 rw[List.length_map,List.length_range]
theorem fI_all(n i:Nat):fI (allV n) i=idF30 n i:=by
 unfold allV idF30
 show((List.range n).map Int.ofNat).getD i 0=_
 rw[List.getD_eq_getElem?_getD,List.getElem?_map]
 by_cases h:i<n
 ·rw[List.getElem?_range h,if_pos h];rfl
 ·rw[List.getElem?_eq_none (by rw[List.length_range];omega),if_neg h];rfl
theorem idF30_set(k:Nat):∀i j,j<1→setF (iF (idF30 k)) k 0 1 [iC k] i j=iF (idF30 (k+1)) i j:=fun i j hj=>by
 obtain rfl:j=0:=Nat.lt_one_iff.mp hj
 rw[setG1]
 show _=iC (idF30 (k+1) i)
 unfold idF30
 by_cases h:i=k
 ·subst h;rw[if_pos ⟨rfl,rfl⟩,if_pos (Nat.lt_succ_self _)]
 ·rw[if_neg (fun q=>h q.1)]
  show iC (idF30 k i)=_
  unfold idF30
  by_cases g:i<k
  ·rw[if_pos g,if_pos (by omega)]
  ·rw[if_neg g,if_neg (by omega)]
set_option maxRecDepth 100000 in
theorem all30_A(H:List Hg)(hH:H.length≤1000000):ACalls Try.prog 41 [.c (lsH H)] (.c (lsI (allV H.length))):=by
 obtain⟨n,hn⟩:∃n,H.length=n:=⟨_,rfl⟩
 refine acalls_at Try.func41 rfl rfl Try.ntmps41 rfl ?_
 repeat (first
  |refine vB [0,2] ?_
  | (refine rG 1 ?_
     (iterate 2 refine vA ?_)
     refine qr9e2o2 (AList.makeSl (n:=H.length) tyOk) ?_
     refine vA ?_
     refine aB ?_))
 refine AWp.round (fun k:Nat=>mkSt 19 [(3,.c (.ow 20)),(9,.c (iC H.length)),(10,.c (iC (k:Nat)))] [(20,rowI H.length (idF30 k))] [20]) (fun k=>k≤H.length) (fun k=>H.length-k) 0 (Nat.zero_le _) ?_ (fun k hk=> ?_)
 ·refine Wk.mk [(20,some 7)] rfl rfl rfl ?_ ?_
  ·exact allT
  ·exact⟨HeapOk.row rfl rfl rfl (fun i _ j hj=>by obtain rfl:j=0:=Nat.lt_one_iff.mp hj;exact⟨rfl,rfl⟩),trivial⟩
 by_cases hkl:k<H.length
 ·have hkl':(k:Int)<H.length:=by omega
  repeat (first
   |refine vB [3,4,6] ?_
   | (refine rG 5 ?_
      (iterate 3 refine vA ?_)
      first|refine qr8eo2 (aP (k:=k) tyOk) ?_|refine qr10eo (AList.idxOw (k:=k) tyOk) ?_
      refine vA ?_
      refine aB ?_))
  refine⟨k+1,hkl,Wk.mk [(20,some 20)] rfl rfl rfl ?_ ?_,by omega⟩
  ·exact allT
  ·exact⟨HeapOk.row rfl rfl rfl (fun i _ j hj=>by have e:=idF30_set k i j hj;exact⟨e,by rw[e];rfl⟩),trivial⟩
 have hkl':¬(k:Int)<H.length:=by omega
 obtain rfl:k=H.length:=by omega
 refine vB [3,7] ?_
 refine⟨mkSt 19 [(2,.c (lsI (allV H.length)))] [] [],[],Wk.mk [] rfl rfl rfl ?_ trivial,rfl,rfl,aR1⟩
 exact⟨⟨_,rfl,.c (LeC.fz rfl rfl (allV_len _) (fun i _ j _=>⟨congrArg iC (fI_all _ i).symm,rfl⟩))⟩,trivial⟩
end Go.Proofs.Ytbffmfeldkjkcaa
end
