/- ReprintLeast: the statement. No condition. -/
import Derived.Test.YtbffmfeldkjkcaaG46
import Derived.Test.YtbffmfeldkjkcaaRows
import Derived.Test.YtbffmfeldkjkcaaHA30wr01
set_option linter.unusedSimpArgs false
set_option linter.unusedVariables false
set_option maxHeartbeats 0
section
namespace Go.Proofs.Ytbffmfeldkjkcaa
open Go.RowKit Go.Flow Go.AV Go.Plain
def prodL:List Nat→Nat
 | []=>1
 |L::Ls=>L*prodL Ls
def numI:List Nat→List Int→Int
 |L::Ls,d::ds=>d*(prodL Ls:Int)+numI Ls ds
 |_,_=>0
abbrev lensF(p:Pb)(k:Nat):List Nat:=(p.C.drop k).map List.length
def InR:List Nat→List Int→Prop
 |L::Ls,d::ds=>(0≤d∧d<L)∧InR Ls ds
 | [],[]=>True
 |_,_=>False
theorem numI_bd:∀{Ls:List Nat} {e:List Int},InR Ls e→0≤numI Ls e∧numI Ls e<prodL Ls
 | [],[],_=>⟨Int.le_refl _,by decide⟩
 | L::Ls,d::ds,h=>by
   obtain⟨⟨h1,h2⟩,h3⟩:=h
   obtain⟨i1,i2⟩:=numI_bd h3
   have e1:=Int.mul_nonneg h1 (Int.natCast_nonneg (prodL Ls))
   have e2:(d+1)*(prodL Ls:Int)≤(L:Int)*(prodL Ls:Int):=Int.mul_le_mul_of_nonneg_right (by omega) (Int.natCast_nonneg _)
   rw[Int.add_mul,Int.one_mul]at e2
   have e3:((prodL (L::Ls):Nat):Int)=(L:Int)*(prodL Ls:Int):=by simp[prodL]
   show 0≤d*(prodL Ls:Int)+numI Ls ds∧d*(prodL Ls:Int)+numI Ls ds<_
   rw[e3]
   omega
 | [],_::_,h=>h.elim
 |_::_,[],h=>h.elim
theorem numI_lt{L:Nat}{Ls:List Nat}{c d:Int}{e f:List Int}(h:c<d)(he:InR Ls e)(hf:InR Ls f):numI (L::Ls) (c::e)<numI (L::Ls) (d::f):=by
 have h1:=(numI_bd he).2
 have h2:=(numI_bd hf).1
 have e2:(c+1)*(prodL Ls:Int)≤d*(prodL Ls:Int):=Int.mul_le_mul_of_nonneg_right (by omega) (Int.natCast_nonneg _)
 rw[Int.add_mul,Int.one_mul]at e2
 show c*(prodL Ls:Int)+numI Ls e<d*(prodL Ls:Int)+numI Ls f
 omega
theorem lens_cons{p:Pb}{k:Nat}(h:k<p.C.length):lensF p k=(p.C.getD k []).length::lensF p (k+1):=by
 unfold lensF
 rw[List.drop_eq_getElem_cons h,List.map_cons,List.getD_eq_getElem?_getD,List.getElem?_eq_getElem h]
 rfl
theorem GoodC.inR{p:Pb}:∀{e ch:List Int},ch.length+e.length=p.C.length→GoodC p (ch++e)→InR (lensF p ch.length) e
 | [],ch,hl,_=>by
   have:lensF p ch.length= []:=by
    unfold lensF
    rw[List.drop_eq_nil_of_le (by simp at hl;omega)]
    rfl
   rw[this]
   trivial
 | c::e,ch,hl,h=>by
   rw[List.length_cons]at hl
   rw[lens_cons (by omega)]
   refine⟨h.head.1,?_⟩
   have:=GoodC.inR (p:=p) (e:=e) (ch:=ch++ [c]) (by rw[List.length_append,List.length_singleton];omega) (by rw[List.append_assoc];exact h)
   rwa [List.length_append,List.length_singleton]at this
def SpecV(p:Pb)(m:Nat)(ch:List Int)(o:FR):Prop:=
 (o.2.1=0∧∃e0,o.1=ch++e0∧e0.length=m∧GoodC p (ch++e0)∧∀e,e.length=m→GoodC p (ch++e)→numI (lensF p ch.length) e0≤numI (lensF p ch.length) e)∨
 (o.2.1=60∧o.1= []∧∀e,e.length=m→¬GoodC p (ch++e))
def stT:Nat→Int
 |0=>0
 |m+1=>4*(1+stT m)
theorem stT_nn:∀m,0≤stT m
 |0=>Int.le_refl _
 |m+1=>by have:=stT_nn m;show 0≤4*(1+stT m);omega
theorem tryV_spec{p:Pb}{ch:List Int}{m:Nat}{rec:List Int→Int→FR}{L:Nat}(hm:ch.length+(m+1)=p.C.length)(hL:(p.C.getD ch.length []).length=L)(T:Int)(hT:0≤T)
 (hr:∀(c:Nat) st,0≤st→st+T≤20000→c<L→freeV p ch.length (fI ch) c=true→SpecV p m (ch++ [(c:Int)]) (rec (ch++ [(c:Int)]) st)∧st≤(rec (ch++ [(c:Int)]) st).2.2∧(rec (ch++ [(c:Int)]) st).2.2≤st+T):
 ∀(r c:Nat) (st:Int),c+r=L→0≤st→st+r*(1+T)≤20000→(∀(d:Int) e,d<c→e.length=m→¬GoodC p (ch++d::e))→SpecV p (m+1) ch (tryV rec p ch r c st)∧st≤(tryV rec p ch r c st).2.2∧(tryV rec p ch r c st).2.2≤st+r*(1+T)
 | 0,c,st,hc,h0,hst,hno=>by
   refine⟨.inr ⟨rfl,rfl,fun e he hg=> ?_⟩,Int.le_refl _,by simp[tryV]⟩
   obtain⟨d,e,rfl⟩:∃d e',e=d::e':=by cases e with|nil=>cases he|cons d e=>exact⟨d,e,rfl⟩
   have:=hg.head.1
   rw[hL]at this
   exact hno d e (by omega) (by simpa using he) hg
 | r + 1,c,st,hc,h0,hst,hno=>by
   have hrT:0≤(r:Int)*(1+T):=Int.mul_nonneg (Int.natCast_nonneg r) (by omega)
   have hsp:((r+1:Nat):Int)*(1+T)=(r:Int)*(1+T)+(1+T):=by rw[Int.natCast_add,Int.add_mul];simp
   rw[hsp]at hst⊢
   have hov:¬20000<st+1:=by omega
   cases hf:freeV p ch.length (fI ch) c with
   | false=>
     rw[tryV_skip hov hf]
     have hno':∀(d:Int) e,d<((c+1:Nat):Int)→e.length=m→¬GoodC p (ch++d::e):=fun d e hd he hg=>by
      by_cases hdc:d=c
      ·have:=hg.head.2
       rw[hdc,hf]at this
       cases this
      ·exact hno d e (by omega) he hg
     obtain⟨i1,i2,i3⟩:=tryV_spec hm hL T hT hr r (c+1) (st+1) (by omega) (by omega) (by omega) hno'
     exact⟨i1,by omega,by omega⟩
   | true=>
     obtain⟨g1,g2,g3⟩:=hr c (st+1) (by omega) (by omega) (by omega) hf
     rcases g1 with ⟨k1,e0,k2,k3,k4,k5⟩|⟨k1,k2,k3⟩
     ·rw[tryV_out hov hf (by rw[k1];decide)]
      refine⟨.inl ⟨k1,(c:Int)::e0,by rw[k2,List.append_assoc];rfl,by simp[k3],by rw[List.append_assoc]at k4;exact k4,fun e he hg=> ?_⟩,by omega,by omega⟩
      obtain⟨d,e,rfl⟩:∃d e',e=d::e':=by cases e with|nil=>cases he|cons d e=>exact⟨d,e,rfl⟩
      have he':e.length=m:=by simpa using he
      have hdc:¬d<c:=fun h=>hno d e h he' hg
      have l1:(ch++ [(c:Int)]).length=ch.length+1:=by simp
      rw[lens_cons (by omega)]
      by_cases hd:d=c
      ·subst hd
       have:=k5 e he' (by rw[List.append_assoc];exact hg)
       rw[l1]at this
       show(c:Int)*_+_≤(c:Int)*_+_
       omega
      ·have r1:=GoodC.inR (p:=p) (e:=e0) (by rw[l1];omega) k4
       have r2:=GoodC.inR (p:=p) (e:=e) (ch:=ch++ [d]) (by simp;omega) (by rw[List.append_assoc];exact hg)
       rw[l1]at r1
       rw[show(ch++ [d]).length=ch.length+1 by simp]at r2
       exact Int.le_of_lt (numI_lt (by omega) r1 r2)
     ·rw[tryV_go hov hf k1]
      have hno':∀(d:Int) e,d<((c+1:Nat):Int)→e.length=m→¬GoodC p (ch++d::e):=fun d e hd he hg=>by
       by_cases hdc:d=c
       ·exact k3 e he (by rw[List.append_assoc,←hdc];exact hg)
       ·exact hno d e (by omega) he hg
      obtain⟨i1,i2,i3⟩:=tryV_spec hm hL T hT hr r (c+1) (rec (ch++ [(c:Int)]) (st+1)).2.2 (by omega) (by omega) (by omega) hno'
      exact⟨i1,by omega,by omega⟩
theorem fromV_spec{p:Pb}(hl:∀l∈p.C,l.length≤4):∀(m:Nat) (ch:List Int) (st:Int),ch.length+m=p.C.length→GoodC p ch→0≤st→st+stT m≤20000→SpecV p m ch (fromV p m ch st)∧st≤(fromV p m ch st).2.2∧(fromV p m ch st).2.2≤st+stT m
 |0,ch,st,hm,hg,h0,hst=>⟨.inl ⟨rfl,[],by simp[fromV],rfl,by simpa using hg,fun e he _=>by
    obtain rfl:=List.eq_nil_of_length_eq_zero he
    exact Int.le_refl _⟩,Int.le_refl _,by simp[fromV,stT]⟩
 | m +1,ch,st,hm,hg,h0,hst=>by
   have hlt:ch.length<p.C.length:=by omega
   have hL3:=hl _ (getD_mem28 (z:= []) hlt)
   have hT:=stT_nn m
   have hst':stT (m+1)=4*(1+stT m):=rfl
   have hle:((p.C.getD ch.length []).length:Int)*(1+stT m)≤4*(1+stT m):=Int.mul_le_mul_of_nonneg_right (by omega) (by omega)
   have hrec:∀(c:Nat) (st:Int),0≤st→st+stT m≤20000→c<(p.C.getD ch.length []).length→freeV p ch.length (fI ch) c=true→SpecV p m (ch++ [(c:Int)]) (fromV p m (ch++ [(c:Int)]) st)∧st≤(fromV p m (ch++ [(c:Int)]) st).2.2∧(fromV p m (ch++ [(c:Int)]) st).2.2≤st+stT m:=fun c st h0 hst hc hf=>by
    refine fromV_spec hl m (ch++ [(c:Int)]) st (by simp;omega) (fun k hk=> ?_) h0 hst
    rw[List.length_append,List.length_singleton]at hk
    by_cases e:k=ch.length
    ·subst e
     rw[stepOk_iff,fI_last,freeV_congr2 (fI_snoc ch c)]
     exact⟨⟨by omega,by omega⟩,hf⟩
    ·have:=stepOk_iff.1 (hg k (by omega))
     rw[stepOk_iff,fI_snoc ch c k (by omega),freeV_congr2 fun j hj=>fI_snoc ch c j (by omega)]
     exact this
   obtain⟨i1,i2,i3⟩:=tryV_spec (rec:=fromV p m) (m:=m) (L:=(p.C.getD ch.length []).length) hm rfl (stT m) hT hrec (p.C.getD ch.length []).length 0 st (by omega) h0 (by omega) (fun d e hd _ h=>by have:=h.head.1.1;omega)
   exact⟨i1,i2,by show _≤st+stT (m+1);unfold fromV;omega⟩
def digsI:List Nat→Nat→List Int
 | [],_=> []
 |L::Ls,n=>((n/prodL Ls%L:Nat):Int)::digsI Ls n
theorem digs_len:∀(Ls:List Nat) (n:Nat),(digsI Ls n).length=Ls.length
 | [],_=>rfl
 |_::Ls,n=>congrArg (· + 1) (digs_len Ls n)
theorem digs_mod:∀(Ls:List Nat) (n:Nat),digsI Ls (n%prodL Ls)=digsI Ls n
 | [],_=>rfl
 | L::Ls,n=>by
   have h1:n%(L*prodL Ls)/prodL Ls%L=n/prodL Ls%L:=by
    rw[Nat.mul_comm L,Nat.mod_mul_right_div_self,Nat.mod_mod]
   have h2:digsI Ls (n%(L*prodL Ls))=digsI Ls n:=by
    rw[←digs_mod Ls (n%(L*prodL Ls)),Nat.mod_mul_left_mod,digs_mod Ls n]
   show((n%(L*prodL Ls)/prodL Ls%L:Nat):Int)::digsI Ls (n%(L*prodL Ls))=_
   rw[h1,h2]
   rfl
theorem digs_in:∀{Ls:List Nat} {n:Nat},0<prodL Ls→InR Ls (digsI Ls n)
 | [],_,_=>trivial
 | L::Ls,n,h=>by
   have h:0<L*prodL Ls:=h
   have hL:0<L:=Nat.pos_of_mul_pos_right h
   have hP:0<prodL Ls:=Nat.pos_of_mul_pos_left h
   have:=Nat.mod_lt (n/prodL Ls) hL
   exact⟨⟨by omega,by omega⟩,digs_in hP⟩
theorem num_digs:∀{Ls:List Nat} {n:Nat},n<prodL Ls→numI Ls (digsI Ls n)=n
 | [],n,h=>by
   have h:n<1:=h
   obtain rfl:n=0:=by omega
   rfl
 | L::Ls,n,h=>by
   have h:n<L*prodL Ls:=h
   have h0:0<L*prodL Ls:=by omega
   have hP:0<prodL Ls:=Nat.pos_of_mul_pos_left h0
   have h1:n/prodL Ls<L:=(Nat.div_lt_iff_lt_mul hP).2 h
   have ih:=num_digs (Ls:=Ls) (n:=n%prodL Ls) (Nat.mod_lt _ hP)
   rw[digs_mod]at ih
   show((n/prodL Ls%L:Nat):Int)*(prodL Ls:Int)+numI Ls (digsI Ls n)=n
   rw[ih,Nat.mod_eq_of_lt h1,←Int.natCast_mul,←Int.natCast_add,Nat.div_add_mod']
theorem numI_inj:∀{Ls:List Nat} {e f:List Int},InR Ls e→InR Ls f→numI Ls e=numI Ls f→e=f
 | [],[],[],_,_,_=>rfl
 | L ::Ls,c::e,d::f,he,hf,h=>by
   by_cases h1:c<d
   ·have:=numI_lt (L:=L) h1 he.2 hf.2
    omega
   ·by_cases h2:d<c
    ·have:=numI_lt (L:=L) h2 hf.2 he.2
     omega
    ·obtain rfl:c=d:=by omega
     have h:c*(prodL Ls:Int)+numI Ls e=c*(prodL Ls:Int)+numI Ls f:=h
     rw[numI_inj he.2 hf.2 (by omega)]
 | [],_::_,_,he,_,_=>he.elim
 | [],[],_::_,_,hf,_=>hf.elim
 |_::_,[],_,he,_,_=>he.elim
 |_::_,_::_,[],_,hf,_=>hf.elim
theorem solve_num{p:Pb}(hf:p.fit)(hk:chkP p=0)(hs:∀l∈p.C,l.length≤4)(hc:p.C.length≤5):
 ((solveV p).2=0∧∃N:Nat,N<prodL (lensF p 0)∧(solveV p).1=digsI (lensF p 0) N∧GoodC p (digsI (lensF p 0) N)∧∀n,n<N→¬GoodC p (digsI (lensF p 0) n))∨
 ((solveV p).2=60∧(solveV p).1= []∧∀n,¬GoodC p (digsI (lensF p 0) n)):=by
 have hT:stT p.C.length≤20000:=by
  have:p.C.length=0∨p.C.length=1∨p.C.length=2∨p.C.length=3∨p.C.length=4∨p.C.length=5:=by omega
  rcases this with h|h|h|h|h|h<;>rw[h]<;>decide
 obtain⟨hS,-,-⟩:=fromV_spec hs p.C.length [] 0 (by simp) (fun k hk=>absurd hk (Nat.not_lt_zero _)) (Int.le_refl _) (by omega)
 have hlen:(lensF p 0).length=p.C.length:=by simp[lensF]
 unfold solveV
 rw[if_pos hk]
 generalize fromV p p.C.length [] 0=o at *
 rcases hS with ⟨k1,e0,k2,k3,k4,k5⟩|⟨k1,k2,k3⟩
 ·left
  refine⟨k1,?_⟩
  have r0:InR (lensF p 0) e0:=GoodC.inR (p:=p) (ch:= []) (by simpa using k3) k4
  obtain⟨b1,b2⟩:=numI_bd r0
  obtain⟨N,hN⟩:=Int.eq_ofNat_of_zero_le b1
  have hlt:N<prodL (lensF p 0):=by omega
  have hd:digsI (lensF p 0) N=e0:=numI_inj (digs_in (by omega)) r0 (by rw[num_digs hlt,hN])
  refine⟨N,hlt,by rw[hd];exact k2,by rw[hd];exact k4,fun n hn hg=> ?_⟩
  have:=k5 (digsI (lensF p 0) n) (by rw[digs_len,hlen]) hg
  change numI (lensF p 0) e0≤numI (lensF p 0) (digsI (lensF p 0) n)at this
  rw[num_digs (by omega),hN]at this
  omega
 ·right
  exact⟨k1,k2,fun n hg=>k3 _ (by rw[digs_len,hlen]) hg⟩
def NoCl(p:Pb)(f:Nat→Int)(k:Nat):Prop:=
 (∀j,j<p.F.length→(clashV p.R ((p.C.getD k []).getD (f k).toNat bpZ) (p.F.getD j bpZ) (p.O.getD k bgZ) (p.T.getD j bgZ)).2.2=false)∧
 ∀j,j<k→(clashV p.R ((p.C.getD k []).getD (f k).toNat bpZ) ((p.C.getD j []).getD (f j).toNat bpZ) (p.O.getD k bgZ) (p.O.getD j bgZ)).2.2=false
theorem free_iff{p:Pb}{f:Nat→Int}{k:Nat}:freeV p k f (f k)=true↔NoCl p f k:=by
 rw[freeV_iff]
 have hk:¬((k:Nat):Int)<0:=by omega
 refine and_congr (forall_congr' fun j=>forall_congr' fun _=> ?_) (forall_congr' fun j=>forall_congr' fun _=> ?_)
 ·unfold pkV labB labG
  rw[if_neg hk,if_pos (show(-1:Int)<0 by decide),if_neg hk,if_pos (show(-1:Int)<0 by decide)]
  rfl
 ·have hj:¬((j:Nat):Int)<0:=by omega
  unfold pkV labB labG
  rw[if_neg hk,if_neg hj,if_neg hk,if_neg hj]
  rfl
theorem step_iff{p:Pb}{f:Nat→Int}{k:Nat}:stepOk p f k=true↔(0≤f k∧f k<(p.C.getD k []).length)∧NoCl p f k:=by
 rw[stepOk_iff,free_iff]
theorem to_le{n k m:Nat}(h:k≤m):∃r,setsTo n m=setsTo n k++r:=by
 induction m with
 |zero=>obtain rfl:k=0:=Nat.le_zero.1 h;exact⟨[],rfl⟩
 | succ m ih=>
   by_cases e:k=m+1
   ·subst e;exact⟨[],(List.append_nil _).symm⟩
   ·obtain⟨r,hr⟩:=ih (by omega)
    exact⟨r++setsL n m,by show setsTo n m++_=_;rw[hr,List.append_assoc]⟩
theorem to_hit{n k i:Nat}{bad:List Int→Bool}(hk:k≤n)(h0:(setsTo n k).find? bad=none)(hi:i<(setsL n k).length)(hb:bad ((setsL n k).getD i [])=true)(hl:∀j,j<i→bad ((setsL n k).getD j [])=false):(setsTo n (n+1)).find? bad=some ((setsL n k).getD i []):=by
 obtain⟨r,hr⟩:=to_le (n:=n) (show k+1≤n+1 by omega)
 rw[hr]
 show((setsTo n k++setsL n k)++r).find? bad=_
 rw[List.append_assoc,List.find?_append,h0,List.find?_append,findS_hit hi hb hl]
 rfl
theorem to_no{n k:Nat}{bad:List Int→Bool}(h0:(setsTo n k).find? bad=none)(h1:∀j,j<(setsL n k).length→bad ((setsL n k).getD j [])=false):(setsTo n (k+1)).find? bad=none:=by
 show(setsTo n k++setsL n k).find? bad=none
 rw[List.find?_append,h0]
 exact findS_no h1
abbrev llB(L:List (List Int)):AB:=⟨true,L.length,1,23,fun k _=>lsI (L.getD k [])⟩
theorem ll_app(L M:List (List Int))(i j:Nat):appF (fun k _=>lsI (L.getD k [])) L.length (fun k _=>lsI (M.getD k [])) i j=lsI ((L++M).getD i []):=by
 unfold appF
 by_cases h:i<L.length
 ·rw[Nat.blt_eq.mpr h,List.getD_eq_getElem?_getD (l:=L++M),List.getElem?_append_left h,←List.getD_eq_getElem?_getD]
  rfl
 ·rw[show Nat.blt i L.length=false from Bool.eq_false_iff.2 fun e=>h (Nat.blt_eq.mp e),List.getD_eq_getElem?_getD (l:=L++M),List.getElem?_append_right (by omega),←List.getD_eq_getElem?_getD]
  rfl
theorem combG_len{n:Nat}:∀(r:Nat) (l:List Int) (x:Nat),x≤n→(combG n r l x).length≤2^(n-x)
 |0,l,x,_=>Nat.one_le_two_pow
 | r+1,l,x,hx=>by
   have key:∀d x,d+x=n→(combX (combG n r) l d x).length+1≤2^d:=fun d=>by
    induction d with
    |zero=>exact fun x _=>Nat.le_refl _
    | succ d ih=>
      intro x hx
      show(combG n r (l++ [(x:Int)]) (x+1)++combX (combG n r) l d (x+1)).length+1≤_
      have h1:=combG_len (n:=n) r (l++ [(x:Int)]) (x+1) (by omega)
      have h2:=ih (x+1) (by omega)
      rw[show n-(x+1)=d by omega]at h1
      rw[List.length_append,Nat.pow_succ]
      omega
   have:=key (n-x) x (by omega)
   show(combX (combG n r) l (n-x) x).length≤_
   omega
theorem pow20{d:Nat}(h:d≤20):2^d≤1048576:=Nat.le_trans (Nat.pow_le_pow_right (by decide) h) (by decide)
set_option maxRecDepth 100000 in
theorem Sets_A(n:Nat)(hn:n≤20):∀(r:Nat) (l:List Int) (x:Nat),(l.length=0→x=0)→(∀m,l.length=m+1→fI l m+1=(x:Int))→x≤n→l.length+r≤100→∀K:Nat,K=l.length+r→
 ACalls Try.prog 16 [.c (iC n),.c (lsI l),.c (iC K)] (.c (lsL (combG n r l x)))
 | 0,l,x,h0,h1,hx,hl,K,hK=>by
   have hKe:(l.length:Int)=(K:Int):=by omega
   show ACalls _ _ _ (.c (lsL [l]))
   refine acalls_at Try.func16 rfl rfl Try.ntmps16 rfl ?_
   repeat (first
    |refine vB [0,1] ?_
    | (refine rG 2 ?_
       (iterate 2 refine vA ?_)
       refine AList.appFz tyOk rfl rfl rfl rfl rfl rfl rfl rfl rfl rfl ((Nat.zero_add _).symm) ((fun _ _ _ _=>⟨rfl,rfl⟩)) oM oM ?_
       (iterate 2 refine vA ?_)
       refine aB ?_))
   refine⟨mkSt 46 [(6,.c (lsL [l]))] [] [],[],Wk.mk [] rfl rfl rfl ?_ trivial,rfl,rfl,aR1⟩
   exact⟨⟨_,rfl,.c (LeC.lz rfl (fun i hi j hj=>by obtain rfl:i=0:=Nat.lt_one_iff.mp hi;obtain rfl:j=0:=Nat.lt_one_iff.mp hj;rfl))⟩,trivial⟩
 | r + 1,l,x,h0,h1,hx,hl,K,hK=>by
   have hKe:¬(l.length:Int)=(K:Int):=by omega
   obtain⟨v,hv⟩:∃v,combG n (r+1) l x=v:=⟨_,rfl⟩
   have hv': []++combX (combG n r) l (n-x) x=v:=hv
   have hvl:v.length≤1048576:=by rw[←hv];exact Nat.le_trans (combG_len _ _ _ hx) (pow20 (by omega))
   rw[hv]
   obtain⟨z,hz⟩:∃z:Int,z=x:=⟨_,rfl⟩
   refine acalls_at Try.func16 rfl rfl Try.ntmps16 rfl ?_
   refine vB [0,1,3] ?_
   refine AWp.join2 (mkSt 46 [(0,.c (iC n)),(1,.c (lsI l)),(2,.c (iC K)),(7,.c (iC z))] [] []) ?_ ?_
   ·by_cases hl0:l.length=0
    ·have hx0:=h0 hl0
     obtain rfl:z=0:=by omega
     have hl':¬(l.length:Int)>0:=by omega
     refine vB [4] ?_
     refine⟨rfl,Wk.mk [] rfl rfl rfl ?_ trivial⟩
     exact allT
    ·obtain⟨m,hm⟩:∃m,l.length=m+1:=⟨l.length-1,by omega⟩
     have hx1:=h1 m hm
     obtain⟨y,hy⟩:∃y,fI l m=y:=⟨_,rfl⟩
     have hcy:iF (fI l) m 0=iC y:=by rw[←hy]
     obtain rfl:z=y+1:=by omega
     have hl':(l.length:Int)>0:=by omega
     repeat (first
      |refine vB [4] ?_
      | (refine rG 5 ?_
         (iterate 4 refine vA ?_)
         first|refine qr8eo2 (aP (k:=m) tyOk) ?_|refine qr10eo (AList.idxOw (k:=m) tyOk) ?_
         first|refine AList.load1lE tyOk (hcy) rfl rfl rfl rfl rfl oM ?_|refine AList.load1F tyOk rfl rfl rfl rfl rfl rfl rfl oM oM (hcy) ?_
         (iterate 2 refine vA ?_)
         refine aB ?_))
     refine⟨rfl,Wk.mk [] rfl rfl rfl ?_ trivial⟩
     exact allT
   subst hz
   refine vB [6,7] ?_
   refine AWp.round (fun s:Nat×List (List Int)=>mkSt 46 [(0,.c (iC n)),(1,.c (lsI l)),(2,.c (iC K)),(8,.c (.ow 20)),(9,.c (iC (s.1:Nat)))] [(20,llB s.2)] [20]) (fun s=>(x≤s.1∧s.1≤n)∧s.2++combX (combG n r) l (n-s.1) s.1=v) (fun s=>n-s.1) (x,[]) ⟨⟨Nat.le_refl _,hx⟩,hv'⟩ ?_ (fun s hs=> ?_)
   ·refine Wk.mk [(20,none)] rfl rfl rfl ?_ ?_
    ·exact allT
    ·exact⟨HeapOk.nil rfl rfl,trivial⟩
   obtain⟨k,out⟩:=s
   obtain⟨⟨hxk,hkn⟩,hkv⟩:=hs
   dsimp only at hxk hkn hkv⊢
   by_cases hk:k<n
   rotate_left
   ·obtain rfl:k=n:=by omega
    have hk':¬((k:Nat):Int)<k:=by omega
    rw[Nat.sub_self]at hkv
    obtain rfl:out=v:=by rw[←hkv];exact(List.append_nil _).symm
    refine vB [8,11] ?_
    refine⟨mkSt 46 [(6,.c (lsL out))] [] [],[],Wk.mk [] rfl rfl rfl ?_ trivial,rfl,rfl,aR1⟩
    exact⟨⟨_,rfl,.c (LeC.fz rfl rfl rfl (fun _ _ _ _=>⟨rfl,rfl⟩))⟩,trivial⟩
   have hk':(k:Int)<n:=by omega
   have hF:=Sets_A n hn r (l++ [(k:Int)]) (k+1) (fun h=>by rw[List.length_append,List.length_singleton]at h;omega) (fun m hm=>by
    rw[List.length_append,List.length_singleton]at hm
    obtain rfl:m=l.length:=by omega
    rw[fI_at1];omega) hk (by rw[List.length_append,List.length_singleton];omega) K (by rw[List.length_append,List.length_singleton];omega)
   rw[show n-k=(n-(k+1))+1 by omega]at hkv
   change out++(combG n r (l++ [(k:Int)]) (k+1)++combX (combG n r) l (n-(k+1)) (k+1))=v at hkv
   rw[←List.append_assoc]at hkv
   generalize combG n r (l++ [(k:Int)]) (k+1)=R at *
   have hoR:out.length+R.length≤1048576:=by
    have:=congrArg List.length hkv
    rw[List.length_append,List.length_append]at this
    omega
   repeat (first
    |refine vB [8,9] ?_
    | (refine rG 10 ?_
       (iterate 4 refine vA ?_)
       first|refine AList.appL0 tyOk rfl rfl rfl rfl rfl rfl rfl rfl rfl rfl oM oM ?_|refine AList.appL tyOk rfl rfl rfl rfl rfl rfl rfl rfl rfl rfl oM oM ?_|refine AList.appN tyOk rfl rfl rfl rfl rfl rfl rfl rfl rfl oM oM ?_|refine AList.appO tyOk rfl rfl rfl rfl rfl rfl rfl rfl rfl rfl rfl oM oM ?_|refine AList.appE tyOk rfl rfl rfl rfl rfl rfl rfl rfl rfl rfl oM oM ?_
       (iterate 2 refine vA ?_)
       refine AList.appFz tyOk rfl rfl rfl rfl rfl rfl rfl rfl rfl rfl (@List.length_append _ l [(k:Int)]) (chI_snoc l k) oM oM ?_
       refine vA ?_
       refine aH rfl rfl rfl rfl Try.func16 rfl (by kernel_rfl) (hF) ?_
       first|refine AList.appL0 tyOk rfl rfl rfl rfl rfl rfl rfl rfl rfl rfl oM oM ?_|refine AList.appL tyOk rfl rfl rfl rfl rfl rfl rfl rfl rfl rfl oM oM ?_|refine AList.appN tyOk rfl rfl rfl rfl rfl rfl rfl rfl rfl oM oM ?_|refine AList.appO tyOk rfl rfl rfl rfl rfl rfl rfl rfl rfl rfl rfl oM oM ?_|refine AList.appE tyOk rfl rfl rfl rfl rfl rfl rfl rfl rfl rfl oM oM ?_
       refine vA ?_
       refine aB ?_))
   refine⟨(k+1,out++R),⟨⟨by dsimp only;omega,hk⟩,hkv⟩,Wk.mk [(20,some 44)] rfl rfl rfl ?_ ?_,by dsimp only;omega⟩
   ·exact allT
   ·exact⟨HeapOk.row rfl rfl List.length_append (fun i _ j _=>⟨ll_app _ _ i j,by rw[ll_app];rfl⟩),trivial⟩
theorem an_sm{p:Pb}{H:List Hg}(s:List Int)(hp:Sm p)(hC:p.C.length≤2)(hH:HgSm H):Sm (anP p H s):=by
 have h1:(anP p H s).C.length=p.C.length+H.length:=by show(p.C++anC H s H.length).length=_;rw[List.length_append,anC_len]
 have h2:(anP p H s).O.length=p.O.length+H.length:=by show(p.O++anO H H.length).length=_;rw[List.length_append,anO_len]
 have h3:=hH.1
 refine⟨hp.R,hp.Rr,by omega,fun l hl=> ?_,hp.F,hp.Ff,by rw[h1,h2,hp.O],hp.T⟩
 rcases List.mem_append.1 hl with hl|hl
 ·exact hp.Cc l hl
 ·unfold anC at hl
  obtain⟨k,hk,rfl⟩:=List.mem_map.1 hl
  obtain⟨⟨d,q1⟩,q2,q3⟩:=hH.2 _ (getD_mem28 (L:=H) (k:=k) (z:=hgZ) (List.mem_range.1 hk))
  unfold hgC1
  by_cases c:(k:Int)∈s
  ·rw[if_pos c];exact⟨by omega,q3⟩
  ·rw[if_neg c]
   exact⟨by simp,fun b hb=>by rw[List.mem_singleton.1 hb];exact⟨d,q1⟩⟩
theorem with_sm{p:Pb}{H:List Hg}{s:List Int}(hp:Sm p)(hC:p.C.length≤2)(hH:HgSm H)(hs:nmOk H.length s=true):withV p H s=(anP p H s,0):=by
 unfold withV
 rw[if_pos hp.chk,if_pos hs,if_pos (an_sm s hp hC hH).chk]
def nmL(f:Nat→Int)(k:Nat):List Int:=(List.range k).map f
theorem nmL_len(f:Nat→Int)(k:Nat):(nmL f k).length=k:=by unfold nmL;rw[List.length_map,List.length_range]
theorem nmL_at(f:Nat→Int){k i:Nat}(h:i<k):fI (nmL f k) i=f i:=by
 show(nmL f k).getD i 0=_
 unfold nmL
 rw[List.getD_eq_getElem?_getD,List.getElem?_map,List.getElem?_range h]
 rfl
def Sol(p:Pb):Prop:=∃f:Nat→Int,∀k,k<p.C.length→stepOk p f k=true
theorem step_congr{p:Pb}{f g:Nat→Int}{k:Nat}(h:∀j,j≤k→f j=g j)(hs:stepOk p f k=true):stepOk p g k=true:=by
 rw[stepOk_iff]at hs⊢
 rw[←h k (Nat.le_refl k),←freeV_congr2 fun j hj=>h j (by omega)]
 exact hs
theorem sol_of{p:Pb}(sp:Sm p):((solveV p).2=0∧Sol p)∨((solveV p).2=60∧¬Sol p):=by
 have hT:stT p.C.length≤20000:=by
  have:=sp.C
  have:p.C.length=0∨p.C.length=1∨p.C.length=2∨p.C.length=3∨p.C.length=4∨p.C.length=5:=by omega
  rcases this with h|h|h|h|h|h<;>rw[h]<;>decide
 obtain⟨hS,-,-⟩:=fromV_spec (fun l h=>(sp.Cc l h).1) p.C.length [] 0 (by simp) (fun k hk=>absurd hk (Nat.not_lt_zero _)) (Int.le_refl _) (by omega)
 unfold solveV
 rw[if_pos sp.chk]
 generalize fromV p p.C.length [] 0=o at *
 rcases hS with ⟨k1,e0,-,k3,k4,-⟩|⟨k1,-,k3⟩
 ·exact .inl ⟨k1,fI e0,fun k hk=>k4 k (by rw[List.nil_append,k3];exact hk)⟩
 ·refine .inr ⟨k1,fun ⟨f,hf⟩=>k3 (nmL f p.C.length) (nmL_len _ _) fun k hk=> ?_⟩
  rw[List.nil_append,nmL_len]at hk
  exact step_congr (fun j hj=>(nmL_at f (by omega)).symm) (hf k hk)
def solB(p:Pb)(H:List Hg)(s:List Int):Bool:=decide ((solveV (anP p H s)).2=0)
theorem solB_no{p:Pb}{H:List Hg}{s:List Int}(hp:Sm p)(hC:p.C.length≤2)(hH:HgSm H)(h:solB p H s=false):(solveV (anP p H s)).2=60:=by
 rcases sol_of (an_sm s hp hC hH)with ⟨h1,-⟩|⟨h1,-⟩
 ·unfold solB at h
  rw[h1]at h
  cases h
 ·exact h1
theorem find_congr{f g:List Int→Bool}:∀{L:List (List Int)},(∀s∈L,f s=g s)→L.find? f=L.find? g
 | [],_=>rfl
 | s::L,h=>by
   rw[List.find?_cons,List.find?_cons,h s (by simp),find_congr (L:=L) fun t ht=>h t (by simp[ht])]
theorem allV_nm(n:Nat):nmOk n (allV n)=true:=nmOk_iff.2 fun k hk=>by
 rw[allV_len]at hk
 rw[fI_all,show idF30 n k=(k:Int)from if_pos hk]
 refine⟨by omega,by omega,fun h0=> ?_⟩
 rw[fI_all,show idF30 n (k-1)=((k-1:Nat):Int)from if_pos (by omega)]
 omega
abbrev find30(p:Pb)(H:List Hg):Option (List Int):=(setsTo H.length (H.length+1)).find? (solB p H)
theorem make_sm{p:Pb}{H:List Hg}(hp:Sm p)(hC:p.C.length≤2)(hH:HgSm H):
 (∃s,find30 p H=some s∧nmOk H.length s=true∧(solveV (anP p H s)).2=0∧makeV p H=(planL p (solveV (anP p H s)).1 s,0))∨(find30 p H=none∧makeV p H=(plZ,60)):=by
 have hn:nmOk H.length []=true:=nmOk_iff.2 fun k hk=>absurd hk (Nat.not_lt_zero _)
 have hh:=hH.1
 have e:(setsTo H.length (H.length+1)).find? (hitB p H)=find30 p H:=find_congr fun s hs=>by
  have hm:=(to_mem hs).1
  unfold hitB solB
  rw[with_sm hp hC hH hm]
  rcases sol_of (an_sm s hp hC hH)with ⟨h1,-⟩|⟨h1,-⟩<;>(dsimp only;rw[h1];rfl)
 have em:makeV p H=optP p H (find30 p H):=by
  unfold makeV
  rw[if_pos hp.chk,if_neg (by omega),with_sm hp hC hH hn,with_sm hp hC hH (allV_nm _),e]
  rfl
 cases hf:find30 p H with
 |none=>rw[hf]at em;exact .inr ⟨rfl,em⟩
 | some s=>
   rw[hf]at em
   have hm:=(to_mem (List.mem_of_find?_eq_some hf)).1
   have hs:=List.find?_some hf
   have h0:(solveV (anP p H s)).2=0:=of_decide_eq_true hs
   refine .inl ⟨s,rfl,hm,h0,em.trans ?_⟩
   show planV p H s=_
   unfold planV
   rw[with_sm hp hC hH hm,if_pos h0]
theorem solve_good{q:Pb}(hq:Sm q)(h:(solveV q).2=0):(solveV q).1.length=q.C.length∧GoodC q (solveV q).1:=by
 refine⟨solveV_len0 h,?_⟩
 rcases solve_num hq.fit hq.chk (fun l h=>(hq.Cc l h).1) hq.C with ⟨-,N,-,h2,h3,-⟩|⟨h1,-⟩
 ·rw[h2];exact h3
 ·rw[h]at h1;cases h1
theorem wr_yes{m:Nat}{x:Pl}{c:List Int}(ha:∀i,i<x.rp.length→fI x.an i=fI c (m+(fI x.rp i).toNat)):∀k,k≤x.rp.length→∀j,(∃i,i<k∧j=m+(fI x.rp i).toNat)→wrF m x k j=fI c j
 |0,_,_,⟨_,h,_⟩=>absurd h (Nat.not_lt_zero _)
 | k+1,hk,j,⟨i,hi,hj⟩=>by
   show(if j=m+(fI x.rp k).toNat then fI x.an k else wrF m x k j)=_
   by_cases h:j=m+(fI x.rp k).toNat
   ·rw[if_pos h,ha k hk,←h]
   ·rw[if_neg h]
    refine wr_yes ha k (by omega) j ⟨i,?_,hj⟩
    by_cases e:i=k
    ·subst e;exact absurd hj h
    ·omega
theorem wr_no{m:Nat}{x:Pl}:∀k j,(∀i,i<k→j≠m+(fI x.rp i).toNat)→wrF m x k j=fI x.ch j
 |0,_,_=>rfl
 | k+1,j,h=>by
   show(if j=m+(fI x.rp k).toNat then fI x.an k else wrF m x k j)=_
   rw[if_neg (h k (Nat.lt_succ_self k))]
   exact wr_no k j fun i hi=>h i (by omega)
theorem fI_map{s:List Int}{f:Int→Int}{i:Nat}(h:i<s.length):fI (s.map f) i=f (fI s i):=by
 show(s.map f).getD i 0=f (s.getD i 0)
 rw[List.getD_eq_getElem?_getD,List.getD_eq_getElem?_getD,List.getElem?_map,List.getElem?_eq_getElem h]
 rfl
theorem fI_take{l:List Int}{m j:Nat}(h:j<m):fI (l.take m) j=fI l j:=by
 show(l.take m).getD j 0=l.getD j 0
 rw[List.getD_eq_getElem?_getD,List.getD_eq_getElem?_getD,List.getElem?_take_of_lt h]
theorem an_C{p:Pb}{H:List Hg}{s:List Int}{i:Nat}(hi:i<H.length):(anP p H s).C.getD (p.C.length+i) []=hgC1 H s i:=by
 show(p.C++anC H s H.length).getD _ []=_
 rw[List.getD_eq_getElem?_getD,List.getElem?_append_right (by omega),Nat.add_sub_cancel_left]
 unfold anC
 rw[List.getElem?_map,List.getElem?_range hi]
 rfl
theorem wr_plan{p:Pb}{H:List Hg}{s:List Int}{c:List Int}(hs:nmOk H.length s=true)(hcl:c.length=p.C.length+H.length)(hc:GoodC (anP p H s) c):∀j,j<p.C.length+H.length→wrF p.C.length (planL p c s) s.length j=fI c j:=fun j hj=>by
 by_cases h:∃i,i<s.length∧j=p.C.length+(fI s i).toNat
 ·exact wr_yes (x:=planL p c s) (c:=c) (fun i hi=>fI_map hi) s.length (Nat.le_refl _) j h
 ·have h':∀i,i<s.length→j≠p.C.length+(fI s i).toNat:=fun i hi e=>h ⟨i,hi,e⟩
  rw[wr_no (x:=planL p c s) s.length j h']
  show fI (c.take p.C.length) j=fI c j
  by_cases hj':j<p.C.length
  ·exact fI_take hj'
  ·obtain⟨i,rfl⟩:∃i,j=p.C.length+i:=⟨j-p.C.length,by omega⟩
   have h1:fI (c.take p.C.length) (p.C.length+i)=0:=by
    show(c.take p.C.length).getD _ 0=0
    rw[List.getD_eq_getElem?_getD,List.getElem?_eq_none (by rw[List.length_take];omega)]
    rfl
   have h2:=(step_iff.1 (hc (p.C.length+i) (by omega))).1
   rw[an_C (by omega)]at h2
   have h3:¬(i:Int)∈s:=fun hm=>by
    obtain⟨q,h4,h5⟩:=mem_fI.1 hm
    exact h' q h4 (by rw[h5];rfl)
   unfold hgC1 at h2
   rw[if_neg h3]at h2
   have h4:([(H.getD i hgZ).now]:List Bp).length=1:=rfl
   rw[h4]at h2
   rw[h1]
   omega
theorem plan_holds{p:Pb}{H:List Hg}(hp:Sm p)(hC:p.C.length≤2)(hH:HgSm H){s:List Int}(hs:nmOk H.length s=true)(h0:(solveV (anP p H s)).2=0):hold30 p H (planL p (solveV (anP p H s)).1 s)=true:=by
 have hq:=an_sm s hp hC hH
 have hl:(anP p H s).C.length=p.C.length+H.length:=by show(p.C++anC H s H.length).length=_;rw[List.length_append,anC_len]
 obtain⟨h1,h2⟩:=solve_good hq h0
 have hw:=wr_plan hs (h1.trans hl) h2
 generalize (solveV (anP p H s)).1=c at *
 unfold hold30
 have e1:(planL p c s).rp=s:=rfl
 rw[e1,with_sm hp hC hH hs,if_pos ⟨⟨rfl,by show(c.take p.C.length).length=_;rw[List.length_take];omega⟩,by show(s.map _).length=_;rw[List.length_map]⟩]
 refine holdsV_iff.2 ⟨⟨hq.chk,hl.symm⟩,fun k hk=> ?_⟩
 refine step_congr (fun j hj=>(hw j (by omega)).symm) (h2 k (by omega))
abbrev pl1P(x:Pl):CV:=.pl 1 3 (lF (plC x)) 0 0
set_option maxRecDepth 100000 in
theorem ReprintLeast_A(c:Cs)(hc:c.ok):ACalls Try.prog 4 [.ag (csC c)] (.c (bC true)):=by
 obtain⟨⟨hP,hHs⟩,hst,ho1,hl1⟩:=hc
 have hSan:=sanity30_A
 have hMd:=made30_A c hP hHs
 obtain⟨sm1,-⟩:=made_sm c.P
 obtain⟨sm2,-⟩:=made_sm c.Hs
 obtain⟨sp,spC⟩:=cut_sm sm1
 have hHm:=hangs_sm sm2
 generalize cutP (made28 c.P)=p at *
 generalize hangs30 (made28 c.Hs)=H at *
 have hn2:=hHm.1
 have hHok:=hHm.bd.ok (by omega)
 have hM:=Make_A p sp.ok H hHok
 obtain⟨x,e,hmk,hxo,hres⟩:∃x e,makeV p H=(x,e)∧PlOk x∧((e=0∧find30 p H=some x.rp∧hold30 p H x=true)∨(e=60∧find30 p H=none)):=by
  rcases make_sm sp spC hHm with ⟨s,h1,h2,h3,h4⟩|⟨h1,h2⟩
  ·have hl:=(to_mem (List.mem_of_find?_eq_some h1)).2
   have hcl:=(solve_good (an_sm s sp spC hHm) h3).1
   have hC:=(an_sm s sp spC hHm).C
   exact⟨_,_,h4,⟨by show s.length≤_;omega,by show(s.map _).length≤_;rw[List.length_map];omega,by show(List.take _ _).length≤_;rw[List.length_take];omega⟩,.inl ⟨rfl,h1,plan_holds sp spC hHm h2 h3⟩⟩
  ·exact⟨_,_,h2,⟨Nat.zero_le _,Nat.zero_le _,Nat.zero_le _⟩,.inr ⟨rfl,h1⟩⟩
 rw[hmk]at hM
 have hHo:=HoldsP_A p sp.ok H hHok x hxo
 have hx1:=hxo.1
 rcases hres with ⟨rfl,hres⟩|⟨rfl,hres⟩
 ·rw [hres.2]at hHo
  replace hres:=hres.1
  refine acalls_at Try.func4 rfl rfl Try.ntmps4 rfl ?_
  repeat (first
   |refine vB [0] ?_
   | (refine rG 1 ?_
      refine aH rfl rfl rfl rfl Try.func7 rfl (by kernel_rfl) (hSan) ?_
      refine vA ?_
      refine aB ?_)
   | (refine rG 2 ?_
      refine vA ?_
      refine aH rfl rfl rfl rfl Try.func8 rfl (by kernel_rfl) (hMd) ?_
      (iterate 6 refine vA ?_)
      refine aB ?_)
   | (refine rG 3 ?_
      (iterate 2 refine vA ?_)
      refine aH rfl rfl rfl rfl Try.func14 rfl (by kernel_rfl) (hM) ?_
      (iterate 6 refine vA ?_)
      refine aB ?_)
   | (refine rG 4 ?_
      (iterate 13 refine vA ?_)
      first|refine qr2 aG ?_|refine aH rfl rfl rfl rfl Try.func15 rfl (by kernel_rfl) (hHo) ?_
      (iterate 3 refine vA ?_)
      refine aB ?_))
  refine vB [6] ?_
  refine AWp.round (fun K:Nat=>
   mkSt 107 [(3,.c (bC true)),(4,.c (plP30 p)),(5,.c (lsH H)),(6,.c (pl1P x)),(7,.c (iC 0)),(8,.c (iC (K:Nat)))] [] []
   ) (fun K=>K≤H.length+1∧(setsTo H.length K).find? (solB p H)=none) (fun K=>H.length+1-K) 0 ⟨Nat.zero_le _,rfl⟩ ?_ (fun K hK=> ?_)
  ·refine Wk.mk [] rfl rfl rfl ?_ trivial
   repeat (first|exact trivial|refine⟨⟨_,rfl,by first|exact LeA.c (LeC.fzP rfl rfl rfl rfl)|exact leT⟩,?_⟩)
  obtain⟨hK,hnoK⟩:=hK
  by_cases hKn:K≤H.length
  rotate_left
  ·have hKn':¬(K:Int)≤H.length:=by omega
   obtain rfl:K=H.length+1:=by omega
   exact absurd (hres.symm.trans (show find30 p H=none from hnoK)) (by simp)
  have hKn':(K:Int)≤H.length:=by omega
  have hS:=(Sets_A H.length (by omega) K [] 0 (fun _=>rfl) (fun m h=>by cases h) (Nat.zero_le _) (by show 0+K≤100;omega) K (by show K=0+K;omega)).cv (args':= [.c (iC (H.length:Nat)),.c (.p (.slice none 0 0)),.c (iC (K:Nat))]) ⟨.c (Cv.refl _),.c Cv.nil,.c (Cv.refl _),trivial⟩
  obtain⟨all,hall⟩:∃all,setsL H.length K=all:=⟨_,rfl⟩
  have hall':combG H.length K [] 0=all:=hall
  rw[hall']at hS
  have hal:all.length≤1048576:=by rw[←hall];exact Nat.le_trans (combG_len _ _ _ (Nat.zero_le _)) (pow20 (by omega))
  repeat (first
   |refine vB [7] ?_
   | (refine rG 9 ?_
      (iterate 3 refine vA ?_)
      refine aH rfl rfl rfl rfl Try.func16 rfl (by kernel_rfl) (hS) ?_
      (iterate 2 refine vA ?_)
      refine aB ?_))
  refine AWp.round (fun j:Nat=>
   mkSt 107 [(3,.c (bC true)),(4,.c (plP30 p)),(5,.c (lsH H)),(6,.c (pl1P x)),(7,.c (iC 0)),(8,.c (iC (K:Nat))),(58,.c (lsL all)),(59,.c (iC (all.length:Nat))),(60,.c (iC (j:Nat)))] [] []
   ) (fun j=>j≤all.length∧∀i,i<j→solB p H (all.getD i [])=false) (fun j=>all.length-j) 0 ⟨Nat.zero_le _,fun i h=>absurd h (Nat.not_lt_zero _)⟩ ?_ (fun j hj=> ?_)
  ·refine Wk.mk [] rfl rfl rfl ?_ trivial
   exact allT
  obtain⟨hj,hno⟩:=hj
  by_cases hja:j<all.length
  rotate_left
  ·have hja':¬(j:Int)<all.length:=by omega
   obtain rfl:j=all.length:=by omega
   refine vB [8,10] ?_
   refine⟨K+1,⟨by omega,to_no hnoK (by rw[hall];exact hno)⟩,Wk.mk [] rfl rfl rfl ?_ trivial,by omega⟩
   exact allT
  have hja':(j:Int)<all.length:=by omega
  obtain⟨s,hs⟩:∃s,all.getD j []=s:=⟨_,rfl⟩
  have hsj:(fun k (_:Nat)=>lsI (all.getD k [])) j 0=lsI s:=by rw[←hs]
  have hmem:s∈setsL H.length K:=by rw[hall,←hs,List.getD_eq_getElem?_getD,List.getElem?_eq_getElem hja];exact List.getElem_mem hja
  obtain⟨hnm,hsK⟩:=sets_ok hmem
  have hfind:solB p H s=true→find30 p H=some s:=fun hb=>by
   have:=to_hit (n:=H.length) (k:=K) (i:=j) hKn hnoK (by rw[hall];exact hja) (by rw[hall,hs];exact hb) (by rw[hall];exact hno)
   rw[hall,hs]at this
   exact this
  cases hbs:solB p H s with
  | true=>
    obtain rfl:x.rp=s:=Option.some.inj (hres.symm.trans (hfind hbs))
    clear hbs hfind
    have hsm:=(SameP_A ⟨x.rp,[],[]⟩ ⟨x.rp,[],[]⟩ (by show x.rp.length≤_;omega) (Nat.zero_le _) (Nat.zero_le _)).cv (args':= [.ag [lsI x.rp,.p (.slice none 0 0),.p (.slice none 0 0)],.ag [lsI x.rp,.p (.slice none 0 0),.p (.slice none 0 0)]]) ⟨.ag ⟨Cv.refl _,Cv.nil,Cv.nil,trivial⟩,.ag ⟨Cv.refl _,Cv.nil,Cv.nil,trivial⟩,trivial⟩
    rw[samP_iff.2 rfl]at hsm
    have hll:lF (plC x) 0 0=lsI x.rp:=rfl
    obtain⟨q1,hq1⟩:∃q:Int,q=(x.rp.length:Int):=⟨_,rfl⟩
    repeat (first
     |refine vB [10,13] ?_
     | (refine rG 11 ?_
        first|refine qr8eo2 (aP (k:=j) tyOk) ?_|refine qr10eo (AList.idxOw (k:=j) tyOk) ?_
        first|refine AList.load1lE tyOk (hsj) rfl rfl rfl rfl rfl oM ?_|refine AList.load1F tyOk rfl rfl rfl rfl rfl rfl rfl oM oM (hsj) ?_
        refine vA ?_
        refine aB ?_)
     | (refine rG 12 ?_
        (iterate 8 refine vA ?_)
        first|refine qr2 aG ?_|refine qr5t aK ?_|refine qr5f aJ ?_|refine aK rfl rfl rfl rfl rfl (by simp only[cmpP,eq_self,decide_true]) ?_|refine qr5 aW ?_
        (iterate 7 refine vA ?_)
        first|refine qr2 aG ?_|refine aH rfl rfl rfl rfl Try.func17 rfl (by kernel_rfl) (hsm) ?_
        refine vA ?_
        refine aB ?_))
    refine⟨mkSt 107 [(2,.c (bC true))] [] [],[],Wk.mk [] rfl rfl rfl ?_ trivial,rfl,rfl,aR1⟩
    exact allT
  | false=>
    have hW:=With_A p sp.ok H hHok s (by omega)
    rw[with_sm sp spC hHm hnm]at hW
    have hSv:=Solve28_A (anP p H s) (an_sm s sp spC hHm).ok
    rw[solB_no sp spC hHm hbs]at hSv
    have hno2:∀i,i<j+1→solB p H (all.getD i [])=false:=fun i hi=>by
     by_cases e:i=j
     ·rw[e,hs];exact hbs
     ·exact hno i (by omega)
    generalize (solveV (anP p H s)).1=ch at *
    generalize anP p H s=q at hW hSv
    have hne:¬s=x.rp:=fun q=>by
     have:=List.find?_some hres
     rw[←q,hbs]at this
     cases this
    clear hbs hfind
    by_cases hsl:s.length=x.rp.length
    ·have hsl':(s.length:Int)=x.rp.length:=by omega
     have hsm:=(SameP_A ⟨s,[],[]⟩ ⟨x.rp,[],[]⟩ (by show s.length≤_;omega) (Nat.zero_le _) (Nat.zero_le _)).cv (args':= [.ag [lsI s,.p (.slice none 0 0),.p (.slice none 0 0)],.ag [lsI x.rp,.p (.slice none 0 0),.p (.slice none 0 0)]]) ⟨.ag ⟨Cv.refl _,Cv.nil,Cv.nil,trivial⟩,.ag ⟨Cv.refl _,Cv.nil,Cv.nil,trivial⟩,trivial⟩
     rw[show samP ⟨s,[],[]⟩ ⟨x.rp,[],[]⟩=false from Bool.eq_false_iff.2 fun h=>hne (congrArg Pl.rp (samP_iff.1 h))]at hsm
     repeat (first
      |refine vB [10,16,18] ?_
      | (refine rG 11 ?_
         first|refine qr8eo2 (aP (k:=j) tyOk) ?_|refine qr10eo (AList.idxOw (k:=j) tyOk) ?_
         first|refine AList.load1lE tyOk (hsj) rfl rfl rfl rfl rfl oM ?_|refine AList.load1F tyOk rfl rfl rfl rfl rfl rfl rfl oM oM (hsj) ?_
         refine vA ?_
         refine aB ?_)
      | (refine rG 12 ?_
         (iterate 16 refine vA ?_)
         first|refine qr2 aG ?_|refine aH rfl rfl rfl rfl Try.func17 rfl (by kernel_rfl) (hsm) ?_
         refine vA ?_
         refine aB ?_)
      | (refine rG 14 ?_
         (iterate 3 refine vA ?_)
         refine aH rfl rfl rfl rfl Try.func11 rfl (by kernel_rfl) (hW) ?_
         (iterate 6 refine vA ?_)
         refine aB ?_)
      | (refine rG 15 ?_
         refine vA ?_
         refine aH rfl rfl rfl rfl Try.func18 rfl (by kernel_rfl) (hSv) ?_
         (iterate 5 refine vA ?_)
         refine aB ?_))
     refine⟨j+1,⟨hja,hno2⟩,Wk.mk [] rfl rfl rfl ?_ trivial,by omega⟩
     exact allT
    ·have hsl':¬(s.length:Int)=x.rp.length:=by omega
     repeat (first
      |refine vB [10,16,18] ?_
      | (refine rG 11 ?_
         first|refine qr8eo2 (aP (k:=j) tyOk) ?_|refine qr10eo (AList.idxOw (k:=j) tyOk) ?_
         first|refine AList.load1lE tyOk (hsj) rfl rfl rfl rfl rfl oM ?_|refine AList.load1F tyOk rfl rfl rfl rfl rfl rfl rfl oM oM (hsj) ?_
         refine vA ?_
         refine aB ?_)
      | (refine rG 12 ?_
         (iterate 16 refine vA ?_)
         first|refine qr2 aG ?_|refine aH rfl rfl rfl rfl Try.func17 rfl (by kernel_rfl) (hSan) ?_
         refine vA ?_
         refine aB ?_)
      | (refine rG 14 ?_
         (iterate 3 refine vA ?_)
         refine aH rfl rfl rfl rfl Try.func11 rfl (by kernel_rfl) (hW) ?_
         (iterate 6 refine vA ?_)
         refine aB ?_)
      | (refine rG 15 ?_
         refine vA ?_
         refine aH rfl rfl rfl rfl Try.func18 rfl (by kernel_rfl) (hSv) ?_
         (iterate 5 refine vA ?_)
         refine aB ?_))
     refine⟨j+1,⟨hja,hno2⟩,Wk.mk [] rfl rfl rfl ?_ trivial,by omega⟩
     exact allT
 ·refine acalls_at Try.func4 rfl rfl Try.ntmps4 rfl ?_
  repeat (first
   |refine vB [0] ?_
   | (refine rG 1 ?_
      refine aH rfl rfl rfl rfl Try.func7 rfl (by kernel_rfl) (hSan) ?_
      refine vA ?_
      refine aB ?_)
   | (refine rG 2 ?_
      refine vA ?_
      refine aH rfl rfl rfl rfl Try.func8 rfl (by kernel_rfl) (hMd) ?_
      (iterate 6 refine vA ?_)
      refine aB ?_)
   | (refine rG 3 ?_
      (iterate 2 refine vA ?_)
      refine aH rfl rfl rfl rfl Try.func14 rfl (by kernel_rfl) (hM) ?_
      (iterate 6 refine vA ?_)
      refine aB ?_)
   | (refine rG 4 ?_
      (iterate 13 refine vA ?_)
      first|refine qr2 aG ?_|refine aH rfl rfl rfl rfl Try.func15 rfl (by kernel_rfl) (hHo) ?_
      (iterate 3 refine vA ?_)
      refine aB ?_))
  refine vB [6] ?_
  refine AWp.round (fun K:Nat=>
   mkSt 107 [(3,.c (bC true)),(4,.c (plP30 p)),(5,.c (lsH H)),(6,.c (pl1P x)),(7,.c (iC 60)),(8,.c (iC (K:Nat)))] [] []
   ) (fun K=>K≤H.length+1∧(setsTo H.length K).find? (solB p H)=none) (fun K=>H.length+1-K) 0 ⟨Nat.zero_le _,rfl⟩ ?_ (fun K hK=> ?_)
  ·refine Wk.mk [] rfl rfl rfl ?_ trivial
   repeat (first|exact trivial|refine⟨⟨_,rfl,by first|exact LeA.c (LeC.fzP rfl rfl rfl rfl)|exact leT⟩,?_⟩)
  obtain⟨hK,hnoK⟩:=hK
  by_cases hKn:K≤H.length
  rotate_left
  ·have hKn':¬(K:Int)≤H.length:=by omega
   obtain rfl:K=H.length+1:=by omega
   refine vB [7,19] ?_
   refine⟨mkSt 107 [(2,.c (bC true))] [] [],[],Wk.mk [] rfl rfl rfl ?_ trivial,rfl,rfl,aR1⟩
   exact allT
  have hKn':(K:Int)≤H.length:=by omega
  have hS:=(Sets_A H.length (by omega) K [] 0 (fun _=>rfl) (fun m h=>by cases h) (Nat.zero_le _) (by show 0+K≤100;omega) K (by show K=0+K;omega)).cv (args':= [.c (iC (H.length:Nat)),.c (.p (.slice none 0 0)),.c (iC (K:Nat))]) ⟨.c (Cv.refl _),.c Cv.nil,.c (Cv.refl _),trivial⟩
  obtain⟨all,hall⟩:∃all,setsL H.length K=all:=⟨_,rfl⟩
  have hall':combG H.length K [] 0=all:=hall
  rw[hall']at hS
  have hal:all.length≤1048576:=by rw[←hall];exact Nat.le_trans (combG_len _ _ _ (Nat.zero_le _)) (pow20 (by omega))
  repeat (first
   |refine vB [7] ?_
   | (refine rG 9 ?_
      (iterate 3 refine vA ?_)
      refine aH rfl rfl rfl rfl Try.func16 rfl (by kernel_rfl) (hS) ?_
      (iterate 2 refine vA ?_)
      refine aB ?_))
  refine AWp.round (fun j:Nat=>
   mkSt 107 [(3,.c (bC true)),(4,.c (plP30 p)),(5,.c (lsH H)),(6,.c (pl1P x)),(7,.c (iC 60)),(8,.c (iC (K:Nat))),(58,.c (lsL all)),(59,.c (iC (all.length:Nat))),(60,.c (iC (j:Nat)))] [] []
   ) (fun j=>j≤all.length∧∀i,i<j→solB p H (all.getD i [])=false) (fun j=>all.length-j) 0 ⟨Nat.zero_le _,fun i h=>absurd h (Nat.not_lt_zero _)⟩ ?_ (fun j hj=> ?_)
  ·refine Wk.mk [] rfl rfl rfl ?_ trivial
   exact allT
  obtain⟨hj,hno⟩:=hj
  by_cases hja:j<all.length
  rotate_left
  ·have hja':¬(j:Int)<all.length:=by omega
   obtain rfl:j=all.length:=by omega
   refine vB [8,10] ?_
   refine⟨K+1,⟨by omega,to_no hnoK (by rw[hall];exact hno)⟩,Wk.mk [] rfl rfl rfl ?_ trivial,by omega⟩
   exact allT
  have hja':(j:Int)<all.length:=by omega
  obtain⟨s,hs⟩:∃s,all.getD j []=s:=⟨_,rfl⟩
  have hsj:(fun k (_:Nat)=>lsI (all.getD k [])) j 0=lsI s:=by rw[←hs]
  have hmem:s∈setsL H.length K:=by rw[hall,←hs,List.getD_eq_getElem?_getD,List.getElem?_eq_getElem hja];exact List.getElem_mem hja
  obtain⟨hnm,hsK⟩:=sets_ok hmem
  have hfind:solB p H s=true→find30 p H=some s:=fun hb=>by
   have:=to_hit (n:=H.length) (k:=K) (i:=j) hKn hnoK (by rw[hall];exact hja) (by rw[hall,hs];exact hb) (by rw[hall];exact hno)
   rw[hall,hs]at this
   exact this
  cases hbs:solB p H s with
  | true=>
    rw[hfind hbs]at hres
    cases hres
  | false=>
    have hW:=With_A p sp.ok H hHok s (by omega)
    rw[with_sm sp spC hHm hnm]at hW
    have hSv:=Solve28_A (anP p H s) (an_sm s sp spC hHm).ok
    rw[solB_no sp spC hHm hbs]at hSv
    have hno2:∀i,i<j+1→solB p H (all.getD i [])=false:=fun i hi=>by
     by_cases e:i=j
     ·rw[e,hs];exact hbs
     ·exact hno i (by omega)
    generalize (solveV (anP p H s)).1=ch at *
    generalize anP p H s=q at hW hSv
    clear hbs hfind
    repeat (first
     |refine vB [10,16,18] ?_
     | (refine rG 11 ?_
        first|refine qr8eo2 (aP (k:=j) tyOk) ?_|refine qr10eo (AList.idxOw (k:=j) tyOk) ?_
        first|refine AList.load1lE tyOk (hsj) rfl rfl rfl rfl rfl oM ?_|refine AList.load1F tyOk rfl rfl rfl rfl rfl rfl rfl oM oM (hsj) ?_
        refine vA ?_
        refine aB ?_)
     | (refine rG 12 ?_
        (iterate 16 refine vA ?_)
        first|refine qr2 aG ?_|refine aH rfl rfl rfl rfl Try.func17 rfl (by kernel_rfl) (hSan) ?_
        refine vA ?_
        refine aB ?_)
     | (refine rG 14 ?_
        (iterate 3 refine vA ?_)
        refine aH rfl rfl rfl rfl Try.func11 rfl (by kernel_rfl) (hW) ?_
        (iterate 6 refine vA ?_)
        refine aB ?_)
     | (refine rG 15 ?_
        refine vA ?_
        refine aH rfl rfl rfl rfl Try.func18 rfl (by kernel_rfl) (hSv) ?_
        (iterate 5 refine vA ?_)
        refine aB ?_))
    refine⟨j+1,⟨hja,hno2⟩,Wk.mk [] rfl rfl rfl ?_ trivial,by omega⟩
    exact allT
end Go.Proofs.Ytbffmfeldkjkcaa
end
section
namespace Go.Proofs.Ytbffmfeldkjkcaa.reprintLeast
open Go.ChangeShapes Go.WideShapes Go.ChangeAt Go.RowKit Go.Flow Go.AV
set_option maxRecDepth 100000 in
theorem contract(H:Type)(enc:TypeId×Value→H)(W:World)(base:Nat)(args:Array Value)(ds gs:List (DataW H))(before:List MemPlace)
 (hval:∀(j:Nat) t v,Try.f4.params[j]?=some t→args[j]?=some v→Value.okWide Try.prog W .any base t v)
 (hW:DataW.Whole enc Try.prog Try.f4.params.toList Rows.reprintLeastSpec.vars false W args.toList ds gs before)
 (hsz:(DataW.weightsEach Try.prog (Try.f4.params.toList++(OpenSpec.ofChange Rows.reprintLeastSpec).bare.plain.varTypes Try.prog) (ds++gs)).all (·≤reachBytes)=true):
 Calls Try.prog 4 args W fun e W'=>∃v,e=.returned v∧Rows.reprintLeastSpec.post enc Try.prog Try.f4 false true false false W args v W':=by
 have hW':=hW
 obtain⟨p,q,hA0,hV,rfl,hfz,hnd⟩:=hW
 have hA:DataW.TrodAll enc Try.prog W 0 (fun _=>true) true Try.f4.params.toList args.toList ds p:=hA0
 have hAk:=hA0
 rw[Try.params4]at hA hval hsz
 obtain⟨rfl,rfl⟩:=trodVars_none hV
 obtain⟨v0,vs0,d0,ds0,p0,q0,hargs,rfl,rfl,h0,t0⟩:=trodAll_cons hA
 obtain⟨rfl,rfl,rfl⟩:=trodAll_nil t0
 obtain rfl:args= #[v0]:=by rw[←Array.toList_inj];exact hargs
 have hlt:=fun x hx=>hW'.lt x hx
 simp only[List.append_nil]at hW'
 rw[List.append_nil]at hsz
 obtain⟨a0,ok0,r0⟩:=opn_ca30.argS Try.underlying27 (hval 0 27 v0 rfl rfl) h0 (weigh hsz 0 (t:=27) (d:=d0) rfl rfl)
 refine((ECalls.of (ReprintLeast_A a0 ok0)) O0 W [_] (fun b h=>h.elim) ⟨r0,trivial⟩).mono fun e W' ⟨v,r,he,hr,hv,hE⟩=> ?_
 subst hr
 obtain rfl:v=.bool true:=hv.2
 subst he
 exact⟨_,rfl,post_below (pv:= []) hW' (fun _ _ _=>trodAll_cons_mk (shut_bool Try.underlying4 _) trodAll_mk0)
  (fun sp hsp=>trodAll_below laidOut hE (by rw[Try.params4];intro t ht;simp only[List.mem_cons,List.not_mem_nil,or_false]at ht;rcases ht with rfl<;>exact⟨by kernel_rfl,of_decide_eq_true (by kernel_rfl)⟩) hAk (fun x hx=>hlt x (by rw[List.append_nil];exact hx)) sp (fun x hx=>hsp x (by simpa only[List.append_nil]using hx)))
  (fun _ _=>rfl) (by simp) hE (ok_one (by kernel_rfl) rfl (okWide_bool_mk Try.underlying4 _))⟩
theorem own:ownKnob Try.prog.godebug=none:=by kernel_rfl
set_option maxRecDepth 100000 in
theorem lifted(os:Os)(started:os.Started)(H:Type)(enc:TypeId×Value→H):
 ReturnsInHanded {} Try.checked os 4 .any (Rows.reprintLeastSpec.pre6 enc Try.prog Try.f4 Rows.reprintLeastRow.domain false) (Rows.reprintLeastSpec.post enc Try.prog Try.f4 false true false false):=by
 refine returnsInHanded_of_change_sized (C:=Try.checked) own started (by kernel_rfl) Try.func4
  (ChangeSpec.witness6 (enc:=enc) (C:=Try.checked) false ⟨#[], #[.agg #[.slice none 0 0,.slice none 0 0,.slice none 0 0,.int .i64 0,.int .i64 0,.int .i64 0,.int .i64 0,.int .i64 0]],[]⟩ 8 (by kernel_rfl) (by kernel_rfl) (by kernel_rfl) (by kernel_rfl)) ?_
 intro W base args ds gs before hval hW _ hsz _
 exact contract H enc W base args ds gs before hval hW hsz
theorem said:Rows.ReprintLeastSaid:=
 OpenClaim.holds_of_wide 4 Try.f4 rfl rfl rfl rfl rfl rfl rfl ⟨rfl,rfl,rfl,rfl,rfl⟩ rfl rfl rfl rfl rfl (by kernel_rfl) Try.func4 (by kernel_rfl)
  (of_decide_eq_true (by kernel_rfl)) (by unfold Func.isWrapper;first|(rw[if_pos (by decide +kernel)];kernel_rfl)|(rw[if_neg (by decide +kernel)];exact⟨rfl,rfl⟩))
  (fun os started H enc _=>lifted os started H enc)
end Go.Proofs.Ytbffmfeldkjkcaa.reprintLeast
end
