/- ReprintSafe: the statement. No condition. -/
import Derived.Test.YtbffmfeldkjkcaaG46
import Derived.Test.YtbffmfeldkjkcaaRows
import Derived.Test.YtbffmfeldkjkcaaHA30zar01
set_option linter.unusedSimpArgs false
set_option linter.unusedVariables false
set_option maxHeartbeats 0
section
namespace Go.Proofs.Ytbffmfeldkjkcaa
open Go.RowKit Go.Flow Go.AV Go.Plain
def prodL:List Nat→Nat
 | []=>1
 |L::Ls=>L*prodL Ls
def numI:List Nat→List Int→Int
 |L::Ls,d::ds=>d*(prodL Ls:Int)+numI Ls ds
 |_,_=>0
abbrev lensF(p:Pb)(k:Nat):List Nat:=(p.C.drop k).map List.length
def InR:List Nat→List Int→Prop
 |L::Ls,d::ds=>(0≤d∧d<L)∧InR Ls ds
 | [],[]=>True
 |_,_=>False
theorem numI_bd:∀{Ls:List Nat} {e:List Int},InR Ls e→0≤numI Ls e∧numI Ls e<prodL Ls
 | [],[],_=>⟨Int.le_refl _,by decide⟩
 | L::Ls,d::ds,h=>by
   obtain⟨⟨h1,h2⟩,h3⟩:=h
   obtain⟨i1,i2⟩:=numI_bd h3
   have e1:=Int.mul_nonneg h1 (Int.natCast_nonneg (prodL Ls))
   have e2:(d+1)*(prodL Ls:Int)≤(L:Int)*(prodL Ls:Int):=Int.mul_le_mul_of_nonneg_right (by omega) (Int.natCast_nonneg _)
   rw[Int.add_mul,Int.one_mul]at e2
   have e3:((prodL (L::Ls):Nat):Int)=(L:Int)*(prodL Ls:Int):=by simp[prodL]
   show 0≤d*(prodL Ls:Int)+numI Ls ds∧d*(prodL Ls:Int)+numI Ls ds<_
   rw[e3]
   omega
 | [],_::_,h=>h.elim
 |_::_,[],h=>h.elim
theorem numI_lt{L:Nat}{Ls:List Nat}{c d:Int}{e f:List Int}(h:c<d)(he:InR Ls e)(hf:InR Ls f):numI (L::Ls) (c::e)<numI (L::Ls) (d::f):=by
 have h1:=(numI_bd he).2
 have h2:=(numI_bd hf).1
 have e2:(c+1)*(prodL Ls:Int)≤d*(prodL Ls:Int):=Int.mul_le_mul_of_nonneg_right (by omega) (Int.natCast_nonneg _)
 rw[Int.add_mul,Int.one_mul]at e2
 show c*(prodL Ls:Int)+numI Ls e<d*(prodL Ls:Int)+numI Ls f
 omega
theorem lens_cons{p:Pb}{k:Nat}(h:k<p.C.length):lensF p k=(p.C.getD k []).length::lensF p (k+1):=by
 unfold lensF
 rw[List.drop_eq_getElem_cons h,List.map_cons,List.getD_eq_getElem?_getD,List.getElem?_eq_getElem h]
 rfl
theorem GoodC.inR{p:Pb}:∀{e ch:List Int},ch.length+e.length=p.C.length→GoodC p (ch++e)→InR (lensF p ch.length) e
 | [],ch,hl,_=>by
   have:lensF p ch.length= []:=by
    unfold lensF
    rw[List.drop_eq_nil_of_le (by simp at hl;omega)]
    rfl
   rw[this]
   trivial
 | c::e,ch,hl,h=>by
   rw[List.length_cons]at hl
   rw[lens_cons (by omega)]
   refine⟨h.head.1,?_⟩
   have:=GoodC.inR (p:=p) (e:=e) (ch:=ch++ [c]) (by rw[List.length_append,List.length_singleton];omega) (by rw[List.append_assoc];exact h)
   rwa [List.length_append,List.length_singleton]at this
def SpecV(p:Pb)(m:Nat)(ch:List Int)(o:FR):Prop:=
 (o.2.1=0∧∃e0,o.1=ch++e0∧e0.length=m∧GoodC p (ch++e0)∧∀e,e.length=m→GoodC p (ch++e)→numI (lensF p ch.length) e0≤numI (lensF p ch.length) e)∨
 (o.2.1=60∧o.1= []∧∀e,e.length=m→¬GoodC p (ch++e))
def stT:Nat→Int
 |0=>0
 |m+1=>4*(1+stT m)
theorem stT_nn:∀m,0≤stT m
 |0=>Int.le_refl _
 |m+1=>by have:=stT_nn m;show 0≤4*(1+stT m);omega
theorem tryV_spec{p:Pb}{ch:List Int}{m:Nat}{rec:List Int→Int→FR}{L:Nat}(hm:ch.length+(m+1)=p.C.length)(hL:(p.C.getD ch.length []).length=L)(T:Int)(hT:0≤T)
 (hr:∀(c:Nat) st,0≤st→st+T≤20000→c<L→freeV p ch.length (fI ch) c=true→SpecV p m (ch++ [(c:Int)]) (rec (ch++ [(c:Int)]) st)∧st≤(rec (ch++ [(c:Int)]) st).2.2∧(rec (ch++ [(c:Int)]) st).2.2≤st+T):
 ∀(r c:Nat) (st:Int),c+r=L→0≤st→st+r*(1+T)≤20000→(∀(d:Int) e,d<c→e.length=m→¬GoodC p (ch++d::e))→SpecV p (m+1) ch (tryV rec p ch r c st)∧st≤(tryV rec p ch r c st).2.2∧(tryV rec p ch r c st).2.2≤st+r*(1+T)
 | 0,c,st,hc,h0,hst,hno=>by
   refine⟨.inr ⟨rfl,rfl,fun e he hg=> ?_⟩,Int.le_refl _,by simp[tryV]⟩
   obtain⟨d,e,rfl⟩:∃d e',e=d::e':=by cases e with|nil=>cases he|cons d e=>exact⟨d,e,rfl⟩
   have:=hg.head.1
   rw[hL]at this
   exact hno d e (by omega) (by simpa using he) hg
 | r + 1,c,st,hc,h0,hst,hno=>by
   have hrT:0≤(r:Int)*(1+T):=Int.mul_nonneg (Int.natCast_nonneg r) (by omega)
   have hsp:((r+1:Nat):Int)*(1+T)=(r:Int)*(1+T)+(1+T):=by rw[Int.natCast_add,Int.add_mul];simp
   rw[hsp]at hst⊢
   have hov:¬20000<st+1:=by omega
   cases hf:freeV p ch.length (fI ch) c with
   | false=>
     rw[tryV_skip hov hf]
     have hno':∀(d:Int) e,d<((c+1:Nat):Int)→e.length=m→¬GoodC p (ch++d::e):=fun d e hd he hg=>by
      by_cases hdc:d=c
      ·have:=hg.head.2
       rw[hdc,hf]at this
       cases this
      ·exact hno d e (by omega) he hg
     obtain⟨i1,i2,i3⟩:=tryV_spec hm hL T hT hr r (c+1) (st+1) (by omega) (by omega) (by omega) hno'
     exact⟨i1,by omega,by omega⟩
   | true=>
     obtain⟨g1,g2,g3⟩:=hr c (st+1) (by omega) (by omega) (by omega) hf
     rcases g1 with ⟨k1,e0,k2,k3,k4,k5⟩|⟨k1,k2,k3⟩
     ·rw[tryV_out hov hf (by rw[k1];decide)]
      refine⟨.inl ⟨k1,(c:Int)::e0,by rw[k2,List.append_assoc];rfl,by simp[k3],by rw[List.append_assoc]at k4;exact k4,fun e he hg=> ?_⟩,by omega,by omega⟩
      obtain⟨d,e,rfl⟩:∃d e',e=d::e':=by cases e with|nil=>cases he|cons d e=>exact⟨d,e,rfl⟩
      have he':e.length=m:=by simpa using he
      have hdc:¬d<c:=fun h=>hno d e h he' hg
      have l1:(ch++ [(c:Int)]).length=ch.length+1:=by simp
      rw[lens_cons (by omega)]
      by_cases hd:d=c
      ·subst hd
       have:=k5 e he' (by rw[List.append_assoc];exact hg)
       rw[l1]at this
       show(c:Int)*_+_≤(c:Int)*_+_
       omega
      ·have r1:=GoodC.inR (p:=p) (e:=e0) (by rw[l1];omega) k4
       have r2:=GoodC.inR (p:=p) (e:=e) (ch:=ch++ [d]) (by simp;omega) (by rw[List.append_assoc];exact hg)
       rw[l1]at r1
       rw[show(ch++ [d]).length=ch.length+1 by simp]at r2
       exact Int.le_of_lt (numI_lt (by omega) r1 r2)
     ·rw[tryV_go hov hf k1]
      have hno':∀(d:Int) e,d<((c+1:Nat):Int)→e.length=m→¬GoodC p (ch++d::e):=fun d e hd he hg=>by
       by_cases hdc:d=c
       ·exact k3 e he (by rw[List.append_assoc,←hdc];exact hg)
       ·exact hno d e (by omega) he hg
      obtain⟨i1,i2,i3⟩:=tryV_spec hm hL T hT hr r (c+1) (rec (ch++ [(c:Int)]) (st+1)).2.2 (by omega) (by omega) (by omega) hno'
      exact⟨i1,by omega,by omega⟩
theorem fromV_spec{p:Pb}(hl:∀l∈p.C,l.length≤4):∀(m:Nat) (ch:List Int) (st:Int),ch.length+m=p.C.length→GoodC p ch→0≤st→st+stT m≤20000→SpecV p m ch (fromV p m ch st)∧st≤(fromV p m ch st).2.2∧(fromV p m ch st).2.2≤st+stT m
 |0,ch,st,hm,hg,h0,hst=>⟨.inl ⟨rfl,[],by simp[fromV],rfl,by simpa using hg,fun e he _=>by
    obtain rfl:=List.eq_nil_of_length_eq_zero he
    exact Int.le_refl _⟩,Int.le_refl _,by simp[fromV,stT]⟩
 | m +1,ch,st,hm,hg,h0,hst=>by
   have hlt:ch.length<p.C.length:=by omega
   have hL3:=hl _ (getD_mem28 (z:= []) hlt)
   have hT:=stT_nn m
   have hst':stT (m+1)=4*(1+stT m):=rfl
   have hle:((p.C.getD ch.length []).length:Int)*(1+stT m)≤4*(1+stT m):=Int.mul_le_mul_of_nonneg_right (by omega) (by omega)
   have hrec:∀(c:Nat) (st:Int),0≤st→st+stT m≤20000→c<(p.C.getD ch.length []).length→freeV p ch.length (fI ch) c=true→SpecV p m (ch++ [(c:Int)]) (fromV p m (ch++ [(c:Int)]) st)∧st≤(fromV p m (ch++ [(c:Int)]) st).2.2∧(fromV p m (ch++ [(c:Int)]) st).2.2≤st+stT m:=fun c st h0 hst hc hf=>by
    refine fromV_spec hl m (ch++ [(c:Int)]) st (by simp;omega) (fun k hk=> ?_) h0 hst
    rw[List.length_append,List.length_singleton]at hk
    by_cases e:k=ch.length
    ·subst e
     rw[stepOk_iff,fI_last,freeV_congr2 (fI_snoc ch c)]
     exact⟨⟨by omega,by omega⟩,hf⟩
    ·have:=stepOk_iff.1 (hg k (by omega))
     rw[stepOk_iff,fI_snoc ch c k (by omega),freeV_congr2 fun j hj=>fI_snoc ch c j (by omega)]
     exact this
   obtain⟨i1,i2,i3⟩:=tryV_spec (rec:=fromV p m) (m:=m) (L:=(p.C.getD ch.length []).length) hm rfl (stT m) hT hrec (p.C.getD ch.length []).length 0 st (by omega) h0 (by omega) (fun d e hd _ h=>by have:=h.head.1.1;omega)
   exact⟨i1,i2,by show _≤st+stT (m+1);unfold fromV;omega⟩
def digsI:List Nat→Nat→List Int
 | [],_=> []
 |L::Ls,n=>((n/prodL Ls%L:Nat):Int)::digsI Ls n
theorem digs_len:∀(Ls:List Nat) (n:Nat),(digsI Ls n).length=Ls.length
 | [],_=>rfl
 |_::Ls,n=>congrArg (· + 1) (digs_len Ls n)
theorem digs_mod:∀(Ls:List Nat) (n:Nat),digsI Ls (n%prodL Ls)=digsI Ls n
 | [],_=>rfl
 | L::Ls,n=>by
   have h1:n%(L*prodL Ls)/prodL Ls%L=n/prodL Ls%L:=by
    rw[Nat.mul_comm L,Nat.mod_mul_right_div_self,Nat.mod_mod]
   have h2:digsI Ls (n%(L*prodL Ls))=digsI Ls n:=by
    rw[←digs_mod Ls (n%(L*prodL Ls)),Nat.mod_mul_left_mod,digs_mod Ls n]
   show((n%(L*prodL Ls)/prodL Ls%L:Nat):Int)::digsI Ls (n%(L*prodL Ls))=_
   rw[h1,h2]
   rfl
theorem digs_in:∀{Ls:List Nat} {n:Nat},0<prodL Ls→InR Ls (digsI Ls n)
 | [],_,_=>trivial
 | L::Ls,n,h=>by
   have h:0<L*prodL Ls:=h
   have hL:0<L:=Nat.pos_of_mul_pos_right h
   have hP:0<prodL Ls:=Nat.pos_of_mul_pos_left h
   have:=Nat.mod_lt (n/prodL Ls) hL
   exact⟨⟨by omega,by omega⟩,digs_in hP⟩
theorem num_digs:∀{Ls:List Nat} {n:Nat},n<prodL Ls→numI Ls (digsI Ls n)=n
 | [],n,h=>by
   have h:n<1:=h
   obtain rfl:n=0:=by omega
   rfl
 | L::Ls,n,h=>by
   have h:n<L*prodL Ls:=h
   have h0:0<L*prodL Ls:=by omega
   have hP:0<prodL Ls:=Nat.pos_of_mul_pos_left h0
   have h1:n/prodL Ls<L:=(Nat.div_lt_iff_lt_mul hP).2 h
   have ih:=num_digs (Ls:=Ls) (n:=n%prodL Ls) (Nat.mod_lt _ hP)
   rw[digs_mod]at ih
   show((n/prodL Ls%L:Nat):Int)*(prodL Ls:Int)+numI Ls (digsI Ls n)=n
   rw[ih,Nat.mod_eq_of_lt h1,←Int.natCast_mul,←Int.natCast_add,Nat.div_add_mod']
theorem numI_inj:∀{Ls:List Nat} {e f:List Int},InR Ls e→InR Ls f→numI Ls e=numI Ls f→e=f
 | [],[],[],_,_,_=>rfl
 | L ::Ls,c::e,d::f,he,hf,h=>by
   by_cases h1:c<d
   ·have:=numI_lt (L:=L) h1 he.2 hf.2
    omega
   ·by_cases h2:d<c
    ·have:=numI_lt (L:=L) h2 hf.2 he.2
     omega
    ·obtain rfl:c=d:=by omega
     have h:c*(prodL Ls:Int)+numI Ls e=c*(prodL Ls:Int)+numI Ls f:=h
     rw[numI_inj he.2 hf.2 (by omega)]
 | [],_::_,_,he,_,_=>he.elim
 | [],[],_::_,_,hf,_=>hf.elim
 |_::_,[],_,he,_,_=>he.elim
 |_::_,_::_,[],_,hf,_=>hf.elim
theorem solve_num{p:Pb}(hf:p.fit)(hk:chkP p=0)(hs:∀l∈p.C,l.length≤4)(hc:p.C.length≤5):
 ((solveV p).2=0∧∃N:Nat,N<prodL (lensF p 0)∧(solveV p).1=digsI (lensF p 0) N∧GoodC p (digsI (lensF p 0) N)∧∀n,n<N→¬GoodC p (digsI (lensF p 0) n))∨
 ((solveV p).2=60∧(solveV p).1= []∧∀n,¬GoodC p (digsI (lensF p 0) n)):=by
 have hT:stT p.C.length≤20000:=by
  have:p.C.length=0∨p.C.length=1∨p.C.length=2∨p.C.length=3∨p.C.length=4∨p.C.length=5:=by omega
  rcases this with h|h|h|h|h|h<;>rw[h]<;>decide
 obtain⟨hS,-,-⟩:=fromV_spec hs p.C.length [] 0 (by simp) (fun k hk=>absurd hk (Nat.not_lt_zero _)) (Int.le_refl _) (by omega)
 have hlen:(lensF p 0).length=p.C.length:=by simp[lensF]
 unfold solveV
 rw[if_pos hk]
 generalize fromV p p.C.length [] 0=o at *
 rcases hS with ⟨k1,e0,k2,k3,k4,k5⟩|⟨k1,k2,k3⟩
 ·left
  refine⟨k1,?_⟩
  have r0:InR (lensF p 0) e0:=GoodC.inR (p:=p) (ch:= []) (by simpa using k3) k4
  obtain⟨b1,b2⟩:=numI_bd r0
  obtain⟨N,hN⟩:=Int.eq_ofNat_of_zero_le b1
  have hlt:N<prodL (lensF p 0):=by omega
  have hd:digsI (lensF p 0) N=e0:=numI_inj (digs_in (by omega)) r0 (by rw[num_digs hlt,hN])
  refine⟨N,hlt,by rw[hd];exact k2,by rw[hd];exact k4,fun n hn hg=> ?_⟩
  have:=k5 (digsI (lensF p 0) n) (by rw[digs_len,hlen]) hg
  change numI (lensF p 0) e0≤numI (lensF p 0) (digsI (lensF p 0) n)at this
  rw[num_digs (by omega),hN]at this
  omega
 ·right
  exact⟨k1,k2,fun n hg=>k3 _ (by rw[digs_len,hlen]) hg⟩
def NoCl(p:Pb)(f:Nat→Int)(k:Nat):Prop:=
 (∀j,j<p.F.length→(clashV p.R ((p.C.getD k []).getD (f k).toNat bpZ) (p.F.getD j bpZ) (p.O.getD k bgZ) (p.T.getD j bgZ)).2.2=false)∧
 ∀j,j<k→(clashV p.R ((p.C.getD k []).getD (f k).toNat bpZ) ((p.C.getD j []).getD (f j).toNat bpZ) (p.O.getD k bgZ) (p.O.getD j bgZ)).2.2=false
theorem free_iff{p:Pb}{f:Nat→Int}{k:Nat}:freeV p k f (f k)=true↔NoCl p f k:=by
 rw[freeV_iff]
 have hk:¬((k:Nat):Int)<0:=by omega
 refine and_congr (forall_congr' fun j=>forall_congr' fun _=> ?_) (forall_congr' fun j=>forall_congr' fun _=> ?_)
 ·unfold pkV labB labG
  rw[if_neg hk,if_pos (show(-1:Int)<0 by decide),if_neg hk,if_pos (show(-1:Int)<0 by decide)]
  rfl
 ·have hj:¬((j:Nat):Int)<0:=by omega
  unfold pkV labB labG
  rw[if_neg hk,if_neg hj,if_neg hk,if_neg hj]
  rfl
theorem step_iff{p:Pb}{f:Nat→Int}{k:Nat}:stepOk p f k=true↔(0≤f k∧f k<(p.C.getD k []).length)∧NoCl p f k:=by
 rw[stepOk_iff,free_iff]
theorem an_sm{p:Pb}{H:List Hg}(s:List Int)(hp:Sm p)(hC:p.C.length≤2)(hH:HgSm H):Sm (anP p H s):=by
 have h1:(anP p H s).C.length=p.C.length+H.length:=by show(p.C++anC H s H.length).length=_;rw[List.length_append,anC_len]
 have h2:(anP p H s).O.length=p.O.length+H.length:=by show(p.O++anO H H.length).length=_;rw[List.length_append,anO_len]
 have h3:=hH.1
 refine⟨hp.R,hp.Rr,by omega,fun l hl=> ?_,hp.F,hp.Ff,by rw[h1,h2,hp.O],hp.T⟩
 rcases List.mem_append.1 hl with hl|hl
 ·exact hp.Cc l hl
 ·unfold anC at hl
  obtain⟨k,hk,rfl⟩:=List.mem_map.1 hl
  obtain⟨⟨d,q1⟩,q2,q3⟩:=hH.2 _ (getD_mem28 (L:=H) (k:=k) (z:=hgZ) (List.mem_range.1 hk))
  unfold hgC1
  by_cases c:(k:Int)∈s
  ·rw[if_pos c];exact⟨by omega,q3⟩
  ·rw[if_neg c]
   exact⟨by simp,fun b hb=>by rw[List.mem_singleton.1 hb];exact⟨d,q1⟩⟩
theorem with_sm{p:Pb}{H:List Hg}{s:List Int}(hp:Sm p)(hC:p.C.length≤2)(hH:HgSm H)(hs:nmOk H.length s=true):withV p H s=(anP p H s,0):=by
 unfold withV
 rw[if_pos hp.chk,if_pos hs,if_pos (an_sm s hp hC hH).chk]
def nmL(f:Nat→Int)(k:Nat):List Int:=(List.range k).map f
theorem nmL_len(f:Nat→Int)(k:Nat):(nmL f k).length=k:=by unfold nmL;rw[List.length_map,List.length_range]
theorem nmL_at(f:Nat→Int){k i:Nat}(h:i<k):fI (nmL f k) i=f i:=by
 show(nmL f k).getD i 0=_
 unfold nmL
 rw[List.getD_eq_getElem?_getD,List.getElem?_map,List.getElem?_range h]
 rfl
def Sol(p:Pb):Prop:=∃f:Nat→Int,∀k,k<p.C.length→stepOk p f k=true
theorem step_congr{p:Pb}{f g:Nat→Int}{k:Nat}(h:∀j,j≤k→f j=g j)(hs:stepOk p f k=true):stepOk p g k=true:=by
 rw[stepOk_iff]at hs⊢
 rw[←h k (Nat.le_refl k),←freeV_congr2 fun j hj=>h j (by omega)]
 exact hs
theorem sol_of{p:Pb}(sp:Sm p):((solveV p).2=0∧Sol p)∨((solveV p).2=60∧¬Sol p):=by
 have hT:stT p.C.length≤20000:=by
  have:=sp.C
  have:p.C.length=0∨p.C.length=1∨p.C.length=2∨p.C.length=3∨p.C.length=4∨p.C.length=5:=by omega
  rcases this with h|h|h|h|h|h<;>rw[h]<;>decide
 obtain⟨hS,-,-⟩:=fromV_spec (fun l h=>(sp.Cc l h).1) p.C.length [] 0 (by simp) (fun k hk=>absurd hk (Nat.not_lt_zero _)) (Int.le_refl _) (by omega)
 unfold solveV
 rw[if_pos sp.chk]
 generalize fromV p p.C.length [] 0=o at *
 rcases hS with ⟨k1,e0,-,k3,k4,-⟩|⟨k1,-,k3⟩
 ·exact .inl ⟨k1,fI e0,fun k hk=>k4 k (by rw[List.nil_append,k3];exact hk)⟩
 ·refine .inr ⟨k1,fun ⟨f,hf⟩=>k3 (nmL f p.C.length) (nmL_len _ _) fun k hk=> ?_⟩
  rw[List.nil_append,nmL_len]at hk
  exact step_congr (fun j hj=>(nmL_at f (by omega)).symm) (hf k hk)
def solB(p:Pb)(H:List Hg)(s:List Int):Bool:=decide ((solveV (anP p H s)).2=0)
theorem find_congr{f g:List Int→Bool}:∀{L:List (List Int)},(∀s∈L,f s=g s)→L.find? f=L.find? g
 | [],_=>rfl
 | s::L,h=>by
   rw[List.find?_cons,List.find?_cons,h s (by simp),find_congr (L:=L) fun t ht=>h t (by simp[ht])]
theorem allV_nm(n:Nat):nmOk n (allV n)=true:=nmOk_iff.2 fun k hk=>by
 rw[allV_len]at hk
 rw[fI_all,show idF30 n k=(k:Int)from if_pos hk]
 refine⟨by omega,by omega,fun h0=> ?_⟩
 rw[fI_all,show idF30 n (k-1)=((k-1:Nat):Int)from if_pos (by omega)]
 omega
abbrev find30(p:Pb)(H:List Hg):Option (List Int):=(setsTo H.length (H.length+1)).find? (solB p H)
theorem make_sm{p:Pb}{H:List Hg}(hp:Sm p)(hC:p.C.length≤2)(hH:HgSm H):
 (∃s,find30 p H=some s∧nmOk H.length s=true∧(solveV (anP p H s)).2=0∧makeV p H=(planL p (solveV (anP p H s)).1 s,0))∨(find30 p H=none∧makeV p H=(plZ,60)):=by
 have hn:nmOk H.length []=true:=nmOk_iff.2 fun k hk=>absurd hk (Nat.not_lt_zero _)
 have hh:=hH.1
 have e:(setsTo H.length (H.length+1)).find? (hitB p H)=find30 p H:=find_congr fun s hs=>by
  have hm:=(to_mem hs).1
  unfold hitB solB
  rw[with_sm hp hC hH hm]
  rcases sol_of (an_sm s hp hC hH)with ⟨h1,-⟩|⟨h1,-⟩<;>(dsimp only;rw[h1];rfl)
 have em:makeV p H=optP p H (find30 p H):=by
  unfold makeV
  rw[if_pos hp.chk,if_neg (by omega),with_sm hp hC hH hn,with_sm hp hC hH (allV_nm _),e]
  rfl
 cases hf:find30 p H with
 |none=>rw[hf]at em;exact .inr ⟨rfl,em⟩
 | some s=>
   rw[hf]at em
   have hm:=(to_mem (List.mem_of_find?_eq_some hf)).1
   have hs:=List.find?_some hf
   have h0:(solveV (anP p H s)).2=0:=of_decide_eq_true hs
   refine .inl ⟨s,rfl,hm,h0,em.trans ?_⟩
   show planV p H s=_
   unfold planV
   rw[with_sm hp hC hH hm,if_pos h0]
theorem solve_good{q:Pb}(hq:Sm q)(h:(solveV q).2=0):(solveV q).1.length=q.C.length∧GoodC q (solveV q).1:=by
 refine⟨solveV_len0 h,?_⟩
 rcases solve_num hq.fit hq.chk (fun l h=>(hq.Cc l h).1) hq.C with ⟨-,N,-,h2,h3,-⟩|⟨h1,-⟩
 ·rw[h2];exact h3
 ·rw[h]at h1;cases h1
theorem fI_map{s:List Int}{f:Int→Int}{i:Nat}(h:i<s.length):fI (s.map f) i=f (fI s i):=by
 show(s.map f).getD i 0=f (s.getD i 0)
 rw[List.getD_eq_getElem?_getD,List.getD_eq_getElem?_getD,List.getElem?_map,List.getElem?_eq_getElem h]
 rfl
theorem fI_take{l:List Int}{m j:Nat}(h:j<m):fI (l.take m) j=fI l j:=by
 show(l.take m).getD j 0=l.getD j 0
 rw[List.getD_eq_getElem?_getD,List.getD_eq_getElem?_getD,List.getElem?_take_of_lt h]
theorem an_C{p:Pb}{H:List Hg}{s:List Int}{i:Nat}(hi:i<H.length):(anP p H s).C.getD (p.C.length+i) []=hgC1 H s i:=by
 show(p.C++anC H s H.length).getD _ []=_
 rw[List.getD_eq_getElem?_getD,List.getElem?_append_right (by omega),Nat.add_sub_cancel_left]
 unfold anC
 rw[List.getElem?_map,List.getElem?_range hi]
 rfl
abbrev pk30(q:Pb)(c:List Int)(i:Nat):Bp:=(q.C.getD i []).getD (fI c i).toNat bpZ
def mapL(q:Pb)(c:List Int)(k:Nat):List Bp:=(List.range k).map (pk30 q c)
theorem mapL_len(q:Pb)(c:List Int)(k:Nat):(mapL q c k).length=k:=by
 unfold mapL
 rw[List.length_map,List.length_range]
theorem mapL_succ(q:Pb)(c:List Int)(k:Nat):mapL q c (k+1)=mapL q c k++ [pk30 q c k]:=by
 unfold mapL
 rw[List.range_succ,List.map_append]
 rfl
theorem mapL_at{q:Pb}{c:List Int}{n k:Nat}(h:k<n):(mapL q c n).getD k bpZ=pk30 q c k:=by
 unfold mapL
 rw[List.getD_eq_getElem?_getD,List.getElem?_map,List.getElem?_range h]
 rfl
theorem an_Clo{p:Pb}{H:List Hg}{s:List Int}{i:Nat}(hi:i<p.C.length):(anP p H s).C.getD i []=p.C.getD i []:=by
 show(p.C++anC H s H.length).getD i []=_
 rw[List.getD_eq_getElem?_getD,List.getElem?_append_left hi,←List.getD_eq_getElem?_getD]
theorem mem_take_succ{s:List Int}{i:Nat}{x:Int}(h:i<s.length):x∈s.take (i+1)↔x∈s.take i∨fI s i=x:=by
 rw[List.take_add_one,List.getElem?_eq_getElem h,List.mem_append]
 refine or_congr Iff.rfl ?_
 have e:fI s i=s[i]:=by
  show s.getD i 0=_
  rw[List.getD_eq_getElem?_getD,List.getElem?_eq_getElem h]
  rfl
 rw[e]
 simp[eq_comm]
set_option maxRecDepth 100000 in
theorem ReprintSafe_A(c:Cs)(hc:c.ok):ACalls Try.prog 5 [.ag (csC c)] (.c (bC true)):=by
 obtain⟨⟨hP,hHs⟩,-,-,-⟩:=hc
 have hSan:=sanity30_A
 have hMd:=made30_A c hP hHs
 obtain⟨sm1,-⟩:=made_sm c.P
 obtain⟨sm2,-⟩:=made_sm c.Hs
 obtain⟨sp,spC⟩:=cut_sm sm1
 have hHm:=hangs_sm sm2
 generalize cutP (made28 c.P)=p at *
 generalize hangs30 (made28 c.Hs)=H at *
 clear sm1 sm2 hP hHs
 have hn2:=hHm.1
 have hHok:=hHm.bd.ok (by omega)
 have hM:=Make_A p sp.ok H hHok
 rcases make_sm sp spC hHm with ⟨s,h1,h2,h3,h4⟩|⟨h1,h2⟩
 rotate_left
 ·rw [h2]at hM
  clear h1 h2
  obtain⟨l0,hl0⟩:∃l:List Int,l= []:=⟨_,rfl⟩
  have z0:(l0.length:Int)=0:=by rw[hl0];rfl
  have hM':ACalls Try.prog 14 [.ag (pbC p),.c (lsH H)] (.tu [.ag [lsI l0,lsI l0,lsI l0],.c (iC 60)]):=by rw[hl0];exact hM
  clear hM hl0
  refine acalls_at Try.func5 rfl rfl Try.ntmps5 rfl ?_
  repeat (first
   |refine vB [0,4,5] ?_
   | (refine rG 1 ?_
      refine aH rfl rfl rfl rfl Try.func7 rfl (by kernel_rfl) (hSan) ?_
      refine vA ?_
      refine aB ?_)
   | (refine rG 2 ?_
      refine vA ?_
      refine aH rfl rfl rfl rfl Try.func8 rfl (by kernel_rfl) (hMd) ?_
      (iterate 6 refine vA ?_)
      refine aB ?_)
   | (refine rG 3 ?_
      (iterate 2 refine vA ?_)
      refine aH rfl rfl rfl rfl Try.func14 rfl (by kernel_rfl) (hM') ?_
      (iterate 6 refine vA ?_)
      refine aB ?_))
  refine⟨mkSt 256 [(2,.c (bC true))] [] [],[],Wk.mk [] rfl rfl rfl ?_ trivial,rfl,rfl,aR1⟩
  exact allT
 rw[h4]at hM
 have hl:=(to_mem (List.mem_of_find?_eq_some h1)).2
 have hqs:=an_sm s sp spC hHm
 obtain⟨hcl,hg⟩:=solve_good hqs h3
 have hql:(anP p H s).C.length=p.C.length+H.length:=by show(p.C++anC H s H.length).length=_;rw[List.length_append,anC_len]
 rw[hql]at hcl
 generalize (solveV (anP p H s)).1=cc at *
 have hst:=fun k (hk:k<p.C.length+H.length)=>step_iff.1 (hg k (by omega))
 have hfit:=sp.fit
 have lC:=hfit.c
 have lO:=hfit.o
 have lT:=hfit.t
 obtain⟨an,han⟩:∃an,(s.map fun i=>fI cc (p.C.length+i.toNat))=an:=⟨_,rfl⟩
 obtain⟨ch,hch⟩:∃ch,cc.take p.C.length=ch:=⟨_,rfl⟩
 have han1:an.length=s.length:=by rw[←han,List.length_map]
 have han2:∀i,i<s.length→fI an i=fI cc (p.C.length+(fI s i).toNat):=fun i hi=>by rw[←han];exact fI_map hi
 have hch1:ch.length=p.C.length:=by rw[←hch,List.length_take];omega
 have hch2:∀i,i<p.C.length→fI ch i=fI cc i:=fun i hi=>by rw[←hch];exact fI_take hi
 have hM':ACalls Try.prog 14 [.ag (pbC p),.c (lsH H)] (.tu [.ag [lsI s,lsI an,lsI ch],.c (iC 0)]):=by rw[←han,←hch];exact hM
 clear hM h1 h3 h4 han hch hg
 have e1:(ch.length:Int)=p.C.length:=by omega
 have e2:(an.length:Int)=s.length:=by omega
 refine acalls_at Try.func5 rfl rfl Try.ntmps5 rfl ?_
 repeat (first
  |refine vB [0,4] ?_
  | (refine rG 1 ?_
     refine aH rfl rfl rfl rfl Try.func7 rfl (by kernel_rfl) (hSan) ?_
     refine vA ?_
     refine aB ?_)
  | (refine rG 2 ?_
     refine vA ?_
     refine aH rfl rfl rfl rfl Try.func8 rfl (by kernel_rfl) (hMd) ?_
     (iterate 6 refine vA ?_)
     refine aB ?_)
  | (refine rG 3 ?_
     (iterate 2 refine vA ?_)
     refine aH rfl rfl rfl rfl Try.func14 rfl (by kernel_rfl) (hM') ?_
     (iterate 6 refine vA ?_)
     refine aB ?_))
 refine vB [6,8,9,10] ?_
 clear hSan hMd hM'
 refine AWp.round (fun i:Nat=>
  mkSt 256 [(3,.c (bC true)),(4,.c (plP30 p)),(5,.c (lsH H)),(6,.c (.pl 1 3 (lF [lsI s,lsI an,lsI ch]) 0 0)),(8,.c (.ow 20)),(9,.c (.ow 21)),(10,.c (iC (i:Nat)))] [(20,bpB (mapL (anP p H s) cc i)),(21,bgB (p.O.take i))] [20,21]
  ) (fun i=>i≤p.C.length) (fun i=>p.C.length-i) 0 (Nat.zero_le _) ?_ (fun i hi=> ?_)
 ·refine Wk.mk [(20,none),(21,none)] rfl rfl rfl ?_ ?_
  ·repeat (first|exact trivial|refine⟨⟨_,rfl,by first|exact LeA.c (LeC.fzP rfl rfl rfl rfl)|exact leT⟩,?_⟩)
  ·exact⟨HeapOk.nil rfl rfl,HeapOk.nil rfl rfl,trivial⟩
 by_cases him:i<p.C.length
 ·have him':(i:Int)<ch.length:=by omega
  obtain⟨⟨b1,b2⟩,-⟩:=hst i (by omega)
  rw[an_Clo him]at b2
  obtain⟨r,hr⟩:=Int.eq_ofNat_of_zero_le b1
  have hcy:iF (fI ch) i 0=iC (r:Nat):=by show iC (fI ch i)=_;rw[hch2 i him,hr]
  obtain⟨Li,hLi⟩:∃L,p.C.getD i []=L:=⟨_,rfl⟩
  have hcF:chF p.C i 0=lsB Li:=by rw[←hLi]
  have hpk:pk30 (anP p H s) cc i=Li.getD r bpZ:=by show((anP p H s).C.getD i []).getD (fI cc i).toNat bpZ=_;rw[an_Clo him,hLi,hr];rfl
  obtain⟨bm,hbm⟩:∃b,Li.getD r bpZ=b:=⟨_,rfl⟩
  have eB:cellsFrom (rowF bpC bpZ Li r) 0 3=bpC bm:=by rw[←hbm];rfl
  obtain⟨bg,hbg⟩:∃b,p.O.getD i bgZ=b:=⟨_,rfl⟩
  have eG:cellsFrom (rowF bgC bgZ p.O i) 0 4=bgC bg:=by rw[←hbg];rfl
  have hm1:mapL (anP p H s) cc (i+1)=mapL (anP p H s) cc i++ [bm]:=by rw[mapL_succ,hpk,hbm]
  have hm2:p.O.take (i+1)=p.O.take i++ [bg]:=by
   rw[List.take_add_one,List.getElem?_eq_getElem (by omega),←hbg,List.getD_eq_getElem?_getD,List.getElem?_eq_getElem (by omega)];rfl
  have l1:=mapL_len (anP p H s) cc i
  have l2:(p.O.take i).length=i:=by rw[List.length_take];omega
  rw[hLi,hr]at b2
  have b3:¬((r:Nat):Int)<0:=by omega
  generalize mapL (anP p H s) cc i=q1 at *
  generalize p.O.take i=q2 at *
  repeat (first
   |refine vB [11,12] ?_
   |(refine AWp.draw (id:=13) mixed ?_;(iterate 3 refine vA ?_);(first|refine qr8eo2 (aP (k:=i) tyOk) ?_|refine qr10eo (AList.idxOw (k:=i) tyOk) ?_);(first|refine AList.load1lE tyOk (hcy) rfl rfl rfl rfl rfl oM ?_|refine AList.load1F tyOk rfl rfl rfl rfl rfl rfl rfl oM oM (hcy) ?_);(iterate 5 refine vA ?_);(first|refine qr2 aG ?_|refine qr8eo2 (aP (k:=i) tyOk) ?_|refine qr10eo (AList.idxOw (k:=i) tyOk) ?_);(first|refine qr2 aG ?_|refine AList.load1lE tyOk (hcy) rfl rfl rfl rfl rfl oM ?_|refine AList.load1F tyOk rfl rfl rfl rfl rfl rfl rfl oM oM (hcy) ?_);(iterate 3 refine vA ?_);(first|refine qr2 aG ?_|refine qr8eo2 (aP (k:=i) tyOk) ?_|refine qr10eo (AList.idxOw (k:=i) tyOk) ?_);(first|refine qr2 aG ?_|refine AList.load1lE tyOk (hcF) rfl rfl rfl rfl rfl oM ?_|refine AList.load1F tyOk rfl rfl rfl rfl rfl rfl rfl oM oM (hcF) ?_);(iterate 3 refine vA ?_);refine aB ⟨by kernel_rfl,?_⟩)
   |(refine AWp.draw (id:=15) mixed ?_;(iterate 4 refine vA ?_);(first|refine qr8eo2 (aP (k:=i) tyOk) ?_|refine qr10eo (AList.idxOw (k:=i) tyOk) ?_);(first|refine AList.load1lE tyOk (hcF) rfl rfl rfl rfl rfl oM ?_|refine AList.load1F tyOk rfl rfl rfl rfl rfl rfl rfl oM oM (hcF) ?_);(iterate 3 refine vA ?_);(first|refine qr8eo2 (aP (k:=i) tyOk) ?_|refine qr10eo (AList.idxOw (k:=i) tyOk) ?_);(first|refine AList.load1lE tyOk (hcy) rfl rfl rfl rfl rfl oM ?_|refine AList.load1F tyOk rfl rfl rfl rfl rfl rfl rfl oM oM (hcy) ?_);(first|refine qr8eo2 (aP (k:=r) tyOk) ?_|refine qr10eo (AList.idxOw (k:=r) tyOk) ?_);refine AList.loadAlE tyOk (eB) rfl rfl rfl rfl rfl oM ?_;refine vA ?_;(first|refine AList.appL0 tyOk rfl rfl rfl rfl rfl rfl rfl rfl rfl rfl oM oM ?_|refine AList.appL tyOk rfl rfl rfl rfl rfl rfl rfl rfl rfl rfl oM oM ?_|refine AList.appN tyOk rfl rfl rfl rfl rfl rfl rfl rfl rfl oM oM ?_|refine AList.appO tyOk rfl rfl rfl rfl rfl rfl rfl rfl rfl rfl rfl oM oM ?_|refine AList.appE tyOk rfl rfl rfl rfl rfl rfl rfl rfl rfl rfl oM oM ?_);refine vA ?_;refine aB ⟨by kernel_rfl,?_⟩)
   | (refine rG 16 ?_
      (iterate 4 refine vA ?_)
      first|refine qr8eo2 (aP (k:=i) tyOk) ?_|refine qr10eo (AList.idxOw (k:=i) tyOk) ?_
      refine AList.loadAlE tyOk (eG) rfl rfl rfl rfl rfl oM ?_
      refine vA ?_
      first|refine AList.appL0 tyOk rfl rfl rfl rfl rfl rfl rfl rfl rfl rfl oM oM ?_|refine AList.appL tyOk rfl rfl rfl rfl rfl rfl rfl rfl rfl rfl oM oM ?_|refine AList.appN tyOk rfl rfl rfl rfl rfl rfl rfl rfl rfl oM oM ?_|refine AList.appO tyOk rfl rfl rfl rfl rfl rfl rfl rfl rfl rfl rfl oM oM ?_|refine AList.appE tyOk rfl rfl rfl rfl rfl rfl rfl rfl rfl rfl oM oM ?_
      refine vA ?_
      refine aB ?_))
  refine⟨i+1,him,?_,by omega⟩
  rw[hm1,hm2]
  refine Wk.mk [(20,some 109),(21,some 117)] rfl rfl rfl ?_ ?_
  ·exact allT
  ·exact⟨HeapOk.row rfl rfl List.length_append (row_snoc _ _ bpC_imm rfl),HeapOk.row rfl rfl List.length_append (row_snoc _ _ bgC_imm28 rfl),trivial⟩
 have him':¬(i:Int)<ch.length:=by omega
 obtain rfl:i=p.C.length:=by omega
 rw[List.take_of_length_le (by omega:p.O.length≤p.C.length)]
 refine vB [11,17] ?_
 refine AWp.round (fun k:Nat=>
  mkSt 256 [(3,.c (bC true)),(4,.c (plP30 p)),(5,.c (lsH H)),(6,.c (.pl 1 3 (lF [lsI s,lsI an,lsI ch]) 0 0)),(8,.c (.ow 20)),(9,.c (.ow 21)),(11,.c (iC (k:Nat)))] [(20,bpB (mapL (anP p H s) cc (p.C.length+k))),(21,bgB (p.O++anO H k))] [20,21]
  ) (fun k=>k≤H.length) (fun k=>H.length-k) 0 (Nat.zero_le _) ?_ (fun k hk=> ?_)
 ·rw[show p.O++anO H 0=p.O from List.append_nil _]
  refine Wk.mk [(20,some 20),(21,some 21)] rfl rfl rfl ?_ ?_
  ·exact allT
  ·exact⟨hrF bpC_imm,hrF bgC_imm28,trivial⟩
 by_cases hkn:k<H.length
 ·have hkn':(k:Int)<H.length:=by omega
  obtain⟨⟨b1,b2⟩,-⟩:=hst (p.C.length+k) (by omega)
  rw[an_C hkn]at b2
  obtain⟨r,hr⟩:=Int.eq_ofNat_of_zero_le b1
  rw[hr]at b2
  obtain⟨h,hh⟩:∃h,H.getD k hgZ=h:=⟨_,rfl⟩
  have eN:cellsFrom (rowF hgC hgZ H k) 0 3=bpC h.now:=by rw[←hh];rfl
  have eC:rowF hgC hgZ H k 3=lsB h.ch:=by rw[←hh];rfl
  have eO:cellsFrom (rowF hgC hgZ H k) 4 4=bgC h.own:=by rw[←hh];rfl
  obtain⟨B1,hB1⟩:∃b,h.ch.getD r bpZ=b:=⟨_,rfl⟩
  have eB:cellsFrom (rowF bpC bpZ h.ch r) 0 3=bpC B1:=by rw[←hB1];rfl
  have hks:(k:Int)∈s→(r:Int)<h.ch.length:=fun hm=>by
   unfold hgC1 at b2
   rw[if_pos hm,hh]at b2
   exact b2
  obtain⟨nb,hnb⟩:∃nb:Nat→Bp,nb=fun i=>if (k:Int)∈s.take i then B1 else h.now:=⟨_,rfl⟩
  have hpk:pk30 (anP p H s) cc (p.C.length+k)=nb s.length:=by
   show((anP p H s).C.getD (p.C.length+k) []).getD (fI cc (p.C.length+k)).toNat bpZ=_
   rw[an_C hkn,hr,hnb]
   show(hgC1 H s k).getD r bpZ=if (k:Int)∈s.take s.length then B1 else h.now
   rw[List.take_length]
   unfold hgC1 at b2⊢
   by_cases hm:(k:Int)∈s
   ·rw[if_pos hm,if_pos hm,hh,hB1]
   ·rw[if_neg hm]at b2
    have b3:([(H.getD k hgZ).now]:List Bp).length=1:=rfl
    rw[b3]at b2
    obtain rfl:r=0:=by omega
    rw[if_neg hm,if_neg hm,hh]
    rfl
  have hm1:mapL (anP p H s) cc (p.C.length+(k+1))=mapL (anP p H s) cc (p.C.length+k)++ [nb s.length]:=by rw[←Nat.add_assoc,mapL_succ,hpk]
  have hm2:p.O++anO H (k+1)=(p.O++anO H k)++ [h.own]:=by rw[anO_succ,hh,List.append_assoc]
  have l1:=mapL_len (anP p H s) cc (p.C.length+k)
  have l2:(p.O++anO H k).length=p.C.length+k:=by rw[List.length_append,anO_len];omega
  have n0:nb 0=h.now:=by rw[hnb];exact if_neg (by simp)
  have nS:∀i,i<s.length→nb (i+1)=if fI s i=(k:Int)then B1 else nb i:=fun i hi=>by
   rw[hnb]
   show(if (k:Int)∈s.take (i+1)then B1 else h.now)=if fI s i=(k:Int)then B1 else if (k:Int)∈s.take i then B1 else h.now
   have:=mem_take_succ (x:=(k:Int)) hi
   by_cases c1:fI s i=(k:Int)
   ·rw[if_pos c1,if_pos (this.2 (.inr c1))]
   ·rw[if_neg c1]
    by_cases c2:(k:Int)∈s.take i
    ·rw[if_pos c2,if_pos (this.2 (.inl c2))]
    ·rw[if_neg c2,if_neg fun q=>(this.1 q).elim c2 c1]
  have hmem:∀i,i<s.length→fI s i=(k:Int)→(k:Int)∈s:=fun i hi e=>mem_fI.2 ⟨i,hi,e⟩
  clear hnb hpk b1 b2
  generalize mapL (anP p H s) cc (p.C.length+k)=q1 at *
  generalize p.O++anO H k=q2 at *
  repeat (first
   |refine vB [18,21] ?_
   | (refine rG 20 ?_
      (iterate 2 refine vA ?_)
      first|refine qr8eo2 (aP (k:=k) tyOk) ?_|refine qr10eo (AList.idxOw (k:=k) tyOk) ?_
      refine vA ?_
      refine AList.loadAlE tyOk (eN) rfl rfl rfl rfl rfl oM ?_
      (iterate 2 refine vA ?_)
      refine aB ?_))
  refine AWp.round (fun i:Nat=>
   mkSt 256 [(3,.c (bC true)),(4,.c (plP30 p)),(5,.c (lsH H)),(6,.c (.pl 1 3 (lF [lsI s,lsI an,lsI ch]) 0 0)),(8,.c (.ow 20)),(9,.c (.ow 21)),(11,.c (iC (k:Nat))),(12,.c (.pt 12 3 0 0)),(13,.c (iC (i:Nat)))] [(12,⟨false,1,3,60,lF (bpC (nb i))⟩),(20,bpB q1),(21,bgB q2)] [12,20,21]
   ) (fun i=>i≤s.length) (fun i=>s.length-i) 0 (Nat.zero_le _) ?_ (fun i hi=> ?_)
  ·rw[n0]
   refine Wk.mk [(12,some 12),(20,some 20),(21,some 21)] rfl rfl rfl ?_ ?_
   ·exact allT
   ·exact⟨hSm,hrF bpC_imm,hrF bgC_imm28,trivial⟩
  by_cases his:i<s.length
  ·have his':(i:Int)<s.length:=by omega
   have ha:=han2 i his
   obtain⟨y,hy⟩:∃y,fI s i=y:=⟨_,rfl⟩
   have hcy:iF (fI s) i 0=iC y:=by rw[←hy]
   by_cases hyk:y=(k:Int)
   ·have hca:iF (fI an) i 0=iC (r:Nat):=by show iC (fI an i)=_;rw[ha,hy,hyk];exact congrArg iC hr
    have hrl:=hks (hmem i his (hy.trans hyk))
    have r0:((r:Nat):Int)≥0:=by omega
    have hni:nb (i+1)=B1:=by rw[nS i his,hy,if_pos hyk]
    repeat (first
     |refine vB [22,23] ?_
     |(refine AWp.draw (id:=24) mixed ?_;(iterate 3 refine vA ?_);(first|refine qr8eo2 (aP (k:=i) tyOk) ?_|refine qr10eo (AList.idxOw (k:=i) tyOk) ?_);(first|refine AList.load1lE tyOk (hcy) rfl rfl rfl rfl rfl oM ?_|refine AList.load1F tyOk rfl rfl rfl rfl rfl rfl rfl oM oM (hcy) ?_);(iterate 6 refine vA ?_);(first|refine qr2 aG ?_|refine qr8eo2 (aP (k:=i) tyOk) ?_|refine qr10eo (AList.idxOw (k:=i) tyOk) ?_);(first|refine qr2 aG ?_|refine AList.load1lE tyOk (hca) rfl rfl rfl rfl rfl oM ?_|refine AList.load1F tyOk rfl rfl rfl rfl rfl rfl rfl oM oM (hca) ?_);(iterate 6 refine vA ?_);(first|refine qr2 aG ?_|refine qr8eo2 (aP (k:=i) tyOk) ?_|refine qr10eo (AList.idxOw (k:=i) tyOk) ?_);(first|refine qr2 aG ?_|refine AList.load1lE tyOk (hca) rfl rfl rfl rfl rfl oM ?_|refine AList.load1F tyOk rfl rfl rfl rfl rfl rfl rfl oM oM (hca) ?_);(iterate 2 refine vA ?_);(first|refine qr2 aG ?_|refine qr8eo2 (aP (k:=k) tyOk) ?_|refine qr10eo (AList.idxOw (k:=k) tyOk) ?_);refine vA ?_;(first|refine qr2 aG ?_|refine AList.load1lE tyOk (eC) rfl rfl rfl rfl rfl oM ?_|refine AList.load1F tyOk rfl rfl rfl rfl rfl rfl rfl oM oM (eC) ?_);(iterate 3 refine vA ?_);refine aB ⟨by kernel_rfl,?_⟩)
     |(refine AWp.draw (id:=25) mixed ?_;(iterate 2 refine vA ?_);(first|refine qr8eo2 (aP (k:=k) tyOk) ?_|refine qr10eo (AList.idxOw (k:=k) tyOk) ?_);refine vA ?_;(first|refine AList.load1lE tyOk (eC) rfl rfl rfl rfl rfl oM ?_|refine AList.load1F tyOk rfl rfl rfl rfl rfl rfl rfl oM oM (eC) ?_);(iterate 3 refine vA ?_);(first|refine qr8eo2 (aP (k:=i) tyOk) ?_|refine qr10eo (AList.idxOw (k:=i) tyOk) ?_);(first|refine AList.load1lE tyOk (hca) rfl rfl rfl rfl rfl oM ?_|refine AList.load1F tyOk rfl rfl rfl rfl rfl rfl rfl oM oM (hca) ?_);(first|refine qr8eo2 (aP (k:=r) tyOk) ?_|refine qr10eo (AList.idxOw (k:=r) tyOk) ?_);refine AList.loadAlE tyOk (eB) rfl rfl rfl rfl rfl oM ?_;refine vA ?_;refine aB ⟨by kernel_rfl,?_⟩))
    refine⟨i+1,his,?_,by omega⟩
    rw[hni]
    refine Wk.mk [(12,some 12),(20,some 20),(21,some 21)] rfl rfl rfl ?_ ?_
    ·exact allT
    ·exact⟨hSm,hrF bpC_imm,hrF bgC_imm28,trivial⟩
   ·have hni:nb (i+1)=nb i:=by rw[nS i his,hy,if_neg hyk]
    repeat (first
     |refine vB [22,23] ?_
     |(refine AWp.draw (id:=24) mixed ?_;(iterate 3 refine vA ?_);(first|refine qr8eo2 (aP (k:=i) tyOk) ?_|refine qr10eo (AList.idxOw (k:=i) tyOk) ?_);(first|refine AList.load1lE tyOk (hcy) rfl rfl rfl rfl rfl oM ?_|refine AList.load1F tyOk rfl rfl rfl rfl rfl rfl rfl oM oM (hcy) ?_);(iterate 6 refine vA ?_);(first|refine qr2 aG ?_|refine qr8eo2 (aP (k:=i) tyOk) ?_|refine qr10eo (AList.idxOw (k:=i) tyOk) ?_);(iterate 7 refine vA ?_);(first|refine qr2 aG ?_|refine qr8eo2 (aP (k:=i) tyOk) ?_|refine qr10eo (AList.idxOw (k:=i) tyOk) ?_);(iterate 3 refine vA ?_);(first|refine qr2 aG ?_|refine qr8eo2 (aP (k:=k) tyOk) ?_|refine qr10eo (AList.idxOw (k:=k) tyOk) ?_);(iterate 5 refine vA ?_);refine aB ⟨by kernel_rfl,?_⟩))
    refine⟨i+1,his,?_,by omega⟩
    rw[hni]
    refine Wk.mk [(12,some 12),(20,some 20),(21,some 21)] rfl rfl rfl ?_ ?_
    ·exact allT
    ·exact⟨hSm,hrF bpC_imm,hrF bgC_imm28,trivial⟩
  have his':¬(i:Int)<s.length:=by omega
  obtain rfl:i=s.length:=by omega
  repeat (first
   |refine vB [19,22] ?_
   | (refine rG 26 ?_
      (iterate 3 refine vA ?_)
      first|refine AList.appL0 tyOk rfl rfl rfl rfl rfl rfl rfl rfl rfl rfl oM oM ?_|refine AList.appL tyOk rfl rfl rfl rfl rfl rfl rfl rfl rfl rfl oM oM ?_|refine AList.appN tyOk rfl rfl rfl rfl rfl rfl rfl rfl rfl oM oM ?_|refine AList.appO tyOk rfl rfl rfl rfl rfl rfl rfl rfl rfl rfl rfl oM oM ?_|refine AList.appE tyOk rfl rfl rfl rfl rfl rfl rfl rfl rfl rfl oM oM ?_
      refine vA ?_
      refine aB ?_)
   | (refine rG 27 ?_
      (iterate 5 refine vA ?_)
      refine AList.loadAlE tyOk (eO) rfl rfl rfl rfl rfl oM ?_
      refine vA ?_
      first|refine AList.appL0 tyOk rfl rfl rfl rfl rfl rfl rfl rfl rfl rfl oM oM ?_|refine AList.appL tyOk rfl rfl rfl rfl rfl rfl rfl rfl rfl rfl oM oM ?_|refine AList.appN tyOk rfl rfl rfl rfl rfl rfl rfl rfl rfl oM oM ?_|refine AList.appO tyOk rfl rfl rfl rfl rfl rfl rfl rfl rfl rfl rfl oM oM ?_|refine AList.appE tyOk rfl rfl rfl rfl rfl rfl rfl rfl rfl rfl oM oM ?_
      refine vA ?_
      refine aB ?_))
  refine⟨k+1,hkn,?_,by omega⟩
  rw[hm1,hm2]
  refine Wk.mk [(20,some 180),(21,some 188)] rfl rfl rfl ?_ ?_
  ·exact allT
  ·exact⟨HeapOk.row rfl rfl List.length_append (row_snoc _ _ bpC_imm rfl),HeapOk.row rfl rfl List.length_append (row_snoc _ _ bgC_imm28 rfl),trivial⟩
 have hkn':¬(k:Int)<H.length:=by omega
 obtain rfl:k=H.length:=by omega
 have l1:=mapL_len (anP p H s) cc (p.C.length+H.length)
 have hMk:∀i,i<p.C.length+H.length→(mapL (anP p H s) cc (p.C.length+H.length)).getD i bpZ=pk30 (anP p H s) cc i:=fun i hi=>mapL_at hi
 have l2:(p.O++anO H H.length).length=p.C.length+H.length:=by rw[List.length_append,anO_len];omega
 have hcl1:∀i,i<p.C.length+H.length→∀j,j<i→(clashV p.R (pk30 (anP p H s) cc i) (pk30 (anP p H s) cc j) ((p.O++anO H H.length).getD i bgZ) ((p.O++anO H H.length).getD j bgZ)).2.2=false:=fun i hi j hj=>(hst i hi).2.2 j hj
 have hcl2:∀i,i<p.C.length+H.length→∀j,j<p.F.length→(clashV p.R (pk30 (anP p H s) cc i) (p.F.getD j bpZ) ((p.O++anO H H.length).getD i bgZ) (p.T.getD j bgZ)).2.2=false:=fun i hi j hj=>(hst i hi).2.1 j hj
 have hRl:=sp.ok.lR
 have hRd:=sp.ok.rd
 have lF0:=hfit.f
 generalize mapL (anP p H s) cc (p.C.length+H.length)=M at *
 generalize p.O++anO H H.length=G at *
 generalize pk30 (anP p H s) cc=pk at *
 generalize hnn:p.C.length+H.length=nn at *
 clear hst hch2 han2 hqs hkn hkn' hk
 have lnn:nn≤1000:=by omega
 have l1':(M.length:Int)=nn:=by omega
 refine vB [18,28] ?_
 refine AWp.round (fun i:Nat=>
  mkSt 256 [(3,.c (bC true)),(4,.c (plP30 p)),(5,.c (lsH H)),(6,.c (.pl 1 3 (lF [lsI s,lsI an,lsI ch]) 0 0)),(8,.c (lsB M)),(9,.c (lsG G)),(14,.c (iC (i:Nat)))] [] []
  ) (fun i=>i≤nn) (fun i=>nn-i) 0 (Nat.zero_le _) ?_ (fun i hi=> ?_)
 ·refine Wk.mk [] rfl rfl rfl ?_ trivial
  repeat (first|exact trivial|refine⟨⟨_,rfl,by first|exact LeA.c (LeC.fz rfl rfl rfl (fun i _ j _=>⟨rfl,rowF_imm bpC_imm _ i j⟩))|exact LeA.c (LeC.fz rfl rfl rfl (fun i _ j _=>⟨rfl,rowF_imm bgC_imm28 _ i j⟩))|exact leT⟩,?_⟩)
 by_cases hin:i<nn
 rotate_left
 ·have hin':¬(i:Int)<M.length:=by omega
  refine vB [29,43] ?_
  refine⟨mkSt 256 [(2,.c (bC true))] [] [],[],Wk.mk [] rfl rfl rfl ?_ trivial,rfl,rfl,aR1⟩
  exact allT
 have hin':(i:Int)<M.length:=by omega
 obtain⟨a,ha⟩:∃a,pk i=a:=⟨_,rfl⟩
 have eA:cellsFrom (rowF bpC bpZ M i) 0 3=bpC a:=by rw[←ha,←hMk i hin];rfl
 obtain⟨u,hu⟩:∃u,G.getD i bgZ=u:=⟨_,rfl⟩
 have eU:cellsFrom (rowF bgC bgZ G i) 0 4=bgC u:=by rw[←hu];rfl
 refine vB [29,31] ?_
 refine AWp.round (fun k:Nat=>
  mkSt 256 [(3,.c (bC true)),(4,.c (plP30 p)),(5,.c (lsH H)),(6,.c (.pl 1 3 (lF [lsI s,lsI an,lsI ch]) 0 0)),(8,.c (lsB M)),(9,.c (lsG G)),(14,.c (iC (i:Nat))),(15,.c (iC (k:Nat)))] [] []
  ) (fun k=>k≤i) (fun k=>i-k) 0 (Nat.zero_le _) ?_ (fun k hk=> ?_)
 ·refine Wk.mk [] rfl rfl rfl ?_ trivial
  exact allT
 by_cases hki:k<i
 ·have hki':(k:Int)<i:=by omega
  obtain⟨b,hb⟩:∃b,pk k=b:=⟨_,rfl⟩
  have eB:cellsFrom (rowF bpC bpZ M k) 0 3=bpC b:=by rw[←hb,←hMk k (by omega)];rfl
  obtain⟨v,hv⟩:∃v,G.getD k bgZ=v:=⟨_,rfl⟩
  have eV:cellsFrom (rowF bgC bgZ G k) 0 4=bgC v:=by rw[←hv];rfl
  have hC:=Clash_A p a b u v hRl hRd
  have hno:=hcl1 i hin k hki
  rw[ha,hb,hu,hv]at hno
  rw[hno]at hC
  generalize clashV p.R a b u v=w at hC
  clear hno
  repeat (first
   |refine vB [32,33,35] ?_
   |(refine AWp.draw (id:=34) mixed ?_;(iterate 3 refine vA ?_);(first|refine qr8eo2 (aP (k:=i) tyOk) ?_|refine qr10eo (AList.idxOw (k:=i) tyOk) ?_);refine AList.loadAlE tyOk (eA) rfl rfl rfl rfl rfl oM ?_;(iterate 2 refine vA ?_);(first|refine qr8eo2 (aP (k:=k) tyOk) ?_|refine qr10eo (AList.idxOw (k:=k) tyOk) ?_);refine AList.loadAlE tyOk (eB) rfl rfl rfl rfl rfl oM ?_;(iterate 2 refine vA ?_);(first|refine qr8eo2 (aP (k:=i) tyOk) ?_|refine qr10eo (AList.idxOw (k:=i) tyOk) ?_);refine AList.loadAlE tyOk (eU) rfl rfl rfl rfl rfl oM ?_;(iterate 2 refine vA ?_);(first|refine qr8eo2 (aP (k:=k) tyOk) ?_|refine qr10eo (AList.idxOw (k:=k) tyOk) ?_);refine AList.loadAlE tyOk (eV) rfl rfl rfl rfl rfl oM ?_;refine aH rfl rfl rfl rfl Try.func19 rfl (by kernel_rfl) (hC) ?_;(iterate 8 refine vA ?_);refine aB ⟨by kernel_rfl,?_⟩))
  refine⟨k+1,hki,Wk.mk [] rfl rfl rfl ?_ trivial,by omega⟩
  exact allT
 have hki':¬(k:Int)<i:=by omega
 obtain rfl:k=i:=by omega
 refine vB [32,37] ?_
 refine AWp.round (fun j:Nat=>
  mkSt 256 [(3,.c (bC true)),(4,.c (plP30 p)),(5,.c (lsH H)),(6,.c (.pl 1 3 (lF [lsI s,lsI an,lsI ch]) 0 0)),(8,.c (lsB M)),(9,.c (lsG G)),(14,.c (iC (k:Nat))),(19,.c (iC (j:Nat)))] [] []
  ) (fun j=>j≤p.F.length) (fun j=>p.F.length-j) 0 (Nat.zero_le _) ?_ (fun j hj=> ?_)
 ·refine Wk.mk [] rfl rfl rfl ?_ trivial
  exact allT
 by_cases hjf:j<p.F.length
 ·have hjf':(j:Int)<p.F.length:=by omega
  obtain⟨b,hb⟩:∃b,p.F.getD j bpZ=b:=⟨_,rfl⟩
  have eB:cellsFrom (rowF bpC bpZ p.F j) 0 3=bpC b:=by rw[←hb];rfl
  obtain⟨v,hv⟩:∃v,p.T.getD j bgZ=v:=⟨_,rfl⟩
  have eV:cellsFrom (rowF bgC bgZ p.T j) 0 4=bgC v:=by rw[←hv];rfl
  have hC:=Clash_A p a b u v hRl hRd
  have hno:=hcl2 k hin j hjf
  rw[ha,hb,hu,hv]at hno
  rw[hno]at hC
  generalize clashV p.R a b u v=w at hC
  clear hno
  repeat (first
   |refine vB [38,39,41] ?_
   |(refine AWp.draw (id:=40) mixed ?_;(iterate 3 refine vA ?_);(first|refine qr8eo2 (aP (k:=k) tyOk) ?_|refine qr10eo (AList.idxOw (k:=k) tyOk) ?_);refine AList.loadAlE tyOk (eA) rfl rfl rfl rfl rfl oM ?_;(iterate 3 refine vA ?_);(first|refine qr8eo2 (aP (k:=j) tyOk) ?_|refine qr10eo (AList.idxOw (k:=j) tyOk) ?_);refine AList.loadAlE tyOk (eB) rfl rfl rfl rfl rfl oM ?_;(iterate 2 refine vA ?_);(first|refine qr8eo2 (aP (k:=k) tyOk) ?_|refine qr10eo (AList.idxOw (k:=k) tyOk) ?_);refine AList.loadAlE tyOk (eU) rfl rfl rfl rfl rfl oM ?_;(iterate 3 refine vA ?_);(first|refine qr8eo2 (aP (k:=j) tyOk) ?_|refine qr10eo (AList.idxOw (k:=j) tyOk) ?_);refine AList.loadAlE tyOk (eV) rfl rfl rfl rfl rfl oM ?_;refine aH rfl rfl rfl rfl Try.func19 rfl (by kernel_rfl) (hC) ?_;(iterate 8 refine vA ?_);refine aB ⟨by kernel_rfl,?_⟩))
  refine⟨j+1,hjf,Wk.mk [] rfl rfl rfl ?_ trivial,by omega⟩
  exact allT
 have hjf':¬(j:Int)<p.F.length:=by omega
 refine vB [30,38] ?_
 refine⟨k+1,by omega,Wk.mk [] rfl rfl rfl ?_ trivial,by omega⟩
 exact allT
end Go.Proofs.Ytbffmfeldkjkcaa
end
section
namespace Go.Proofs.Ytbffmfeldkjkcaa.reprintSafe
open Go.ChangeShapes Go.WideShapes Go.ChangeAt Go.RowKit Go.Flow Go.AV
set_option maxRecDepth 100000 in
theorem contract(H:Type)(enc:TypeId×Value→H)(W:World)(base:Nat)(args:Array Value)(ds gs:List (DataW H))(before:List MemPlace)
 (hval:∀(j:Nat) t v,Try.f5.params[j]?=some t→args[j]?=some v→Value.okWide Try.prog W .any base t v)
 (hW:DataW.Whole enc Try.prog Try.f5.params.toList Rows.reprintSafeSpec.vars false W args.toList ds gs before)
 (hsz:(DataW.weightsEach Try.prog (Try.f5.params.toList++(OpenSpec.ofChange Rows.reprintSafeSpec).bare.plain.varTypes Try.prog) (ds++gs)).all (·≤reachBytes)=true):
 Calls Try.prog 5 args W fun e W'=>∃v,e=.returned v∧Rows.reprintSafeSpec.post enc Try.prog Try.f5 false true false false W args v W':=by
 have hW':=hW
 obtain⟨p,q,hA0,hV,rfl,hfz,hnd⟩:=hW
 have hA:DataW.TrodAll enc Try.prog W 0 (fun _=>true) true Try.f5.params.toList args.toList ds p:=hA0
 have hAk:=hA0
 rw[Try.params5]at hA hval hsz
 obtain⟨rfl,rfl⟩:=trodVars_none hV
 obtain⟨v0,vs0,d0,ds0,p0,q0,hargs,rfl,rfl,h0,t0⟩:=trodAll_cons hA
 obtain⟨rfl,rfl,rfl⟩:=trodAll_nil t0
 obtain rfl:args= #[v0]:=by rw[←Array.toList_inj];exact hargs
 have hlt:=fun x hx=>hW'.lt x hx
 simp only[List.append_nil]at hW'
 rw[List.append_nil]at hsz
 obtain⟨a0,ok0,r0⟩:=opn_ca30.argS Try.underlying27 (hval 0 27 v0 rfl rfl) h0 (weigh hsz 0 (t:=27) (d:=d0) rfl rfl)
 refine((ECalls.of (ReprintSafe_A a0 ok0)) O0 W [_] (fun b h=>h.elim) ⟨r0,trivial⟩).mono fun e W' ⟨v,r,he,hr,hv,hE⟩=> ?_
 subst hr
 obtain rfl:v=.bool true:=hv.2
 subst he
 exact⟨_,rfl,post_below (pv:= []) hW' (fun _ _ _=>trodAll_cons_mk (shut_bool Try.underlying4 _) trodAll_mk0)
  (fun sp hsp=>trodAll_below laidOut hE (by rw[Try.params5];intro t ht;simp only[List.mem_cons,List.not_mem_nil,or_false]at ht;rcases ht with rfl<;>exact⟨by kernel_rfl,of_decide_eq_true (by kernel_rfl)⟩) hAk (fun x hx=>hlt x (by rw[List.append_nil];exact hx)) sp (fun x hx=>hsp x (by simpa only[List.append_nil]using hx)))
  (fun _ _=>rfl) (by simp) hE (ok_one (by kernel_rfl) rfl (okWide_bool_mk Try.underlying4 _))⟩
theorem own:ownKnob Try.prog.godebug=none:=by kernel_rfl
set_option maxRecDepth 100000 in
theorem lifted(os:Os)(started:os.Started)(H:Type)(enc:TypeId×Value→H):
 ReturnsInHanded {} Try.checked os 5 .any (Rows.reprintSafeSpec.pre6 enc Try.prog Try.f5 Rows.reprintSafeRow.domain false) (Rows.reprintSafeSpec.post enc Try.prog Try.f5 false true false false):=by
 refine returnsInHanded_of_change_sized (C:=Try.checked) own started (by kernel_rfl) Try.func5
  (ChangeSpec.witness6 (enc:=enc) (C:=Try.checked) false ⟨#[], #[.agg #[.slice none 0 0,.slice none 0 0,.slice none 0 0,.int .i64 0,.int .i64 0,.int .i64 0,.int .i64 0,.int .i64 0]],[]⟩ 8 (by kernel_rfl) (by kernel_rfl) (by kernel_rfl) (by kernel_rfl)) ?_
 intro W base args ds gs before hval hW _ hsz _
 exact contract H enc W base args ds gs before hval hW hsz
theorem said:Rows.ReprintSafeSaid:=
 OpenClaim.holds_of_wide 5 Try.f5 rfl rfl rfl rfl rfl rfl rfl ⟨rfl,rfl,rfl,rfl,rfl⟩ rfl rfl rfl rfl rfl (by kernel_rfl) Try.func5 (by kernel_rfl)
  (of_decide_eq_true (by kernel_rfl)) (by unfold Func.isWrapper;first|(rw[if_pos (by decide +kernel)];kernel_rfl)|(rw[if_neg (by decide +kernel)];exact⟨rfl,rfl⟩))
  (fun os started H enc _=>lifted os started H enc)
end Go.Proofs.Ytbffmfeldkjkcaa.reprintSafe
end
