/- Parts of the proof: A28zf. -/
import Derived.Test.YtpefnljgalpllaaG30
set_option linter.unusedSimpArgs false
set_option linter.unusedVariables false
set_option maxHeartbeats 0
section
namespace Go.Proofs.Ytpefnljgalpllaa
open Go.RowKit Go.Flow Go.AV Go.Plain
theorem freeV_congr2{p:Pb}{n:Nat}{f g:Nat→Int}{c:Int}(h:∀k,k<n→f k=g k):freeV p n f c=freeV p n g c:=by
 unfold freeV
 congr 1
 rw[Bool.eq_iff_iff,List.all_eq_true,List.all_eq_true]
 constructor
 ·intro h1 k hk
  rw[←h k (List.mem_range.1 hk)];exact h1 k hk
 ·intro h1 k hk
  rw[h k (List.mem_range.1 hk)];exact h1 k hk
def prodL:List Nat→Nat
 | []=>1
 |L::Ls=>L*prodL Ls
def numI:List Nat→List Int→Int
 |L::Ls,d::ds=>d*(prodL Ls:Int)+numI Ls ds
 |_,_=>0
def GoodC(p:Pb)(ch:List Int):Prop:=∀k,k<ch.length→stepOk p (fI ch) k=true
abbrev lensF(p:Pb)(k:Nat):List Nat:=(p.C.drop k).map List.length
def InR:List Nat→List Int→Prop
 |L::Ls,d::ds=>(0≤d∧d<L)∧InR Ls ds
 | [],[]=>True
 |_,_=>False
theorem numI_bd:∀{Ls:List Nat} {e:List Int},InR Ls e→0≤numI Ls e∧numI Ls e<prodL Ls
 | [],[],_=>⟨Int.le_refl _,by decide⟩
 | L::Ls,d::ds,h=>by
   obtain⟨⟨h1,h2⟩,h3⟩:=h
   obtain⟨i1,i2⟩:=numI_bd h3
   have e1:=Int.mul_nonneg h1 (Int.natCast_nonneg (prodL Ls))
   have e2:(d+1)*(prodL Ls:Int)≤(L:Int)*(prodL Ls:Int):=Int.mul_le_mul_of_nonneg_right (by omega) (Int.natCast_nonneg _)
   rw[Int.add_mul,Int.one_mul]at e2
   have e3:((prodL (L::Ls):Nat):Int)=(L:Int)*(prodL Ls:Int):=by simp[prodL]
   show 0≤d*(prodL Ls:Int)+numI Ls ds∧d*(prodL Ls:Int)+numI Ls ds<_
   rw[e3]
   omega
 | [],_::_,h=>h.elim
 |_::_,[],h=>h.elim
theorem numI_lt{L:Nat}{Ls:List Nat}{c d:Int}{e f:List Int}(h:c<d)(he:InR Ls e)(hf:InR Ls f):numI (L::Ls) (c::e)<numI (L::Ls) (d::f):=by
 have h1:=(numI_bd he).2
 have h2:=(numI_bd hf).1
 have e2:(c+1)*(prodL Ls:Int)≤d*(prodL Ls:Int):=Int.mul_le_mul_of_nonneg_right (by omega) (Int.natCast_nonneg _)
 rw[Int.add_mul,Int.one_mul]at e2
 show c*(prodL Ls:Int)+numI Ls e<d*(prodL Ls:Int)+numI Ls f
 omega
theorem lens_cons{p:Pb}{k:Nat}(h:k<p.C.length):lensF p k=(p.C.getD k []).length::lensF p (k+1):=by
 unfold lensF
 rw[List.drop_eq_getElem_cons h,List.map_cons,List.getD_eq_getElem?_getD,List.getElem?_eq_getElem h]
 rfl
theorem fI_app_lt(ch e:List Int):∀k,k<ch.length→fI (ch++e) k=fI ch k:=fun k hk=>by
 show(ch++e).getD k 0=ch.getD k 0
 rw[List.getD_eq_getElem?_getD,List.getElem?_append_left hk,←List.getD_eq_getElem?_getD]
theorem fI_app_at(ch e:List Int)(c:Int):fI (ch++c::e) ch.length=c:=by
 show(ch++c::e).getD ch.length 0=c
 simp
theorem GoodC.head{p:Pb}{ch e:List Int}{c:Int}(h:GoodC p (ch++c::e)):(0≤c∧c<(p.C.getD ch.length []).length)∧freeV p ch.length (fI ch) c=true:=by
 have:=stepOk_iff.1 (h ch.length (by simp))
 rw[fI_app_at,freeV_congr2 (fI_app_lt ch (c::e))]at this
 exact this
theorem GoodC.inR{p:Pb}:∀{e ch:List Int},ch.length+e.length=p.C.length→GoodC p (ch++e)→InR (lensF p ch.length) e
 | [],ch,hl,_=>by
   have:lensF p ch.length= []:=by
    unfold lensF
    rw[List.drop_eq_nil_of_le (by simp at hl;omega)]
    rfl
   rw[this]
   trivial
 | c::e,ch,hl,h=>by
   rw[List.length_cons]at hl
   rw[lens_cons (by omega)]
   refine⟨h.head.1,?_⟩
   have:=GoodC.inR (p:=p) (e:=e) (ch:=ch++ [c]) (by rw[List.length_append,List.length_singleton];omega) (by rw[List.append_assoc];exact h)
   rwa [List.length_append,List.length_singleton]at this
def SpecV(p:Pb)(m:Nat)(ch:List Int)(o:FR):Prop:=
 (o.2.1=0∧∃e0,o.1=ch++e0∧e0.length=m∧GoodC p (ch++e0)∧∀e,e.length=m→GoodC p (ch++e)→numI (lensF p ch.length) e0≤numI (lensF p ch.length) e)∨
 (o.2.1=60∧o.1= []∧∀e,e.length=m→¬GoodC p (ch++e))
def stT:Nat→Int
 |0=>0
 |m+1=>4*(1+stT m)
theorem stT_nn:∀m,0≤stT m
 |0=>Int.le_refl _
 |m+1=>by have:=stT_nn m;show 0≤4*(1+stT m);omega
theorem tryV_spec{p:Pb}{ch:List Int}{m:Nat}{rec:List Int→Int→FR}{L:Nat}(hm:ch.length+(m+1)=p.C.length)(hL:(p.C.getD ch.length []).length=L)(T:Int)(hT:0≤T)
 (hr:∀(c:Nat) st,0≤st→st+T≤20000→c<L→freeV p ch.length (fI ch) c=true→SpecV p m (ch++ [(c:Int)]) (rec (ch++ [(c:Int)]) st)∧st≤(rec (ch++ [(c:Int)]) st).2.2∧(rec (ch++ [(c:Int)]) st).2.2≤st+T):
 ∀(r c:Nat) (st:Int),c+r=L→0≤st→st+r*(1+T)≤20000→(∀(d:Int) e,d<c→e.length=m→¬GoodC p (ch++d::e))→SpecV p (m+1) ch (tryV rec p ch r c st)∧st≤(tryV rec p ch r c st).2.2∧(tryV rec p ch r c st).2.2≤st+r*(1+T)
 | 0,c,st,hc,h0,hst,hno=>by
   refine⟨.inr ⟨rfl,rfl,fun e he hg=> ?_⟩,Int.le_refl _,by simp[tryV]⟩
   obtain⟨d,e,rfl⟩:∃d e',e=d::e':=by cases e with|nil=>cases he|cons d e=>exact⟨d,e,rfl⟩
   have:=hg.head.1
   rw[hL]at this
   exact hno d e (by omega) (by simpa using he) hg
 | r + 1,c,st,hc,h0,hst,hno=>by
   have hrT:0≤(r:Int)*(1+T):=Int.mul_nonneg (Int.natCast_nonneg r) (by omega)
   have hsp:((r+1:Nat):Int)*(1+T)=(r:Int)*(1+T)+(1+T):=by rw[Int.natCast_add,Int.add_mul];simp
   rw[hsp]at hst⊢
   have hov:¬20000<st+1:=by omega
   cases hf:freeV p ch.length (fI ch) c with
   | false=>
     rw[tryV_skip hov hf]
     have hno':∀(d:Int) e,d<((c+1:Nat):Int)→e.length=m→¬GoodC p (ch++d::e):=fun d e hd he hg=>by
      by_cases hdc:d=c
      ·have:=hg.head.2
       rw[hdc,hf]at this
       cases this
      ·exact hno d e (by omega) he hg
     obtain⟨i1,i2,i3⟩:=tryV_spec hm hL T hT hr r (c+1) (st+1) (by omega) (by omega) (by omega) hno'
     exact⟨i1,by omega,by omega⟩
   | true=>
     obtain⟨g1,g2,g3⟩:=hr c (st+1) (by omega) (by omega) (by omega) hf
     rcases g1 with ⟨k1,e0,k2,k3,k4,k5⟩|⟨k1,k2,k3⟩
     ·rw[tryV_out hov hf (by rw[k1];decide)]
      refine⟨.inl ⟨k1,(c:Int)::e0,by rw[k2,List.append_assoc];rfl,by simp[k3],by rw[List.append_assoc]at k4;exact k4,fun e he hg=> ?_⟩,by omega,by omega⟩
      obtain⟨d,e,rfl⟩:∃d e',e=d::e':=by cases e with|nil=>cases he|cons d e=>exact⟨d,e,rfl⟩
      have he':e.length=m:=by simpa using he
      have hdc:¬d<c:=fun h=>hno d e h he' hg
      have l1:(ch++ [(c:Int)]).length=ch.length+1:=by simp
      rw[lens_cons (by omega)]
      by_cases hd:d=c
      ·subst hd
       have:=k5 e he' (by rw[List.append_assoc];exact hg)
       rw[l1]at this
       show(c:Int)*_+_≤(c:Int)*_+_
       omega
      ·have r1:=GoodC.inR (p:=p) (e:=e0) (by rw[l1];omega) k4
       have r2:=GoodC.inR (p:=p) (e:=e) (ch:=ch++ [d]) (by simp;omega) (by rw[List.append_assoc];exact hg)
       rw[l1]at r1
       rw[show(ch++ [d]).length=ch.length+1 by simp]at r2
       exact Int.le_of_lt (numI_lt (by omega) r1 r2)
     ·rw[tryV_go hov hf k1]
      have hno':∀(d:Int) e,d<((c+1:Nat):Int)→e.length=m→¬GoodC p (ch++d::e):=fun d e hd he hg=>by
       by_cases hdc:d=c
       ·exact k3 e he (by rw[List.append_assoc,←hdc];exact hg)
       ·exact hno d e (by omega) he hg
      obtain⟨i1,i2,i3⟩:=tryV_spec hm hL T hT hr r (c+1) (rec (ch++ [(c:Int)]) (st+1)).2.2 (by omega) (by omega) (by omega) hno'
      exact⟨i1,by omega,by omega⟩
theorem fromV_spec{p:Pb}(hl:∀l∈p.C,l.length≤4):∀(m:Nat) (ch:List Int) (st:Int),ch.length+m=p.C.length→GoodC p ch→0≤st→st+stT m≤20000→SpecV p m ch (fromV p m ch st)∧st≤(fromV p m ch st).2.2∧(fromV p m ch st).2.2≤st+stT m
 |0,ch,st,hm,hg,h0,hst=>⟨.inl ⟨rfl,[],by simp[fromV],rfl,by simpa using hg,fun e he _=>by
    obtain rfl:=List.eq_nil_of_length_eq_zero he
    exact Int.le_refl _⟩,Int.le_refl _,by simp[fromV,stT]⟩
 | m +1,ch,st,hm,hg,h0,hst=>by
   have hlt:ch.length<p.C.length:=by omega
   have hL3:=hl _ (getD_mem28 (z:= []) hlt)
   have hT:=stT_nn m
   have hst':stT (m+1)=4*(1+stT m):=rfl
   have hle:((p.C.getD ch.length []).length:Int)*(1+stT m)≤4*(1+stT m):=Int.mul_le_mul_of_nonneg_right (by omega) (by omega)
   have hrec:∀(c:Nat) (st:Int),0≤st→st+stT m≤20000→c<(p.C.getD ch.length []).length→freeV p ch.length (fI ch) c=true→SpecV p m (ch++ [(c:Int)]) (fromV p m (ch++ [(c:Int)]) st)∧st≤(fromV p m (ch++ [(c:Int)]) st).2.2∧(fromV p m (ch++ [(c:Int)]) st).2.2≤st+stT m:=fun c st h0 hst hc hf=>by
    refine fromV_spec hl m (ch++ [(c:Int)]) st (by simp;omega) (fun k hk=> ?_) h0 hst
    rw[List.length_append,List.length_singleton]at hk
    by_cases e:k=ch.length
    ·subst e
     rw[stepOk_iff,fI_last,freeV_congr2 (fI_snoc ch c)]
     exact⟨⟨by omega,by omega⟩,hf⟩
    ·have:=stepOk_iff.1 (hg k (by omega))
     rw[stepOk_iff,fI_snoc ch c k (by omega),freeV_congr2 fun j hj=>fI_snoc ch c j (by omega)]
     exact this
   obtain⟨i1,i2,i3⟩:=tryV_spec (rec:=fromV p m) (m:=m) (L:=(p.C.getD ch.length []).length) hm rfl (stT m) hT hrec (p.C.getD ch.length []).length 0 st (by omega) h0 (by omega) (fun d e hd _ h=>by have:=h.head.1.1;omega)
   exact⟨i1,i2,by show _≤st+stT (m+1);unfold fromV;omega⟩
end Go.Proofs.Ytpefnljgalpllaa
end
