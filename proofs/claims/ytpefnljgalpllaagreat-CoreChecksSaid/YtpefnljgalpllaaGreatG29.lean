/- Parts of the proof: A28zf. -/
import Derived.Test.YtpefnljgalpllaaGreatG26
set_option linter.unusedSimpArgs false
set_option linter.unusedVariables false
set_option maxHeartbeats 0
section
namespace Go.Proofs.YtpefnljgalpllaaGreat
open Go.RowKit Go.Flow Go.AV Go.Plain
theorem zG2{p:Pb}{n:Nat}{f g:Nat→Int}{c:Int}(h:∀k,k<n→f k=g k):zA0 p n f c=zA0 p n g c:=by
 unfold zA0
 congr 1
 rw[Bool.eq_iff_iff,List.all_eq_true,List.all_eq_true]
 constructor
 ·intro h1 k hk
  rw[←h k (List.mem_range.1 hk)];exact h1 k hk
 ·intro h1 k hk
  rw[h k (List.mem_range.1 hk)];exact h1 k hk
def zCg:List Nat→Nat
 | []=>1
 |L::Ls=>L*zCg Ls
def zCZ:List Nat→List Int→Int
 |L::Ls,d::ds=>d*(zCg Ls:Int)+zCZ Ls ds
 |_,_=>0
def GoodC(p:Pb)(ch:List Int):Prop:=∀k,k<ch.length→zEH p (fI ch) k=true
abbrev zDS(p:Pb)(k:Nat):List Nat:=(p.C.drop k).map List.length
def InR:List Nat→List Int→Prop
 |L::Ls,d::ds=>(0≤d∧d<L)∧InR Ls ds
 | [],[]=>True
 |_,_=>False
theorem zJi:∀{Ls:List Nat} {e:List Int},InR Ls e→0≤zCZ Ls e∧zCZ Ls e<zCg Ls
 | [],[],_=>⟨Int.le_refl _,by decide⟩
 | L::Ls,d::ds,h=>by
   obtain⟨⟨h1,h2⟩,h3⟩:=h
   obtain⟨i1,i2⟩:=zJi h3
   have e1:=Int.mul_nonneg h1 (Int.natCast_nonneg (zCg Ls));have e2:(d+1)*(zCg Ls:Int)≤(L:Int)*(zCg Ls:Int):=Int.mul_le_mul_of_nonneg_right xD (Int.natCast_nonneg _);rw[Int.add_mul,Int.one_mul]at e2;have e3:((zCg (L::Ls):Nat):Int)=(L:Int)*(zCg Ls:Int):=by simp[zCg]
   show 0≤d*(zCg Ls:Int)+zCZ Ls ds∧d*(zCg Ls:Int)+zCZ Ls ds<_;rw[e3]
   omega
 | [],_::_,h=>h.elim
 |_::_,[],h=>h.elim
theorem zRL{L:Nat}{Ls:List Nat}{c d:Int}{e f:List Int}(h:c<d)(he:InR Ls e)(hf:InR Ls f):zCZ (L::Ls) (c::e)<zCZ (L::Ls) (d::f):=by
 have h1:=(zJi he).2;have h2:=(zJi hf).1;have e2:(c+1)*(zCg Ls:Int)≤d*(zCg Ls:Int):=Int.mul_le_mul_of_nonneg_right xD (Int.natCast_nonneg _);rw[Int.add_mul,Int.one_mul]at e2;show c*(zCg Ls:Int)+zCZ Ls e<d*(zCg Ls:Int)+zCZ Ls f
 omega
theorem zM4{p:Pb}{k:Nat}(h:k<p.C.length):zDS p k=(p.C.getD k []).length::zDS p (k+1):=by
 unfold zDS;rw[List.drop_eq_getElem_cons h,List.map_cons,List.getD_eq_getElem?_getD,List.getElem?_eq_getElem h]
 rfl
theorem zQQ(ch e:List Int):∀k,k<ch.length→fI (ch++e) k=fI ch k:=fun k hk=>by
 show(ch++e).getD k 0=ch.getD k 0
 rw[List.getD_eq_getElem?_getD,List.getElem?_append_left hk,←List.getD_eq_getElem?_getD]
theorem zMg(ch e:List Int)(c:Int):fI (ch++c::e) ch.length=c:=by
 show(ch++c::e).getD ch.length 0=c
 simp
theorem GoodC.head{p:Pb}{ch e:List Int}{c:Int}(h:GoodC p (ch++c::e)):(0≤c∧c<(p.C.getD ch.length []).length)∧zA0 p ch.length (fI ch) c=true:=by
 have:=stepOk_iff.1 (h ch.length (by simp));rw[zMg,zG2 (zQQ ch (c::e))]at this;exact this
theorem zH9{p:Pb}:∀{e ch:List Int},ch.length+e.length=p.C.length→GoodC p (ch++e)→InR (zDS p ch.length) e
 | [],ch,hl,_=>by
   have:zDS p ch.length= []:=by
    unfold zDS;rw[List.drop_eq_nil_of_le (by simp at hl;omega)]
    rfl
   rw[this]
   trivial
 | c::e,ch,hl,h=>by
   rw[List.length_cons]at hl;rw[zM4 xD]
   refine⟨h.head.1,?_⟩
   have:=zH9 (p:=p) (e:=e) (ch:=ch++ [c]) (by rw[List.length_append,List.length_singleton];omega) (by rw[List.append_assoc];exact h)
   rwa [List.length_append,List.length_singleton]at this
def zGx(p:Pb)(m:Nat)(ch:List Int)(o:FR):Prop:=
 (o.2.1=0∧∃e0,o.1=ch++e0∧e0.length=m∧GoodC p (ch++e0)∧∀e,e.length=m→GoodC p (ch++e)→zCZ (zDS p ch.length) e0≤zCZ (zDS p ch.length) e)∨
 (o.2.1=60∧o.1= []∧∀e,e.length=m→¬GoodC p (ch++e))
def stT:Nat→Int
 |0=>0
 |m+1=>4*(1+stT m)
theorem zJN:∀m,0≤stT m
 |0=>Int.le_refl _
 |m+1=>by have:=zJN m;show 0≤4*(1+stT m);omega
theorem zJ0{p:Pb}{ch:List Int}{m:Nat}{rec:List Int→Int→FR}{L:Nat}(hm:ch.length+(m+1)=p.C.length)(hL:(p.C.getD ch.length []).length=L)(T:Int)(hT:0≤T)
 (hr:∀(c:Nat) st,0≤st→st+T≤20000→c<L→zA0 p ch.length (fI ch) c=true→zGx p m (ch++ [(c:Int)]) (rec (ch++ [(c:Int)]) st)∧st≤(rec (ch++ [(c:Int)]) st).2.2∧(rec (ch++ [(c:Int)]) st).2.2≤st+T):
 ∀(r c:Nat) (st:Int),c+r=L→0≤st→st+r*(1+T)≤20000→(∀(d:Int) e,d<c→e.length=m→¬GoodC p (ch++d::e))→zGx p (m+1) ch (zBB rec p ch r c st)∧st≤(zBB rec p ch r c st).2.2∧(zBB rec p ch r c st).2.2≤st+r*(1+T)
 | 0,c,st,hc,h0,hst,hno=>by
   refine⟨.inr ⟨rfl,rfl,fun e he hg=> ?_⟩,Int.le_refl _,by simp[zBB]⟩
   obtain⟨d,e,rfl⟩:∃d e',e=d::e':=by cases e with|nil=>cases he|cons d e=>exact⟨d,e,rfl⟩
   have:=hg.head.1;rw[hL]at this;exact hno d e xD (by simpa using he) hg
 | r + 1,c,st,hc,h0,hst,hno=>by
   have hrT:0≤(r:Int)*(1+T):=Int.mul_nonneg (Int.natCast_nonneg r) xD;have hsp:((r+1:Nat):Int)*(1+T)=(r:Int)*(1+T)+(1+T):=by rw[Int.natCast_add,Int.add_mul];simp
   rw[hsp]at hst⊢;have hov:¬20000<st+1:=by omega
   cases hf:zA0 p ch.length (fI ch) c with
   | false=>
     rw[zGf hov hf];have hno':∀(d:Int) e,d<((c+1:Nat):Int)→e.length=m→¬GoodC p (ch++d::e):=fun d e hd he hg=>by
      by_cases hdc:d=c
      ·have:=hg.head.2
       rw[hdc,hf]at this
       cases this
      ·exact hno d e xD he hg
     obtain⟨i1,i2,i3⟩:=zJ0 hm hL T hT hr r (c+1) (st+1) xD xD xD hno'
     exact⟨i1,by omega,by omega⟩
   | true=>
     obtain⟨g1,g2,g3⟩:=hr c (st+1) xD xD xD hf
     rcases g1 with ⟨k1,e0,k2,k3,k4,k5⟩|⟨k1,k2,k3⟩
     ·rw[zGe hov hf (by rw[k1];decide)]
      refine⟨.inl ⟨k1,(c:Int)::e0,by rw[k2,List.append_assoc];rfl,by simp[k3],by rw[List.append_assoc]at k4;exact k4,fun e he hg=> ?_⟩,by omega,by omega⟩
      obtain⟨d,e,rfl⟩:∃d e',e=d::e':=by cases e with|nil=>cases he|cons d e=>exact⟨d,e,rfl⟩
      have he':e.length=m:=by simpa using he
      have hdc:¬d<c:=fun h=>hno d e h he' hg
      have l1:(ch++ [(c:Int)]).length=ch.length+1:=by simp
      rw[zM4 xD];by_cases hd:d=c
      ·subst hd
       have:=k5 e he' (by rw[List.append_assoc];exact hg)
       rw[l1]at this
       show(c:Int)*_+_≤(c:Int)*_+_
       omega
      ·have r1:=zH9 (p:=p) (e:=e0) (by rw[l1];omega) k4
       have r2:=zH9 (p:=p) (e:=e) (ch:=ch++ [d]) (by simp;omega) (by rw[List.append_assoc];exact hg)
       rw[l1]at r1;rw[show(ch++ [d]).length=ch.length+1 by simp]at r2;exact Int.le_of_lt (zRL xD r1 r2)
     ·rw[zGd hov hf k1]
      have hno':∀(d:Int) e,d<((c+1:Nat):Int)→e.length=m→¬GoodC p (ch++d::e):=fun d e hd he hg=>by
       by_cases hdc:d=c
       ·exact k3 e he (by rw[List.append_assoc,←hdc];exact hg)
       ·exact hno d e xD he hg
      obtain⟨i1,i2,i3⟩:=zJ0 hm hL T hT hr r (c+1) (rec (ch++ [(c:Int)]) (st+1)).2.2 xD xD xD hno'
      exact⟨i1,by omega,by omega⟩
theorem zMz{p:Pb}(hl:∀l∈p.C,l.length≤4):∀(m:Nat) (ch:List Int) (st:Int),ch.length+m=p.C.length→GoodC p ch→0≤st→st+stT m≤20000→zGx p m ch (zAw p m ch st)∧st≤(zAw p m ch st).2.2∧(zAw p m ch st).2.2≤st+stT m
 |0,ch,st,hm,hg,h0,hst=>⟨.inl ⟨rfl,[],by simp[zAw],rfl,by simpa using hg,fun e he _=>by
    obtain rfl:=List.eq_nil_of_length_eq_zero he;exact Int.le_refl _⟩,Int.le_refl _,by simp[zAw,stT]⟩
 | m +1,ch,st,hm,hg,h0,hst=>by
   have hlt:ch.length<p.C.length:=by omega
   have hL3:=hl _ (zAH (z:= []) hlt);have hT:=zJN m;have hst':stT (m+1)=4*(1+stT m):=rfl;have hle:((p.C.getD ch.length []).length:Int)*(1+stT m)≤4*(1+stT m):=Int.mul_le_mul_of_nonneg_right xD xD;have hrec:∀(c:Nat) (st:Int),0≤st→st+stT m≤20000→c<(p.C.getD ch.length []).length→zA0 p ch.length (fI ch) c=true→zGx p m (ch++ [(c:Int)]) (zAw p m (ch++ [(c:Int)]) st)∧st≤(zAw p m (ch++ [(c:Int)]) st).2.2∧(zAw p m (ch++ [(c:Int)]) st).2.2≤st+stT m:=fun c st h0 hst hc hf=>by
    refine zMz hl m (ch++ [(c:Int)]) st (by simp;omega) (fun k hk=> ?_) h0 hst
    rw[List.length_append,List.length_singleton]at hk;by_cases e:k=ch.length
    ·subst e
     rw[stepOk_iff,zGW,zG2 (zE0 ch c)]
     exact⟨⟨by omega,by omega⟩,hf⟩
    ·have:=stepOk_iff.1 (hg k xD)
     rw[stepOk_iff,zE0 ch c k xD,zG2 fun j hj=>zE0 ch c j xD];exact this
   obtain⟨i1,i2,i3⟩:=zJ0 (rec:=zAw p m) (m:=m) (L:=(p.C.getD ch.length []).length) hm rfl (stT m) hT hrec (p.C.getD ch.length []).length 0 st xD h0 xD (fun d e hd _ h=>by have:=h.head.1.1;omega)
   exact⟨i1,i2,by show _≤st+stT (m+1);unfold zAw;omega⟩
end Go.Proofs.YtpefnljgalpllaaGreat
end
