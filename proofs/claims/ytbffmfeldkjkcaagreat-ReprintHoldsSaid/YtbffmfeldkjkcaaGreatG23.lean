/- Parts of the proof: A28p. -/
import Derived.Test.YtbffmfeldkjkcaaGreatG13
set_option linter.unusedSimpArgs false
set_option linter.unusedVariables false
set_option maxHeartbeats 0
section
namespace Go.Proofs.YtbffmfeldkjkcaaGreat
open Go.RowKit Go.Flow Go.AV Go.Plain
structure Rd where
 bl:Int
 sh:Int
 deriving DecidableEq
abbrev rdC(r:Rd):List CV:= [iC r.bl,iC r.sh]
abbrev rdZ:Rd:=⟨0,0⟩
def rdE(r:Rd):Int:=if r.bl<0∨2<r.bl∨r.sh<1∨(2*r.bl+1)*(2*r.bl+1)<r.sh then 3 else 0
abbrev bpZ:Bp:=⟨0,0,0,fun _=>false⟩
def arB(W:Nat)(d:Nat→Bool)(x y bl:Int)(j i:Nat):Bool:=decide (y-bl≤(j:Int)) && decide ((j:Int)≤y+bl) && (decide (x-bl≤(i:Int)) && decide ((i:Int)≤x+bl) && d (j*W+i))
def arN(W H:Nat)(d:Nat→Bool)(x y bl:Int):Int:=zAi (fun j=>cnt (arB W d x y bl j) W) H
def zCm(W H:Nat)(d:Nat→Bool)(r:Rd)(k:Nat):Bool:=decide (r.sh≤arN W H d ((k%W:Nat):Int) ((k/W:Nat):Int) r.bl)
def zBi(r:Rd)(b:Bp):Int:=if rdE r=0 then chk b.W b.H b.n else rdE r
def zBa(r:Rd)(b:Bp):Bp:=if zBi r b=0 then ⟨b.W,b.H,b.n,zCm b.W.toNat b.H.toNat b.d r⟩else bpZ
def s2N(W:Nat)(d:Nat→Bool)(x y:Nat):Int:=zAi (fun j=>cnt (fun i=>d (j*W+i)) x) y
theorem zGM(p:Nat→Bool)(a b:Nat):cnt p (a+b)=cnt p a+cnt (fun k=>p (a+k)) b:=zE4 _ a b
theorem zPZ(p:Nat→Bool){l r W:Nat}(h1:l≤r)(h2:r≤W):cnt (fun i=>decide (l≤i) && decide (i<r) && p i) W=cnt p r-cnt p l:=by
 obtain⟨a,rfl⟩:∃a,r=l+a:=⟨r-l,by omega⟩
 obtain⟨b,rfl⟩:∃b,W=l+a+b:=⟨W-(l+a),by omega⟩
 have e1:cnt (fun i=>decide (l≤i) && decide (i<l+a) && p i) (l+a+b)=cnt (fun i=>decide (l≤i) && decide (i<l+a) && p i) (l+a):=by
  rw[zGM,show cnt (fun k=>decide (l≤l+a+k) && decide (l+a+k<l+a) && p (l+a+k)) b=0 from ?_]
  ·omega
  ·unfold cnt
   rw[zDo (g:=fun _=>0) fun k _=> ?_,zC6]
   ·omega
   ·rw[if_neg (by simp[show ¬l+a+k<l+a by omega])]
 have e2:cnt (fun i=>decide (l≤i) && decide (i<l+a) && p i) (l+a)=cnt (fun k=>p (l+k)) a:=by
  rw[zGM,show cnt (fun i=>decide (l≤i) && decide (i<l+a) && p i) l=0 from ?_]
  ·rw[Int.zero_add]
   refine zIv fun k hk=> ?_
   simp[hk]
  ·unfold cnt
   rw[zDo (g:=fun _=>0) fun k hk=> ?_,zC6]
   ·omega
   ·simp[show ¬l≤k by omega]
 rw[e1,e2,zGM]
 omega
theorem zSl(f:Nat→Int){l r H:Nat}(h1:l≤r)(h2:r≤H):zAi (fun j=>if l≤j∧j<r then f j else 0) H=zAi f r-zAi f l:=by
 obtain⟨a,rfl⟩:∃a,r=l+a:=⟨r-l,by omega⟩
 obtain⟨b,rfl⟩:∃b,H=l+a+b:=⟨H-(l+a),by omega⟩
 have e0:∀n:Nat,zAi (fun _=>(0:Int)) n=0:=fun n=>by rw[zC6];omega
 rw[zE4,zE4 (a:=l) (b:=a),zDo (n:=l) (g:=fun _=>0) fun k hk=>if_neg xD,zDo (n:=b) (g:=fun _=>0) fun k hk=>if_neg xD,e0,e0,zDo (n:=a) (g:=fun k=>f (l+k)) fun k hk=>if_pos xD,zE4 (a:=l) (b:=a)]
 omega
theorem zRV(W H:Nat)(d:Nat→Bool)(x y bl:Int)(l r lo hi:Nat)(hl:(l:Int)=max 0 (min (W:Int) (x-bl)))(hr:(r:Int)=max 0 (min (W:Int) (x+bl+1)))(hlo:(lo:Int)=max 0 (min (H:Int) (y-bl)))(hhi:(hi:Int)=max 0 (min (H:Int) (y+bl+1)))(hb:0≤bl):
 s2N W d r hi-s2N W d l hi-s2N W d r lo+s2N W d l lo=arN W H d x y bl:=by
 have e1:arN W H d x y bl=zAi (fun j=>if lo≤j∧j<hi then cnt (fun i=>d (j*W+i)) r-cnt (fun i=>d (j*W+i)) l else 0) H:=by
  unfold arN;refine zDo fun j hj=> ?_
  by_cases hc:lo≤j∧j<hi
  ·rw[if_pos hc,←zPZ (W:=W) _ (by omega:l≤r) xD]
   refine zIv fun i hi'=> ?_
   unfold arB;rw[show decide (y-bl≤(j:Int))=true from decide_eq_true xD,show decide ((j:Int)≤y+bl)=true from decide_eq_true xD,show decide (x-bl≤(i:Int))=decide (l≤i)from decide_eq_decide.2 xD,show decide ((i:Int)≤x+bl)=decide (i<r)from decide_eq_decide.2 xD]
   rfl
  ·rw[if_neg hc]
   have:cnt (arB W d x y bl j) W=cnt (fun _=>false) W:=zIv fun i _=>by
    unfold arB;by_cases h1:y-bl≤(j:Int)
    ·rw[show decide ((j:Int)≤y+bl)=false from decide_eq_false xD,Bool.and_false,Bool.false_and]
    ·rw[decide_eq_false h1,Bool.false_and,Bool.false_and]
   rw[this];show zAi (fun _=>0) W=0;rw[zC6]
   omega
 rw[e1,zSl _ (by omega:lo≤hi) xD,zJI,zJI];unfold s2N
 omega
theorem zNC(W:Nat)(d:Nat→Bool)(x y:Nat):0≤s2N W d x y∧s2N W d x y≤y*x:=by
 refine⟨zDE fun k _=>cnt_nonneg _ _,?_⟩
 have:=zHw (f:=fun j=>cnt (fun i=>d (j*W+i)) x) (g:=fun _=>(x:Int)) (n:=y) fun k _=>zCT _ _
 rw[zC6]at this;exact this
theorem zJL{f:Nat→Int}{n:Nat}(h:∀k,k<n→f k=0):zAi f n=0:=by
 rw[zDo (g:=fun _=>0) h,zC6]
 omega
def stF(W:Nat)(d:Nat→Bool)(k:Nat):Int:=s2N W d (k%(W+1)) (k/(W+1))
def tbF(W:Nat)(d:Nat→Bool)(y x k:Nat):Int:=if k/(W+1)≤y∨(k/(W+1)=y+1∧k%(W+1)≤x)then stF W d k else 0
theorem zND(W:Nat)(d:Nat→Bool)(y:Nat):s2N W d 0 y=0:=zJL fun _ _=>rfl
theorem zSu(W:Nat)(d:Nat→Bool)(k:Nat):tbF W d 0 0 k=0:=by
 unfold tbF stF
 split
 ·rename_i h
  rcases h with h|⟨h1,h2⟩
  ·rw[Nat.le_zero.1 h];rfl
  ·rw[Nat.le_zero.1 h2];exact zND _ _ _
 ·rfl
theorem zSs(W:Nat)(d:Nat→Bool)(y k:Nat):tbF W d y W k=tbF W d (y+1) 0 k:=by
 have hm:k%(W+1)≤W:=by have:=Nat.mod_lt k (show 0<W+1 by omega);omega
 unfold tbF;by_cases h1:k/(W+1)≤y+1
 ·rw[if_pos xD,if_pos xD]
 ·rw[if_neg xD]
  by_cases h2:k/(W+1)=y+1+1∧k%(W+1)≤0
  ·rw[if_pos (.inr h2)]
   unfold stF;rw[Nat.le_zero.1 h2.2,zND]
  ·rw[if_neg xD]
theorem zFD{W i j:Nat}(hi:i≤W):(j*(W+1)+i)%(W+1)=i∧(j*(W+1)+i)/(W+1)=j:=by
 constructor
 ·rw[Nat.add_comm,Nat.add_mul_mod_self_right,Nat.mod_eq_of_lt xD]
 ·rw[Nat.add_comm,Nat.add_mul_div_right _ _ xD,Nat.div_eq_of_lt xD,Nat.zero_add]
theorem zJE{W:Nat}{d:Nat→Bool}{i j:Nat}(hi:i≤W):stF W d (j*(W+1)+i)=s2N W d i j:=by
 unfold stF;rw[(zFD hi).1,(zFD hi).2]
theorem zSt{W:Nat}{d:Nat→Bool}{x y:Nat}(hx:x<W):tbF W d y x (y*(W+1)+(x+1))=s2N W d (x+1) y:=by
 unfold tbF;rw[(zFD (show x+1≤W by omega)).2,if_pos (.inl (Nat.le_refl _)),zJE xD]
theorem zSr{W:Nat}{d:Nat→Bool}{x y:Nat}(hx:x<W):tbF W d y (x+1) ((y+1)*(W+1)+(x+1))=s2N W d (x+1) y+cnt (fun i=>d (y*W+i)) (x+1):=by
 unfold tbF;rw[(zFD (show x+1≤W by omega)).1,(zFD (show x+1≤W by omega)).2,if_pos (.inr ⟨rfl,Nat.le_refl _⟩),zJE xD]
 rfl
theorem zN1{W:Nat}{d:Nat→Bool}{x y k:Nat}(hx:x<W)(hk:¬k=(y+1)*(W+1)+(x+1)):tbF W d y (x+1) k=tbF W d y x k:=by
 unfold tbF;have hd:=Nat.div_add_mod k (W+1);by_cases h:k/(W+1)≤y∨(k/(W+1)=y+1∧k%(W+1)≤x)
 ·rw[if_pos h,if_pos xD]
 ·rw[if_neg h,if_neg]
  rintro(h1|⟨h1,h2⟩)
  ·exact h (.inl h1)
  ·have:k%(W+1)=x+1:=by omega
   rw[h1,this,Nat.mul_comm]at hd;exact hk hd.symm
theorem zSq{W H:Nat}{d:Nat→Bool}{k:Nat}(hk:k<(W+1)*(H+1)):tbF W d H 0 k=stF W d k:=by
 have h:=Nat.div_lt_of_lt_mul hk;unfold tbF;rw[if_pos (.inl xD)]
end Go.Proofs.YtbffmfeldkjkcaaGreat
end
