/- Parts of the proof: A24tp, A28zj. -/
import Derived.Test.YtpefnljgalpllaaGreatG30
import Derived.Test.YtpefnljgalpllaaGreatG29
set_option linter.unusedSimpArgs false
set_option linter.unusedVariables false
set_option maxHeartbeats 0
section
namespace Go.Proofs.YtpefnljgalpllaaGreat
open Go.RowKit Go.Flow Go.AV Go.Plain
def Bg.le(x y:Bg):Prop:=x.lo≤y.lo∧x.bl≤y.bl∧x.sh≤y.sh∧x.st≤y.st
theorem Bg.le_refl(x:Bg):Bg.le x x:=⟨Int.le_refl _,Int.le_refl _,Int.le_refl _,Int.le_refl _⟩
def zKR(p:Pb)(f:Nat→Int)(k:Nat):Prop:=
 (∀j,j<p.F.length→(zBE p.R ((p.C.getD k []).getD (f k).toNat bpZ) (p.F.getD j bpZ) (p.O.getD k bgZ) (p.T.getD j bgZ)).2.2=false)∧
 ∀j,j<k→(zBE p.R ((p.C.getD k []).getD (f k).toNat bpZ) ((p.C.getD j []).getD (f j).toNat bpZ) (p.O.getD k bgZ) (p.O.getD j bgZ)).2.2=false
theorem zQY{p:Pb}{f:Nat→Int}{k:Nat}:zA0 p k f (f k)=true↔zKR p f k:=by
 rw[freeV_iff];have hk:¬((k:Nat):Int)<0:=by omega
 refine and_congr (forall_congr' fun j=>forall_congr' fun _=> ?_) (forall_congr' fun j=>forall_congr' fun _=> ?_)
 ·unfold pkV zBL zBM
  rw[if_neg hk,if_pos (show(-1:Int)<0 by decide),if_neg hk,if_pos (show(-1:Int)<0 by decide)]
  rfl
 ·have hj:¬((j:Nat):Int)<0:=by omega
  unfold pkV zBL zBM;rw[if_neg hk,if_neg hj,if_neg hk,if_neg hj]
  rfl
theorem step_iff{p:Pb}{f:Nat→Int}{k:Nat}:zEH p f k=true↔(0≤f k∧f k<(p.C.getD k []).length)∧zKR p f k:=by
 rw[stepOk_iff,zQY]
structure Less(p q:Pb)(m:Nat)(f:Nat→Int):Prop where
 R:∀r∈rdL q.R,r∈rdL p.R
 C:∀k,k<m→0≤f k→f k<(p.C.getD k []).length→f k<(q.C.getD k []).length∧(q.C.getD k []).getD (f k).toNat bpZ=(p.C.getD k []).getD (f k).toNat bpZ
 F:∀k,k<q.F.length→k<p.F.length∧q.F.getD k bpZ=p.F.getD k bpZ∧Bg.le (q.T.getD k bgZ) (p.T.getD k bgZ)
 O:∀k,k<m→Bg.le (q.O.getD k bgZ) (p.O.getD k bgZ)
structure Sm(p:Pb):Prop where
 R:p.R.length≤4
 Rr:∀r∈p.R,rdE r=0∧-1000000≤r.bl∧r.bl≤1000000
 C:p.C.length≤5
 Cc:∀l∈p.C,l.length≤4∧∀b∈l,∃d,b=zBC d
 F:p.F.length≤6
 Ff:∀b∈p.F,∃d,b=zBC d
 O:p.O.length=p.C.length
 T:p.T.length=p.F.length
theorem Sm.ok{p:Pb}(h:Sm p):p.ok:=by
 obtain⟨hR,hr,hC,hc,hF,hf,hO,hT⟩:=h
 exact⟨fun r h=>(hr r h).2,by omega,by omega,by omega,by omega,by omega,fun l hl=>by have:=(hc l hl).1;omega⟩
theorem Sm.chk{p:Pb}(h:Sm p):zAA p=0:=by
 obtain⟨hR,hr,hC,hc,hF,hf,hO,hT⟩:=h
 rw[zIy (p:=p)]
 ·refine zIx (zRc fun b hb=> ?_)
  rcases List.mem_append.1 hb with hb|hb
  ·obtain⟨l,hl,hb⟩:=List.mem_flatten.1 hb
   exact(hc l hl).2 b hb
  ·exact hf b hb
 ·omega
 ·intro i hi
  have:=(hc _ (zAH (z:= []) hi)).1
  omega
 ·intro i hi
  exact(hr _ (zAH (z:=rdZ) hi)).1
 ·exact⟨hO,hT⟩
theorem Sm.fit{p:Pb}(h:Sm p):p.fit:=zEV h.ok h.chk
end Go.Proofs.YtpefnljgalpllaaGreat
end
