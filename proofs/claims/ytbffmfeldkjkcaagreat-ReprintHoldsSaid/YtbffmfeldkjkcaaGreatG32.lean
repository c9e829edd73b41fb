/- Parts of the proof: A24tp, A28zj. -/
import Derived.Test.YtbffmfeldkjkcaaGreatG31
import Derived.Test.YtbffmfeldkjkcaaGreatG30
set_option linter.unusedSimpArgs false
set_option linter.unusedVariables false
set_option maxHeartbeats 0
section
namespace Go.Proofs.YtbffmfeldkjkcaaGreat
open Go.RowKit Go.Flow Go.AV Go.Plain
def Bg.le(x y:Bg):Prop:=x.lo≤y.lo∧x.bl≤y.bl∧x.sh≤y.sh∧x.st≤y.st
theorem Bg.le_refl(x:Bg):Bg.le x x:=⟨Int.le_refl _,Int.le_refl _,Int.le_refl _,Int.le_refl _⟩
structure Less(p q:Pb)(m:Nat)(f:Nat→Int):Prop where
 R:∀r∈rdL q.R,r∈rdL p.R
 C:∀k,k<m→0≤f k→f k<(p.C.getD k []).length→f k<(q.C.getD k []).length∧(q.C.getD k []).getD (f k).toNat bpZ=(p.C.getD k []).getD (f k).toNat bpZ
 F:∀k,k<q.F.length→k<p.F.length∧q.F.getD k bpZ=p.F.getD k bpZ∧Bg.le (q.T.getD k bgZ) (p.T.getD k bgZ)
 O:∀k,k<m→Bg.le (q.O.getD k bgZ) (p.O.getD k bgZ)
structure Sm(p:Pb):Prop where
 R:p.R.length≤4
 Rr:∀r∈p.R,rdE r=0∧-1000000≤r.bl∧r.bl≤1000000
 C:p.C.length≤5
 Cc:∀l∈p.C,l.length≤4∧∀b∈l,∃d,b=zAY d
 F:p.F.length≤6
 Ff:∀b∈p.F,∃d,b=zAY d
 O:p.O.length=p.C.length
 T:p.T.length=p.F.length
theorem Sm.ok{p:Pb}(h:Sm p):p.ok:=by
 obtain⟨hR,hr,hC,hc,hF,hf,hO,hT⟩:=h
 exact⟨fun r h=>(hr r h).2,by omega,by omega,by omega,by omega,by omega,fun l hl=>by have:=(hc l hl).1;omega⟩
theorem Sm.chk{p:Pb}(h:Sm p):zAr p=0:=by
 obtain⟨hR,hr,hC,hc,hF,hf,hO,hT⟩:=h
 rw[zIp (p:=p)]
 ·refine zIo (zQz fun b hb=> ?_)
  rcases List.mem_append.1 hb with hb|hb
  ·obtain⟨l,hl,hb⟩:=List.mem_flatten.1 hb
   exact(hc l hl).2 b hb
  ·exact hf b hb
 ·omega
 ·intro i hi
  have:=(hc _ (zAB (z:= []) hi)).1
  omega
 ·intro i hi
  exact(hr _ (zAB (z:=rdZ) hi)).1
 ·exact⟨hO,hT⟩
theorem Sm.fit{p:Pb}(h:Sm p):p.fit:=zCE h.ok h.chk
theorem zG9(ll:List (List Int)):Sm (zCH ll)∧∀l∈(zCH ll).C,l.length≤3:=by
 obtain⟨b1,b2,b3⟩:=zQU ll
 have h:=zJh ll (zAP ll+zA0 ll);have hR:=zJs ll (rdN ll);have hC:=h.C;have hF:=h.F
 refine⟨⟨?_,fun r hr=> ?_,?_,fun l hl=> ?_,?_,h.Ff,h.O,h.T⟩,fun l hl=>(h.Cc l hl).1⟩
 ·show(zAC ll (rdN ll)).2.length≤4
  omega
 ·obtain⟨bl,sh,rfl⟩:=zNj ll _ r hr
  exact zRH bl sh
 ·show(zBy ll (zAP ll+zA0 ll)).C.length≤5
  omega
 ·have:=h.Cc l hl
  exact⟨by omega,this.2⟩
 ·show(zBy ll (zAP ll+zA0 ll)).F.length≤6
  omega
end Go.Proofs.YtbffmfeldkjkcaaGreat
end
