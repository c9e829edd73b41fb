/- Parts of the proof: A28ze. -/
import Derived.Test.YtbffmfeldkjkcaaGreatG28
set_option linter.unusedSimpArgs false
set_option linter.unusedVariables false
set_option maxHeartbeats 0
section
namespace Go.Proofs.YtbffmfeldkjkcaaGreat
open Go.RowKit Go.Flow Go.AV Go.Plain
theorem zRH(bl sh:Int):rdE (zDz bl sh)=0∧-1000000≤(zDz bl sh).bl∧(zDz bl sh).bl≤1000000:=by
 unfold zDz;have h0:=Int.emod_nonneg bl (show(3:Int)≠0 by omega);have h3:=Int.emod_lt_of_pos bl (show(0:Int)<3 by omega);generalize bl%3=c at *;have hc:c=0∨c=1∨c=2:=by omega
 refine⟨?_,by dsimp only;omega,by dsimp only;omega⟩
 rcases hc with rfl|rfl|rfl
 ·have h1:=Int.emod_nonneg sh (show((2*0+1)*(2*0+1):Int)≠0 by decide)
  have h2:=Int.emod_lt_of_pos sh (show(0:Int)<(2*0+1)*(2*0+1) by decide);generalize sh%((2*0+1)*(2*0+1))=v at *;unfold rdE
  simp
  omega
 ·have h1:=Int.emod_nonneg sh (show((2*1+1)*(2*1+1):Int)≠0 by decide)
  have h2:=Int.emod_lt_of_pos sh (show(0:Int)<(2*1+1)*(2*1+1) by decide);generalize sh%((2*1+1)*(2*1+1))=v at *;unfold rdE
  simp
  omega
 ·have h1:=Int.emod_nonneg sh (show((2*2+1)*(2*2+1):Int)≠0 by decide)
  have h2:=Int.emod_lt_of_pos sh (show(0:Int)<(2*2+1)*(2*2+1) by decide);generalize sh%((2*2+1)*(2*2+1))=v at *;unfold rdE
  simp
  omega
theorem zNj(ll:List (List Int)):∀k,∀r∈(zAC ll k).2,∃bl sh,r=zDz bl sh
 |0,r,h=>by cases h
 | k+1,r,h=>by
   rcases List.mem_append.1 (show r∈(zAC ll k).2++ [zDz _ _]from h)with h|h
   ·exact zNj ll k r h
   ·exact⟨_,_,List.mem_singleton.1 h⟩
theorem zQU(ll:List (List Int)):rdN ll≤2∧zAP ll≤3∧zA0 ll≤2:=by
 have h1:=zDN ll 0 3 (by decide);have h2:=zDN ll (zAC ll (rdN ll)).1 4 (by decide);have h3:=zDN ll (nxA ll (zAC ll (rdN ll)).1) 3 (by decide);unfold zAP zA0
 refine⟨by unfold rdN;omega,by omega,by omega⟩
theorem zQz{L:List Bp}(h:∀b∈L,∃d,b=zAY d):GoodL L L.length:=fun i hi=>by
 obtain⟨d,e1⟩:=h _ (zAB (z:=bpZ) hi)
 obtain⟨d0,e0⟩:=h _ (zAB (z:=bpZ) (show 0<L.length by omega))
 rw[e1,e0]
 exact⟨(by decide:chk 6 5 30=0),rfl,rfl⟩
end Go.Proofs.YtbffmfeldkjkcaaGreat
end
