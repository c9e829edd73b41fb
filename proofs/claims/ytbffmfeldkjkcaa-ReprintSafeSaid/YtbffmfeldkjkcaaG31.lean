/- Parts of the proof: A28ze. -/
import Derived.Test.YtbffmfeldkjkcaaG28
set_option linter.unusedSimpArgs false
set_option linter.unusedVariables false
set_option maxHeartbeats 0
section
namespace Go.Proofs.Ytbffmfeldkjkcaa
open Go.RowKit Go.Flow Go.AV Go.Plain
theorem rd_md21(bl sh:Int):rdE (md21 bl sh)=0∧-1000000≤(md21 bl sh).bl∧(md21 bl sh).bl≤1000000:=by
 unfold md21
 have h0:=Int.emod_nonneg bl (show(3:Int)≠0 by omega)
 have h3:=Int.emod_lt_of_pos bl (show(0:Int)<3 by omega)
 generalize bl%3=c at *
 have hc:c=0∨c=1∨c=2:=by omega
 refine⟨?_,by dsimp only;omega,by dsimp only;omega⟩
 rcases hc with rfl|rfl|rfl
 ·have h1:=Int.emod_nonneg sh (show((2*0+1)*(2*0+1):Int)≠0 by decide)
  have h2:=Int.emod_lt_of_pos sh (show(0:Int)<(2*0+1)*(2*0+1) by decide)
  generalize sh%((2*0+1)*(2*0+1))=v at *
  unfold rdE
  simp
  omega
 ·have h1:=Int.emod_nonneg sh (show((2*1+1)*(2*1+1):Int)≠0 by decide)
  have h2:=Int.emod_lt_of_pos sh (show(0:Int)<(2*1+1)*(2*1+1) by decide)
  generalize sh%((2*1+1)*(2*1+1))=v at *
  unfold rdE
  simp
  omega
 ·have h1:=Int.emod_nonneg sh (show((2*2+1)*(2*2+1):Int)≠0 by decide)
  have h2:=Int.emod_lt_of_pos sh (show(0:Int)<(2*2+1)*(2*2+1) by decide)
  generalize sh%((2*2+1)*(2*2+1))=v at *
  unfold rdE
  simp
  omega
theorem rdIter_md(ll:List (List Int)):∀k,∀r∈(rdIter ll k).2,∃bl sh,r=md21 bl sh
 |0,r,h=>by cases h
 | k+1,r,h=>by
   rcases List.mem_append.1 (show r∈(rdIter ll k).2++ [md21 _ _]from h)with h|h
   ·exact rdIter_md ll k r h
   ·exact⟨_,_,List.mem_singleton.1 h⟩
theorem lists_bd(ll:List (List Int)):rdN ll≤2∧lsN28 ll≤3∧fxN28 ll≤2:=by
 have h1:=dvA_bd ll 0 3 (by decide)
 have h2:=dvA_bd ll (rdIter ll (rdN ll)).1 4 (by decide)
 have h3:=dvA_bd ll (nxA ll (rdIter ll (rdN ll)).1) 3 (by decide)
 unfold lsN28 fxN28
 refine⟨by unfold rdN;omega,by omega,by omega⟩
theorem good65{L:List Bp}(h:∀b∈L,∃d,b=bp65 d):GoodL L L.length:=fun i hi=>by
 obtain⟨d,e1⟩:=h _ (getD_mem28 (z:=bpZ) hi)
 obtain⟨d0,e0⟩:=h _ (getD_mem28 (z:=bpZ) (show 0<L.length by omega))
 rw[e1,e0]
 exact⟨(by decide:chk 6 5 30=0),rfl,rfl⟩
end Go.Proofs.Ytbffmfeldkjkcaa
end
