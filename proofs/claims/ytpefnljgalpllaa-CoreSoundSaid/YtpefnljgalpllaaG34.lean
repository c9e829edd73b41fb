/- Parts of the proof: A28ze. -/
import Derived.Test.YtpefnljgalpllaaG31
set_option linter.unusedSimpArgs false
set_option linter.unusedVariables false
set_option maxHeartbeats 0
section
namespace Go.Proofs.Ytpefnljgalpllaa
open Go.RowKit Go.Flow Go.AV Go.Plain
theorem good65{L:List Bp}(h:∀b∈L,∃d,b=bp65 d):GoodL L L.length:=fun i hi=>by
 obtain⟨d,e1⟩:=h _ (getD_mem28 (z:=bpZ) hi)
 obtain⟨d0,e0⟩:=h _ (getD_mem28 (z:=bpZ) (show 0<L.length by omega))
 rw[e1,e0]
 exact⟨(by decide:chk 6 5 30=0),rfl,rfl⟩
end Go.Proofs.Ytpefnljgalpllaa
end
