/- Parts of the proof: A28ze. -/
import Derived.Test.YtpefnljgalpllaaGreatG27
set_option linter.unusedSimpArgs false
set_option linter.unusedVariables false
set_option maxHeartbeats 0
section
namespace Go.Proofs.YtpefnljgalpllaaGreat
open Go.RowKit Go.Flow Go.AV Go.Plain
theorem zRc{L:List Bp}(h:∀b∈L,∃d,b=zBC d):GoodL L L.length:=fun i hi=>by
 obtain⟨d,e1⟩:=h _ (zAH (z:=bpZ) hi)
 obtain⟨d0,e0⟩:=h _ (zAH (z:=bpZ) (show 0<L.length by omega))
 rw[e1,e0]
 exact⟨(by decide:chk 6 5 30=0),rfl,rfl⟩
end Go.Proofs.YtpefnljgalpllaaGreat
end
