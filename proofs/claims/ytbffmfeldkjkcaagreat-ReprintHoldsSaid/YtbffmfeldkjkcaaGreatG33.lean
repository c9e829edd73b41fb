/- Parts of the proof: A28y. -/
import Derived.Test.YtbffmfeldkjkcaaGreatG28
set_option linter.unusedSimpArgs false
set_option linter.unusedVariables false
set_option maxHeartbeats 0
section
namespace Go.Proofs.YtbffmfeldkjkcaaGreat
open Go.RowKit Go.Flow Go.AV Go.Plain
def rwD(s:ByteArray)(k:Nat):Bool:=decide (((s.get! k).toNat:Int)=35)
def rwB(s:ByteArray):Bp:=⟨s.size,1,s.size,rwD s⟩
end Go.Proofs.YtbffmfeldkjkcaaGreat
end
