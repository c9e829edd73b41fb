/- Parts of the proof: ACv. -/
import Derived.Test.YtekkldgmjdllbaaG16
import Derived.Test.YtekkldgmjdllbaaG10
import Derived.Test.YtekkldgmjdllbaaHA25mkr04
import Derived.Test.YtekkldgmjdllbaaG07
import Derived.Test.YtekkldgmjdllbaaG09
import Derived.Test.YtekkldgmjdllbaaHA25mkr03
import Derived.Test.YtekkldgmjdllbaaHA25mkr01
import Derived.Test.YtekkldgmjdllbaaProg
import Derived.Test.YtekkldgmjdllbaaG01
import Derived.Test.YtekkldgmjdllbaaG06
import Derived.Laws.StructEq
import Derived.Lib.Hide
import Derived.Deep.QuietTactic
import Derived.BigQuiet
import Derived.Deep.DrawnRows
import Derived.Deep.AppendLies
import Derived.Maps.AppendAt
import Derived.OwnWalk
import Derived.StillTail
import Derived.Below
import Derived.Deep.Draws
import Derived.WalkKit
import Derived.KernelRfl
import Derived.Test.YtekkldgmjdllbaaG05
import Derived.Test.YtekkldgmjdllbaaG04
import Derived.Great.BuildSlice
import Derived.Test.YtekkldgmjdllbaaG03
import Derived.Test.YtekkldgmjdllbaaG02
import Derived.RangeFuncLeaves
import Derived.RangeFuncRecord
import Derived.OrdersIn
import Derived.TacticsIn
import Derived.RangeFuncCalls
set_option linter.unusedSimpArgs false
set_option linter.unusedVariables false
section
namespace Go.AV
open Go Go.RowKit Go.Flow
section
variable {P : Program}
theorem Cv.lit {n : Nat} {l : List CV} {G : Nat → Nat → CV} (h : (k : Nat) → k < n → sF l 1 k 0 = G k 0) : Cv (.ls n 1 (sF l 1)) (.ls n 1 G) := fun σ O w u hu => by
 refine ⟨hu.1, RepI.ls_congr (fun k hk j hj => ?_) hu.2⟩
 obtain rfl : j = 0 := by omega
 exact h k hk
theorem ACalls.cv {f : FuncId} {args args' : List V1} {r : AV} (h : ACalls P f args r) (hc : LeL CvV args' args) : ACalls P f args' r := h.conv fun _ _ _ _ hv => CvL.rep hc hv
end
end Go.AV
end
