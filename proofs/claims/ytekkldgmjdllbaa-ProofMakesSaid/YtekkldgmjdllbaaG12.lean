/- Parts of the proof: A01. -/
import Derived.Test.YtekkldgmjdllbaaG10
set_option linter.unusedSimpArgs false
set_option linter.unusedVariables false
section
namespace Go.Proofs.Ytekkldgmjdllbaa
open Go.RowKit Go.Flow Go.AV
theorem Mod_A (n m : Int) (hm : 0 < m) (hM : m ≤ 1000000) : ACalls Try.prog 25 [.c (iC n), .c (iC m)] (.c (iC (n % m))) :=
 ACalls.old rfl fun O w vals h => by
  obtain ⟨x, y, rfl, h1, h2⟩ := args2 h
  cases rep_c h1
  cases rep_c h2
  exact (Mod_any n m hm hM w).mono fun e w' ⟨a, b⟩ => ⟨a, b ▸ Ext.refl w⟩
end Go.Proofs.Ytekkldgmjdllbaa
end
