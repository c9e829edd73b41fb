/- Parts of the proof: AConv. -/
import Derived.Test.YtekkldgmjdllbaaG18
import Derived.Test.YtekkldgmjdllbaaG28
set_option linter.unusedSimpArgs false
set_option linter.unusedVariables false
section
namespace Go.AV
open Go Go.RowKit Go.Flow
section
variable {P : Program}
theorem AWp.cvBox {c : Code} {Q : Exit → St → Prop} {S : St} {id n sz : Nat} {row : Bool} {ty : TypeId} {F : Nat → Nat → CV} (G : Nat → Nat → CV) (hh : S.h id = some ⟨row, n, sz, ty, F⟩) (hz : Nat.beq sz 1 = false) (hc : ∀ k, k < n → ∀ j, j < sz → Cv (F k j) (G k j))
 (h : AWp P c Q (S.eff none ⟨.c .any, [(id, some ⟨row, n, sz, ty, G⟩)], []⟩)) : AWp P c Q S := ⟨fun b0 a w ⟨σ, R⟩ => by
 refine h.get b0 a w ⟨σ, ?_⟩
 have hput : ∀ i, i ≠ id → (S.eff none ⟨.c .any, [(id, some ⟨row, n, sz, ty, G⟩)], []⟩).h i = S.h i := fun i hi => put_ne _ _ hi
 have hsame : (S.eff none ⟨.c .any, [(id, some ⟨row, n, sz, ty, G⟩)], []⟩).h id = some ⟨row, n, sz, ty, G⟩ := put_same _ _ _
 have hne : ∀ i, (S.eff none ⟨.c .any, [(id, some ⟨row, n, sz, ty, G⟩)], []⟩).h i ≠ none ↔ S.h i ≠ none := fun i => by
  by_cases hi : i = id
  ·subst hi; rw [hsame, hh]; simp
  ·rw [hput i hi]
 have hown : ∀ b, own σ (S.eff none ⟨.c .any, [(id, some ⟨row, n, sz, ty, G⟩)], []⟩).h b ↔ own σ S.h b := fun b => ⟨fun ⟨i, v, h1, h2, h3⟩ => ⟨i, v, (hne i).1 h1, h2, h3⟩, fun ⟨i, v, h1, h2, h3⟩ => ⟨i, v, (hne i).2 h1, h2, h3⟩⟩
 have hout : ∀ b, out b0 σ (S.eff none ⟨.c .any, [(id, some ⟨row, n, sz, ty, G⟩)], []⟩).h b → out b0 σ S.h b := fun b hb => hb.imp (hown b).1 fun h => h
 refine ⟨R.df, R.sz, R.ext, ⟨fun i B hB => ?_, fun i j v1 v2 b hi hj => R.hp.inj i j v1 v2 b ((hne i).1 hi) ((hne j).1 hj), fun b hb => R.hp.new b ((hown b).1 hb), fun i v hi => ⟨(R.hp.fx i v hi).1, (hne i).2 (R.hp.fx i v hi).2⟩, R.hp.big⟩, fun t x hx => (R.sl t x hx).less hout, fun i hi => R.fr i (by simpa [St.eff] using hi), R.le, R.gd, R.gh⟩
 by_cases hi : i = id
 ·subst hi
  rw [hsame] at hB
  cases hB
  obtain ⟨v, e1, e2⟩ := R.hp.blk i _ hh
  refine ⟨v, e1, ?_⟩
  have e3 := e2.less hout
  rcases e3 with h0 | ⟨b, cap, cs, k1, k2, k3, k4⟩ | ⟨_, _, h0, _⟩
  ·exact .inl h0
  ·refine .inr (.inl ⟨b, cap, cs, ?_, k2, k3, fun k hk j hj => let ⟨u, g1, g2⟩ := k4 k hk j hj; ⟨u, g1, hc k hk j hj _ _ _ _ g2⟩⟩)
   exact k1
  ·have h0 : sz = 1 := h0
   rw [h0] at hz
   cases hz
 ·rw [hput i hi] at hB
  obtain ⟨v, k1, k2⟩ := R.hp.blk i B hB
  exact ⟨v, k1, k2.less hout⟩⟩
end
end Go.AV
end
