/- Parts of the proof: AMade. -/
import Derived.Test.YtclaanggpcjnbaaG13
import Derived.Test.YtclaanggpcjnbaaG25
import Derived.Test.YtclaanggpcjnbaaG09
import Derived.Test.YtclaanggpcjnbaaG15
set_option linter.unusedSimpArgs false
set_option linter.unusedVariables false
section
/- ref04.Made over plain values. No condition but the length. -/
namespace Go.Proofs.Ytclaanggpcjnbaa
open Go.RowKit Go.Flow Go.AV Go.Plain
theorem bmp_rep {σ : Nat → Option Value} {O : Nat → Prop} {w : World} {W H : Int} {n c base : Nat} {A : Option Addr} {f : Nat → Bool} (hb : ∀ b, O b → b < base) (hc : n ≤ c) (h : Mine w base A 4 n (fun k => .bool (f k))) : RepV σ O w (.ag (bmpV W H n f)) (bmp W H A n c) :=
  ⟨[_, _, _], rfl, ⟨rfl, rfl⟩, ⟨rfl, rfl⟩, mine_rep (fun _ => rfl) (fun _ _ => rfl) hb hc h, trivial⟩
def MadeR (r : AV) : Prop := ∃ (W H n : Nat) (f : Nat → Bool), W ≤ 16 ∧ H ≤ 12 ∧ n = W * H ∧ r = .ag (bmpV W H n f)
theorem Made_E (N : Nat) (f : Nat → Int) (hN : N ≤ 4611686018427387904) : ECalls Try.prog 16 [.c (.ls N 1 (iF f))] MadeR := fun O w vals hO h => by
  obtain ⟨x, rfl, h1⟩ := args1 h
  obtain ⟨A, c, rfl, -, hA⟩ := rep_ints h1
  exact (Made_any A N c f w hN hA).mono fun e w' ⟨W, H, g, n, b, g1, w0, w1, h0, h1, hn, g2, g3, g4⟩ => by
    obtain ⟨Wn, rfl⟩ := Int.eq_ofNat_of_zero_le w0
    obtain ⟨Hn, rfl⟩ := Int.eq_ofNat_of_zero_le h0
    exact ⟨_, _, g1, ⟨Wn, Hn, n, b, by omega, by omega, by exact_mod_cast hn, rfl⟩, bmp_rep hO (Nat.le_refl _) (Mine.of_own g2 g3), g4⟩
end Go.Proofs.Ytclaanggpcjnbaa
end
