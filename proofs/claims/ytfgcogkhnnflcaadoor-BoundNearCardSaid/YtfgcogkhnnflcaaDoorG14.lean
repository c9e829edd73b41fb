/- Parts of the proof: ImgPutP, ImgPut, AOld. -/
import Derived.Test.YtfgcogkhnnflcaaDoorG01
import Derived.Test.YtfgcogkhnnflcaaDoorProg
import Derived.Test.YtfgcogkhnnflcaaDoorG13
import Derived.Test.YtfgcogkhnnflcaaDoorG11
set_option linter.unusedSimpArgs false
set_option linter.unusedVariables false
section
namespace Go.Proofs.YtfgcogkhnnflcaaDoor
open Go.RowKit Go.Flow

def shiftB (dx dy : Int) : Bool := decide (-2 ≤ dx ∧ dx ≤ 2 ∧ -2 ≤ dy ∧ dy ≤ 2)
/-- The number that Put reports. -/
def putE (W H : Int) (n : Nat) (dx dy : Int) : Int := if chk W H n = 0 then (if shiftB dx dy then 0 else 3) else chk W H n
/-- Dots with an index below k. -/
def below (k : Nat) (dot : Nat → Bool) (i : Nat) : Bool := decide (i < k) && dot i
theorem hasB_in {W H : Int} {dot : Nat → Bool} {x y : Int} (h1 : 0 ≤ x) (h2 : x < W) (h3 : 0 ≤ y) (h4 : y < H) : hasB W H dot x y = dot (y * W + x).toNat := by unfold hasB; rw [if_pos ⟨h1, h2, h3, h4⟩]
end Go.Proofs.YtfgcogkhnnflcaaDoor
end

section
namespace Go.Flow
open Go Go.RowKit
/-- A slice whose array the call made itself. -/
def Mine (w : World) (base : Nat) (A : Option Addr) (t : TypeId) (n : Nat) (F : Nat → Value) : Prop := 0 < n → ∃ g, A = some ⟨g, 0, none⟩ ∧ base ≤ g ∧ ∃ cs, Blk w g t cs ∧ ∀ k, k < n → cs[k]? = some (F k)
section
variable {w w' : World} {base n : Nat} {A : Option Addr} {t : TypeId} {F : Nat → Value}
theorem Mine.arr (h : Mine w base A t n F) : Arr w A n F := fun k hk => by
  obtain ⟨g, rfl, -, cs, hb, hc⟩ := h (by omega)
  exact ⟨_, rfl, by rw [show (⟨g, 0, none⟩ : Addr).add k = ⟨g, k, none⟩ by unfold Addr.add; split <;> simp_all, hb.cell]; exact hc k hk⟩
theorem Mine.ext (h : Mine w base A t n F) (hE : Ext w w') : Mine w' base A t n F := fun hn =>
  let ⟨g, e, hg, cs, hb, hc⟩ := h hn
  ⟨g, e, hg, cs, hb.ext hE, hc⟩
theorem Mine.set_ {p : Addr} (h : Mine w base A t n F) (hp : p.block < base) (u : Value) : Mine (w.setCell p u) base A t n F := fun hn =>
  let ⟨g, e, hg, cs, hb, hc⟩ := h hn
  ⟨g, e, hg, cs, hb.far (by omega) u, hc⟩
theorem Mine.congr {G : Nat → Value} (h : Mine w base A t n F) (hg : ∀ k, k < n → F k = G k) : Mine w base A t n G := fun hn =>
  let ⟨g, e, hb, cs, hc, hr⟩ := h hn
  ⟨g, e, hb, cs, hc, fun k hk => by rw [hr k hk, hg k hk]⟩
theorem Mine.less {base' : Nat} (h : Mine w base A t n F) (hb : base' ≤ base) : Mine w base' A t n F := fun hn =>
  let ⟨g, e, hg, r⟩ := h hn
  ⟨g, e, by omega, r⟩
end
end Go.Flow
namespace Go.Proofs.YtfgcogkhnnflcaaDoor
open Go.RowKit Go.Flow
open Go.Proofs
attribute [local go_sem] block_add
attribute [local go_sem ↓] Go.wp_at_zero Go.wp_at_succ

end Go.Proofs.YtfgcogkhnnflcaaDoor
end

section
namespace Go.AV
open Go Go.RowKit Go.Flow
abbrev iC (i : Int) : CV := .p (.int .i64 i)
abbrev bC (b : Bool) : CV := .p (.bool b)
abbrev iF (f : Nat → Int) (k _ : Nat) : CV := .p (.int .i64 (f k))
abbrev bF (f : Nat → Bool) (k _ : Nat) : CV := .p (.bool (f k))
section
variable {P : Program}
theorem ACalls.of {f : FuncId} {args : List V1} {r : AV} (h : ∀ (O : Nat → Prop) (w : World) (vals : List Value), (∀ b, O b → b < w.heap.size) → RepL (RepV (fun _ => none) O w) args vals →
    Calls P f vals.toArray w fun e w' => ∃ v, e = .returned v ∧ RepA (fun _ => none) O w' r v ∧ Ext w w') : ACalls P f args r := fun b0 vals hH hle hY hv => by
  have hfix : b0.fix = fun _ => none := by
    funext i
    cases hf : b0.fix i with
    | none => rfl
    | some v =>
      have h1 := hle i v hf
      have h2 := (b0.one i v hf).1
      simp at h1
      omega
  rw [hfix] at hH hv hY
  have hlt : ∀ b, out b0 (fun _ => none) (assoc []) b → b < b0.w.heap.size := fun b hb => hb.elim (fun ⟨i, v, h1, _⟩ => absurd rfl h1) (b0.lt b)
  refine (h _ _ vals hlt hv).mono fun e w' ⟨v, h1, h2, h3⟩ => ⟨v, h1, by rw [hfix]; exact h2, ?_, Keep.of_ext h3⟩
  rw [hfix]
  exact ⟨fun i B hB => (by cases hB), fun i j v1 v2 b hi => absurd rfl hi, fun b ⟨i, v, h1, _⟩ => absurd rfl h1, fun i v hi => (by rw [hfix] at hi; cases hi), fun _ _ _ => rfl⟩
variable {σ : Nat → Option Value} {O : Nat → Prop} {w : World} {u : Value} {n : Nat}
theorem rep_arr {F : Nat → Nat → CV} {G : Nat → Value} (hF : ∀ k, F k 0 = .p (G k)) (h : RepC σ O w (.ls n 1 F) u) : ∃ A c, u = .slice A n c ∧ n ≤ c ∧ Arr w A n G := by
  obtain ⟨-, A, c, rfl, hc, hx⟩ := h
  refine ⟨A, c, rfl, hc, fun k hk => ?_⟩
  obtain ⟨ad, v, e1, e2, e3, e4, e5⟩ := hx k hk 0 (by omega)
  rw [hF] at e5
  obtain rfl : v = G k := e5
  exact ⟨ad, e1, by simpa using e3⟩
theorem rep_bools {f : Nat → Bool} (h : RepC σ O w (.ls n 1 (bF f)) u) : ∃ A c, u = .slice A n c ∧ n ≤ c ∧ Bools w A n f := rep_arr (fun _ => rfl) h
theorem rep3 {a b : Value} {x : CV} (h : RepV σ O w (.ag [.p a, .p b, x]) u) : ∃ v, u = .agg #[a, b, v] ∧ RepC σ O w x v := by
  obtain ⟨vs, rfl, hl⟩ := h
  match vs, hl with
  | [p, q, r], ⟨h1, h2, h3, _⟩ =>
    obtain rfl : p = a := h1.2
    obtain rfl : q = b := h2.2
    exact ⟨r, rfl, h3⟩
theorem nil_rep {sz : Nat} {F : Nat → Nat → CV} : RepC σ O w (.ls 0 sz F) (.slice none 0 0) := ⟨rfl, none, 0, rfl, Nat.le_refl _, fun k hk => absurd hk (Nat.not_lt_zero _)⟩
end
end Go.AV
namespace Go.Proofs.YtfgcogkhnnflcaaDoor
open Go.RowKit Go.Flow Go.AV
abbrev bmpV (W H : Int) (n : Nat) (f : Nat → Bool) : List CV := [iC W, iC H, .ls n 1 (bF f)]
theorem rep_bmp {σ : Nat → Option Value} {O : Nat → Prop} {w : World} {u : Value} {W H : Int} {n : Nat} {f : Nat → Bool} (h : RepV σ O w (.ag (bmpV W H n f)) u) : ∃ A c, u = bmp W H A n c ∧ n ≤ c ∧ Bools w A n f := by
  obtain ⟨v, rfl, hv⟩ := rep3 h
  obtain ⟨A, c, rfl, h1, h2⟩ := rep_bools hv
  exact ⟨A, c, rfl, h1, h2⟩
end Go.Proofs.YtfgcogkhnnflcaaDoor
end
