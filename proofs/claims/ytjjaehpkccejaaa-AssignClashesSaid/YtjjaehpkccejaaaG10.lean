/- Parts of the proof: Low, Img, ImgPutP, ImgPut, AOld, ASet. -/
import Derived.Test.YtjjaehpkccejaaaProg
import Derived.Test.YtjjaehpkccejaaaG01
import Derived.Lib.Hide
import Derived.Deep.QuietTactic
import Derived.BigQuiet
import Derived.Deep.DrawnRows
import Derived.Test.YtjjaehpkccejaaaG09
set_option linter.unusedSimpArgs false
set_option linter.unusedVariables false
section
namespace Go.Proofs.Ytjjaehpkccejaaa
open Go.RowKit Go.Flow
open Go.Proofs
attribute [local go_sem] block_add
attribute [local go_sem ↓] Go.wp_at_zero Go.wp_at_succ

theorem ret_int {k : IntKind} {a b : Int} (h : a = b) : Ending.returned (.int k a) = .returned (.int k b) := by rw [h]
theorem ret_bool {a b : Bool} (h : a = b) : Ending.returned (.bool a) = .returned (.bool b) := by rw [h]

def sideB (n : Int) : Bool := decide (0 ≤ n ∧ n ≤ 96)

theorem side2_any (n : Int) (w : World) :
 Calls Try.prog 62 #[.int .i64 n] w fun e w' => e = .returned (.bool (sideB n)) ∧ w = w' := by
 go_enter Try.func62, Try.ntmps62
 go_wp2
 all_goals go_ret
 all_goals exact ⟨ret_bool (by unfold sideB; simp; omega), rfl⟩

theorem sideB_iff {n : Int} : sideB n = true ↔ 0 ≤ n ∧ n ≤ 96 := by unfold sideB; simp
theorem area_bd {W H : Int} (hW : 0 ≤ W ∧ W ≤ 96) (hH : 0 ≤ H ∧ H ≤ 96) : 0 ≤ W * H ∧ W * H ≤ 9216 :=
 ⟨Int.mul_nonneg hW.1 hH.1, by have := Int.mul_le_mul hW.2 hH.2 hH.1 (by omega : (0 : Int) ≤ 96); omega⟩

/-- A bitmap by value. -/
abbrev bmp (W H : Int) (A : Option Addr) (n c : Nat) : Value := .agg #[.int .i64 W, .int .i64 H, .slice A n c]
/-- What Check returns. -/
def chk (W H : Int) (n : Nat) : Int := if sideB W && sideB H then (if (n : Int) = W * H then 0 else 5) else 13

theorem okB {W H : Int} {n : Nat} (h : chk W H n = 0) : 0 ≤ W ∧ W ≤ 96 ∧ 0 ≤ H ∧ H ≤ 96 ∧ (n : Int) = W * H := by
 unfold chk at h
 split at h
 ·rename_i h1
  simp only [Bool.and_eq_true, sideB_iff] at h1
  split at h
  ·exact ⟨h1.1.1, h1.1.2, h1.2.1, h1.2.2, ‹_›⟩
  ·omega
 ·omega

def hasB (W H : Int) (dot : Nat → Bool) (x y : Int) : Bool := if 0 ≤ x ∧ x < W ∧ 0 ≤ y ∧ y < H then dot (y * W + x).toNat else false

theorem Check2_any (W H : Int) (A : Option Addr) (n c : Nat) (w : World) :
 Calls Try.prog 41 #[bmp W H A n c] w fun e w' => e = .returned (.int .i64 (chk W H n)) ∧ Ext w w' := by
 have hfin : Ext w (w.alloc (.cells #[.int .i64 W, .int .i64 H, .slice A n c] 47)) := (Ext.refl w).alloc _
 replace hfin := Lib.hid hfin
 cases hW : sideB W
 ·have hr : chk W H n = 13 := by simp [chk, hW]
  replace hr := Lib.hid hr
  go_enter Try.func41, Try.ntmps41
  go_wp2_with (first | (go_at_call 62; refine (side2_any _ _).mono ?_; rintro e w' ⟨rfl, rfl⟩))
  go_ret
  exact ⟨ret_int hr.out.symm, hfin.out⟩
 cases hH : sideB H
 ·have hr : chk W H n = 13 := by simp [chk, hH]
  replace hr := Lib.hid hr
  go_enter Try.func41, Try.ntmps41
  go_wp2_with (first | (go_at_call 62; refine (side2_any _ _).mono ?_; rintro e w' ⟨rfl, rfl⟩))
  go_ret
  exact ⟨ret_int hr.out.symm, hfin.out⟩
 have hb := area_bd (sideB_iff.1 hW) (sideB_iff.1 hH)
 have hr : chk W H n = if (n : Int) = W * H then 0 else 5 := by simp [chk, hH, hW]
 replace hr := Lib.hid hr
 go_enter Try.func41, Try.ntmps41
 go_wp2_with (first | (go_at_call 62; refine (side2_any _ _).mono ?_; rintro e w' ⟨rfl, rfl⟩))
 all_goals go_ret
 all_goals refine ⟨?_, hfin.out⟩
 all_goals rw [hr.out]
 all_goals simp_all

/-- What a draw yields, and where it stands then. -/
def dval (N : Nat) (f : Nat → Int) (at_ : Nat) (m : Int) : Int := if at_ < N then f at_ % m else 0
def dat (N at_ : Nat) : Nat := if at_ < N then at_ + 1 else at_

end Go.Proofs.Ytjjaehpkccejaaa
end

section
namespace Go.Proofs.Ytjjaehpkccejaaa
open Go.RowKit Go.Flow
open Go.Proofs
attribute [local go_sem] block_add
attribute [local go_sem ↓] Go.wp_at_zero Go.wp_at_succ

def pxOk (n : Nat) (f : Nat → Int) : Prop := ∀ k, k < n → 0 ≤ f k ∧ f k ≤ 2
instance (n : Nat) (f : Nat → Int) : Decidable (pxOk n f) := by unfold pxOk; infer_instance
def shI (W H : Int) (n : Nat) : Prop := 0 ≤ W ∧ W ≤ 100 ∧ 0 ≤ H ∧ H ≤ 100 ∧ (n : Int) = W * H
instance (W H : Int) (n : Nat) : Decidable (shI W H n) := by unfold shI; infer_instance
/-- What Check returns. -/
def chkI (W H : Int) (n : Nat) (f : Nat → Int) : Int := if shI W H n then (if pxOk n f then 0 else 50) else 50
end Go.Proofs.Ytjjaehpkccejaaa
end

section
namespace Go.Proofs.Ytjjaehpkccejaaa
open Go.RowKit Go.Flow

def shiftB (dx dy : Int) : Bool := decide (-2 ≤ dx ∧ dx ≤ 2 ∧ -2 ≤ dy ∧ dy ≤ 2)
/-- The number that Put reports. -/
def putE (W H : Int) (n : Nat) (dx dy : Int) : Int := if chk W H n = 0 then (if shiftB dx dy then 0 else 3) else chk W H n
/-- The pixels that Put shows. -/
def putF (W H : Int) (dot : Nat → Bool) (dx dy : Int) (k : Nat) : Int := if hasB W H dot ((k : Int) % (W + 4) - 2 - dx) ((k : Int) / (W + 4) - 2 - dy) then 1 else 0
/-- Dots with an index below k. -/
def below (k : Nat) (dot : Nat → Bool) (i : Nat) : Bool := decide (i < k) && dot i
theorem hasB_in {W H : Int} {dot : Nat → Bool} {x y : Int} (h1 : 0 ≤ x) (h2 : x < W) (h3 : 0 ≤ y) (h4 : y < H) : hasB W H dot x y = dot (y * W + x).toNat := by unfold hasB; rw [if_pos ⟨h1, h2, h3, h4⟩]
end Go.Proofs.Ytjjaehpkccejaaa
end

section
namespace Go.Flow
open Go Go.RowKit
/-- A slice whose array the call made itself. -/
def Mine (w : World) (base : Nat) (A : Option Addr) (t : TypeId) (n : Nat) (F : Nat → Value) : Prop := 0 < n → ∃ g, A = some ⟨g, 0, none⟩ ∧ base ≤ g ∧ ∃ cs, Blk w g t cs ∧ ∀ k, k < n → cs[k]? = some (F k)
section
variable {w w' : World} {base n : Nat} {A : Option Addr} {t : TypeId} {F : Nat → Value}
theorem Mine.arr (h : Mine w base A t n F) : Arr w A n F := fun k hk => by
 obtain ⟨g, rfl, -, cs, hb, hc⟩ := h (by omega)
 exact ⟨_, rfl, by rw [show (⟨g, 0, none⟩ : Addr).add k = ⟨g, k, none⟩ by unfold Addr.add; split <;> simp_all, hb.cell]; exact hc k hk⟩
theorem Mine.ext (h : Mine w base A t n F) (hE : Ext w w') : Mine w' base A t n F := fun hn =>
 let ⟨g, e, hg, cs, hb, hc⟩ := h hn
 ⟨g, e, hg, cs, hb.ext hE, hc⟩
theorem Mine.congr {G : Nat → Value} (h : Mine w base A t n F) (hg : ∀ k, k < n → F k = G k) : Mine w base A t n G := fun hn =>
 let ⟨g, e, hb, cs, hc, hr⟩ := h hn
 ⟨g, e, hb, cs, hc, fun k hk => by rw [hr k hk, hg k hk]⟩
theorem Mine.less {base' : Nat} (h : Mine w base A t n F) (hb : base' ≤ base) : Mine w base' A t n F := fun hn =>
 let ⟨g, e, hg, r⟩ := h hn
 ⟨g, e, by omega, r⟩
end
end Go.Flow
namespace Go.Proofs.Ytjjaehpkccejaaa
open Go.RowKit Go.Flow
open Go.Proofs
attribute [local go_sem] block_add
attribute [local go_sem ↓] Go.wp_at_zero Go.wp_at_succ

end Go.Proofs.Ytjjaehpkccejaaa
end

section
namespace Go.AV
open Go Go.RowKit Go.Flow
abbrev iC (i : Int) : CV := .p (.int .i64 i)
abbrev bC (b : Bool) : CV := .p (.bool b)
abbrev iF (f : Nat → Int) (k _ : Nat) : CV := .p (.int .i64 (f k))
abbrev bF (f : Nat → Bool) (k _ : Nat) : CV := .p (.bool (f k))
section
variable {P : Program}
theorem ACalls.of {f : FuncId} {args : List V1} {r : AV} (h : ∀ (O : Nat → Prop) (w : World) (vals : List Value), (∀ b, O b → b < w.heap.size) → RepL (RepV (fun _ => none) O w) args vals →
 Calls P f vals.toArray w fun e w' => ∃ v, e = .returned v ∧ RepA (fun _ => none) O w' r v ∧ Ext w w') : ACalls P f args r := fun b0 vals hH hle hY hv => by
 have hfix : b0.fix = fun _ => none := by
  funext i
  cases hf : b0.fix i with
  | none => rfl
  | some v =>
    have h1 := hle i v hf
    have h2 := (b0.one i v hf).1
    simp at h1
    omega
 rw [hfix] at hH hv hY
 have hlt : ∀ b, out b0 (fun _ => none) (assoc []) b → b < b0.w.heap.size := fun b hb => hb.elim (fun ⟨i, v, h1, _⟩ => absurd rfl h1) (b0.lt b)
 refine (h _ _ vals hlt hv).mono fun e w' ⟨v, h1, h2, h3⟩ => ⟨v, h1, by rw [hfix]; exact h2, ?_, Keep.of_ext h3⟩
 rw [hfix]
 exact ⟨fun i B hB => (by cases hB), fun i j v1 v2 b hi => absurd rfl hi, fun b ⟨i, v, h1, _⟩ => absurd rfl h1, fun i v hi => (by rw [hfix] at hi; cases hi), fun _ _ _ => rfl⟩
/-- A contract at a plain value. -/
theorem ACalls.old {f : FuncId} {args : List V1} {v : Value} (hv : v.oneCell' = true) (h : ∀ (O : Nat → Prop) (w : World) (vals : List Value), RepL (RepV (fun _ => none) O w) args vals → Calls P f vals.toArray w fun e w' => e = .returned v ∧ Ext w w') : ACalls P f args (.c (.p v)) :=
 ACalls.of fun O w vals _ hr => (h O w vals hr).mono fun e w' ⟨h1, h2⟩ => ⟨v, h1, rep_p hv, h2⟩
variable {σ : Nat → Option Value} {O : Nat → Prop} {w : World} {u : Value} {n : Nat}
theorem rep_arr {F : Nat → Nat → CV} {G : Nat → Value} (hF : ∀ k, F k 0 = .p (G k)) (h : RepC σ O w (.ls n 1 F) u) : ∃ A c, u = .slice A n c ∧ n ≤ c ∧ Arr w A n G := by
 obtain ⟨-, A, c, rfl, hc, hx⟩ := h
 refine ⟨A, c, rfl, hc, fun k hk => ?_⟩
 obtain ⟨ad, v, e1, e2, e3, e4, e5⟩ := hx k hk 0 (by omega)
 rw [hF] at e5
 obtain rfl : v = G k := e5
 exact ⟨ad, e1, by simpa using e3⟩
theorem rep_bools {f : Nat → Bool} (h : RepC σ O w (.ls n 1 (bF f)) u) : ∃ A c, u = .slice A n c ∧ n ≤ c ∧ Bools w A n f := rep_arr (fun _ => rfl) h
theorem rep3 {a b : Value} {x : CV} (h : RepV σ O w (.ag [.p a, .p b, x]) u) : ∃ v, u = .agg #[a, b, v] ∧ RepC σ O w x v := by
 obtain ⟨vs, rfl, hl⟩ := h
 match vs, hl with
 | [p, q, r], ⟨h1, h2, h3, _⟩ =>
   obtain rfl : p = a := h1.2
   obtain rfl : q = b := h2.2
   exact ⟨r, rfl, h3⟩
theorem nil_rep {sz : Nat} {F : Nat → Nat → CV} : RepC σ O w (.ls 0 sz F) (.slice none 0 0) := ⟨rfl, none, 0, rfl, Nat.le_refl _, fun k hk => absurd hk (Nat.not_lt_zero _)⟩
end
end Go.AV
namespace Go.Proofs.Ytjjaehpkccejaaa
open Go.RowKit Go.Flow Go.AV
abbrev bmpV (W H : Int) (n : Nat) (f : Nat → Bool) : List CV := [iC W, iC H, .ls n 1 (bF f)]
theorem rep_bmp {σ : Nat → Option Value} {O : Nat → Prop} {w : World} {u : Value} {W H : Int} {n : Nat} {f : Nat → Bool} (h : RepV σ O w (.ag (bmpV W H n f)) u) : ∃ A c, u = bmp W H A n c ∧ n ≤ c ∧ Bools w A n f := by
 obtain ⟨v, rfl, hv⟩ := rep3 h
 obtain ⟨A, c, rfl, h1, h2⟩ := rep_bools hv
 exact ⟨A, c, rfl, h1, h2⟩
theorem rep_c {σ : Nat → Option Value} {O : Nat → Prop} {w : World} {u v : Value} (h : RepV σ O w (.c (.p v)) u) : u = v := h.2
/-- The lists of arguments, taken apart. -/
theorem args1 {R : V1 → Value → Prop} {a : V1} {vals : List Value} (h : RepL R [a] vals) : ∃ x, vals = [x] ∧ R a x := by
 match vals, h with
 | [x], ⟨h1, _⟩ => exact ⟨x, rfl, h1⟩
theorem args2 {R : V1 → Value → Prop} {a b : V1} {vals : List Value} (h : RepL R [a, b] vals) : ∃ x y, vals = [x, y] ∧ R a x ∧ R b y := by
 match vals, h with
 | [x, y], ⟨h1, h2, _⟩ => exact ⟨x, y, rfl, h1, h2⟩
end Go.Proofs.Ytjjaehpkccejaaa
end

section
namespace Go.AV
open Go Go.RowKit Go.Flow
theorem set_one {n k : Nat} {f : Nat → Int} {e : Int} (g : Nat → Int) (h1 : g k = e) (h2 : ∀ i, ¬i = k → g i = f i) : ∀ i, i < n → ∀ j, j < 1 → setF (iF f) k 0 1 [iC e] i j = iF g i j ∧ immC (setF (iF f) k 0 1 [iC e] i j) = true := fun i hi => cell1 (by
 have : setF (iF f) k 0 1 [iC e] i 0 = iF g i 0 := by
  unfold setF
  by_cases h : i = k
  ·subst h
   rw [Nat.beq_refl]
   exact congrArg iC h1.symm
  ·rw [show Nat.beq i k = false from Bool.eq_false_iff.2 fun h' => h (Nat.eq_of_beq_eq_true h')]
   exact congrArg iC (h2 i h).symm
 exact ⟨this, by rw [this]; rfl⟩)
theorem set_oneB {n k : Nat} {f : Nat → Bool} {e : Bool} (g : Nat → Bool) (h1 : g k = e) (h2 : ∀ i, ¬i = k → g i = f i) : ∀ i, i < n → ∀ j, j < 1 → setF (bF f) k 0 1 [bC e] i j = bF g i j ∧ immC (setF (bF f) k 0 1 [bC e] i j) = true := fun i hi => cell1 (by
 have : setF (bF f) k 0 1 [bC e] i 0 = bF g i 0 := by
  unfold setF
  by_cases h : i = k
  ·subst h
   rw [Nat.beq_refl]
   exact congrArg bC h1.symm
  ·rw [show Nat.beq i k = false from Bool.eq_false_iff.2 fun h' => h (Nat.eq_of_beq_eq_true h')]
   exact congrArg bC (h2 i h).symm
 rw [this]
 exact ⟨rfl, rfl⟩)
end Go.AV
end
