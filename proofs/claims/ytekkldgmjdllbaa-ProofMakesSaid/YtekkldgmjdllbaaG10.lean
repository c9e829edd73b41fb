/- Parts of the proof: Low, Img, ImgPutP, ImgPut, AOld. -/
import Derived.Test.YtekkldgmjdllbaaProg
import Derived.Test.YtekkldgmjdllbaaG01
import Derived.Lib.Hide
import Derived.Deep.QuietTactic
import Derived.BigQuiet
import Derived.Deep.DrawnRows
import Derived.Test.YtekkldgmjdllbaaG09
set_option linter.unusedSimpArgs false
set_option linter.unusedVariables false
section
namespace Go.Proofs.Ytekkldgmjdllbaa
open Go.RowKit Go.Flow
open Go.Proofs
attribute [local go_sem] block_add
attribute [local go_sem ↓] Go.wp_at_zero Go.wp_at_succ

theorem ret_int {k : IntKind} {a b : Int} (h : a = b) : Ending.returned (.int k a) = .returned (.int k b) := by rw [h]
theorem ret_bool {a b : Bool} (h : a = b) : Ending.returned (.bool a) = .returned (.bool b) := by rw [h]

def sideB (n : Int) : Bool := decide (0 ≤ n ∧ n ≤ 96)

theorem side_any (n : Int) (w : World) :
 Calls Try.prog 134 #[.int .i64 n] w fun e w' => e = .returned (.bool (sideB n)) ∧ w = w' := by
 go_enter Try.func134, Try.ntmps134
 go_wp2
 all_goals go_ret
 all_goals exact ⟨ret_bool (by unfold sideB; simp; omega), rfl⟩

theorem sideB_iff {n : Int} : sideB n = true ↔ 0 ≤ n ∧ n ≤ 96 := by unfold sideB; simp
theorem area_bd {W H : Int} (hW : 0 ≤ W ∧ W ≤ 96) (hH : 0 ≤ H ∧ H ≤ 96) : 0 ≤ W * H ∧ W * H ≤ 9216 :=
 ⟨Int.mul_nonneg hW.1 hH.1, by have := Int.mul_le_mul hW.2 hH.2 hH.1 (by omega : (0 : Int) ≤ 96); omega⟩

abbrev bmp (W H : Int) (A : Option Addr) (n c : Nat) : Value := .agg #[.int .i64 W, .int .i64 H, .slice A n c]
def chk (W H : Int) (n : Nat) : Int := if sideB W && sideB H then (if (n : Int) = W * H then 0 else 5) else 13

theorem okB {W H : Int} {n : Nat} (h : chk W H n = 0) : 0 ≤ W ∧ W ≤ 96 ∧ 0 ≤ H ∧ H ≤ 96 ∧ (n : Int) = W * H := by
 unfold chk at h
 split at h
 ·rename_i h1
  simp only [Bool.and_eq_true, sideB_iff] at h1
  split at h
  ·exact ⟨h1.1.1, h1.1.2, h1.2.1, h1.2.2, ‹_›⟩
  ·omega
 ·omega

def hasB (W H : Int) (dot : Nat → Bool) (x y : Int) : Bool := if 0 ≤ x ∧ x < W ∧ 0 ≤ y ∧ y < H then dot (y * W + x).toNat else false

theorem Check_any (W H : Int) (A : Option Addr) (n c : Nat) (w : World) :
 Calls Try.prog 94 #[bmp W H A n c] w fun e w' => e = .returned (.int .i64 (chk W H n)) ∧ Ext w w' := by
 have hfin : Ext w (w.alloc (.cells #[.int .i64 W, .int .i64 H, .slice A n c] 31)) := (Ext.refl w).alloc _
 replace hfin := Lib.hid hfin
 cases hW : sideB W
 ·have hr : chk W H n = 13 := by simp [chk, hW]
  replace hr := Lib.hid hr
  go_enter Try.func94, Try.ntmps94
  go_wp2_with (first | (go_at_call 134; refine (side_any _ _).mono ?_; rintro e w' ⟨rfl, rfl⟩))
  go_ret
  exact ⟨ret_int hr.out.symm, hfin.out⟩
 cases hH : sideB H
 ·have hr : chk W H n = 13 := by simp [chk, hH]
  replace hr := Lib.hid hr
  go_enter Try.func94, Try.ntmps94
  go_wp2_with (first | (go_at_call 134; refine (side_any _ _).mono ?_; rintro e w' ⟨rfl, rfl⟩))
  go_ret
  exact ⟨ret_int hr.out.symm, hfin.out⟩
 have hb := area_bd (sideB_iff.1 hW) (sideB_iff.1 hH)
 have hr : chk W H n = if (n : Int) = W * H then 0 else 5 := by simp [chk, hH, hW]
 replace hr := Lib.hid hr
 go_enter Try.func94, Try.ntmps94
 go_wp2_with (first | (go_at_call 134; refine (side_any _ _).mono ?_; rintro e w' ⟨rfl, rfl⟩))
 all_goals go_ret
 all_goals refine ⟨?_, hfin.out⟩
 all_goals rw [hr.out]
 all_goals simp_all

theorem Mod_any (n m : Int) (hm : 0 < m) (hM : m ≤ 1000000) (w : World) :
 Calls Try.prog 25 #[.int .i64 n, .int .i64 m] w fun e w' => e = .returned (.int .i64 (n % m)) ∧ w = w' := by
 have h1 : -m < n.tmod m := by have := Int.lt_tmod_of_pos n hm; omega
 have h2 : n.tmod m < m := Int.tmod_lt_of_pos n hm
 have h3 : (n.tmod m + m) % m = n % m := by
  rw [Int.add_emod_right, Int.emod_def, Int.emod_def]
  have e1 := Int.mul_tdiv_add_tmod n m
  have e2 : n.tmod m = n - m * n.tdiv m := by omega
  rw [e2, show n - m * n.tdiv m = n + m * (- n.tdiv m) by rw [Int.mul_neg]; omega, Int.add_mul_ediv_left _ _ (by omega), Int.mul_add]
  omega
 replace h3 := Lib.hid h3
 go_enter Try.func25, Try.ntmps25
 go_wp2
 all_goals go_ret
 all_goals exact ⟨ret_int (by rw [← h3.out]; try simp), rfl⟩
attribute [local go_sem] block_add
attribute [local go_sem ↓] Go.wp_at_zero Go.wp_at_succ

def pxOk (n : Nat) (f : Nat → Int) : Prop := ∀ k, k < n → 0 ≤ f k ∧ f k ≤ 2
instance (n : Nat) (f : Nat → Int) : Decidable (pxOk n f) := by unfold pxOk; infer_instance
def shI (W H : Int) (n : Nat) : Prop := 0 ≤ W ∧ W ≤ 100 ∧ 0 ≤ H ∧ H ≤ 100 ∧ (n : Int) = W * H
instance (W H : Int) (n : Nat) : Decidable (shI W H n) := by unfold shI; infer_instance
def chkI (W H : Int) (n : Nat) (f : Nat → Int) : Int := if shI W H n then (if pxOk n f then 0 else 50) else 50
end Go.Proofs.Ytekkldgmjdllbaa
end
section
namespace Go.Proofs.Ytekkldgmjdllbaa
open Go.RowKit Go.Flow
def shiftB (dx dy : Int) : Bool := decide (-2 ≤ dx ∧ dx ≤ 2 ∧ -2 ≤ dy ∧ dy ≤ 2)
def putE (W H : Int) (n : Nat) (dx dy : Int) : Int := if chk W H n = 0 then (if shiftB dx dy then 0 else 3) else chk W H n
theorem hasB_in {W H : Int} {dot : Nat → Bool} {x y : Int} (h1 : 0 ≤ x) (h2 : x < W) (h3 : 0 ≤ y) (h4 : y < H) : hasB W H dot x y = dot (y * W + x).toNat := by unfold hasB; rw [if_pos ⟨h1, h2, h3, h4⟩]
end Go.Proofs.Ytekkldgmjdllbaa
end
section
namespace Go.Flow
open Go Go.RowKit
def Mine (w : World) (base : Nat) (A : Option Addr) (t : TypeId) (n : Nat) (F : Nat → Value) : Prop := 0 < n → ∃ g, A = some ⟨g, 0, none⟩ ∧ base ≤ g ∧ ∃ cs, Blk w g t cs ∧ ∀ k, k < n → cs[k]? = some (F k)
section
variable {w w' : World} {base n : Nat} {A : Option Addr} {t : TypeId} {F : Nat → Value}
theorem Mine.arr (h : Mine w base A t n F) : Arr w A n F := fun k hk => by
 obtain ⟨g, rfl, -, cs, hb, hc⟩ := h (by omega)
 exact ⟨_, rfl, by rw [show (⟨g, 0, none⟩ : Addr).add k = ⟨g, k, none⟩ by unfold Addr.add; split <;> simp_all, hb.cell]; exact hc k hk⟩
theorem Mine.ext (h : Mine w base A t n F) (hE : Ext w w') : Mine w' base A t n F := fun hn =>
 let ⟨g, e, hg, cs, hb, hc⟩ := h hn
 ⟨g, e, hg, cs, hb.ext hE, hc⟩
theorem Mine.less {base' : Nat} (h : Mine w base A t n F) (hb : base' ≤ base) : Mine w base' A t n F := fun hn =>
 let ⟨g, e, hg, r⟩ := h hn
 ⟨g, e, by omega, r⟩
end
end Go.Flow
namespace Go.Proofs.Ytekkldgmjdllbaa
open Go.RowKit Go.Flow
open Go.Proofs
attribute [local go_sem] block_add
attribute [local go_sem ↓] Go.wp_at_zero Go.wp_at_succ

end Go.Proofs.Ytekkldgmjdllbaa
end
section
namespace Go.AV
open Go Go.RowKit Go.Flow
abbrev iC (i : Int) : CV := .p (.int .i64 i)
abbrev bC (b : Bool) : CV := .p (.bool b)
abbrev iF (f : Nat → Int) (k _ : Nat) : CV := .p (.int .i64 (f k))
abbrev bF (f : Nat → Bool) (k _ : Nat) : CV := .p (.bool (f k))
section
variable {P : Program}
theorem ACalls.of {f : FuncId} {args : List V1} {r : AV} (h : ∀ (O : Nat → Prop) (w : World) (vals : List Value), (∀ b, O b → b < w.heap.size) → RepL (RepV (fun _ => none) O w) args vals →
 Calls P f vals.toArray w fun e w' => ∃ v, e = .returned v ∧ RepA (fun _ => none) O w' r v ∧ Ext w w') : ACalls P f args r := fun b0 vals hH hle hY hv => by
 have hfix : b0.fix = fun _ => none := by
  funext i
  cases hf : b0.fix i with
  | none => rfl
  | some v =>
    have h1 := hle i v hf
    have h2 := (b0.one i v hf).1
    simp at h1
    omega
 rw [hfix] at hH hv hY
 have hlt : ∀ b, out b0 (fun _ => none) (assoc []) b → b < b0.w.heap.size := fun b hb => hb.elim (fun ⟨i, v, h1, _⟩ => absurd rfl h1) (b0.lt b)
 refine (h _ _ vals hlt hv).mono fun e w' ⟨v, h1, h2, h3⟩ => ⟨v, h1, by rw [hfix]; exact h2, ?_, Keep.of_ext h3⟩
 rw [hfix]
 exact ⟨fun i B hB => (by cases hB), fun i j v1 v2 b hi => absurd rfl hi, fun b ⟨i, v, h1, _⟩ => absurd rfl h1, fun i v hi => (by rw [hfix] at hi; cases hi), fun _ _ _ => rfl⟩
theorem ACalls.old {f : FuncId} {args : List V1} {v : Value} (hv : v.oneCell' = true) (h : ∀ (O : Nat → Prop) (w : World) (vals : List Value), RepL (RepV (fun _ => none) O w) args vals → Calls P f vals.toArray w fun e w' => e = .returned v ∧ Ext w w') : ACalls P f args (.c (.p v)) :=
 ACalls.of fun O w vals _ hr => (h O w vals hr).mono fun e w' ⟨h1, h2⟩ => ⟨v, h1, rep_p hv, h2⟩
variable {σ : Nat → Option Value} {O : Nat → Prop} {w : World} {u : Value} {n : Nat}
theorem rep_arr {F : Nat → Nat → CV} {G : Nat → Value} (hF : ∀ k, F k 0 = .p (G k)) (h : RepC σ O w (.ls n 1 F) u) : ∃ A c, u = .slice A n c ∧ n ≤ c ∧ Arr w A n G := by
 obtain ⟨-, A, c, rfl, hc, hx⟩ := h
 refine ⟨A, c, rfl, hc, fun k hk => ?_⟩
 obtain ⟨ad, v, e1, e2, e3, e4, e5⟩ := hx k hk 0 (by omega)
 rw [hF] at e5
 obtain rfl : v = G k := e5
 exact ⟨ad, e1, by simpa using e3⟩
theorem rep_bools {f : Nat → Bool} (h : RepC σ O w (.ls n 1 (bF f)) u) : ∃ A c, u = .slice A n c ∧ n ≤ c ∧ Bools w A n f := rep_arr (fun _ => rfl) h
theorem rep3 {a b : Value} {x : CV} (h : RepV σ O w (.ag [.p a, .p b, x]) u) : ∃ v, u = .agg #[a, b, v] ∧ RepC σ O w x v := by
 obtain ⟨vs, rfl, hl⟩ := h
 match vs, hl with
 | [p, q, r], ⟨h1, h2, h3, _⟩ =>
   obtain rfl : p = a := h1.2
   obtain rfl : q = b := h2.2
   exact ⟨r, rfl, h3⟩
theorem nil_rep {sz : Nat} {F : Nat → Nat → CV} : RepC σ O w (.ls 0 sz F) (.slice none 0 0) := ⟨rfl, none, 0, rfl, Nat.le_refl _, fun k hk => absurd hk (Nat.not_lt_zero _)⟩
end
end Go.AV
namespace Go.Proofs.Ytekkldgmjdllbaa
open Go.RowKit Go.Flow Go.AV
abbrev bmpV (W H : Int) (n : Nat) (f : Nat → Bool) : List CV := [iC W, iC H, .ls n 1 (bF f)]
theorem rep_bmp {σ : Nat → Option Value} {O : Nat → Prop} {w : World} {u : Value} {W H : Int} {n : Nat} {f : Nat → Bool} (h : RepV σ O w (.ag (bmpV W H n f)) u) : ∃ A c, u = bmp W H A n c ∧ n ≤ c ∧ Bools w A n f := by
 obtain ⟨v, rfl, hv⟩ := rep3 h
 obtain ⟨A, c, rfl, h1, h2⟩ := rep_bools hv
 exact ⟨A, c, rfl, h1, h2⟩
theorem rep_c {σ : Nat → Option Value} {O : Nat → Prop} {w : World} {u v : Value} (h : RepV σ O w (.c (.p v)) u) : u = v := h.2
theorem args1 {R : V1 → Value → Prop} {a : V1} {vals : List Value} (h : RepL R [a] vals) : ∃ x, vals = [x] ∧ R a x := by
 match vals, h with
 | [x], ⟨h1, _⟩ => exact ⟨x, rfl, h1⟩
theorem args2 {R : V1 → Value → Prop} {a b : V1} {vals : List Value} (h : RepL R [a, b] vals) : ∃ x y, vals = [x, y] ∧ R a x ∧ R b y := by
 match vals, h with
 | [x, y], ⟨h1, h2, _⟩ => exact ⟨x, y, rfl, h1, h2⟩
theorem args3 {R : V1 → Value → Prop} {a b c : V1} {vals : List Value} (h : RepL R [a, b, c] vals) : ∃ x y z, vals = [x, y, z] ∧ R a x ∧ R b y ∧ R c z := by
 match vals, h with
 | [x, y, z], ⟨h1, h2, h3, _⟩ => exact ⟨x, y, z, rfl, h1, h2, h3⟩
end Go.Proofs.Ytekkldgmjdllbaa
end
