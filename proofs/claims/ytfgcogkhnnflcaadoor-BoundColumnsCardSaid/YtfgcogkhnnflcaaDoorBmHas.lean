/- bitmap.has, Crop. No condition but those that each states. -/
import Derived.Test.YtfgcogkhnnflcaaDoorProg
import Derived.Test.YtfgcogkhnnflcaaDoorBdCount
namespace Go.Proofs.YtfgcogkhnnflcaaDoor
open Go.RowKit Go.Flow Go.Plain
open Go.Proofs
attribute [local go_sem] block_add
attribute [local go_sem ↓] Go.wp_at_zero Go.wp_at_succ

def hasB (W H : Int) (dot : Nat → Bool) (x y : Int) : Bool := if 0 ≤ x ∧ x < W ∧ 0 ≤ y ∧ y < H then dot (y * W + x).toNat else false

theorem has_any (W H : Int) (A : Option Addr) (n c : Nat) (dot : Nat → Bool) (x y : Int) (w : World) (hok : chk W H n = 0) (hA : Bools w A n dot) :
    Calls Tryd.prog 34 #[bmp W H A n c, .agg #[.int .i64 x, .int .i64 y]] w fun e w' => e = .returned (.bool (hasB W H dot x y)) ∧ Ext w w' := by
  have hE := Lib.hid (((Ext.refl w).alloc (.cells #[.int .i64 W, .int .i64 H, .slice A n c] 30)).alloc (.cells #[.int .i64 x, .int .i64 y] 80))
  have hk := okB hok
  clear hok
  by_cases h1 : 0 ≤ x
  · by_cases h2 : x < W
    · by_cases h3 : 0 ≤ y
      · by_cases h4 : y < H
        · have hp0 : 0 ≤ y * W := Int.mul_nonneg h3 (by omega)
          have hp1 : y * W + W ≤ W * H := by
            have : (y + 1) * W ≤ H * W := Int.mul_le_mul_of_nonneg_right (by omega) (by omega)
            rw [Int.add_mul, Int.mul_comm H W] at this
            omega
          have hbd := area_bd ⟨hk.1, hk.2.1⟩ ⟨hk.2.2.1, hk.2.2.2.1⟩
          obtain ⟨hk1, hk2, hk3, hk4, hk5⟩ := hk
          have hlt : y * W + x < n := by omega
          have hub : n ≤ 9216 := by omega
          have e0 : hasB W H dot x y = dot (y * W + x).toNat := by unfold hasB; rw [if_pos ⟨h1, h2, h3, h4⟩]
          rw [e0]
          clear hk5 hbd hp1 e0
          obtain ⟨m, hm⟩ : ∃ m : Nat, y * W + x = m := ⟨(y * W + x).toNat, by omega⟩
          have hmn : m < n := by omega
          obtain ⟨ad, rfl, hc⟩ := hA.ext hE.out m hmn
          have hw1 : IntKind.i64.wrap (y * W) = y * W := by rw [IntKind.wrap_i64]; omega
          have hw2 : IntKind.i64.wrap (y * W + x) = m := by rw [IntKind.wrap_i64]; omega
          have hmn' : (m : Int) < n := by omega
          have e1 : (y * W + x).toNat = m := by omega
          rw [e1]
          clear e1 hm hlt
          go_enter Tryd.func34, Tryd.ntmps34
          go_wp2_with fail
          go_ret
          exact ⟨rfl, hE.out⟩
        · have e0 : hasB W H dot x y = false := by unfold hasB; rw [if_neg (by omega)]
          rw [e0]
          clear e0 hk
          go_enter Tryd.func34, Tryd.ntmps34
          go_wp2_with fail
          go_ret
          exact ⟨rfl, hE.out⟩
      · have e0 : hasB W H dot x y = false := by unfold hasB; rw [if_neg (by omega)]
        rw [e0]
        clear e0 hk
        go_enter Tryd.func34, Tryd.ntmps34
        go_wp2_with fail
        go_ret
        exact ⟨rfl, hE.out⟩
    · have e0 : hasB W H dot x y = false := by unfold hasB; rw [if_neg (by omega)]
      rw [e0]
      clear e0 hk
      go_enter Tryd.func34, Tryd.ntmps34
      go_wp2_with fail
      go_ret
      exact ⟨rfl, hE.out⟩
  · have e0 : hasB W H dot x y = false := by unfold hasB; rw [if_neg (by omega)]
    rw [e0]
    clear e0 hk
    go_enter Tryd.func34, Tryd.ntmps34
    go_wp2_with fail
    go_ret
    exact ⟨rfl, hE.out⟩
end Go.Proofs.YtfgcogkhnnflcaaDoor
