/- Parts of the proof: BmHas, A24j. -/
import Derived.Test.YtekkldgmjdllbaaProg
import Derived.Test.YtekkldgmjdllbaaHA25mkr04
import Derived.Test.YtekkldgmjdllbaaG14
import Derived.Test.YtekkldgmjdllbaaHA25mkr08
import Derived.Test.YtekkldgmjdllbaaG10
import Derived.WalkKit
import Derived.Test.YtekkldgmjdllbaaG01
import Derived.Test.YtekkldgmjdllbaaHA25mkr01
import Derived.Lib.Hide
import Derived.Deep.QuietTactic
import Derived.BigQuiet
import Derived.Deep.DrawnRows
import Derived.StillTail
import Derived.Below
import Derived.Deep.Draws
import Derived.KernelRfl
import Derived.Test.YtekkldgmjdllbaaG16
import Derived.Test.YtekkldgmjdllbaaG15
import Derived.Test.YtekkldgmjdllbaaHA25mkr09
import Derived.Test.YtekkldgmjdllbaaHA25mkr06
import Derived.Test.YtekkldgmjdllbaaHA25mkr10
import Derived.Test.YtekkldgmjdllbaaHA25mkr05
import Derived.Test.YtekkldgmjdllbaaG07
import Derived.Test.YtekkldgmjdllbaaG08
import Derived.Test.YtekkldgmjdllbaaHA25mkr02
import Derived.Test.YtekkldgmjdllbaaG09
import Derived.Test.YtekkldgmjdllbaaHA25mkr03
import Derived.Shelf.Abstract
import Derived.Test.YtekkldgmjdllbaaG06
import Derived.Laws.StructEq
import Derived.Deep.AppendLies
import Derived.Test.YtekkldgmjdllbaaG13
import Derived.RangeFuncNested
import Derived.Maps.AppendAt
import Derived.OwnWalk
import Derived.Test.YtekkldgmjdllbaaG11
import Derived.Laws.Cover3
import Derived.Test.YtekkldgmjdllbaaG05
import Derived.Test.YtekkldgmjdllbaaG04
import Derived.Great.BuildSlice
import Derived.Test.YtekkldgmjdllbaaG03
import Derived.Test.YtekkldgmjdllbaaG02
import Derived.RangeFuncLeaves
import Derived.RangeFuncRecord
import Derived.Test.YtekkldgmjdllbaaG12
import Derived.Test.YtekkldgmjdllbaaHA25mkr07
import Derived.OrdersIn
import Derived.TacticsIn
import Derived.RangeFuncCalls
set_option linter.unusedSimpArgs false
set_option linter.unusedVariables false
section
namespace Go.Proofs.Ytekkldgmjdllbaa
open Go.RowKit Go.Flow Go.Plain
open Go.Proofs
attribute [local go_sem] block_add
attribute [local go_sem ↓] Go.wp_at_zero Go.wp_at_succ

theorem has_any (W H : Int) (A : Option Addr) (n c : Nat) (dot : Nat → Bool) (x y : Int) (w : World) (hok : chk W H n = 0) (hA : Bools w A n dot) :
 Calls Try.prog 65 #[bmp W H A n c, .agg #[.int .i64 x, .int .i64 y]] w fun e w' => e = .returned (.bool (hasB W H dot x y)) ∧ Ext w w' := by
 have hE := Lib.hid (((Ext.refl w).alloc (.cells #[.int .i64 W, .int .i64 H, .slice A n c] 31)).alloc (.cells #[.int .i64 x, .int .i64 y] 124))
 have hk := okB hok
 clear hok
 by_cases h1 : 0 ≤ x
 ·by_cases h2 : x < W
  ·by_cases h3 : 0 ≤ y
   ·by_cases h4 : y < H
    ·have hp0 : 0 ≤ y * W := Int.mul_nonneg h3 (by omega)
     have hp1 : y * W + W ≤ W * H := by
      have : (y + 1) * W ≤ H * W := Int.mul_le_mul_of_nonneg_right (by omega) (by omega)
      rw [Int.add_mul, Int.mul_comm H W] at this
      omega
     have hbd := area_bd ⟨hk.1, hk.2.1⟩ ⟨hk.2.2.1, hk.2.2.2.1⟩
     obtain ⟨hk1, hk2, hk3, hk4, hk5⟩ := hk
     have hlt : y * W + x < n := by omega
     have hub : n ≤ 9216 := by omega
     have e0 : hasB W H dot x y = dot (y * W + x).toNat := by unfold hasB; rw [if_pos ⟨h1, h2, h3, h4⟩]
     rw [e0]
     clear hk5 hbd hp1 e0
     obtain ⟨m, hm⟩ : ∃ m : Nat, y * W + x = m := ⟨(y * W + x).toNat, by omega⟩
     have hmn : m < n := by omega
     obtain ⟨ad, rfl, hc⟩ := hA.ext hE.out m hmn
     have hw1 : IntKind.i64.wrap (y * W) = y * W := by rw [IntKind.wrap_i64]; omega
     have hw2 : IntKind.i64.wrap (y * W + x) = m := by rw [IntKind.wrap_i64]; omega
     have hmn' : (m : Int) < n := by omega
     have e1 : (y * W + x).toNat = m := by omega
     rw [e1]
     clear e1 hm hlt
     go_enter Try.func65, Try.ntmps65
     go_wp2_with fail
     go_ret
     exact ⟨rfl, hE.out⟩
    ·have e0 : hasB W H dot x y = false := by unfold hasB; rw [if_neg (by omega)]
     rw [e0]
     clear e0 hk
     go_enter Try.func65, Try.ntmps65
     go_wp2_with fail
     go_ret
     exact ⟨rfl, hE.out⟩
   ·have e0 : hasB W H dot x y = false := by unfold hasB; rw [if_neg (by omega)]
    rw [e0]
    clear e0 hk
    go_enter Try.func65, Try.ntmps65
    go_wp2_with fail
    go_ret
    exact ⟨rfl, hE.out⟩
  ·have e0 : hasB W H dot x y = false := by unfold hasB; rw [if_neg (by omega)]
   rw [e0]
   clear e0 hk
   go_enter Try.func65, Try.ntmps65
   go_wp2_with fail
   go_ret
   exact ⟨rfl, hE.out⟩
 ·have e0 : hasB W H dot x y = false := by unfold hasB; rw [if_neg (by omega)]
  rw [e0]
  clear e0 hk
  go_enter Try.func65, Try.ntmps65
  go_wp2_with fail
  go_ret
  exact ⟨rfl, hE.out⟩
end Go.Proofs.Ytekkldgmjdllbaa
end
section
namespace Go.Proofs.Ytekkldgmjdllbaa
open Go.RowKit Go.Flow Go.AV Go.Plain
theorem has_A (W H : Int) (n : Nat) (dot : Nat → Bool) (x y : Int) (hok : chk W H n = 0) : ACalls Try.prog 65 [.ag (bmpV W H n dot), .ag [iC x, iC y]] (.c (bC (hasB W H dot x y))) :=
 ACalls.old rfl fun O w vals h => by
  obtain ⟨b, p, rfl, h1, h2⟩ := args2 h
  obtain ⟨A, c, rfl, -, hA⟩ := rep_bmp h1
  obtain ⟨vs, rfl, hv⟩ := h2
  obtain ⟨u, v, rfl, g1, g2⟩ : ∃ u v, vs = [u, v] ∧ RepC (fun _ => none) O w (iC x) u ∧ RepC (fun _ => none) O w (iC y) v := by
   match vs, hv with
   | [u, v], h => exact ⟨u, v, rfl, h.1, h.2.1⟩
   | [], h => exact h.elim
   | [_], h => exact h.2.elim
   | _ :: _ :: _ :: _, h => exact h.2.2.elim
  cases rep_c g1
  cases rep_c g2
  exact has_any W H A n c dot x y w hok hA
set_option maxRecDepth 100000 in
theorem bGet_A (W H : Int) (n : Nat) (dot : Nat → Bool) (x y : Int) (hok : chk W H n = 0) : ACalls Try.prog 23 [.ag (bmpV W H n dot), .c (iC x), .c (iC y)] (.c (bC (hasB W H dot x y))) := by
 have h1 := bCheck_A W H n dot
 rw [hok] at h1
 have h2 := has_A W H n dot x y hok
 refine acalls_at Try.func23 rfl rfl Try.ntmps23 rfl ?_
 repeat (first
  | refine uA ?_
  | refine uB ?_
  | refine AWp.ret ?_
  | (refine rG 0 ?_
     refine qr5 aQ ?_
     refine kC ?_
     refine aB ?_)
  | (refine rG 1 ?_
     refine kF ?_
     refine aH rfl rfl rfl rfl Try.func64 rfl (by kernel_rfl) (h1) ?_
     refine qr5 aW ?_
     refine kA ?_
     refine kF ?_
     (iterate 2 refine kA ?_)
     refine qr8 (aX tyOk) ?_
     refine aH rfl rfl rfl rfl Try.func65 rfl (by kernel_rfl) (h2) ?_
     refine qr4 aS ?_
     refine kC ?_
     refine aB ?_))
 refine ⟨mkSt 17 [(6, .c (bC (hasB W H dot x y)))] [] [], [], Wk.mk [] rfl rfl rfl ?_ trivial, rfl, rfl, aR1⟩
 exact allT
set_option maxRecDepth 100000 in
theorem alike_A (a b : Bp) : ACalls Try.prog 57 [.ag (bpC a), .ag (bpC b)] (.c (bC (decide (cmpOk a b)))) := by
 have h1 := bCheck_A a.W a.H a.n a.d
 have h2 := bCheck_A b.W b.H b.n b.d
 by_cases c1 : chk a.W a.H a.n = 0
 ·by_cases c2 : chk b.W b.H b.n = 0
  ·by_cases c3 : a.W = b.W
   ·by_cases c4 : a.H = b.H
    ·rw [show decide (cmpOk a b) = true from decide_eq_true ⟨c1, c2, c3, c4⟩]
     refine acalls_at Try.func57 rfl rfl Try.ntmps57 rfl ?_
     repeat (first
      | refine uA ?_
      | refine uB ?_
      | refine AWp.ret ?_
      | (refine rG 0 ?_
         (iterate 2 refine qr5 aQ ?_)
         refine kC ?_
         refine aB ?_)
      | (refine rG 1 ?_
         refine kF ?_
         refine aH rfl rfl rfl rfl Try.func64 rfl (by kernel_rfl) (h1) ?_
         refine qr5t aK ?_
         refine kA ?_
         refine kF ?_
         refine aH rfl rfl rfl rfl Try.func64 rfl (by kernel_rfl) (h2) ?_
         refine qr5t aK ?_
         refine qr4 aS ?_
         refine kA ?_
         refine kD ?_
         refine kE ?_
         refine kD ?_
         refine kE ?_
         refine qr5t aK ?_
         refine qr4 aS ?_
         refine kA ?_
         refine kD ?_
         refine kE ?_
         refine kD ?_
         refine kE ?_
         refine qr5t aK ?_
         refine qr4 aS ?_
         refine kC ?_
         refine aB ?_))
     refine ⟨mkSt 27 [(4, .c (bC true))] [] [], [], Wk.mk [] rfl rfl rfl ?_ trivial, rfl, rfl, aR1⟩
     exact allT
    ·rw [show decide (cmpOk a b) = false from decide_eq_false fun h => c4 h.2.2.2]
     refine acalls_at Try.func57 rfl rfl Try.ntmps57 rfl ?_
     repeat (first
      | refine uA ?_
      | refine uB ?_
      | refine AWp.ret ?_
      | (refine rG 0 ?_
         (iterate 2 refine qr5 aQ ?_)
         refine kC ?_
         refine aB ?_)
      | (refine rG 1 ?_
         refine kF ?_
         refine aH rfl rfl rfl rfl Try.func64 rfl (by kernel_rfl) (h1) ?_
         refine qr5t aK ?_
         refine kA ?_
         refine kF ?_
         refine aH rfl rfl rfl rfl Try.func64 rfl (by kernel_rfl) (h2) ?_
         refine qr5t aK ?_
         refine qr4 aS ?_
         refine kA ?_
         refine kD ?_
         refine kE ?_
         refine kD ?_
         refine kE ?_
         refine qr5t aK ?_
         refine qr4 aS ?_
         refine kA ?_
         refine kD ?_
         refine kE ?_
         refine kD ?_
         refine kE ?_
         refine qr5f aJ ?_
         refine qr4 aS ?_
         refine kC ?_
         refine aB ?_))
     refine ⟨mkSt 27 [(4, .c (bC false))] [] [], [], Wk.mk [] rfl rfl rfl ?_ trivial, rfl, rfl, aR1⟩
     exact allT
   ·rw [show decide (cmpOk a b) = false from decide_eq_false fun h => c3 h.2.2.1]
    refine acalls_at Try.func57 rfl rfl Try.ntmps57 rfl ?_
    repeat (first
     | refine uA ?_
     | refine uB ?_
     | refine AWp.ret ?_
     | (refine rG 0 ?_
        (iterate 2 refine qr5 aQ ?_)
        refine kC ?_
        refine aB ?_)
     | (refine rG 1 ?_
        refine kF ?_
        refine aH rfl rfl rfl rfl Try.func64 rfl (by kernel_rfl) (h1) ?_
        refine qr5t aK ?_
        refine kA ?_
        refine kF ?_
        refine aH rfl rfl rfl rfl Try.func64 rfl (by kernel_rfl) (h2) ?_
        refine qr5t aK ?_
        refine qr4 aS ?_
        refine kA ?_
        refine kD ?_
        refine kE ?_
        refine kD ?_
        refine kE ?_
        refine qr5f aJ ?_
        refine qr4 aS ?_
        refine kA ?_
        (iterate 5 refine qr2 aG ?_)
        refine qr4 aR ?_
        refine kC ?_
        refine aB ?_))
    refine ⟨mkSt 27 [(4, .c (bC false))] [] [], [], Wk.mk [] rfl rfl rfl ?_ trivial, rfl, rfl, aR1⟩
    exact allT
  ·rw [show decide (cmpOk a b) = false from decide_eq_false fun h => c2 h.2.1]
   refine acalls_at Try.func57 rfl rfl Try.ntmps57 rfl ?_
   repeat (first
    | refine uA ?_
    | refine uB ?_
    | refine AWp.ret ?_
    | (refine rG 0 ?_
       (iterate 2 refine qr5 aQ ?_)
       refine kC ?_
       refine aB ?_)
    | (refine rG 1 ?_
       refine kF ?_
       refine aH rfl rfl rfl rfl Try.func64 rfl (by kernel_rfl) (h1) ?_
       refine qr5t aK ?_
       refine kA ?_
       refine kF ?_
       refine aH rfl rfl rfl rfl Try.func64 rfl (by kernel_rfl) (h2) ?_
       refine qr5f aJ ?_
       refine qr4 aS ?_
       refine kA ?_
       (iterate 5 refine qr2 aG ?_)
       refine qr4 aR ?_
       refine kA ?_
       (iterate 5 refine qr2 aG ?_)
       refine qr4 aR ?_
       refine kC ?_
       refine aB ?_))
   refine ⟨mkSt 27 [(4, .c (bC false))] [] [], [], Wk.mk [] rfl rfl rfl ?_ trivial, rfl, rfl, aR1⟩
   exact allT
 ·rw [show decide (cmpOk a b) = false from decide_eq_false fun h => c1 h.1]
  refine acalls_at Try.func57 rfl rfl Try.ntmps57 rfl ?_
  repeat (first
   | refine uA ?_
   | refine uB ?_
   | refine AWp.ret ?_
   | (refine rG 0 ?_
      (iterate 2 refine qr5 aQ ?_)
      refine kC ?_
      refine aB ?_)
   | (refine rG 1 ?_
      refine kF ?_
      refine aH rfl rfl rfl rfl Try.func64 rfl (by kernel_rfl) (h1) ?_
      refine qr5f aJ ?_
      refine kA ?_
      (iterate 3 refine qr2 aG ?_)
      refine qr4 aR ?_
      refine kA ?_
      (iterate 5 refine qr2 aG ?_)
      refine qr4 aR ?_
      refine kA ?_
      (iterate 5 refine qr2 aG ?_)
      refine qr4 aR ?_
      refine kC ?_
      refine aB ?_))
  refine ⟨mkSt 27 [(4, .c (bC false))] [] [], [], Wk.mk [] rfl rfl rfl ?_ trivial, rfl, rfl, aR1⟩
  exact allT
def alB (a b : Bp) (dx dy : Int) (j i : Nat) : Bool := hasB a.W a.H a.d i j && !hasB b.W b.H b.d ((i : Int) - dx) ((j : Int) - dy)
end Go.Proofs.Ytekkldgmjdllbaa
end
