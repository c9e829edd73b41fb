/- Parts of the proof: BmHas, A24j, A24k. -/
import Derived.Test.YtfgcogkhnnflcaaDoorProg
import Derived.Test.YtfgcogkhnnflcaaDoorG02
import Derived.Test.YtfgcogkhnnflcaaDoorG01
import Derived.Test.YtfgcogkhnnflcaaDoorHA26nbc01
import Derived.WalkKit
import Derived.Lib.Hide
import Derived.Deep.QuietTactic
import Derived.BigQuiet
import Derived.Deep.DrawnRows
import Derived.StillTail
import Derived.Below
import Derived.Deep.Draws
import Derived.KernelRfl
import Derived.Test.YtfgcogkhnnflcaaDoorG17
import Derived.Test.YtfgcogkhnnflcaaDoorG16
import Derived.Test.YtfgcogkhnnflcaaDoorHA26nbc10
import Derived.Test.YtfgcogkhnnflcaaDoorHA26nbc09
import Derived.Test.YtfgcogkhnnflcaaDoorHA26nbc08
import Derived.Test.YtfgcogkhnnflcaaDoorHA26nbc11
import Derived.Test.YtfgcogkhnnflcaaDoorHA26nbc07
import Derived.Test.YtfgcogkhnnflcaaDoorG14
import Derived.Test.YtfgcogkhnnflcaaDoorHA26nbc04
import Derived.Test.YtfgcogkhnnflcaaDoorG11
import Derived.Test.YtfgcogkhnnflcaaDoorHA26nbc06
import Derived.Test.YtfgcogkhnnflcaaDoorG05
import Derived.Test.YtfgcogkhnnflcaaDoorG12
import Derived.Test.YtfgcogkhnnflcaaDoorG13
import Derived.Test.YtfgcogkhnnflcaaDoorHA26nbc05
import Derived.Shelf.Abstract
import Derived.Test.YtfgcogkhnnflcaaDoorG06
import Derived.Test.YtfgcogkhnnflcaaDoorHA26nbc03
import Derived.Laws.StructEq
import Derived.Test.YtfgcogkhnnflcaaDoorG04
import Derived.Deep.AppendLies
import Derived.RangeFuncNested
import Derived.Maps.AppendAt
import Derived.OwnWalk
import Derived.Test.YtfgcogkhnnflcaaDoorG15
import Derived.Laws.Cover3
import Derived.Test.YtfgcogkhnnflcaaDoorG10
import Derived.Test.YtfgcogkhnnflcaaDoorHA26nbc02
import Derived.Great.BuildSlice
import Derived.Test.YtfgcogkhnnflcaaDoorG09
import Derived.RangeFuncLeaves
import Derived.RangeFuncRecord
import Derived.Test.YtfgcogkhnnflcaaDoorG08
import Derived.OrdersIn
import Derived.TacticsIn
import Derived.RangeFuncCalls
set_option linter.unusedSimpArgs false
set_option linter.unusedVariables false
section
namespace Go.Proofs.YtfgcogkhnnflcaaDoor
open Go.RowKit Go.Flow Go.Plain
open Go.Proofs
attribute [local go_sem] block_add
attribute [local go_sem ↓] Go.wp_at_zero Go.wp_at_succ

theorem has_any (W H : Int) (A : Option Addr) (n c : Nat) (dot : Nat → Bool) (x y : Int) (w : World) (hok : chk W H n = 0) (hA : Bools w A n dot) :
    Calls Tryd.prog 34 #[bmp W H A n c, .agg #[.int .i64 x, .int .i64 y]] w fun e w' => e = .returned (.bool (hasB W H dot x y)) ∧ Ext w w' := by
  have hE := Lib.hid (((Ext.refl w).alloc (.cells #[.int .i64 W, .int .i64 H, .slice A n c] 30)).alloc (.cells #[.int .i64 x, .int .i64 y] 80))
  have hk := okB hok
  clear hok
  by_cases h1 : 0 ≤ x
  · by_cases h2 : x < W
    · by_cases h3 : 0 ≤ y
      · by_cases h4 : y < H
        · have hp0 : 0 ≤ y * W := Int.mul_nonneg h3 (by omega)
          have hp1 : y * W + W ≤ W * H := by
            have : (y + 1) * W ≤ H * W := Int.mul_le_mul_of_nonneg_right (by omega) (by omega)
            rw [Int.add_mul, Int.mul_comm H W] at this
            omega
          have hbd := area_bd ⟨hk.1, hk.2.1⟩ ⟨hk.2.2.1, hk.2.2.2.1⟩
          obtain ⟨hk1, hk2, hk3, hk4, hk5⟩ := hk
          have hlt : y * W + x < n := by omega
          have hub : n ≤ 9216 := by omega
          have e0 : hasB W H dot x y = dot (y * W + x).toNat := by unfold hasB; rw [if_pos ⟨h1, h2, h3, h4⟩]
          rw [e0]
          clear hk5 hbd hp1 e0
          obtain ⟨m, hm⟩ : ∃ m : Nat, y * W + x = m := ⟨(y * W + x).toNat, by omega⟩
          have hmn : m < n := by omega
          obtain ⟨ad, rfl, hc⟩ := hA.ext hE.out m hmn
          have hw1 : IntKind.i64.wrap (y * W) = y * W := by rw [IntKind.wrap_i64]; omega
          have hw2 : IntKind.i64.wrap (y * W + x) = m := by rw [IntKind.wrap_i64]; omega
          have hmn' : (m : Int) < n := by omega
          have e1 : (y * W + x).toNat = m := by omega
          rw [e1]
          clear e1 hm hlt
          go_enter Tryd.func34, Tryd.ntmps34
          go_wp2_with fail
          go_ret
          exact ⟨rfl, hE.out⟩
        · have e0 : hasB W H dot x y = false := by unfold hasB; rw [if_neg (by omega)]
          rw [e0]
          clear e0 hk
          go_enter Tryd.func34, Tryd.ntmps34
          go_wp2_with fail
          go_ret
          exact ⟨rfl, hE.out⟩
      · have e0 : hasB W H dot x y = false := by unfold hasB; rw [if_neg (by omega)]
        rw [e0]
        clear e0 hk
        go_enter Tryd.func34, Tryd.ntmps34
        go_wp2_with fail
        go_ret
        exact ⟨rfl, hE.out⟩
    · have e0 : hasB W H dot x y = false := by unfold hasB; rw [if_neg (by omega)]
      rw [e0]
      clear e0 hk
      go_enter Tryd.func34, Tryd.ntmps34
      go_wp2_with fail
      go_ret
      exact ⟨rfl, hE.out⟩
  · have e0 : hasB W H dot x y = false := by unfold hasB; rw [if_neg (by omega)]
    rw [e0]
    clear e0 hk
    go_enter Tryd.func34, Tryd.ntmps34
    go_wp2_with fail
    go_ret
    exact ⟨rfl, hE.out⟩
end Go.Proofs.YtfgcogkhnnflcaaDoor
end

section
namespace Go.Proofs.YtfgcogkhnnflcaaDoor
open Go.RowKit Go.Flow Go.AV Go.Plain
theorem has_A (W H : Int) (n : Nat) (dot : Nat → Bool) (x y : Int) (hok : chk W H n = 0) : ACalls Tryd.prog 34 [.ag (bmpV W H n dot), .ag [iC x, iC y]] (.c (bC (hasB W H dot x y))) :=
  ACalls.old rfl fun O w vals h => by
    obtain ⟨b, p, rfl, h1, h2⟩ := args2 h
    obtain ⟨A, c, rfl, -, hA⟩ := rep_bmp h1
    obtain ⟨vs, rfl, hv⟩ := h2
    obtain ⟨u, v, rfl, g1, g2⟩ : ∃ u v, vs = [u, v] ∧ RepC (fun _ => none) O w (iC x) u ∧ RepC (fun _ => none) O w (iC y) v := by
      match vs, hv with
      | [u, v], h => exact ⟨u, v, rfl, h.1, h.2.1⟩
      | [], h => exact h.elim
      | [_], h => exact h.2.elim
      | _ :: _ :: _ :: _, h => exact h.2.2.elim
    cases rep_c g1
    cases rep_c g2
    exact has_any W H A n c dot x y w hok hA
set_option maxRecDepth 100000 in
theorem bGet_A (W H : Int) (n : Nat) (dot : Nat → Bool) (x y : Int) (hok : chk W H n = 0) : ACalls Tryd.prog 55 [.ag (bmpV W H n dot), .c (iC x), .c (iC y)] (.c (bC (hasB W H dot x y))) := by
  have h1 := bCheck_A W H n dot
  rw [hok] at h1
  have h2 := has_A W H n dot x y hok
  refine acalls_at Tryd.func55 rfl rfl Tryd.ntmps55 rfl ?_
  -- ax 1 bitmap.Get
  repeat (first
    | refine AWp.seq ?_
    | refine thenA_n ?_
    | refine AWp.block ?_
    | refine AWp.skip ?_
    | refine AWp.exit ?_
    | refine AWp.ret ?_
    | refine thenA_e ?_
    | refine thenA_r ?_
    | refine inBlk_n ?_
    | refine inBlk_r ?_
    | refine inBlk_hit ?_
    | refine inBlk_miss rfl ?_
    | refine AWp.condT rfl (by first | rfl | assumption | exact cmT) ?_
    | refine AWp.condF rfl (by first | rfl | assumption | exact cmF) ?_
    | refine AWp.scope (fun _ _ h => h) ?_
    | refine AWp.label ?_
    | (refine AWp.region (id := 0) ?_; refine AList.box rfl rfl rfl rfl rfl ?_; refine AList.assign rfl rfl rfl ?_; refine AList.nil ?_)
    | (refine AWp.region (id := 1) ?_; (first | refine AList.loadA tyOk rfl rfl rfl rfl rfl rfl rfl oM oM ?_ | refine AList.loadAl tyOk rfl rfl rfl rfl rfl oM ?_); refine AList.call rfl rfl rfl rfl Tryd.func26 rfl (by kernel_rfl) (h1) ?_; (first | refine AList.cmpT rfl rfl rfl rfl rfl cmT ?_ | refine AList.cmpF rfl rfl rfl rfl rfl cmF ?_ | refine AList.cmp rfl rfl rfl rfl rfl ?_); refine AList.move rfl rfl rfl ?_; (first | refine AList.skip rfl rfl ?_ | refine AList.loadA tyOk rfl rfl rfl rfl rfl rfl rfl oM oM ?_ | refine AList.loadAl tyOk rfl rfl rfl rfl rfl oM ?_); (first | refine AList.skip rfl rfl ?_ | refine AList.move rfl rfl rfl ?_); (first | refine AList.skip rfl rfl ?_ | refine AList.move rfl rfl rfl ?_); (first | refine AList.skip rfl rfl ?_ | refine AList.buildSt tyOk rfl rfl rfl rfl rfl rfl rfl rfl ?_ | refine AList.buildArr tyOk rfl rfl rfl rfl rfl rfl rfl rfl ?_); (first | refine AList.skip rfl rfl ?_ | refine AList.call rfl rfl rfl rfl Tryd.func34 rfl (by kernel_rfl) (h2) ?_); (first | refine AList.pickT rfl rfl rfl rfl ?_ | refine AList.pickF rfl rfl rfl rfl ?_ | refine AList.pick rfl rfl rfl rfl rfl ?_); refine AList.assign rfl rfl rfl ?_; refine AList.nil ?_))
  refine ⟨mkSt 17 [(6, .c (bC (hasB W H dot x y)))] [] [], [], Wk.mk [] rfl rfl rfl ?_ trivial, rfl, rfl, ARets.one (x := .c _) (ARes.tmp rfl rfl)⟩
  repeat (first | exact trivial | refine ⟨⟨_, rfl, by first | exact LeA.c (LeC.refl _ rfl) | exact LeA.c (LeC.ow _ _ rfl) | exact LeA.c (LeC.pt _ _ _ _ _ rfl) | exact LeA.c (LeC.nil _ rfl) | exact LeA.c (LeC.nils _ _) | (refine LeA.int ?_; omega) | (refine LeA.int ?_; dsimp only; omega) | exact LeA.c (LeC.fz rfl rfl (by first | rfl | omega) (fun i _ j _ => ⟨rfl, by first | rfl | exact rowN_imm (fun _ => rfl) _ i j | exact rowF_imm (fun _ => rfl) _ i j⟩))⟩, ?_⟩)
set_option maxRecDepth 100000 in
theorem alike_A (a b : Bp) : ACalls Tryd.prog 37 [.ag (bpC a), .ag (bpC b)] (.c (bC (decide (cmpOk a b)))) := by
  have h1 := bCheck_A a.W a.H a.n a.d
  have h2 := bCheck_A b.W b.H b.n b.d
  by_cases c1 : chk a.W a.H a.n = 0
  · by_cases c2 : chk b.W b.H b.n = 0
    · by_cases c3 : a.W = b.W
      · by_cases c4 : a.H = b.H
        · rw [show decide (cmpOk a b) = true from decide_eq_true ⟨c1, c2, c3, c4⟩]
          refine acalls_at Tryd.func37 rfl rfl Tryd.ntmps37 rfl ?_
          -- ax 2 apart.alike
          repeat (first
            | refine AWp.seq ?_
            | refine thenA_n ?_
            | refine AWp.block ?_
            | refine AWp.skip ?_
            | refine AWp.exit ?_
            | refine AWp.ret ?_
            | refine thenA_e ?_
            | refine thenA_r ?_
            | refine inBlk_n ?_
            | refine inBlk_r ?_
            | refine inBlk_hit ?_
            | refine inBlk_miss rfl ?_
            | refine AWp.condT rfl (by first | rfl | assumption | exact cmT) ?_
            | refine AWp.condF rfl (by first | rfl | assumption | exact cmF) ?_
            | refine AWp.scope (fun _ _ h => h) ?_
            | refine AWp.label ?_
            | (refine AWp.region (id := 0) ?_; refine AList.box rfl rfl rfl rfl rfl ?_; refine AList.box rfl rfl rfl rfl rfl ?_; refine AList.assign rfl rfl rfl ?_; refine AList.nil ?_)
            | (refine AWp.region (id := 1) ?_; (first | refine AList.loadA tyOk rfl rfl rfl rfl rfl rfl rfl oM oM ?_ | refine AList.loadAl tyOk rfl rfl rfl rfl rfl oM ?_); (first | refine AList.call rfl rfl rfl rfl Tryd.func26 rfl (by kernel_rfl) (h1) ?_ | refine AList.call rfl rfl rfl rfl Tryd.func26 rfl (by kernel_rfl) (h2) ?_); (first | refine AList.cmpT rfl rfl rfl rfl rfl cmT ?_ | refine AList.cmpF rfl rfl rfl rfl rfl cmF ?_ | refine AList.cmp rfl rfl rfl rfl rfl ?_); refine AList.move rfl rfl rfl ?_; (first | refine AList.skip rfl rfl ?_ | refine AList.loadA tyOk rfl rfl rfl rfl rfl rfl rfl oM oM ?_ | refine AList.loadAl tyOk rfl rfl rfl rfl rfl oM ?_); (first | refine AList.skip rfl rfl ?_ | refine AList.call rfl rfl rfl rfl Tryd.func26 rfl (by kernel_rfl) (h1) ?_ | refine AList.call rfl rfl rfl rfl Tryd.func26 rfl (by kernel_rfl) (h2) ?_); (first | refine AList.skip rfl rfl ?_ | refine AList.cmpT rfl rfl rfl rfl rfl cmT ?_ | refine AList.cmpF rfl rfl rfl rfl rfl cmF ?_ | refine AList.cmp rfl rfl rfl rfl rfl ?_); (first | refine AList.pickT rfl rfl rfl rfl ?_ | refine AList.pickF rfl rfl rfl rfl ?_ | refine AList.pick rfl rfl rfl rfl rfl ?_); refine AList.move rfl rfl rfl ?_; (first | refine AList.skip rfl rfl ?_ | refine AList.fieldPt tyOk rfl rfl rfl rfl rfl rfl rfl ?_ | refine AList.fieldPl tyOk rfl rfl rfl rfl rfl rfl rfl ?_); (first | refine AList.skip rfl rfl ?_ | refine AList.load1 tyOk rfl rfl rfl rfl rfl rfl rfl oM oM ?_ | refine AList.load1l tyOk rfl rfl rfl rfl rfl oM ?_); (first | refine AList.skip rfl rfl ?_ | refine AList.fieldPt tyOk rfl rfl rfl rfl rfl rfl rfl ?_ | refine AList.fieldPl tyOk rfl rfl rfl rfl rfl rfl rfl ?_); (first | refine AList.skip rfl rfl ?_ | refine AList.load1 tyOk rfl rfl rfl rfl rfl rfl rfl oM oM ?_ | refine AList.load1l tyOk rfl rfl rfl rfl rfl oM ?_); (first | refine AList.skip rfl rfl ?_ | refine AList.cmpT rfl rfl rfl rfl rfl cmT ?_ | refine AList.cmpF rfl rfl rfl rfl rfl cmF ?_ | refine AList.cmp rfl rfl rfl rfl rfl ?_); (first | refine AList.pickT rfl rfl rfl rfl ?_ | refine AList.pickF rfl rfl rfl rfl ?_ | refine AList.pick rfl rfl rfl rfl rfl ?_); refine AList.move rfl rfl rfl ?_; (first | refine AList.skip rfl rfl ?_ | refine AList.fieldPt tyOk rfl rfl rfl rfl rfl rfl rfl ?_ | refine AList.fieldPl tyOk rfl rfl rfl rfl rfl rfl rfl ?_); (first | refine AList.skip rfl rfl ?_ | refine AList.load1 tyOk rfl rfl rfl rfl rfl rfl rfl oM oM ?_ | refine AList.load1l tyOk rfl rfl rfl rfl rfl oM ?_); (first | refine AList.skip rfl rfl ?_ | refine AList.fieldPt tyOk rfl rfl rfl rfl rfl rfl rfl ?_ | refine AList.fieldPl tyOk rfl rfl rfl rfl rfl rfl rfl ?_); (first | refine AList.skip rfl rfl ?_ | refine AList.load1 tyOk rfl rfl rfl rfl rfl rfl rfl oM oM ?_ | refine AList.load1l tyOk rfl rfl rfl rfl rfl oM ?_); (first | refine AList.skip rfl rfl ?_ | refine AList.cmpT rfl rfl rfl rfl rfl cmT ?_ | refine AList.cmpF rfl rfl rfl rfl rfl cmF ?_ | refine AList.cmp rfl rfl rfl rfl rfl ?_); (first | refine AList.pickT rfl rfl rfl rfl ?_ | refine AList.pickF rfl rfl rfl rfl ?_ | refine AList.pick rfl rfl rfl rfl rfl ?_); refine AList.assign rfl rfl rfl ?_; refine AList.nil ?_))
          refine ⟨mkSt 27 [(4, .c (bC true))] [] [], [], Wk.mk [] rfl rfl rfl ?_ trivial, rfl, rfl, ARets.one (x := .c _) (ARes.tmp rfl rfl)⟩
          repeat (first | exact trivial | refine ⟨⟨_, rfl, by first | exact LeA.c (LeC.refl _ rfl) | exact LeA.c (LeC.ow _ _ rfl) | exact LeA.c (LeC.pt _ _ _ _ _ rfl) | exact LeA.c (LeC.nil _ rfl) | exact LeA.c (LeC.nils _ _) | (refine LeA.int ?_; omega) | (refine LeA.int ?_; dsimp only; omega) | exact LeA.c (LeC.fz rfl rfl (by first | rfl | omega) (fun i _ j _ => ⟨rfl, by first | rfl | exact rowN_imm (fun _ => rfl) _ i j | exact rowF_imm (fun _ => rfl) _ i j⟩))⟩, ?_⟩)
        · rw [show decide (cmpOk a b) = false from decide_eq_false fun h => c4 h.2.2.2]
          refine acalls_at Tryd.func37 rfl rfl Tryd.ntmps37 rfl ?_
          -- ax 3 apart.alike
          repeat (first
            | refine AWp.seq ?_
            | refine thenA_n ?_
            | refine AWp.block ?_
            | refine AWp.skip ?_
            | refine AWp.exit ?_
            | refine AWp.ret ?_
            | refine thenA_e ?_
            | refine thenA_r ?_
            | refine inBlk_n ?_
            | refine inBlk_r ?_
            | refine inBlk_hit ?_
            | refine inBlk_miss rfl ?_
            | refine AWp.condT rfl (by first | rfl | assumption | exact cmT) ?_
            | refine AWp.condF rfl (by first | rfl | assumption | exact cmF) ?_
            | refine AWp.scope (fun _ _ h => h) ?_
            | refine AWp.label ?_
            | (refine AWp.region (id := 0) ?_; refine AList.box rfl rfl rfl rfl rfl ?_; refine AList.box rfl rfl rfl rfl rfl ?_; refine AList.assign rfl rfl rfl ?_; refine AList.nil ?_)
            | (refine AWp.region (id := 1) ?_; (first | refine AList.loadA tyOk rfl rfl rfl rfl rfl rfl rfl oM oM ?_ | refine AList.loadAl tyOk rfl rfl rfl rfl rfl oM ?_); (first | refine AList.call rfl rfl rfl rfl Tryd.func26 rfl (by kernel_rfl) (h1) ?_ | refine AList.call rfl rfl rfl rfl Tryd.func26 rfl (by kernel_rfl) (h2) ?_); (first | refine AList.cmpT rfl rfl rfl rfl rfl cmT ?_ | refine AList.cmpF rfl rfl rfl rfl rfl cmF ?_ | refine AList.cmp rfl rfl rfl rfl rfl ?_); refine AList.move rfl rfl rfl ?_; (first | refine AList.skip rfl rfl ?_ | refine AList.loadA tyOk rfl rfl rfl rfl rfl rfl rfl oM oM ?_ | refine AList.loadAl tyOk rfl rfl rfl rfl rfl oM ?_); (first | refine AList.skip rfl rfl ?_ | refine AList.call rfl rfl rfl rfl Tryd.func26 rfl (by kernel_rfl) (h1) ?_ | refine AList.call rfl rfl rfl rfl Tryd.func26 rfl (by kernel_rfl) (h2) ?_); (first | refine AList.skip rfl rfl ?_ | refine AList.cmpT rfl rfl rfl rfl rfl cmT ?_ | refine AList.cmpF rfl rfl rfl rfl rfl cmF ?_ | refine AList.cmp rfl rfl rfl rfl rfl ?_); (first | refine AList.pickT rfl rfl rfl rfl ?_ | refine AList.pickF rfl rfl rfl rfl ?_ | refine AList.pick rfl rfl rfl rfl rfl ?_); refine AList.move rfl rfl rfl ?_; (first | refine AList.skip rfl rfl ?_ | refine AList.fieldPt tyOk rfl rfl rfl rfl rfl rfl rfl ?_ | refine AList.fieldPl tyOk rfl rfl rfl rfl rfl rfl rfl ?_); (first | refine AList.skip rfl rfl ?_ | refine AList.load1 tyOk rfl rfl rfl rfl rfl rfl rfl oM oM ?_ | refine AList.load1l tyOk rfl rfl rfl rfl rfl oM ?_); (first | refine AList.skip rfl rfl ?_ | refine AList.fieldPt tyOk rfl rfl rfl rfl rfl rfl rfl ?_ | refine AList.fieldPl tyOk rfl rfl rfl rfl rfl rfl rfl ?_); (first | refine AList.skip rfl rfl ?_ | refine AList.load1 tyOk rfl rfl rfl rfl rfl rfl rfl oM oM ?_ | refine AList.load1l tyOk rfl rfl rfl rfl rfl oM ?_); (first | refine AList.skip rfl rfl ?_ | refine AList.cmpT rfl rfl rfl rfl rfl cmT ?_ | refine AList.cmpF rfl rfl rfl rfl rfl cmF ?_ | refine AList.cmp rfl rfl rfl rfl rfl ?_); (first | refine AList.pickT rfl rfl rfl rfl ?_ | refine AList.pickF rfl rfl rfl rfl ?_ | refine AList.pick rfl rfl rfl rfl rfl ?_); refine AList.move rfl rfl rfl ?_; (first | refine AList.skip rfl rfl ?_ | refine AList.fieldPt tyOk rfl rfl rfl rfl rfl rfl rfl ?_ | refine AList.fieldPl tyOk rfl rfl rfl rfl rfl rfl rfl ?_); (first | refine AList.skip rfl rfl ?_ | refine AList.load1 tyOk rfl rfl rfl rfl rfl rfl rfl oM oM ?_ | refine AList.load1l tyOk rfl rfl rfl rfl rfl oM ?_); (first | refine AList.skip rfl rfl ?_ | refine AList.fieldPt tyOk rfl rfl rfl rfl rfl rfl rfl ?_ | refine AList.fieldPl tyOk rfl rfl rfl rfl rfl rfl rfl ?_); (first | refine AList.skip rfl rfl ?_ | refine AList.load1 tyOk rfl rfl rfl rfl rfl rfl rfl oM oM ?_ | refine AList.load1l tyOk rfl rfl rfl rfl rfl oM ?_); (first | refine AList.skip rfl rfl ?_ | refine AList.cmpT rfl rfl rfl rfl rfl cmT ?_ | refine AList.cmpF rfl rfl rfl rfl rfl cmF ?_ | refine AList.cmp rfl rfl rfl rfl rfl ?_); (first | refine AList.pickT rfl rfl rfl rfl ?_ | refine AList.pickF rfl rfl rfl rfl ?_ | refine AList.pick rfl rfl rfl rfl rfl ?_); refine AList.assign rfl rfl rfl ?_; refine AList.nil ?_))
          refine ⟨mkSt 27 [(4, .c (bC false))] [] [], [], Wk.mk [] rfl rfl rfl ?_ trivial, rfl, rfl, ARets.one (x := .c _) (ARes.tmp rfl rfl)⟩
          repeat (first | exact trivial | refine ⟨⟨_, rfl, by first | exact LeA.c (LeC.refl _ rfl) | exact LeA.c (LeC.ow _ _ rfl) | exact LeA.c (LeC.pt _ _ _ _ _ rfl) | exact LeA.c (LeC.nil _ rfl) | exact LeA.c (LeC.nils _ _) | (refine LeA.int ?_; omega) | (refine LeA.int ?_; dsimp only; omega) | exact LeA.c (LeC.fz rfl rfl (by first | rfl | omega) (fun i _ j _ => ⟨rfl, by first | rfl | exact rowN_imm (fun _ => rfl) _ i j | exact rowF_imm (fun _ => rfl) _ i j⟩))⟩, ?_⟩)
      · rw [show decide (cmpOk a b) = false from decide_eq_false fun h => c3 h.2.2.1]
        refine acalls_at Tryd.func37 rfl rfl Tryd.ntmps37 rfl ?_
        -- ax 4 apart.alike
        repeat (first
          | refine AWp.seq ?_
          | refine thenA_n ?_
          | refine AWp.block ?_
          | refine AWp.skip ?_
          | refine AWp.exit ?_
          | refine AWp.ret ?_
          | refine thenA_e ?_
          | refine thenA_r ?_
          | refine inBlk_n ?_
          | refine inBlk_r ?_
          | refine inBlk_hit ?_
          | refine inBlk_miss rfl ?_
          | refine AWp.condT rfl (by first | rfl | assumption | exact cmT) ?_
          | refine AWp.condF rfl (by first | rfl | assumption | exact cmF) ?_
          | refine AWp.scope (fun _ _ h => h) ?_
          | refine AWp.label ?_
          | (refine AWp.region (id := 0) ?_; refine AList.box rfl rfl rfl rfl rfl ?_; refine AList.box rfl rfl rfl rfl rfl ?_; refine AList.assign rfl rfl rfl ?_; refine AList.nil ?_)
          | (refine AWp.region (id := 1) ?_; (first | refine AList.loadA tyOk rfl rfl rfl rfl rfl rfl rfl oM oM ?_ | refine AList.loadAl tyOk rfl rfl rfl rfl rfl oM ?_); (first | refine AList.call rfl rfl rfl rfl Tryd.func26 rfl (by kernel_rfl) (h1) ?_ | refine AList.call rfl rfl rfl rfl Tryd.func26 rfl (by kernel_rfl) (h2) ?_); (first | refine AList.cmpT rfl rfl rfl rfl rfl cmT ?_ | refine AList.cmpF rfl rfl rfl rfl rfl cmF ?_ | refine AList.cmp rfl rfl rfl rfl rfl ?_); refine AList.move rfl rfl rfl ?_; (first | refine AList.skip rfl rfl ?_ | refine AList.loadA tyOk rfl rfl rfl rfl rfl rfl rfl oM oM ?_ | refine AList.loadAl tyOk rfl rfl rfl rfl rfl oM ?_); (first | refine AList.skip rfl rfl ?_ | refine AList.call rfl rfl rfl rfl Tryd.func26 rfl (by kernel_rfl) (h1) ?_ | refine AList.call rfl rfl rfl rfl Tryd.func26 rfl (by kernel_rfl) (h2) ?_); (first | refine AList.skip rfl rfl ?_ | refine AList.cmpT rfl rfl rfl rfl rfl cmT ?_ | refine AList.cmpF rfl rfl rfl rfl rfl cmF ?_ | refine AList.cmp rfl rfl rfl rfl rfl ?_); (first | refine AList.pickT rfl rfl rfl rfl ?_ | refine AList.pickF rfl rfl rfl rfl ?_ | refine AList.pick rfl rfl rfl rfl rfl ?_); refine AList.move rfl rfl rfl ?_; (first | refine AList.skip rfl rfl ?_ | refine AList.fieldPt tyOk rfl rfl rfl rfl rfl rfl rfl ?_ | refine AList.fieldPl tyOk rfl rfl rfl rfl rfl rfl rfl ?_); (first | refine AList.skip rfl rfl ?_ | refine AList.load1 tyOk rfl rfl rfl rfl rfl rfl rfl oM oM ?_ | refine AList.load1l tyOk rfl rfl rfl rfl rfl oM ?_); (first | refine AList.skip rfl rfl ?_ | refine AList.fieldPt tyOk rfl rfl rfl rfl rfl rfl rfl ?_ | refine AList.fieldPl tyOk rfl rfl rfl rfl rfl rfl rfl ?_); (first | refine AList.skip rfl rfl ?_ | refine AList.load1 tyOk rfl rfl rfl rfl rfl rfl rfl oM oM ?_ | refine AList.load1l tyOk rfl rfl rfl rfl rfl oM ?_); (first | refine AList.skip rfl rfl ?_ | refine AList.cmpT rfl rfl rfl rfl rfl cmT ?_ | refine AList.cmpF rfl rfl rfl rfl rfl cmF ?_ | refine AList.cmp rfl rfl rfl rfl rfl ?_); (first | refine AList.pickT rfl rfl rfl rfl ?_ | refine AList.pickF rfl rfl rfl rfl ?_ | refine AList.pick rfl rfl rfl rfl rfl ?_); refine AList.move rfl rfl rfl ?_; (first | refine AList.skip rfl rfl ?_ | refine AList.fieldPt tyOk rfl rfl rfl rfl rfl rfl rfl ?_ | refine AList.fieldPl tyOk rfl rfl rfl rfl rfl rfl rfl ?_); (first | refine AList.skip rfl rfl ?_ | refine AList.load1 tyOk rfl rfl rfl rfl rfl rfl rfl oM oM ?_ | refine AList.load1l tyOk rfl rfl rfl rfl rfl oM ?_); (first | refine AList.skip rfl rfl ?_ | refine AList.fieldPt tyOk rfl rfl rfl rfl rfl rfl rfl ?_ | refine AList.fieldPl tyOk rfl rfl rfl rfl rfl rfl rfl ?_); (first | refine AList.skip rfl rfl ?_ | refine AList.load1 tyOk rfl rfl rfl rfl rfl rfl rfl oM oM ?_ | refine AList.load1l tyOk rfl rfl rfl rfl rfl oM ?_); (first | refine AList.skip rfl rfl ?_ | refine AList.cmpT rfl rfl rfl rfl rfl cmT ?_ | refine AList.cmpF rfl rfl rfl rfl rfl cmF ?_ | refine AList.cmp rfl rfl rfl rfl rfl ?_); (first | refine AList.pickT rfl rfl rfl rfl ?_ | refine AList.pickF rfl rfl rfl rfl ?_ | refine AList.pick rfl rfl rfl rfl rfl ?_); refine AList.assign rfl rfl rfl ?_; refine AList.nil ?_))
        refine ⟨mkSt 27 [(4, .c (bC false))] [] [], [], Wk.mk [] rfl rfl rfl ?_ trivial, rfl, rfl, ARets.one (x := .c _) (ARes.tmp rfl rfl)⟩
        repeat (first | exact trivial | refine ⟨⟨_, rfl, by first | exact LeA.c (LeC.refl _ rfl) | exact LeA.c (LeC.ow _ _ rfl) | exact LeA.c (LeC.pt _ _ _ _ _ rfl) | exact LeA.c (LeC.nil _ rfl) | exact LeA.c (LeC.nils _ _) | (refine LeA.int ?_; omega) | (refine LeA.int ?_; dsimp only; omega) | exact LeA.c (LeC.fz rfl rfl (by first | rfl | omega) (fun i _ j _ => ⟨rfl, by first | rfl | exact rowN_imm (fun _ => rfl) _ i j | exact rowF_imm (fun _ => rfl) _ i j⟩))⟩, ?_⟩)
    · rw [show decide (cmpOk a b) = false from decide_eq_false fun h => c2 h.2.1]
      refine acalls_at Tryd.func37 rfl rfl Tryd.ntmps37 rfl ?_
      -- ax 5 apart.alike
      repeat (first
        | refine AWp.seq ?_
        | refine thenA_n ?_
        | refine AWp.block ?_
        | refine AWp.skip ?_
        | refine AWp.exit ?_
        | refine AWp.ret ?_
        | refine thenA_e ?_
        | refine thenA_r ?_
        | refine inBlk_n ?_
        | refine inBlk_r ?_
        | refine inBlk_hit ?_
        | refine inBlk_miss rfl ?_
        | refine AWp.condT rfl (by first | rfl | assumption | exact cmT) ?_
        | refine AWp.condF rfl (by first | rfl | assumption | exact cmF) ?_
        | refine AWp.scope (fun _ _ h => h) ?_
        | refine AWp.label ?_
        | (refine AWp.region (id := 0) ?_; refine AList.box rfl rfl rfl rfl rfl ?_; refine AList.box rfl rfl rfl rfl rfl ?_; refine AList.assign rfl rfl rfl ?_; refine AList.nil ?_)
        | (refine AWp.region (id := 1) ?_; (first | refine AList.loadA tyOk rfl rfl rfl rfl rfl rfl rfl oM oM ?_ | refine AList.loadAl tyOk rfl rfl rfl rfl rfl oM ?_); (first | refine AList.call rfl rfl rfl rfl Tryd.func26 rfl (by kernel_rfl) (h1) ?_ | refine AList.call rfl rfl rfl rfl Tryd.func26 rfl (by kernel_rfl) (h2) ?_); (first | refine AList.cmpT rfl rfl rfl rfl rfl cmT ?_ | refine AList.cmpF rfl rfl rfl rfl rfl cmF ?_ | refine AList.cmp rfl rfl rfl rfl rfl ?_); refine AList.move rfl rfl rfl ?_; (first | refine AList.skip rfl rfl ?_ | refine AList.loadA tyOk rfl rfl rfl rfl rfl rfl rfl oM oM ?_ | refine AList.loadAl tyOk rfl rfl rfl rfl rfl oM ?_); (first | refine AList.skip rfl rfl ?_ | refine AList.call rfl rfl rfl rfl Tryd.func26 rfl (by kernel_rfl) (h1) ?_ | refine AList.call rfl rfl rfl rfl Tryd.func26 rfl (by kernel_rfl) (h2) ?_); (first | refine AList.skip rfl rfl ?_ | refine AList.cmpT rfl rfl rfl rfl rfl cmT ?_ | refine AList.cmpF rfl rfl rfl rfl rfl cmF ?_ | refine AList.cmp rfl rfl rfl rfl rfl ?_); (first | refine AList.pickT rfl rfl rfl rfl ?_ | refine AList.pickF rfl rfl rfl rfl ?_ | refine AList.pick rfl rfl rfl rfl rfl ?_); refine AList.move rfl rfl rfl ?_; (first | refine AList.skip rfl rfl ?_ | refine AList.fieldPt tyOk rfl rfl rfl rfl rfl rfl rfl ?_ | refine AList.fieldPl tyOk rfl rfl rfl rfl rfl rfl rfl ?_); (first | refine AList.skip rfl rfl ?_ | refine AList.load1 tyOk rfl rfl rfl rfl rfl rfl rfl oM oM ?_ | refine AList.load1l tyOk rfl rfl rfl rfl rfl oM ?_); (first | refine AList.skip rfl rfl ?_ | refine AList.fieldPt tyOk rfl rfl rfl rfl rfl rfl rfl ?_ | refine AList.fieldPl tyOk rfl rfl rfl rfl rfl rfl rfl ?_); (first | refine AList.skip rfl rfl ?_ | refine AList.load1 tyOk rfl rfl rfl rfl rfl rfl rfl oM oM ?_ | refine AList.load1l tyOk rfl rfl rfl rfl rfl oM ?_); (first | refine AList.skip rfl rfl ?_ | refine AList.cmpT rfl rfl rfl rfl rfl cmT ?_ | refine AList.cmpF rfl rfl rfl rfl rfl cmF ?_ | refine AList.cmp rfl rfl rfl rfl rfl ?_); (first | refine AList.pickT rfl rfl rfl rfl ?_ | refine AList.pickF rfl rfl rfl rfl ?_ | refine AList.pick rfl rfl rfl rfl rfl ?_); refine AList.move rfl rfl rfl ?_; (first | refine AList.skip rfl rfl ?_ | refine AList.fieldPt tyOk rfl rfl rfl rfl rfl rfl rfl ?_ | refine AList.fieldPl tyOk rfl rfl rfl rfl rfl rfl rfl ?_); (first | refine AList.skip rfl rfl ?_ | refine AList.load1 tyOk rfl rfl rfl rfl rfl rfl rfl oM oM ?_ | refine AList.load1l tyOk rfl rfl rfl rfl rfl oM ?_); (first | refine AList.skip rfl rfl ?_ | refine AList.fieldPt tyOk rfl rfl rfl rfl rfl rfl rfl ?_ | refine AList.fieldPl tyOk rfl rfl rfl rfl rfl rfl rfl ?_); (first | refine AList.skip rfl rfl ?_ | refine AList.load1 tyOk rfl rfl rfl rfl rfl rfl rfl oM oM ?_ | refine AList.load1l tyOk rfl rfl rfl rfl rfl oM ?_); (first | refine AList.skip rfl rfl ?_ | refine AList.cmpT rfl rfl rfl rfl rfl cmT ?_ | refine AList.cmpF rfl rfl rfl rfl rfl cmF ?_ | refine AList.cmp rfl rfl rfl rfl rfl ?_); (first | refine AList.pickT rfl rfl rfl rfl ?_ | refine AList.pickF rfl rfl rfl rfl ?_ | refine AList.pick rfl rfl rfl rfl rfl ?_); refine AList.assign rfl rfl rfl ?_; refine AList.nil ?_))
      refine ⟨mkSt 27 [(4, .c (bC false))] [] [], [], Wk.mk [] rfl rfl rfl ?_ trivial, rfl, rfl, ARets.one (x := .c _) (ARes.tmp rfl rfl)⟩
      repeat (first | exact trivial | refine ⟨⟨_, rfl, by first | exact LeA.c (LeC.refl _ rfl) | exact LeA.c (LeC.ow _ _ rfl) | exact LeA.c (LeC.pt _ _ _ _ _ rfl) | exact LeA.c (LeC.nil _ rfl) | exact LeA.c (LeC.nils _ _) | (refine LeA.int ?_; omega) | (refine LeA.int ?_; dsimp only; omega) | exact LeA.c (LeC.fz rfl rfl (by first | rfl | omega) (fun i _ j _ => ⟨rfl, by first | rfl | exact rowN_imm (fun _ => rfl) _ i j | exact rowF_imm (fun _ => rfl) _ i j⟩))⟩, ?_⟩)
  · rw [show decide (cmpOk a b) = false from decide_eq_false fun h => c1 h.1]
    refine acalls_at Tryd.func37 rfl rfl Tryd.ntmps37 rfl ?_
    -- ax 6 apart.alike
    repeat (first
      | refine AWp.seq ?_
      | refine thenA_n ?_
      | refine AWp.block ?_
      | refine AWp.skip ?_
      | refine AWp.exit ?_
      | refine AWp.ret ?_
      | refine thenA_e ?_
      | refine thenA_r ?_
      | refine inBlk_n ?_
      | refine inBlk_r ?_
      | refine inBlk_hit ?_
      | refine inBlk_miss rfl ?_
      | refine AWp.condT rfl (by first | rfl | assumption | exact cmT) ?_
      | refine AWp.condF rfl (by first | rfl | assumption | exact cmF) ?_
      | refine AWp.scope (fun _ _ h => h) ?_
      | refine AWp.label ?_
      | (refine AWp.region (id := 0) ?_; refine AList.box rfl rfl rfl rfl rfl ?_; refine AList.box rfl rfl rfl rfl rfl ?_; refine AList.assign rfl rfl rfl ?_; refine AList.nil ?_)
      | (refine AWp.region (id := 1) ?_; (first | refine AList.loadA tyOk rfl rfl rfl rfl rfl rfl rfl oM oM ?_ | refine AList.loadAl tyOk rfl rfl rfl rfl rfl oM ?_); (first | refine AList.call rfl rfl rfl rfl Tryd.func26 rfl (by kernel_rfl) (h1) ?_ | refine AList.call rfl rfl rfl rfl Tryd.func26 rfl (by kernel_rfl) (h2) ?_); (first | refine AList.cmpT rfl rfl rfl rfl rfl cmT ?_ | refine AList.cmpF rfl rfl rfl rfl rfl cmF ?_ | refine AList.cmp rfl rfl rfl rfl rfl ?_); refine AList.move rfl rfl rfl ?_; (first | refine AList.skip rfl rfl ?_ | refine AList.loadA tyOk rfl rfl rfl rfl rfl rfl rfl oM oM ?_ | refine AList.loadAl tyOk rfl rfl rfl rfl rfl oM ?_); (first | refine AList.skip rfl rfl ?_ | refine AList.call rfl rfl rfl rfl Tryd.func26 rfl (by kernel_rfl) (h1) ?_ | refine AList.call rfl rfl rfl rfl Tryd.func26 rfl (by kernel_rfl) (h2) ?_); (first | refine AList.skip rfl rfl ?_ | refine AList.cmpT rfl rfl rfl rfl rfl cmT ?_ | refine AList.cmpF rfl rfl rfl rfl rfl cmF ?_ | refine AList.cmp rfl rfl rfl rfl rfl ?_); (first | refine AList.pickT rfl rfl rfl rfl ?_ | refine AList.pickF rfl rfl rfl rfl ?_ | refine AList.pick rfl rfl rfl rfl rfl ?_); refine AList.move rfl rfl rfl ?_; (first | refine AList.skip rfl rfl ?_ | refine AList.fieldPt tyOk rfl rfl rfl rfl rfl rfl rfl ?_ | refine AList.fieldPl tyOk rfl rfl rfl rfl rfl rfl rfl ?_); (first | refine AList.skip rfl rfl ?_ | refine AList.load1 tyOk rfl rfl rfl rfl rfl rfl rfl oM oM ?_ | refine AList.load1l tyOk rfl rfl rfl rfl rfl oM ?_); (first | refine AList.skip rfl rfl ?_ | refine AList.fieldPt tyOk rfl rfl rfl rfl rfl rfl rfl ?_ | refine AList.fieldPl tyOk rfl rfl rfl rfl rfl rfl rfl ?_); (first | refine AList.skip rfl rfl ?_ | refine AList.load1 tyOk rfl rfl rfl rfl rfl rfl rfl oM oM ?_ | refine AList.load1l tyOk rfl rfl rfl rfl rfl oM ?_); (first | refine AList.skip rfl rfl ?_ | refine AList.cmpT rfl rfl rfl rfl rfl cmT ?_ | refine AList.cmpF rfl rfl rfl rfl rfl cmF ?_ | refine AList.cmp rfl rfl rfl rfl rfl ?_); (first | refine AList.pickT rfl rfl rfl rfl ?_ | refine AList.pickF rfl rfl rfl rfl ?_ | refine AList.pick rfl rfl rfl rfl rfl ?_); refine AList.move rfl rfl rfl ?_; (first | refine AList.skip rfl rfl ?_ | refine AList.fieldPt tyOk rfl rfl rfl rfl rfl rfl rfl ?_ | refine AList.fieldPl tyOk rfl rfl rfl rfl rfl rfl rfl ?_); (first | refine AList.skip rfl rfl ?_ | refine AList.load1 tyOk rfl rfl rfl rfl rfl rfl rfl oM oM ?_ | refine AList.load1l tyOk rfl rfl rfl rfl rfl oM ?_); (first | refine AList.skip rfl rfl ?_ | refine AList.fieldPt tyOk rfl rfl rfl rfl rfl rfl rfl ?_ | refine AList.fieldPl tyOk rfl rfl rfl rfl rfl rfl rfl ?_); (first | refine AList.skip rfl rfl ?_ | refine AList.load1 tyOk rfl rfl rfl rfl rfl rfl rfl oM oM ?_ | refine AList.load1l tyOk rfl rfl rfl rfl rfl oM ?_); (first | refine AList.skip rfl rfl ?_ | refine AList.cmpT rfl rfl rfl rfl rfl cmT ?_ | refine AList.cmpF rfl rfl rfl rfl rfl cmF ?_ | refine AList.cmp rfl rfl rfl rfl rfl ?_); (first | refine AList.pickT rfl rfl rfl rfl ?_ | refine AList.pickF rfl rfl rfl rfl ?_ | refine AList.pick rfl rfl rfl rfl rfl ?_); refine AList.assign rfl rfl rfl ?_; refine AList.nil ?_))
    refine ⟨mkSt 27 [(4, .c (bC false))] [] [], [], Wk.mk [] rfl rfl rfl ?_ trivial, rfl, rfl, ARets.one (x := .c _) (ARes.tmp rfl rfl)⟩
    repeat (first | exact trivial | refine ⟨⟨_, rfl, by first | exact LeA.c (LeC.refl _ rfl) | exact LeA.c (LeC.ow _ _ rfl) | exact LeA.c (LeC.pt _ _ _ _ _ rfl) | exact LeA.c (LeC.nil _ rfl) | exact LeA.c (LeC.nils _ _) | (refine LeA.int ?_; omega) | (refine LeA.int ?_; dsimp only; omega) | exact LeA.c (LeC.fz rfl rfl (by first | rfl | omega) (fun i _ j _ => ⟨rfl, by first | rfl | exact rowN_imm (fun _ => rfl) _ i j | exact rowF_imm (fun _ => rfl) _ i j⟩))⟩, ?_⟩)
/-- a has a dot there, b, shifted, has none. -/
def alB (a b : Bp) (dx dy : Int) (j i : Nat) : Bool := hasB a.W a.H a.d i j && !hasB b.W b.H b.d ((i : Int) - dx) ((j : Int) - dy)
end Go.Proofs.YtfgcogkhnnflcaaDoor
end

section
namespace Go.Proofs.YtfgcogkhnnflcaaDoor
open Go.RowKit Go.Flow Go.AV Go.Plain
abbrev clC (c : Cl) : List CV := [iC c.dx, iC c.dy, iC c.col]
abbrev clZ : Cl := ⟨0, 0, 0⟩
end Go.Proofs.YtfgcogkhnnflcaaDoor
end
