/- Parts of the proof: A24j. -/
import Derived.Test.YtijaioiojclooaaG20
import Derived.Test.YtijaioiojclooaaG18
import Derived.Test.YtijaioiojclooaaHA24cor01
import Derived.Test.YtijaioiojclooaaG19
import Derived.Test.YtijaioiojclooaaG14
import Derived.Test.YtijaioiojclooaaProg
import Derived.Test.YtijaioiojclooaaG11
import Derived.Test.YtijaioiojclooaaG17
import Derived.Test.YtijaioiojclooaaG13
import Derived.Test.YtijaioiojclooaaG08
import Derived.WalkKit
import Derived.Test.YtijaioiojclooaaG09
import Derived.Test.YtijaioiojclooaaG10
import Derived.Test.YtijaioiojclooaaG01
import Derived.Lib.Hide
import Derived.Deep.QuietTactic
import Derived.BigQuiet
import Derived.Deep.DrawnRows
import Derived.Test.YtijaioiojclooaaG12
import Derived.Shelf.Abstract
import Derived.Test.YtijaioiojclooaaG07
import Derived.Laws.StructEq
import Derived.Deep.AppendLies
import Derived.Test.YtijaioiojclooaaG16
import Derived.RangeFuncNested
import Derived.Maps.AppendAt
import Derived.OwnWalk
import Derived.StillTail
import Derived.Below
import Derived.Deep.Draws
import Derived.KernelRfl
import Derived.Laws.Cover3
import Derived.Test.YtijaioiojclooaaG06
import Derived.Test.YtijaioiojclooaaG05
import Derived.Great.BuildSlice
import Derived.Test.YtijaioiojclooaaG04
import Derived.Test.YtijaioiojclooaaG03
import Derived.RangeFuncLeaves
import Derived.RangeFuncRecord
import Derived.Test.YtijaioiojclooaaG15
import Derived.Test.YtijaioiojclooaaG02
import Derived.OrdersIn
import Derived.TacticsIn
import Derived.RangeFuncCalls
set_option linter.unusedSimpArgs false
set_option linter.unusedVariables false
section
namespace Go.Proofs.Ytijaioiojclooaa
open Go.RowKit Go.Flow Go.AV Go.Plain
set_option maxRecDepth 100000 in
theorem Comparable_A (a b : Bp) : ACalls Try.prog 35 [.ag (bpC a), .ag (bpC b)] (.c (bC (decide (cmpOk a b)))) := by
  have h1 := rbCheck_A a.W a.H a.n a.d
  have h2 := rbCheck_A b.W b.H b.n b.d
  by_cases c1 : chk a.W a.H a.n = 0
  · by_cases c2 : chk b.W b.H b.n = 0
    · by_cases c3 : a.W = b.W
      · by_cases c4 : a.H = b.H
        · rw [show decide (cmpOk a b) = true from decide_eq_true ⟨c1, c2, c3, c4⟩]
          refine acalls_at Try.func35 rfl rfl Try.ntmps35 rfl ?_
          repeat (first
            | refine AWp.seq ?_
            | refine thenA_n ?_
            | refine AWp.ret ?_
            | (refine AWp.region (id := 0) ?_; refine AList.box rfl rfl rfl rfl rfl ?_; refine AList.box rfl rfl rfl rfl rfl ?_; refine AList.assign rfl rfl rfl ?_; refine AList.nil ?_)
            | (refine AWp.region (id := 1) ?_; refine AList.loadA tyOk rfl rfl rfl rfl rfl rfl rfl oM oM ?_; refine AList.call rfl rfl rfl rfl Try.func51 rfl (by kernel_rfl) (h1) ?_; refine AList.cmpT rfl rfl rfl rfl rfl cmT ?_; refine AList.move rfl rfl rfl ?_; refine AList.loadA tyOk rfl rfl rfl rfl rfl rfl rfl oM oM ?_; refine AList.call rfl rfl rfl rfl Try.func51 rfl (by kernel_rfl) (h2) ?_; refine AList.cmpT rfl rfl rfl rfl rfl cmT ?_; refine AList.pickT rfl rfl rfl rfl ?_; refine AList.move rfl rfl rfl ?_; refine AList.fieldPt tyOk rfl rfl rfl rfl rfl rfl rfl ?_; refine AList.load1 tyOk rfl rfl rfl rfl rfl rfl rfl oM oM ?_; refine AList.fieldPt tyOk rfl rfl rfl rfl rfl rfl rfl ?_; refine AList.load1 tyOk rfl rfl rfl rfl rfl rfl rfl oM oM ?_; refine AList.cmpT rfl rfl rfl rfl rfl cmT ?_; refine AList.pickT rfl rfl rfl rfl ?_; refine AList.move rfl rfl rfl ?_; refine AList.fieldPt tyOk rfl rfl rfl rfl rfl rfl rfl ?_; refine AList.load1 tyOk rfl rfl rfl rfl rfl rfl rfl oM oM ?_; refine AList.fieldPt tyOk rfl rfl rfl rfl rfl rfl rfl ?_; refine AList.load1 tyOk rfl rfl rfl rfl rfl rfl rfl oM oM ?_; refine AList.cmpT rfl rfl rfl rfl rfl cmT ?_; refine AList.pickT rfl rfl rfl rfl ?_; refine AList.assign rfl rfl rfl ?_; refine AList.nil ?_))
          refine ⟨mkSt 27 [(4, .c (bC true))] [] [], [], Wk.mk [] rfl rfl rfl ?_ trivial, rfl, rfl, ARets.one (x := .c _) (ARes.tmp rfl rfl)⟩
          repeat (first | exact trivial | refine ⟨⟨_, rfl, by first | exact LeA.c (LeC.refl _ rfl) | exact LeA.c (LeC.ow _ _ rfl) | exact LeA.c (LeC.pt _ _ _ _ _ rfl) | exact LeA.c (LeC.nil _ rfl) | exact LeA.c (LeC.nils _ _) | (refine LeA.int ?_; omega) | (refine LeA.int ?_; dsimp only; omega) | exact LeA.c (LeC.fz rfl rfl (by first | rfl | omega) (fun i _ j _ => ⟨rfl, by first | rfl | exact rowN_imm (fun _ => rfl) _ i j | exact rowF_imm (fun _ => rfl) _ i j⟩))⟩, ?_⟩)
        · rw [show decide (cmpOk a b) = false from decide_eq_false fun h => c4 h.2.2.2]
          refine acalls_at Try.func35 rfl rfl Try.ntmps35 rfl ?_
          repeat (first
            | refine AWp.seq ?_
            | refine thenA_n ?_
            | refine AWp.ret ?_
            | (refine AWp.region (id := 0) ?_; refine AList.box rfl rfl rfl rfl rfl ?_; refine AList.box rfl rfl rfl rfl rfl ?_; refine AList.assign rfl rfl rfl ?_; refine AList.nil ?_)
            | (refine AWp.region (id := 1) ?_; refine AList.loadA tyOk rfl rfl rfl rfl rfl rfl rfl oM oM ?_; refine AList.call rfl rfl rfl rfl Try.func51 rfl (by kernel_rfl) (h1) ?_; refine AList.cmpT rfl rfl rfl rfl rfl cmT ?_; refine AList.move rfl rfl rfl ?_; refine AList.loadA tyOk rfl rfl rfl rfl rfl rfl rfl oM oM ?_; refine AList.call rfl rfl rfl rfl Try.func51 rfl (by kernel_rfl) (h2) ?_; refine AList.cmpT rfl rfl rfl rfl rfl cmT ?_; refine AList.pickT rfl rfl rfl rfl ?_; refine AList.move rfl rfl rfl ?_; refine AList.fieldPt tyOk rfl rfl rfl rfl rfl rfl rfl ?_; refine AList.load1 tyOk rfl rfl rfl rfl rfl rfl rfl oM oM ?_; refine AList.fieldPt tyOk rfl rfl rfl rfl rfl rfl rfl ?_; refine AList.load1 tyOk rfl rfl rfl rfl rfl rfl rfl oM oM ?_; refine AList.cmpT rfl rfl rfl rfl rfl cmT ?_; refine AList.pickT rfl rfl rfl rfl ?_; refine AList.move rfl rfl rfl ?_; refine AList.fieldPt tyOk rfl rfl rfl rfl rfl rfl rfl ?_; refine AList.load1 tyOk rfl rfl rfl rfl rfl rfl rfl oM oM ?_; refine AList.fieldPt tyOk rfl rfl rfl rfl rfl rfl rfl ?_; refine AList.load1 tyOk rfl rfl rfl rfl rfl rfl rfl oM oM ?_; refine AList.cmpF rfl rfl rfl rfl rfl cmF ?_; refine AList.pickT rfl rfl rfl rfl ?_; refine AList.assign rfl rfl rfl ?_; refine AList.nil ?_))
          refine ⟨mkSt 27 [(4, .c (bC false))] [] [], [], Wk.mk [] rfl rfl rfl ?_ trivial, rfl, rfl, ARets.one (x := .c _) (ARes.tmp rfl rfl)⟩
          repeat (first | exact trivial | refine ⟨⟨_, rfl, by first | exact LeA.c (LeC.refl _ rfl) | exact LeA.c (LeC.ow _ _ rfl) | exact LeA.c (LeC.pt _ _ _ _ _ rfl) | exact LeA.c (LeC.nil _ rfl) | exact LeA.c (LeC.nils _ _) | (refine LeA.int ?_; omega) | (refine LeA.int ?_; dsimp only; omega) | exact LeA.c (LeC.fz rfl rfl (by first | rfl | omega) (fun i _ j _ => ⟨rfl, by first | rfl | exact rowN_imm (fun _ => rfl) _ i j | exact rowF_imm (fun _ => rfl) _ i j⟩))⟩, ?_⟩)
      · rw [show decide (cmpOk a b) = false from decide_eq_false fun h => c3 h.2.2.1]
        refine acalls_at Try.func35 rfl rfl Try.ntmps35 rfl ?_
        repeat (first
          | refine AWp.seq ?_
          | refine thenA_n ?_
          | refine AWp.ret ?_
          | (refine AWp.region (id := 0) ?_; refine AList.box rfl rfl rfl rfl rfl ?_; refine AList.box rfl rfl rfl rfl rfl ?_; refine AList.assign rfl rfl rfl ?_; refine AList.nil ?_)
          | (refine AWp.region (id := 1) ?_; refine AList.loadA tyOk rfl rfl rfl rfl rfl rfl rfl oM oM ?_; refine AList.call rfl rfl rfl rfl Try.func51 rfl (by kernel_rfl) (h1) ?_; refine AList.cmpT rfl rfl rfl rfl rfl cmT ?_; refine AList.move rfl rfl rfl ?_; refine AList.loadA tyOk rfl rfl rfl rfl rfl rfl rfl oM oM ?_; refine AList.call rfl rfl rfl rfl Try.func51 rfl (by kernel_rfl) (h2) ?_; refine AList.cmpT rfl rfl rfl rfl rfl cmT ?_; refine AList.pickT rfl rfl rfl rfl ?_; refine AList.move rfl rfl rfl ?_; refine AList.fieldPt tyOk rfl rfl rfl rfl rfl rfl rfl ?_; refine AList.load1 tyOk rfl rfl rfl rfl rfl rfl rfl oM oM ?_; refine AList.fieldPt tyOk rfl rfl rfl rfl rfl rfl rfl ?_; refine AList.load1 tyOk rfl rfl rfl rfl rfl rfl rfl oM oM ?_; refine AList.cmpF rfl rfl rfl rfl rfl cmF ?_; refine AList.pickT rfl rfl rfl rfl ?_; refine AList.move rfl rfl rfl ?_; refine AList.skip rfl rfl ?_; refine AList.skip rfl rfl ?_; refine AList.skip rfl rfl ?_; refine AList.skip rfl rfl ?_; refine AList.skip rfl rfl ?_; refine AList.pickF rfl rfl rfl rfl ?_; refine AList.assign rfl rfl rfl ?_; refine AList.nil ?_))
        refine ⟨mkSt 27 [(4, .c (bC false))] [] [], [], Wk.mk [] rfl rfl rfl ?_ trivial, rfl, rfl, ARets.one (x := .c _) (ARes.tmp rfl rfl)⟩
        repeat (first | exact trivial | refine ⟨⟨_, rfl, by first | exact LeA.c (LeC.refl _ rfl) | exact LeA.c (LeC.ow _ _ rfl) | exact LeA.c (LeC.pt _ _ _ _ _ rfl) | exact LeA.c (LeC.nil _ rfl) | exact LeA.c (LeC.nils _ _) | (refine LeA.int ?_; omega) | (refine LeA.int ?_; dsimp only; omega) | exact LeA.c (LeC.fz rfl rfl (by first | rfl | omega) (fun i _ j _ => ⟨rfl, by first | rfl | exact rowN_imm (fun _ => rfl) _ i j | exact rowF_imm (fun _ => rfl) _ i j⟩))⟩, ?_⟩)
    · rw [show decide (cmpOk a b) = false from decide_eq_false fun h => c2 h.2.1]
      refine acalls_at Try.func35 rfl rfl Try.ntmps35 rfl ?_
      repeat (first
        | refine AWp.seq ?_
        | refine thenA_n ?_
        | refine AWp.ret ?_
        | (refine AWp.region (id := 0) ?_; refine AList.box rfl rfl rfl rfl rfl ?_; refine AList.box rfl rfl rfl rfl rfl ?_; refine AList.assign rfl rfl rfl ?_; refine AList.nil ?_)
        | (refine AWp.region (id := 1) ?_; refine AList.loadA tyOk rfl rfl rfl rfl rfl rfl rfl oM oM ?_; refine AList.call rfl rfl rfl rfl Try.func51 rfl (by kernel_rfl) (h1) ?_; refine AList.cmpT rfl rfl rfl rfl rfl cmT ?_; refine AList.move rfl rfl rfl ?_; refine AList.loadA tyOk rfl rfl rfl rfl rfl rfl rfl oM oM ?_; refine AList.call rfl rfl rfl rfl Try.func51 rfl (by kernel_rfl) (h2) ?_; refine AList.cmpF rfl rfl rfl rfl rfl cmF ?_; refine AList.pickT rfl rfl rfl rfl ?_; refine AList.move rfl rfl rfl ?_; refine AList.skip rfl rfl ?_; refine AList.skip rfl rfl ?_; refine AList.skip rfl rfl ?_; refine AList.skip rfl rfl ?_; refine AList.skip rfl rfl ?_; refine AList.pickF rfl rfl rfl rfl ?_; refine AList.move rfl rfl rfl ?_; refine AList.skip rfl rfl ?_; refine AList.skip rfl rfl ?_; refine AList.skip rfl rfl ?_; refine AList.skip rfl rfl ?_; refine AList.skip rfl rfl ?_; refine AList.pickF rfl rfl rfl rfl ?_; refine AList.assign rfl rfl rfl ?_; refine AList.nil ?_))
      refine ⟨mkSt 27 [(4, .c (bC false))] [] [], [], Wk.mk [] rfl rfl rfl ?_ trivial, rfl, rfl, ARets.one (x := .c _) (ARes.tmp rfl rfl)⟩
      repeat (first | exact trivial | refine ⟨⟨_, rfl, by first | exact LeA.c (LeC.refl _ rfl) | exact LeA.c (LeC.ow _ _ rfl) | exact LeA.c (LeC.pt _ _ _ _ _ rfl) | exact LeA.c (LeC.nil _ rfl) | exact LeA.c (LeC.nils _ _) | (refine LeA.int ?_; omega) | (refine LeA.int ?_; dsimp only; omega) | exact LeA.c (LeC.fz rfl rfl (by first | rfl | omega) (fun i _ j _ => ⟨rfl, by first | rfl | exact rowN_imm (fun _ => rfl) _ i j | exact rowF_imm (fun _ => rfl) _ i j⟩))⟩, ?_⟩)
  · rw [show decide (cmpOk a b) = false from decide_eq_false fun h => c1 h.1]
    refine acalls_at Try.func35 rfl rfl Try.ntmps35 rfl ?_
    repeat (first
      | refine AWp.seq ?_
      | refine thenA_n ?_
      | refine AWp.ret ?_
      | (refine AWp.region (id := 0) ?_; refine AList.box rfl rfl rfl rfl rfl ?_; refine AList.box rfl rfl rfl rfl rfl ?_; refine AList.assign rfl rfl rfl ?_; refine AList.nil ?_)
      | (refine AWp.region (id := 1) ?_; refine AList.loadA tyOk rfl rfl rfl rfl rfl rfl rfl oM oM ?_; refine AList.call rfl rfl rfl rfl Try.func51 rfl (by kernel_rfl) (h1) ?_; refine AList.cmpF rfl rfl rfl rfl rfl cmF ?_; refine AList.move rfl rfl rfl ?_; refine AList.skip rfl rfl ?_; refine AList.skip rfl rfl ?_; refine AList.skip rfl rfl ?_; refine AList.pickF rfl rfl rfl rfl ?_; refine AList.move rfl rfl rfl ?_; refine AList.skip rfl rfl ?_; refine AList.skip rfl rfl ?_; refine AList.skip rfl rfl ?_; refine AList.skip rfl rfl ?_; refine AList.skip rfl rfl ?_; refine AList.pickF rfl rfl rfl rfl ?_; refine AList.move rfl rfl rfl ?_; refine AList.skip rfl rfl ?_; refine AList.skip rfl rfl ?_; refine AList.skip rfl rfl ?_; refine AList.skip rfl rfl ?_; refine AList.skip rfl rfl ?_; refine AList.pickF rfl rfl rfl rfl ?_; refine AList.assign rfl rfl rfl ?_; refine AList.nil ?_))
    refine ⟨mkSt 27 [(4, .c (bC false))] [] [], [], Wk.mk [] rfl rfl rfl ?_ trivial, rfl, rfl, ARets.one (x := .c _) (ARes.tmp rfl rfl)⟩
    repeat (first | exact trivial | refine ⟨⟨_, rfl, by first | exact LeA.c (LeC.refl _ rfl) | exact LeA.c (LeC.ow _ _ rfl) | exact LeA.c (LeC.pt _ _ _ _ _ rfl) | exact LeA.c (LeC.nil _ rfl) | exact LeA.c (LeC.nils _ _) | (refine LeA.int ?_; omega) | (refine LeA.int ?_; dsimp only; omega) | exact LeA.c (LeC.fz rfl rfl (by first | rfl | omega) (fun i _ j _ => ⟨rfl, by first | rfl | exact rowN_imm (fun _ => rfl) _ i j | exact rowF_imm (fun _ => rfl) _ i j⟩))⟩, ?_⟩)
set_option maxHeartbeats 2000000 in
set_option maxRecDepth 100000 in
theorem Only_A (a b : Bp) (dx dy fr ti : Int) (ha : chk a.W a.H a.n = 0) (hb : chk b.W b.H b.n = 0) (hx : -1000 ≤ dx ∧ dx ≤ 1000) (hy : -1000 ≤ dy ∧ dy ≤ 1000) :
    ACalls Try.prog 86 [.ag (bpC a), .ag (bpC b), .c (iC dx), .c (iC dy), .c (iC fr), .c (iC ti)] (.c (iC (onlyN a b dx dy fr ti))) := by
  have hC := rbCheck_A a.W a.H a.n a.d
  rw [ha] at hC
  obtain ⟨hw0, hw1, hh0, hh1, hn⟩ := okB ha
  obtain ⟨Wn, hWn⟩ := Int.eq_ofNat_of_zero_le hw0
  obtain ⟨Hn, hHn⟩ := Int.eq_ofNat_of_zero_le hh0
  have hon : onlyN a b dx dy fr ti = sumTo (fun j => cnt (onB a b dx dy fr ti j) Wn) Hn := by unfold onlyN; rw [hWn, hHn]; rfl
  rw [hon]
  have hsb : ∀ m, m ≤ Hn → 0 ≤ sumTo (fun j => cnt (onB a b dx dy fr ti j) Wn) m ∧ sumTo (fun j => cnt (onB a b dx dy fr ti j) Wn) m ≤ 96 * m := fun m hm => by
    refine ⟨sumTo_nonneg fun k _ => Go.Plain.cnt_nonneg _ _, ?_⟩
    induction m with
    | zero => exact Int.le_refl _
    | succ m ih =>
      have h1 := ih (by omega)
      have h2 := cnt_le (onB a b dx dy fr ti m) Wn
      show sumTo _ m + cnt _ Wn ≤ _
      omega
  rw [show bpC a = bmpV Wn Hn a.n a.d by show bmpV a.W a.H a.n a.d = _; rw [hWn, hHn]]
  have hG : ∀ i j : Int, ACalls Try.prog 55 [.ag (bmpV Wn Hn a.n a.d), .c (iC i), .c (iC j)] (.c (bC (hasB a.W a.H a.d i j))) := fun i j => by
    have := Get_A a.W a.H a.n a.d i j ha
    rw [hWn, hHn] at this ⊢
    exact this
  rw [show bmpV a.W a.H a.n a.d = bmpV Wn Hn a.n a.d by rw [hWn, hHn]] at hC
  have hW : (Wn : Int) ≤ 96 := by omega
  have hH : (Hn : Int) ≤ 96 := by omega
  refine acalls_at Try.func86 rfl rfl Try.ntmps86 rfl ?_
  repeat (first
    | refine AWp.seq ?_
    | refine thenA_n ?_
    | refine AWp.block ?_
    | (refine AWp.region (id := 0) ?_; refine AList.box rfl rfl rfl rfl rfl ?_; refine AList.box rfl rfl rfl rfl rfl ?_; refine AList.assign rfl rfl rfl ?_; refine AList.nil ?_)
    | (refine AWp.region (id := 1) ?_; refine AList.assign rfl rfl rfl ?_; refine AList.nil ?_)
    | (refine AWp.region (id := 2) ?_; refine AList.assign rfl rfl rfl ?_; refine AList.nil ?_))
  refine AWp.round (fun j : Nat => mkSt 61 [(2, .c (iC dx)), (3, .c (iC dy)), (4, .c (iC fr)), (5, .c (iC ti)), (6, .c (.pt 6 3 0 0)), (7, .c (.pt 7 3 0 0)), (13, .c (iC (sumTo (fun j => cnt (onB a b dx dy fr ti j) Wn) j))), (14, .c (iC j))] [(6, ⟨false, 1, 3, 27, lF (bmpV Wn Hn a.n a.d)⟩), (7, ⟨false, 1, 3, 27, lF (bpC b)⟩)] [6, 7])
    (fun j => j ≤ Hn) (fun j => Hn - j) 0 (Nat.zero_le _) ?_ (fun j hj => ?_)
  · refine Wk.mk [(6, some 6), (7, some 7)] rfl rfl rfl ?_ ?_
    · repeat (first | exact trivial | refine ⟨⟨_, rfl, by first | exact LeA.c (LeC.refl _ rfl) | exact LeA.c (LeC.ow _ _ rfl) | exact LeA.c (LeC.pt _ _ _ _ _ rfl) | exact LeA.c (LeC.nil _ rfl) | exact LeA.c (LeC.nils _ _) | (refine LeA.int ?_; omega) | (refine LeA.int ?_; dsimp only; omega) | exact LeA.c (LeC.fz rfl rfl (by first | rfl | omega) (fun i _ j _ => ⟨rfl, by first | rfl | exact rowN_imm (fun _ => rfl) _ i j | exact rowF_imm (fun _ => rfl) _ i j⟩))⟩, ?_⟩)
    · repeat (first | exact trivial | refine ⟨by first | exact HeapOk.same rfl rfl rfl rfl | exact HeapOk.lent rfl rfl rfl rfl | exact HeapOk.nil rfl rfl | exact HeapOk.row rfl rfl (by first | rfl | omega) (fun i _ j _ => ⟨rfl, by first | rfl | exact rowN_imm (fun _ => rfl) _ i j | exact rowF_imm (fun _ => rfl) _ i j⟩) | exact HeapOk.box rfl rfl (by repeat (first | exact trivial | refine ⟨by first | exact LeC.refl _ rfl | exact LeC.ow _ _ rfl | exact LeC.nil _ rfl | exact LeC.nils _ _ | exact LeC.fz rfl rfl (by first | rfl | omega) (fun i _ j _ => ⟨rfl, by first | rfl | exact rowN_imm (fun _ => rfl) _ i j | exact rowF_imm (fun _ => rfl) _ i j⟩) | exact LeC.int (by omega), ?_⟩)) rfl, ?_⟩)
  · by_cases hjl : j < Hn
    · obtain ⟨s, hs⟩ : ∃ s, sumTo (fun j => cnt (onB a b dx dy fr ti j) Wn) j = s := ⟨_, rfl⟩
      have hs1 := hsb j hj
      rw [hs] at hs1
      have hsu : sumTo (fun j => cnt (onB a b dx dy fr ti j) Wn) (j + 1) = s + cnt (onB a b dx dy fr ti j) Wn := by rw [← hs]; rfl
      rw [hs]
      repeat (first
        | refine AWp.seq ?_
        | refine thenA_n ?_
        | refine AWp.block ?_
        | refine AWp.skip ?_
        | refine AWp.condT rfl (by first | rfl | assumption | exact cmT) ?_
        | (refine AWp.region (id := 3) ?_; refine AList.loadA tyOk rfl rfl rfl rfl rfl rfl rfl oM oM ?_; refine AList.call rfl rfl rfl rfl Try.func51 rfl (by kernel_rfl) (hC) ?_; refine AList.cmp rfl rfl rfl rfl rfl ?_; refine AList.move rfl rfl rfl ?_; refine AList.move rfl rfl rfl ?_; refine AList.fieldPt tyOk rfl rfl rfl rfl rfl rfl rfl ?_; refine AList.load1 tyOk rfl rfl rfl rfl rfl rfl rfl oM oM ?_; refine AList.cmpT rfl rfl rfl rfl rfl cmT ?_; refine AList.pickT rfl rfl rfl rfl ?_; refine AList.nil ?_)
        | (refine AWp.region (id := 5) ?_; refine AList.assign rfl rfl rfl ?_; refine AList.nil ?_))
      refine AWp.round (fun i : Nat => mkSt 61 [(2, .c (iC dx)), (3, .c (iC dy)), (4, .c (iC fr)), (5, .c (iC ti)), (6, .c (.pt 6 3 0 0)), (7, .c (.pt 7 3 0 0)), (13, .c (iC (s + cnt (onB a b dx dy fr ti j) i))), (14, .c (iC j)), (15, .c (iC i))] [(6, ⟨false, 1, 3, 27, lF (bmpV Wn Hn a.n a.d)⟩), (7, ⟨false, 1, 3, 27, lF (bpC b)⟩)] [6, 7])
        (fun i => i ≤ Wn) (fun i => Wn - i) 0 (Nat.zero_le _) ?_ (fun i hi => ?_)
      · refine Wk.mk [(6, some 6), (7, some 7)] rfl rfl rfl ?_ ?_
        · rw [cnt_zero]
          repeat (first | exact trivial | refine ⟨⟨_, rfl, by first | exact LeA.c (LeC.refl _ rfl) | exact LeA.c (LeC.ow _ _ rfl) | exact LeA.c (LeC.pt _ _ _ _ _ rfl) | exact LeA.c (LeC.nil _ rfl) | exact LeA.c (LeC.nils _ _) | (refine LeA.int ?_; omega) | (refine LeA.int ?_; dsimp only; omega) | exact LeA.c (LeC.fz rfl rfl (by first | rfl | omega) (fun i _ j _ => ⟨rfl, by first | rfl | exact rowN_imm (fun _ => rfl) _ i j | exact rowF_imm (fun _ => rfl) _ i j⟩))⟩, ?_⟩)
        · repeat (first | exact trivial | refine ⟨by first | exact HeapOk.same rfl rfl rfl rfl | exact HeapOk.lent rfl rfl rfl rfl | exact HeapOk.nil rfl rfl | exact HeapOk.row rfl rfl (by first | rfl | omega) (fun i _ j _ => ⟨rfl, by first | rfl | exact rowN_imm (fun _ => rfl) _ i j | exact rowF_imm (fun _ => rfl) _ i j⟩) | exact HeapOk.box rfl rfl (by repeat (first | exact trivial | refine ⟨by first | exact LeC.refl _ rfl | exact LeC.ow _ _ rfl | exact LeC.nil _ rfl | exact LeC.nils _ _ | exact LeC.fz rfl rfl (by first | rfl | omega) (fun i _ j _ => ⟨rfl, by first | rfl | exact rowN_imm (fun _ => rfl) _ i j | exact rowF_imm (fun _ => rfl) _ i j⟩) | exact LeC.int (by omega), ?_⟩)) rfl, ?_⟩)
      · obtain ⟨c, hc⟩ : ∃ c, cnt (onB a b dx dy fr ti j) i = c := ⟨_, rfl⟩
        have hcb : 0 ≤ c ∧ c ≤ i := by rw [← hc]; exact ⟨Go.Plain.cnt_nonneg _ _, cnt_le _ _⟩
        have hcs : cnt (onB a b dx dy fr ti j) (i + 1) = c + if onB a b dx dy fr ti j i then 1 else 0 := by rw [← hc]; exact cnt_succ _ _
        rw [hc]
        have hGa := hG i j
        have hGb := Get_A b.W b.H b.n b.d ((i : Int) - dx) ((j : Int) - dy) hb
        by_cases hil : i < Wn
        · cases g1 : hasB a.W a.H a.d i j with
          | false =>
            rw [g1] at hGa
            rw [show onB a b dx dy fr ti j i = false by unfold onB; rw [g1]; rfl, if_neg (by decide)] at hcs
            repeat (first
              | refine AWp.seq ?_
              | refine thenA_n ?_
              | refine AWp.block ?_
              | refine AWp.skip ?_
              | refine inBlk_n ?_
              | refine AWp.condT rfl (by first | rfl | assumption | exact cmT) ?_
              | refine AWp.condF rfl (by first | rfl | assumption | exact cmF) ?_
              | (refine AWp.region (id := 6) ?_; refine AList.move rfl rfl rfl ?_; refine AList.fieldPt tyOk rfl rfl rfl rfl rfl rfl rfl ?_; refine AList.load1 tyOk rfl rfl rfl rfl rfl rfl rfl oM oM ?_; refine AList.cmpT rfl rfl rfl rfl rfl cmT ?_; refine AList.nil ?_)
              | (refine AWp.region (id := 7) ?_; refine AList.move rfl rfl rfl ?_; refine AList.add rfl rfl rfl rfl (by omega) (by omega) ?_; refine AList.assign rfl rfl rfl ?_; refine AList.nil ?_)
              | (refine AWp.region (id := 8) ?_; refine AList.loadA tyOk rfl rfl rfl rfl rfl rfl rfl oM oM ?_; refine AList.move rfl rfl rfl ?_; refine AList.move rfl rfl rfl ?_; refine AList.call rfl rfl rfl rfl Try.func55 rfl (by kernel_rfl) (hGa) ?_; refine AList.move rfl rfl rfl ?_; refine AList.skip rfl rfl ?_; refine AList.skip rfl rfl ?_; refine AList.skip rfl rfl ?_; refine AList.skip rfl rfl ?_; refine AList.skip rfl rfl ?_; refine AList.skip rfl rfl ?_; refine AList.skip rfl rfl ?_; refine AList.skip rfl rfl ?_; refine AList.pickF rfl rfl rfl rfl ?_; refine AList.move rfl rfl rfl ?_; refine AList.skip rfl rfl ?_; refine AList.skip rfl rfl ?_; refine AList.skip rfl rfl ?_; refine AList.skip rfl rfl ?_; refine AList.skip rfl rfl ?_; refine AList.skip rfl rfl ?_; refine AList.skip rfl rfl ?_; refine AList.skip rfl rfl ?_; refine AList.skip rfl rfl ?_; refine AList.pickF rfl rfl rfl rfl ?_; refine AList.nil ?_))
            refine ⟨i + 1, hil, Wk.mk [(6, some 6), (7, some 7)] rfl rfl rfl ?_ ?_, by omega⟩
            · rw [hcs]
              repeat (first | exact trivial | refine ⟨⟨_, rfl, by first | exact LeA.c (LeC.refl _ rfl) | exact LeA.c (LeC.ow _ _ rfl) | exact LeA.c (LeC.pt _ _ _ _ _ rfl) | exact LeA.c (LeC.nil _ rfl) | exact LeA.c (LeC.nils _ _) | (refine LeA.int ?_; omega) | (refine LeA.int ?_; dsimp only; omega) | exact LeA.c (LeC.fz rfl rfl (by first | rfl | omega) (fun i _ j _ => ⟨rfl, by first | rfl | exact rowN_imm (fun _ => rfl) _ i j | exact rowF_imm (fun _ => rfl) _ i j⟩))⟩, ?_⟩)
            · repeat (first | exact trivial | refine ⟨by first | exact HeapOk.same rfl rfl rfl rfl | exact HeapOk.lent rfl rfl rfl rfl | exact HeapOk.nil rfl rfl | exact HeapOk.row rfl rfl (by first | rfl | omega) (fun i _ j _ => ⟨rfl, by first | rfl | exact rowN_imm (fun _ => rfl) _ i j | exact rowF_imm (fun _ => rfl) _ i j⟩) | exact HeapOk.box rfl rfl (by repeat (first | exact trivial | refine ⟨by first | exact LeC.refl _ rfl | exact LeC.ow _ _ rfl | exact LeC.nil _ rfl | exact LeC.nils _ _ | exact LeC.fz rfl rfl (by first | rfl | omega) (fun i _ j _ => ⟨rfl, by first | rfl | exact rowN_imm (fun _ => rfl) _ i j | exact rowF_imm (fun _ => rfl) _ i j⟩) | exact LeC.int (by omega), ?_⟩)) rfl, ?_⟩)
          | true =>
            rw [g1] at hGa
            by_cases g2 : (i : Int) < fr
            · cases g4 : hasB b.W b.H b.d ((i : Int) - dx) ((j : Int) - dy) with
              | false =>
                rw [g4] at hGb
                rw [show onB a b dx dy fr ti j i = true by unfold onB; rw [g1, g4, decide_eq_true g2]; rfl, if_pos rfl] at hcs
                repeat (first
                  | refine AWp.seq ?_
                  | refine thenA_n ?_
                  | refine AWp.block ?_
                  | refine AWp.skip ?_
                  | refine inBlk_n ?_
                  | refine AWp.condT rfl (by first | rfl | assumption | exact cmT) ?_
                  | (refine AWp.region (id := 6) ?_; refine AList.move rfl rfl rfl ?_; refine AList.fieldPt tyOk rfl rfl rfl rfl rfl rfl rfl ?_; refine AList.load1 tyOk rfl rfl rfl rfl rfl rfl rfl oM oM ?_; refine AList.cmpT rfl rfl rfl rfl rfl cmT ?_; refine AList.nil ?_)
                  | (refine AWp.region (id := 7) ?_; refine AList.move rfl rfl rfl ?_; refine AList.add rfl rfl rfl rfl (by omega) (by omega) ?_; refine AList.assign rfl rfl rfl ?_; refine AList.nil ?_)
                  | (refine AWp.region (id := 8) ?_; refine AList.loadA tyOk rfl rfl rfl rfl rfl rfl rfl oM oM ?_; refine AList.move rfl rfl rfl ?_; refine AList.move rfl rfl rfl ?_; refine AList.call rfl rfl rfl rfl Try.func55 rfl (by kernel_rfl) (hGa) ?_; refine AList.move rfl rfl rfl ?_; refine AList.move rfl rfl rfl ?_; refine AList.move rfl rfl rfl ?_; refine AList.cmpT rfl rfl rfl rfl rfl cmT ?_; refine AList.move rfl rfl rfl ?_; refine AList.skip rfl rfl ?_; refine AList.skip rfl rfl ?_; refine AList.skip rfl rfl ?_; refine AList.pickT rfl rfl rfl rfl ?_; refine AList.pickT rfl rfl rfl rfl ?_; refine AList.move rfl rfl rfl ?_; refine AList.loadA tyOk rfl rfl rfl rfl rfl rfl rfl oM oM ?_; refine AList.move rfl rfl rfl ?_; refine AList.move rfl rfl rfl ?_; refine AList.sub rfl rfl rfl rfl (by omega) (by omega) ?_; refine AList.move rfl rfl rfl ?_; refine AList.move rfl rfl rfl ?_; refine AList.sub rfl rfl rfl rfl (by omega) (by omega) ?_; refine AList.call rfl rfl rfl rfl Try.func55 rfl (by kernel_rfl) (hGb) ?_; refine AList.notB rfl rfl rfl ?_; refine AList.pickT rfl rfl rfl rfl ?_; refine AList.nil ?_)
                  | (refine AWp.region (id := 9) ?_; refine AList.move rfl rfl rfl ?_; refine AList.add rfl rfl rfl rfl (by omega) (by omega) ?_; refine AList.assign rfl rfl rfl ?_; refine AList.nil ?_))
                refine ⟨i + 1, hil, Wk.mk [(6, some 6), (7, some 7)] rfl rfl rfl ?_ ?_, by omega⟩
                · rw [hcs]
                  repeat (first | exact trivial | refine ⟨⟨_, rfl, by first | exact LeA.c (LeC.refl _ rfl) | exact LeA.c (LeC.ow _ _ rfl) | exact LeA.c (LeC.pt _ _ _ _ _ rfl) | exact LeA.c (LeC.nil _ rfl) | exact LeA.c (LeC.nils _ _) | (refine LeA.int ?_; omega) | (refine LeA.int ?_; dsimp only; omega) | exact LeA.c (LeC.fz rfl rfl (by first | rfl | omega) (fun i _ j _ => ⟨rfl, by first | rfl | exact rowN_imm (fun _ => rfl) _ i j | exact rowF_imm (fun _ => rfl) _ i j⟩))⟩, ?_⟩)
                · repeat (first | exact trivial | refine ⟨by first | exact HeapOk.same rfl rfl rfl rfl | exact HeapOk.lent rfl rfl rfl rfl | exact HeapOk.nil rfl rfl | exact HeapOk.row rfl rfl (by first | rfl | omega) (fun i _ j _ => ⟨rfl, by first | rfl | exact rowN_imm (fun _ => rfl) _ i j | exact rowF_imm (fun _ => rfl) _ i j⟩) | exact HeapOk.box rfl rfl (by repeat (first | exact trivial | refine ⟨by first | exact LeC.refl _ rfl | exact LeC.ow _ _ rfl | exact LeC.nil _ rfl | exact LeC.nils _ _ | exact LeC.fz rfl rfl (by first | rfl | omega) (fun i _ j _ => ⟨rfl, by first | rfl | exact rowN_imm (fun _ => rfl) _ i j | exact rowF_imm (fun _ => rfl) _ i j⟩) | exact LeC.int (by omega), ?_⟩)) rfl, ?_⟩)
              | true =>
                rw [g4] at hGb
                rw [show onB a b dx dy fr ti j i = false by unfold onB; rw [g1, g4]; simp, if_neg (by decide)] at hcs
                repeat (first
                  | refine AWp.seq ?_
                  | refine thenA_n ?_
                  | refine AWp.block ?_
                  | refine AWp.skip ?_
                  | refine inBlk_n ?_
                  | refine AWp.condT rfl (by first | rfl | assumption | exact cmT) ?_
                  | refine AWp.condF rfl (by first | rfl | assumption | exact cmF) ?_
                  | (refine AWp.region (id := 6) ?_; refine AList.move rfl rfl rfl ?_; refine AList.fieldPt tyOk rfl rfl rfl rfl rfl rfl rfl ?_; refine AList.load1 tyOk rfl rfl rfl rfl rfl rfl rfl oM oM ?_; refine AList.cmpT rfl rfl rfl rfl rfl cmT ?_; refine AList.nil ?_)
                  | (refine AWp.region (id := 7) ?_; refine AList.move rfl rfl rfl ?_; refine AList.add rfl rfl rfl rfl (by omega) (by omega) ?_; refine AList.assign rfl rfl rfl ?_; refine AList.nil ?_)
                  | (refine AWp.region (id := 8) ?_; refine AList.loadA tyOk rfl rfl rfl rfl rfl rfl rfl oM oM ?_; refine AList.move rfl rfl rfl ?_; refine AList.move rfl rfl rfl ?_; refine AList.call rfl rfl rfl rfl Try.func55 rfl (by kernel_rfl) (hGa) ?_; refine AList.move rfl rfl rfl ?_; refine AList.move rfl rfl rfl ?_; refine AList.move rfl rfl rfl ?_; refine AList.cmpT rfl rfl rfl rfl rfl cmT ?_; refine AList.move rfl rfl rfl ?_; refine AList.skip rfl rfl ?_; refine AList.skip rfl rfl ?_; refine AList.skip rfl rfl ?_; refine AList.pickT rfl rfl rfl rfl ?_; refine AList.pickT rfl rfl rfl rfl ?_; refine AList.move rfl rfl rfl ?_; refine AList.loadA tyOk rfl rfl rfl rfl rfl rfl rfl oM oM ?_; refine AList.move rfl rfl rfl ?_; refine AList.move rfl rfl rfl ?_; refine AList.sub rfl rfl rfl rfl (by omega) (by omega) ?_; refine AList.move rfl rfl rfl ?_; refine AList.move rfl rfl rfl ?_; refine AList.sub rfl rfl rfl rfl (by omega) (by omega) ?_; refine AList.call rfl rfl rfl rfl Try.func55 rfl (by kernel_rfl) (hGb) ?_; refine AList.notB rfl rfl rfl ?_; refine AList.pickT rfl rfl rfl rfl ?_; refine AList.nil ?_))
                refine ⟨i + 1, hil, Wk.mk [(6, some 6), (7, some 7)] rfl rfl rfl ?_ ?_, by omega⟩
                · rw [hcs]
                  repeat (first | exact trivial | refine ⟨⟨_, rfl, by first | exact LeA.c (LeC.refl _ rfl) | exact LeA.c (LeC.ow _ _ rfl) | exact LeA.c (LeC.pt _ _ _ _ _ rfl) | exact LeA.c (LeC.nil _ rfl) | exact LeA.c (LeC.nils _ _) | (refine LeA.int ?_; omega) | (refine LeA.int ?_; dsimp only; omega) | exact LeA.c (LeC.fz rfl rfl (by first | rfl | omega) (fun i _ j _ => ⟨rfl, by first | rfl | exact rowN_imm (fun _ => rfl) _ i j | exact rowF_imm (fun _ => rfl) _ i j⟩))⟩, ?_⟩)
                · repeat (first | exact trivial | refine ⟨by first | exact HeapOk.same rfl rfl rfl rfl | exact HeapOk.lent rfl rfl rfl rfl | exact HeapOk.nil rfl rfl | exact HeapOk.row rfl rfl (by first | rfl | omega) (fun i _ j _ => ⟨rfl, by first | rfl | exact rowN_imm (fun _ => rfl) _ i j | exact rowF_imm (fun _ => rfl) _ i j⟩) | exact HeapOk.box rfl rfl (by repeat (first | exact trivial | refine ⟨by first | exact LeC.refl _ rfl | exact LeC.ow _ _ rfl | exact LeC.nil _ rfl | exact LeC.nils _ _ | exact LeC.fz rfl rfl (by first | rfl | omega) (fun i _ j _ => ⟨rfl, by first | rfl | exact rowN_imm (fun _ => rfl) _ i j | exact rowF_imm (fun _ => rfl) _ i j⟩) | exact LeC.int (by omega), ?_⟩)) rfl, ?_⟩)
            · by_cases g3 : ti ≤ (i : Int)
              · cases g4 : hasB b.W b.H b.d ((i : Int) - dx) ((j : Int) - dy) with
                | false =>
                  rw [g4] at hGb
                  rw [show onB a b dx dy fr ti j i = true by unfold onB; rw [g1, g4, decide_eq_true g3, Bool.or_true]; rfl, if_pos rfl] at hcs
                  repeat (first
                    | refine AWp.seq ?_
                    | refine thenA_n ?_
                    | refine AWp.block ?_
                    | refine AWp.skip ?_
                    | refine inBlk_n ?_
                    | refine AWp.condT rfl (by first | rfl | assumption | exact cmT) ?_
                    | (refine AWp.region (id := 6) ?_; refine AList.move rfl rfl rfl ?_; refine AList.fieldPt tyOk rfl rfl rfl rfl rfl rfl rfl ?_; refine AList.load1 tyOk rfl rfl rfl rfl rfl rfl rfl oM oM ?_; refine AList.cmpT rfl rfl rfl rfl rfl cmT ?_; refine AList.nil ?_)
                    | (refine AWp.region (id := 7) ?_; refine AList.move rfl rfl rfl ?_; refine AList.add rfl rfl rfl rfl (by omega) (by omega) ?_; refine AList.assign rfl rfl rfl ?_; refine AList.nil ?_)
                    | (refine AWp.region (id := 8) ?_; refine AList.loadA tyOk rfl rfl rfl rfl rfl rfl rfl oM oM ?_; refine AList.move rfl rfl rfl ?_; refine AList.move rfl rfl rfl ?_; refine AList.call rfl rfl rfl rfl Try.func55 rfl (by kernel_rfl) (hGa) ?_; refine AList.move rfl rfl rfl ?_; refine AList.move rfl rfl rfl ?_; refine AList.move rfl rfl rfl ?_; refine AList.cmpF rfl rfl rfl rfl rfl cmF ?_; refine AList.move rfl rfl rfl ?_; refine AList.move rfl rfl rfl ?_; refine AList.move rfl rfl rfl ?_; refine AList.cmpT rfl rfl rfl rfl rfl cmT ?_; refine AList.pickF rfl rfl rfl rfl ?_; refine AList.pickT rfl rfl rfl rfl ?_; refine AList.move rfl rfl rfl ?_; refine AList.loadA tyOk rfl rfl rfl rfl rfl rfl rfl oM oM ?_; refine AList.move rfl rfl rfl ?_; refine AList.move rfl rfl rfl ?_; refine AList.sub rfl rfl rfl rfl (by omega) (by omega) ?_; refine AList.move rfl rfl rfl ?_; refine AList.move rfl rfl rfl ?_; refine AList.sub rfl rfl rfl rfl (by omega) (by omega) ?_; refine AList.call rfl rfl rfl rfl Try.func55 rfl (by kernel_rfl) (hGb) ?_; refine AList.notB rfl rfl rfl ?_; refine AList.pickT rfl rfl rfl rfl ?_; refine AList.nil ?_)
                    | (refine AWp.region (id := 9) ?_; refine AList.move rfl rfl rfl ?_; refine AList.add rfl rfl rfl rfl (by omega) (by omega) ?_; refine AList.assign rfl rfl rfl ?_; refine AList.nil ?_))
                  refine ⟨i + 1, hil, Wk.mk [(6, some 6), (7, some 7)] rfl rfl rfl ?_ ?_, by omega⟩
                  · rw [hcs]
                    repeat (first | exact trivial | refine ⟨⟨_, rfl, by first | exact LeA.c (LeC.refl _ rfl) | exact LeA.c (LeC.ow _ _ rfl) | exact LeA.c (LeC.pt _ _ _ _ _ rfl) | exact LeA.c (LeC.nil _ rfl) | exact LeA.c (LeC.nils _ _) | (refine LeA.int ?_; omega) | (refine LeA.int ?_; dsimp only; omega) | exact LeA.c (LeC.fz rfl rfl (by first | rfl | omega) (fun i _ j _ => ⟨rfl, by first | rfl | exact rowN_imm (fun _ => rfl) _ i j | exact rowF_imm (fun _ => rfl) _ i j⟩))⟩, ?_⟩)
                  · repeat (first | exact trivial | refine ⟨by first | exact HeapOk.same rfl rfl rfl rfl | exact HeapOk.lent rfl rfl rfl rfl | exact HeapOk.nil rfl rfl | exact HeapOk.row rfl rfl (by first | rfl | omega) (fun i _ j _ => ⟨rfl, by first | rfl | exact rowN_imm (fun _ => rfl) _ i j | exact rowF_imm (fun _ => rfl) _ i j⟩) | exact HeapOk.box rfl rfl (by repeat (first | exact trivial | refine ⟨by first | exact LeC.refl _ rfl | exact LeC.ow _ _ rfl | exact LeC.nil _ rfl | exact LeC.nils _ _ | exact LeC.fz rfl rfl (by first | rfl | omega) (fun i _ j _ => ⟨rfl, by first | rfl | exact rowN_imm (fun _ => rfl) _ i j | exact rowF_imm (fun _ => rfl) _ i j⟩) | exact LeC.int (by omega), ?_⟩)) rfl, ?_⟩)
                | true =>
                  rw [g4] at hGb
                  rw [show onB a b dx dy fr ti j i = false by unfold onB; rw [g1, g4]; simp, if_neg (by decide)] at hcs
                  repeat (first
                    | refine AWp.seq ?_
                    | refine thenA_n ?_
                    | refine AWp.block ?_
                    | refine AWp.skip ?_
                    | refine inBlk_n ?_
                    | refine AWp.condT rfl (by first | rfl | assumption | exact cmT) ?_
                    | refine AWp.condF rfl (by first | rfl | assumption | exact cmF) ?_
                    | (refine AWp.region (id := 6) ?_; refine AList.move rfl rfl rfl ?_; refine AList.fieldPt tyOk rfl rfl rfl rfl rfl rfl rfl ?_; refine AList.load1 tyOk rfl rfl rfl rfl rfl rfl rfl oM oM ?_; refine AList.cmpT rfl rfl rfl rfl rfl cmT ?_; refine AList.nil ?_)
                    | (refine AWp.region (id := 7) ?_; refine AList.move rfl rfl rfl ?_; refine AList.add rfl rfl rfl rfl (by omega) (by omega) ?_; refine AList.assign rfl rfl rfl ?_; refine AList.nil ?_)
                    | (refine AWp.region (id := 8) ?_; refine AList.loadA tyOk rfl rfl rfl rfl rfl rfl rfl oM oM ?_; refine AList.move rfl rfl rfl ?_; refine AList.move rfl rfl rfl ?_; refine AList.call rfl rfl rfl rfl Try.func55 rfl (by kernel_rfl) (hGa) ?_; refine AList.move rfl rfl rfl ?_; refine AList.move rfl rfl rfl ?_; refine AList.move rfl rfl rfl ?_; refine AList.cmpF rfl rfl rfl rfl rfl cmF ?_; refine AList.move rfl rfl rfl ?_; refine AList.move rfl rfl rfl ?_; refine AList.move rfl rfl rfl ?_; refine AList.cmpT rfl rfl rfl rfl rfl cmT ?_; refine AList.pickF rfl rfl rfl rfl ?_; refine AList.pickT rfl rfl rfl rfl ?_; refine AList.move rfl rfl rfl ?_; refine AList.loadA tyOk rfl rfl rfl rfl rfl rfl rfl oM oM ?_; refine AList.move rfl rfl rfl ?_; refine AList.move rfl rfl rfl ?_; refine AList.sub rfl rfl rfl rfl (by omega) (by omega) ?_; refine AList.move rfl rfl rfl ?_; refine AList.move rfl rfl rfl ?_; refine AList.sub rfl rfl rfl rfl (by omega) (by omega) ?_; refine AList.call rfl rfl rfl rfl Try.func55 rfl (by kernel_rfl) (hGb) ?_; refine AList.notB rfl rfl rfl ?_; refine AList.pickT rfl rfl rfl rfl ?_; refine AList.nil ?_))
                  refine ⟨i + 1, hil, Wk.mk [(6, some 6), (7, some 7)] rfl rfl rfl ?_ ?_, by omega⟩
                  · rw [hcs]
                    repeat (first | exact trivial | refine ⟨⟨_, rfl, by first | exact LeA.c (LeC.refl _ rfl) | exact LeA.c (LeC.ow _ _ rfl) | exact LeA.c (LeC.pt _ _ _ _ _ rfl) | exact LeA.c (LeC.nil _ rfl) | exact LeA.c (LeC.nils _ _) | (refine LeA.int ?_; omega) | (refine LeA.int ?_; dsimp only; omega) | exact LeA.c (LeC.fz rfl rfl (by first | rfl | omega) (fun i _ j _ => ⟨rfl, by first | rfl | exact rowN_imm (fun _ => rfl) _ i j | exact rowF_imm (fun _ => rfl) _ i j⟩))⟩, ?_⟩)
                  · repeat (first | exact trivial | refine ⟨by first | exact HeapOk.same rfl rfl rfl rfl | exact HeapOk.lent rfl rfl rfl rfl | exact HeapOk.nil rfl rfl | exact HeapOk.row rfl rfl (by first | rfl | omega) (fun i _ j _ => ⟨rfl, by first | rfl | exact rowN_imm (fun _ => rfl) _ i j | exact rowF_imm (fun _ => rfl) _ i j⟩) | exact HeapOk.box rfl rfl (by repeat (first | exact trivial | refine ⟨by first | exact LeC.refl _ rfl | exact LeC.ow _ _ rfl | exact LeC.nil _ rfl | exact LeC.nils _ _ | exact LeC.fz rfl rfl (by first | rfl | omega) (fun i _ j _ => ⟨rfl, by first | rfl | exact rowN_imm (fun _ => rfl) _ i j | exact rowF_imm (fun _ => rfl) _ i j⟩) | exact LeC.int (by omega), ?_⟩)) rfl, ?_⟩)
              · rw [show onB a b dx dy fr ti j i = false by unfold onB; rw [g1, decide_eq_false g2, decide_eq_false g3]; rfl, if_neg (by decide)] at hcs
                repeat (first
                  | refine AWp.seq ?_
                  | refine thenA_n ?_
                  | refine AWp.block ?_
                  | refine AWp.skip ?_
                  | refine inBlk_n ?_
                  | refine AWp.condT rfl (by first | rfl | assumption | exact cmT) ?_
                  | refine AWp.condF rfl (by first | rfl | assumption | exact cmF) ?_
                  | (refine AWp.region (id := 6) ?_; refine AList.move rfl rfl rfl ?_; refine AList.fieldPt tyOk rfl rfl rfl rfl rfl rfl rfl ?_; refine AList.load1 tyOk rfl rfl rfl rfl rfl rfl rfl oM oM ?_; refine AList.cmpT rfl rfl rfl rfl rfl cmT ?_; refine AList.nil ?_)
                  | (refine AWp.region (id := 7) ?_; refine AList.move rfl rfl rfl ?_; refine AList.add rfl rfl rfl rfl (by omega) (by omega) ?_; refine AList.assign rfl rfl rfl ?_; refine AList.nil ?_)
                  | (refine AWp.region (id := 8) ?_; refine AList.loadA tyOk rfl rfl rfl rfl rfl rfl rfl oM oM ?_; refine AList.move rfl rfl rfl ?_; refine AList.move rfl rfl rfl ?_; refine AList.call rfl rfl rfl rfl Try.func55 rfl (by kernel_rfl) (hGa) ?_; refine AList.move rfl rfl rfl ?_; refine AList.move rfl rfl rfl ?_; refine AList.move rfl rfl rfl ?_; refine AList.cmpF rfl rfl rfl rfl rfl cmF ?_; refine AList.move rfl rfl rfl ?_; refine AList.move rfl rfl rfl ?_; refine AList.move rfl rfl rfl ?_; refine AList.cmpF rfl rfl rfl rfl rfl cmF ?_; refine AList.pickF rfl rfl rfl rfl ?_; refine AList.pickT rfl rfl rfl rfl ?_; refine AList.move rfl rfl rfl ?_; refine AList.skip rfl rfl ?_; refine AList.skip rfl rfl ?_; refine AList.skip rfl rfl ?_; refine AList.skip rfl rfl ?_; refine AList.skip rfl rfl ?_; refine AList.skip rfl rfl ?_; refine AList.skip rfl rfl ?_; refine AList.skip rfl rfl ?_; refine AList.skip rfl rfl ?_; refine AList.pickF rfl rfl rfl rfl ?_; refine AList.nil ?_))
                refine ⟨i + 1, hil, Wk.mk [(6, some 6), (7, some 7)] rfl rfl rfl ?_ ?_, by omega⟩
                · rw [hcs]
                  repeat (first | exact trivial | refine ⟨⟨_, rfl, by first | exact LeA.c (LeC.refl _ rfl) | exact LeA.c (LeC.ow _ _ rfl) | exact LeA.c (LeC.pt _ _ _ _ _ rfl) | exact LeA.c (LeC.nil _ rfl) | exact LeA.c (LeC.nils _ _) | (refine LeA.int ?_; omega) | (refine LeA.int ?_; dsimp only; omega) | exact LeA.c (LeC.fz rfl rfl (by first | rfl | omega) (fun i _ j _ => ⟨rfl, by first | rfl | exact rowN_imm (fun _ => rfl) _ i j | exact rowF_imm (fun _ => rfl) _ i j⟩))⟩, ?_⟩)
                · repeat (first | exact trivial | refine ⟨by first | exact HeapOk.same rfl rfl rfl rfl | exact HeapOk.lent rfl rfl rfl rfl | exact HeapOk.nil rfl rfl | exact HeapOk.row rfl rfl (by first | rfl | omega) (fun i _ j _ => ⟨rfl, by first | rfl | exact rowN_imm (fun _ => rfl) _ i j | exact rowF_imm (fun _ => rfl) _ i j⟩) | exact HeapOk.box rfl rfl (by repeat (first | exact trivial | refine ⟨by first | exact LeC.refl _ rfl | exact LeC.ow _ _ rfl | exact LeC.nil _ rfl | exact LeC.nils _ _ | exact LeC.fz rfl rfl (by first | rfl | omega) (fun i _ j _ => ⟨rfl, by first | rfl | exact rowN_imm (fun _ => rfl) _ i j | exact rowF_imm (fun _ => rfl) _ i j⟩) | exact LeC.int (by omega), ?_⟩)) rfl, ?_⟩)
        · obtain rfl : i = Wn := by omega
          repeat (first
            | refine AWp.seq ?_
            | refine thenA_n ?_
            | refine AWp.exit ?_
            | refine thenA_e ?_
            | refine inBlk_n ?_
            | refine inBlk_hit ?_
            | refine AWp.condF rfl (by first | rfl | assumption | exact cmF) ?_
            | (refine AWp.region (id := 4) ?_; refine AList.move rfl rfl rfl ?_; refine AList.add rfl rfl rfl rfl (by omega) (by omega) ?_; refine AList.assign rfl rfl rfl ?_; refine AList.nil ?_)
            | (refine AWp.region (id := 6) ?_; refine AList.move rfl rfl rfl ?_; refine AList.fieldPt tyOk rfl rfl rfl rfl rfl rfl rfl ?_; refine AList.load1 tyOk rfl rfl rfl rfl rfl rfl rfl oM oM ?_; refine AList.cmpF rfl rfl rfl rfl rfl cmF ?_; refine AList.nil ?_))
          refine ⟨j + 1, hjl, Wk.mk [(6, some 6), (7, some 7)] rfl rfl rfl ?_ ?_, by omega⟩
          · rw [hsu, hc]
            repeat (first | exact trivial | refine ⟨⟨_, rfl, by first | exact LeA.c (LeC.refl _ rfl) | exact LeA.c (LeC.ow _ _ rfl) | exact LeA.c (LeC.pt _ _ _ _ _ rfl) | exact LeA.c (LeC.nil _ rfl) | exact LeA.c (LeC.nils _ _) | (refine LeA.int ?_; omega) | (refine LeA.int ?_; dsimp only; omega) | exact LeA.c (LeC.fz rfl rfl (by first | rfl | omega) (fun i _ j _ => ⟨rfl, by first | rfl | exact rowN_imm (fun _ => rfl) _ i j | exact rowF_imm (fun _ => rfl) _ i j⟩))⟩, ?_⟩)
          · repeat (first | exact trivial | refine ⟨by first | exact HeapOk.same rfl rfl rfl rfl | exact HeapOk.lent rfl rfl rfl rfl | exact HeapOk.nil rfl rfl | exact HeapOk.row rfl rfl (by first | rfl | omega) (fun i _ j _ => ⟨rfl, by first | rfl | exact rowN_imm (fun _ => rfl) _ i j | exact rowF_imm (fun _ => rfl) _ i j⟩) | exact HeapOk.box rfl rfl (by repeat (first | exact trivial | refine ⟨by first | exact LeC.refl _ rfl | exact LeC.ow _ _ rfl | exact LeC.nil _ rfl | exact LeC.nils _ _ | exact LeC.fz rfl rfl (by first | rfl | omega) (fun i _ j _ => ⟨rfl, by first | rfl | exact rowN_imm (fun _ => rfl) _ i j | exact rowF_imm (fun _ => rfl) _ i j⟩) | exact LeC.int (by omega), ?_⟩)) rfl, ?_⟩)
    · obtain rfl : j = Hn := by omega
      repeat (first
        | refine AWp.seq ?_
        | refine thenA_n ?_
        | refine AWp.exit ?_
        | refine AWp.ret ?_
        | refine AWp.condF rfl (by first | rfl | assumption | exact cmF) ?_
        | (refine AWp.region (id := 3) ?_; refine AList.loadA tyOk rfl rfl rfl rfl rfl rfl rfl oM oM ?_; refine AList.call rfl rfl rfl rfl Try.func51 rfl (by kernel_rfl) (hC) ?_; refine AList.cmp rfl rfl rfl rfl rfl ?_; refine AList.move rfl rfl rfl ?_; refine AList.move rfl rfl rfl ?_; refine AList.fieldPt tyOk rfl rfl rfl rfl rfl rfl rfl ?_; refine AList.load1 tyOk rfl rfl rfl rfl rfl rfl rfl oM oM ?_; refine AList.cmpF rfl rfl rfl rfl rfl cmF ?_; refine AList.pickT rfl rfl rfl rfl ?_; refine AList.nil ?_)
        | (refine AWp.region (id := 10) ?_; refine AList.move rfl rfl rfl ?_; refine AList.assign rfl rfl rfl ?_; refine AList.nil ?_))
      refine ⟨mkSt 61 [(12, .c (iC (sumTo (fun j => cnt (onB a b dx dy fr ti j) Wn) j)))] [] [], [], Wk.mk [] rfl rfl rfl ?_ trivial, rfl, rfl, ARets.one (x := .c _) (ARes.tmp rfl rfl)⟩
      repeat (first | exact trivial | refine ⟨⟨_, rfl, by first | exact LeA.c (LeC.refl _ rfl) | exact LeA.c (LeC.ow _ _ rfl) | exact LeA.c (LeC.pt _ _ _ _ _ rfl) | exact LeA.c (LeC.nil _ rfl) | exact LeA.c (LeC.nils _ _) | (refine LeA.int ?_; omega) | (refine LeA.int ?_; dsimp only; omega) | exact LeA.c (LeC.fz rfl rfl (by first | rfl | omega) (fun i _ j _ => ⟨rfl, by first | rfl | exact rowN_imm (fun _ => rfl) _ i j | exact rowF_imm (fun _ => rfl) _ i j⟩))⟩, ?_⟩)
end Go.Proofs.Ytijaioiojclooaa
end
