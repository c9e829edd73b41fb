/- Parts of the proof: A24o, A24p. -/
import Derived.Test.YtfgcogkhnnflcaaDoorG18
import Derived.Test.YtfgcogkhnnflcaaDoorHA26nbc13
import Derived.Test.YtfgcogkhnnflcaaDoorHA26nbc14
import Derived.Test.YtfgcogkhnnflcaaDoorHA26nbc10
import Derived.Test.YtfgcogkhnnflcaaDoorG16
import Derived.Test.YtfgcogkhnnflcaaDoorG12
import Derived.Test.YtfgcogkhnnflcaaDoorHA26nbc04
import Derived.Shelf.Abstract
import Derived.Test.YtfgcogkhnnflcaaDoorG17
import Derived.Test.YtfgcogkhnnflcaaDoorHA26nbc12
import Derived.Test.YtfgcogkhnnflcaaDoorG11
import Derived.RangeFuncNested
import Derived.Test.YtfgcogkhnnflcaaDoorG05
import Derived.Test.YtfgcogkhnnflcaaDoorHA26nbc01
import Derived.Test.YtfgcogkhnnflcaaDoorHA26nbc09
import Derived.Test.YtfgcogkhnnflcaaDoorProg
import Derived.Test.YtfgcogkhnnflcaaDoorG02
import Derived.Laws.Cover3
import Derived.Test.YtfgcogkhnnflcaaDoorG01
import Derived.Test.YtfgcogkhnnflcaaDoorHA26nbc08
import Derived.Test.YtfgcogkhnnflcaaDoorHA26nbc11
import Derived.Test.YtfgcogkhnnflcaaDoorHA26nbc07
import Derived.Test.YtfgcogkhnnflcaaDoorG14
import Derived.WalkKit
import Derived.Test.YtfgcogkhnnflcaaDoorHA26nbc03
import Derived.Laws.StructEq
import Derived.Lib.Hide
import Derived.Deep.QuietTactic
import Derived.BigQuiet
import Derived.Deep.DrawnRows
import Derived.Test.YtfgcogkhnnflcaaDoorHA26nbc06
import Derived.Test.YtfgcogkhnnflcaaDoorG13
import Derived.Test.YtfgcogkhnnflcaaDoorHA26nbc05
import Derived.Test.YtfgcogkhnnflcaaDoorG06
import Derived.Test.YtfgcogkhnnflcaaDoorG04
import Derived.Deep.AppendLies
import Derived.StillTail
import Derived.Below
import Derived.Deep.Draws
import Derived.KernelRfl
import Derived.Maps.AppendAt
import Derived.OwnWalk
import Derived.Test.YtfgcogkhnnflcaaDoorG10
import Derived.Test.YtfgcogkhnnflcaaDoorG15
import Derived.Test.YtfgcogkhnnflcaaDoorHA26nbc02
import Derived.Great.BuildSlice
import Derived.Test.YtfgcogkhnnflcaaDoorG09
import Derived.RangeFuncLeaves
import Derived.RangeFuncRecord
import Derived.Test.YtfgcogkhnnflcaaDoorG08
import Derived.OrdersIn
import Derived.TacticsIn
import Derived.RangeFuncCalls
set_option linter.unusedSimpArgs false
set_option linter.unusedVariables false
section
namespace Go.Proofs.YtfgcogkhnnflcaaDoor
open Go.RowKit Go.Flow Go.AV Go.Plain
abbrev stYs (a b : Bp) (x y : Bg) (n : Nat) (c0 c1 : Nat → Int) (t0 t1 : Int) : List CV := [CV.pl 1 14 (lF (prC a b (lim4 x) (lim4 y))) 0 0, CV.pl 1 1 (lF [.ls n 2 (cF c0 c1)]) 0 0, CV.pl 1 2 (lF [iC t0, iC t1]) 0 0]
set_option maxHeartbeats 4000000 in
set_option maxRecDepth 100000 in
theorem stripsIt_A (a b : Bp) (x y : Bg) (n t M Wn : Nat) (c0 c1 : Nat → Int) (t0 t1 : Int) (hw : a.W = Wn) (hw96 : Wn ≤ 96) (hn : n = Wn + 40) (ht : stN a.W x y = t) (hM : M + t = Wn + 9) (hc0 : ∀ k, 0 ≤ c0 k ∧ c0 k ≤ 97) (hc1 : ∀ k, 0 ≤ c1 k ∧ c1 k ≤ 97) (ht0 : ∀ i, 0 ≤ t0 - wS c0 i t ∧ t0 - wS c0 i t ≤ 100000) (ht1 : ∀ i, 0 ≤ t1 - wS c1 i t ∧ t1 - wS c1 i t ≤ 100000) :
    ItCalls Tryd.prog 56 ((stYs a b x y n c0 c1 t0 t1).map .c) (stX x y t c0 c1 t0 t1) M := by
  have hb := stN_bd x y (show 0 ≤ a.W by omega)
  have ht16 : t ≤ 16 ∧ t ≤ Wn + 8 := by omega
  have hst := pstrip_A a b x y (by omega)
  rw [ht] at hst
  refine itcalls_of Tryd.func56 rfl rfl Tryd.ntmps56 rfl fun l N stop hN1 hN2 => ?_
  repeat (first
    | refine AWp.seq ?_
    | refine thenA_n ?_
    | refine AWp.block ?_
    | (refine AWp.region (id := 0) ?_; refine AList.loadAl tyOk rfl rfl rfl rfl rfl oM ?_; refine AList.call rfl rfl rfl rfl Tryd.func57 rfl (by kernel_rfl) (hst) ?_; refine AList.assign rfl rfl rfl ?_; refine AList.nil ?_)
    | (refine AWp.region (id := 1) ?_; refine AList.buildArr tyOk rfl rfl rfl rfl rfl rfl rfl rfl ?_; refine AList.alloc tyOk rfl rfl rfl rfl rfl ?_; refine AList.store tyOk rfl rfl rfl rfl rfl rfl rfl rfl oM oM ?_; refine AList.nil ?_)
    | (refine AWp.region (id := 2) ?_; refine AList.move rfl rfl rfl ?_; refine AList.move rfl rfl rfl ?_; refine AList.nil ?_))
  refine AWp.round (fun k : Nat => mkG (itG Tryd.prog l (stX x y t c0 c1 t0 t1) N stop) 0 false 90 0 [(0, .c (.p (yv l))), (1, .c (.pl 1 14 (lF (prC a b (lim4 x) (lim4 y))) 0 0)), (2, .c (.pl 1 1 (lF [.ls n 2 (cF c0 c1)]) 0 0)), (3, .c (.pl 1 2 (lF [iC t0, iC t1]) 0 0)), (5, .c (iC t)), (6, .c (.pt 6 2 0 0)), (13, .c (iC t)), (14, .c (iC k))] [(6, ⟨false, 1, 2, 76, lF [iC (wS c0 0 k), iC (wS c1 0 k)]⟩)] [6])
    (fun k => k ≤ t) (fun k => t - k) 0 (Nat.zero_le _) ?_ (fun k hk => ?_)
  · refine Wk.mkG [(6, some 6)] rfl rfl rfl rfl rfl ?_ ?_
    · repeat (first | exact trivial | refine ⟨⟨_, rfl, by first | exact LeA.c (LeC.refl _ rfl) | exact LeA.c (LeC.ow _ _ rfl) | exact LeA.c (LeC.pt _ _ _ _ _ rfl) | exact LeA.c (LeC.nil _ rfl) | exact LeA.c (LeC.nils _ _) | (refine LeA.int ?_; omega) | (refine LeA.int ?_; dsimp only; omega) | exact LeA.c (LeC.fz rfl rfl (by first | rfl | omega) (fun i _ j _ => ⟨rfl, by first | rfl | exact rowN_imm (fun _ => rfl) _ i j | exact rowF_imm (fun _ => rfl) _ i j⟩))⟩, ?_⟩)
    · exact ⟨HeapOk.same rfl rfl rfl rfl, trivial⟩
  · by_cases hkl : k < t
    · have b0 := wS_bd hc0 0 k
      have b1 := wS_bd hc1 0 k
      have d0 := hc0 k
      have d1 := hc1 k
      have e0 := wS_more c0 0 k
      have e1 := wS_more c1 0 k
      rw [Nat.zero_add] at e0 e1
      obtain ⟨u0, hu0⟩ : ∃ u, wS c0 0 (k + 1) = u := ⟨_, rfl⟩
      obtain ⟨u1, hu1⟩ : ∃ u, wS c1 0 (k + 1) = u := ⟨_, rfl⟩
      rw [hu0] at e0
      rw [hu1] at e1
      generalize wS c0 0 k = v0 at *
      generalize wS c1 0 k = v1 at *
      repeat (first
        | refine AWp.seq ?_
        | refine thenA_n ?_
        | refine AWp.block ?_
        | refine AWp.skip ?_
        | refine inBlk_n ?_
        | refine AWp.condT rfl (by first | rfl | assumption | exact cmT) ?_
        | (refine AWp.region (id := 3) ?_; refine AList.cmpT rfl rfl rfl rfl rfl cmT ?_; refine AList.nil ?_)
        | (refine AWp.region (id := 4) ?_; refine AList.move rfl rfl rfl ?_; refine AList.assign rfl rfl rfl ?_; refine AList.nil ?_)
        | (refine AWp.draw (id := 5) mixed ?_; refine AList.idxArr tyOk rfl rfl rfl rfl rfl rfl rfl rfl oM ?_; refine AList.load1 tyOk rfl rfl rfl rfl rfl rfl rfl oM oM ?_; refine AList.load1l tyOk rfl rfl rfl rfl rfl oM ?_; refine AList.move rfl rfl rfl ?_; refine AList.idx (k := k) tyOk rfl rfl rfl rfl rfl rfl rfl rfl (by first | rfl | omega) oM oM ?_; refine AList.idxArrL tyOk rfl rfl rfl rfl rfl rfl rfl rfl oM ?_; refine AList.load1l tyOk rfl rfl rfl rfl rfl oM ?_; refine AList.add rfl rfl rfl rfl (by omega) (by omega) ?_; refine AList.idxArr tyOk rfl rfl rfl rfl rfl rfl rfl rfl oM ?_; refine AList.store tyOk rfl rfl rfl rfl rfl rfl rfl rfl oM oM ?_; refine AList.nil ⟨by kernel_rfl, ?_⟩)
        | (refine AWp.draw (id := 6) mixed ?_; refine AList.idxArr tyOk rfl rfl rfl rfl rfl rfl rfl rfl oM ?_; refine AList.load1 tyOk rfl rfl rfl rfl rfl rfl rfl oM oM ?_; refine AList.load1l tyOk rfl rfl rfl rfl rfl oM ?_; refine AList.move rfl rfl rfl ?_; refine AList.idx (k := k) tyOk rfl rfl rfl rfl rfl rfl rfl rfl (by first | rfl | omega) oM oM ?_; refine AList.idxArrL tyOk rfl rfl rfl rfl rfl rfl rfl rfl oM ?_; refine AList.load1l tyOk rfl rfl rfl rfl rfl oM ?_; refine AList.add rfl rfl rfl rfl (by omega) (by omega) ?_; refine AList.idxArr tyOk rfl rfl rfl rfl rfl rfl rfl rfl oM ?_; refine AList.store tyOk rfl rfl rfl rfl rfl rfl rfl rfl oM oM ?_; refine AList.nil ⟨by kernel_rfl, ?_⟩)
        | (refine AWp.region (id := 7) ?_; refine AList.add rfl rfl rfl rfl (by omega) (by omega) ?_; refine AList.move rfl rfl rfl ?_; refine AList.nil ?_))
      refine ⟨k + 1, hkl, Wk.mkG [(6, some 6)] rfl rfl rfl rfl rfl ?_ ?_, by omega⟩
      · repeat (first | exact trivial | refine ⟨⟨_, rfl, by first | exact LeA.c (LeC.refl _ rfl) | exact LeA.c (LeC.ow _ _ rfl) | exact LeA.c (LeC.pt _ _ _ _ _ rfl) | exact LeA.c (LeC.nil _ rfl) | exact LeA.c (LeC.nils _ _) | (refine LeA.int ?_; omega) | (refine LeA.int ?_; dsimp only; omega) | exact LeA.c (LeC.fz rfl rfl (by first | rfl | omega) (fun i _ j _ => ⟨rfl, by first | rfl | exact rowN_imm (fun _ => rfl) _ i j | exact rowF_imm (fun _ => rfl) _ i j⟩))⟩, ?_⟩)
      · rw [hu0, hu1, e0, e1]
        exact ⟨HeapOk.same rfl rfl rfl rfl, trivial⟩
    · obtain rfl : k = t := by omega
      repeat (first
        | refine AWp.seq ?_
        | refine thenA_n ?_
        | refine AWp.block ?_
        | refine AWp.exit ?_
        | refine AWp.condF rfl (by first | rfl | assumption | exact cmF) ?_
        | (refine AWp.region (id := 3) ?_; refine AList.cmpF rfl rfl rfl rfl rfl cmF ?_; refine AList.nil ?_)
        | (refine AWp.region (id := 8) ?_; refine AList.assign rfl rfl rfl ?_; refine AList.nil ?_))
      refine AWp.round (fun i : Nat => mkG (itG Tryd.prog l (stX x y k c0 c1 t0 t1) N stop) i false 90 0 [(0, .c (.p (yv l))), (1, .c (.pl 1 14 (lF (prC a b (lim4 x) (lim4 y))) 0 0)), (2, .c (.pl 1 1 (lF [.ls n 2 (cF c0 c1)]) 0 0)), (3, .c (.pl 1 2 (lF [iC t0, iC t1]) 0 0)), (5, .c (iC k)), (6, .c (.pt 6 2 0 0)), (8, .c (iC ((i : Int) - 4)))] [(6, ⟨false, 1, 2, 76, lF [iC (wS c0 i k), iC (wS c1 i k)]⟩)] [6])
        (fun i => i < M ∧ (stop = true → i < N)) (fun i => M - i) 0 ⟨by omega, fun h => (hN1 h).1⟩ ?_ (fun i hi => ?_)
      · refine Wk.mkG [(6, some 6)] rfl rfl rfl rfl rfl ?_ ?_
        · repeat (first | exact trivial | refine ⟨⟨_, rfl, by first | exact LeA.c (LeC.refl _ rfl) | exact LeA.c (LeC.ow _ _ rfl) | exact LeA.c (LeC.pt _ _ _ _ _ rfl) | exact LeA.c (LeC.nil _ rfl) | exact LeA.c (LeC.nils _ _) | (refine LeA.int ?_; omega) | (refine LeA.int ?_; dsimp only; omega) | exact LeA.c (LeC.fz rfl rfl (by first | rfl | omega) (fun i _ j _ => ⟨rfl, by first | rfl | exact rowN_imm (fun _ => rfl) _ i j | exact rowF_imm (fun _ => rfl) _ i j⟩))⟩, ?_⟩)
        · exact ⟨HeapOk.same rfl rfl rfl rfl, trivial⟩
      · obtain ⟨hiM, hiN0⟩ := hi
        have hiN : i < N := by
          cases stop with
          | true => exact hiN0 rfl
          | false => rw [hN2 rfl]; exact hiM
        have q0 := ht0 i
        have q1 := ht1 i
        have b0 := wS_bd hc0 i k
        have b1 := wS_bd hc1 i k
        have hpe := pexcess_A a b x y (t0 - wS c0 i k) (t1 - wS c1 i k) q0 q1
        cases hg1 : goesB N stop i with
        | false =>
          obtain ⟨hst1, hN⟩ := goes_false hg1
          repeat (first
            | refine AWp.seq ?_
            | refine AWp.block ?_)
          refine AWp.text ?_
          refine AText.split 14 ?_
          refine AList.move rfl rfl rfl ?_
          refine AList.move rfl rfl rfl ?_
          refine AList.loadAl tyOk rfl rfl rfl rfl rfl oM ?_
          refine AList.idxArrL tyOk rfl rfl rfl rfl rfl rfl rfl rfl oM ?_
          refine AList.load1l tyOk rfl rfl rfl rfl rfl oM ?_
          refine AList.idxArr tyOk rfl rfl rfl rfl rfl rfl rfl rfl oM ?_
          refine AList.load1 tyOk rfl rfl rfl rfl rfl rfl rfl oM oM ?_
          refine AList.sub rfl rfl rfl rfl (by omega) (by omega) ?_
          refine AList.idxArrL tyOk rfl rfl rfl rfl rfl rfl rfl rfl oM ?_
          refine AList.load1l tyOk rfl rfl rfl rfl rfl oM ?_
          refine AList.idxArr tyOk rfl rfl rfl rfl rfl rfl rfl rfl oM ?_
          refine AList.load1 tyOk rfl rfl rfl rfl rfl rfl rfl oM oM ?_
          refine AList.sub rfl rfl rfl rfl (by omega) (by omega) ?_
          refine AList.call rfl rfl rfl rfl Tryd.func58 rfl (by kernel_rfl) (hpe) ?_
          refine AList.nil ?_
          refine AText.yield (i := i) false rfl rfl rfl rfl (fun _ h => h) rfl rfl (hiN) (rfl) (hg1) ?_
          refine AText.all ?_
          refine AList.notB rfl rfl rfl ?_
          refine AList.move rfl rfl rfl ?_
          refine AList.skip rfl rfl ?_
          refine AList.skip rfl rfl ?_
          refine AList.skip rfl rfl ?_
          refine AList.skip rfl rfl ?_
          refine AList.skip rfl rfl ?_
          refine AList.skip rfl rfl ?_
          refine AList.skip rfl rfl ?_
          refine AList.skip rfl rfl ?_
          refine AList.pickT rfl rfl rfl rfl ?_
          refine AList.nil ?_
          repeat (first
            | refine thenA_n ?_
            | refine AWp.ret ?_
            | refine thenA_r ?_
            | refine inBlk_r ?_
            | refine AWp.condT rfl (by first | rfl | assumption | exact cmT) ?_)
          exact ⟨hN, hst1.symm⟩
        | true =>
          by_cases hlast : i + 1 = M
          · have hsf : stop = false := by
              cases stop with
              | false => rfl
              | true => have := goes_true hg1 rfl; have := hN1 rfl; omega
            repeat (first
              | refine AWp.seq ?_
              | refine AWp.block ?_)
            refine AWp.text ?_
            refine AText.split 14 ?_
            refine AList.move rfl rfl rfl ?_
            refine AList.move rfl rfl rfl ?_
            refine AList.loadAl tyOk rfl rfl rfl rfl rfl oM ?_
            refine AList.idxArrL tyOk rfl rfl rfl rfl rfl rfl rfl rfl oM ?_
            refine AList.load1l tyOk rfl rfl rfl rfl rfl oM ?_
            refine AList.idxArr tyOk rfl rfl rfl rfl rfl rfl rfl rfl oM ?_
            refine AList.load1 tyOk rfl rfl rfl rfl rfl rfl rfl oM oM ?_
            refine AList.sub rfl rfl rfl rfl (by omega) (by omega) ?_
            refine AList.idxArrL tyOk rfl rfl rfl rfl rfl rfl rfl rfl oM ?_
            refine AList.load1l tyOk rfl rfl rfl rfl rfl oM ?_
            refine AList.idxArr tyOk rfl rfl rfl rfl rfl rfl rfl rfl oM ?_
            refine AList.load1 tyOk rfl rfl rfl rfl rfl rfl rfl oM oM ?_
            refine AList.sub rfl rfl rfl rfl (by omega) (by omega) ?_
            refine AList.call rfl rfl rfl rfl Tryd.func58 rfl (by kernel_rfl) (hpe) ?_
            refine AList.nil ?_
            refine AText.yield (i := i) true rfl rfl rfl rfl (fun _ h => h) rfl rfl (hiN) (rfl) (hg1) ?_
            refine AText.all ?_
            refine AList.notB rfl rfl rfl ?_
            refine AList.move rfl rfl rfl ?_
            refine AList.move rfl rfl rfl ?_
            refine AList.fieldPl tyOk rfl rfl rfl rfl rfl rfl rfl ?_
            refine AList.fieldPl tyOk rfl rfl rfl rfl rfl rfl rfl ?_
            refine AList.load1l tyOk rfl rfl rfl rfl rfl oM ?_
            refine AList.add rfl rfl rfl rfl (by omega) (by omega) ?_
            refine AList.move rfl rfl rfl ?_
            refine AList.sub rfl rfl rfl rfl (by omega) (by omega) ?_
            refine AList.cmpT rfl rfl rfl rfl rfl cmT ?_
            refine AList.pickF rfl rfl rfl rfl ?_
            refine AList.nil ?_
            repeat (first
              | refine thenA_n ?_
              | refine AWp.ret ?_
              | refine thenA_r ?_
              | refine inBlk_r ?_
              | refine AWp.condT rfl (by first | rfl | assumption | exact cmT) ?_)
            exact ⟨by rw [hN2 hsf]; exact hlast, hsf.symm⟩
          · have hnx0 := wS_next c0 i k
            have hnx1 := wS_next c1 i k
            have d0 := hc0 i
            have d1 := hc1 i
            have d2 := hc0 (i + k)
            have d3 := hc1 (i + k)
            repeat (first
              | refine AWp.seq ?_
              | refine AWp.block ?_)
            refine AWp.text ?_
            refine AText.split 14 ?_
            refine AList.move rfl rfl rfl ?_
            refine AList.move rfl rfl rfl ?_
            refine AList.loadAl tyOk rfl rfl rfl rfl rfl oM ?_
            refine AList.idxArrL tyOk rfl rfl rfl rfl rfl rfl rfl rfl oM ?_
            refine AList.load1l tyOk rfl rfl rfl rfl rfl oM ?_
            refine AList.idxArr tyOk rfl rfl rfl rfl rfl rfl rfl rfl oM ?_
            refine AList.load1 tyOk rfl rfl rfl rfl rfl rfl rfl oM oM ?_
            refine AList.sub rfl rfl rfl rfl (by omega) (by omega) ?_
            refine AList.idxArrL tyOk rfl rfl rfl rfl rfl rfl rfl rfl oM ?_
            refine AList.load1l tyOk rfl rfl rfl rfl rfl oM ?_
            refine AList.idxArr tyOk rfl rfl rfl rfl rfl rfl rfl rfl oM ?_
            refine AList.load1 tyOk rfl rfl rfl rfl rfl rfl rfl oM oM ?_
            refine AList.sub rfl rfl rfl rfl (by omega) (by omega) ?_
            refine AList.call rfl rfl rfl rfl Tryd.func58 rfl (by kernel_rfl) (hpe) ?_
            refine AList.nil ?_
            refine AText.yield (i := i) true rfl rfl rfl rfl (fun _ h => h) rfl rfl (hiN) (rfl) (hg1) ?_
            refine AText.all ?_
            refine AList.notB rfl rfl rfl ?_
            refine AList.move rfl rfl rfl ?_
            refine AList.move rfl rfl rfl ?_
            refine AList.fieldPl tyOk rfl rfl rfl rfl rfl rfl rfl ?_
            refine AList.fieldPl tyOk rfl rfl rfl rfl rfl rfl rfl ?_
            refine AList.load1l tyOk rfl rfl rfl rfl rfl oM ?_
            refine AList.add rfl rfl rfl rfl (by omega) (by omega) ?_
            refine AList.move rfl rfl rfl ?_
            refine AList.sub rfl rfl rfl rfl (by omega) (by omega) ?_
            refine AList.cmpF rfl rfl rfl rfl rfl cmF ?_
            refine AList.pickF rfl rfl rfl rfl ?_
            refine AList.nil ?_
            repeat (first
              | refine AWp.seq ?_
              | refine thenA_n ?_
              | refine AWp.block ?_
              | refine AWp.skip ?_
              | refine AWp.condF rfl (by first | rfl | assumption | exact cmF) ?_
              | (refine AWp.region (id := 11) ?_; refine AList.move rfl rfl rfl ?_; refine AList.nil ?_))
            refine AWp.round (fun z : Nat × Int × Int => mkG (itG Tryd.prog l (stX x y k c0 c1 t0 t1) N stop) (i + 1) false 90 0 [(0, .c (.p (yv l))), (1, .c (.pl 1 14 (lF (prC a b (lim4 x) (lim4 y))) 0 0)), (2, .c (.pl 1 1 (lF [.ls n 2 (cF c0 c1)]) 0 0)), (3, .c (.pl 1 2 (lF [iC t0, iC t1]) 0 0)), (5, .c (iC k)), (6, .c (.pt 6 2 0 0)), (8, .c (iC ((i : Int) - 4))), (64, .c (iC z.1))] [(6, ⟨false, 1, 2, 76, lF [iC z.2.1, iC z.2.2]⟩)] [6])
              (fun z => z = (0, wS c0 i k, wS c1 i k) ∨ z = (1, wS c0 i k + (c0 (i + k) - c0 i), wS c1 i k) ∨ z = (2, wS c0 i k + (c0 (i + k) - c0 i), wS c1 i k + (c1 (i + k) - c1 i))) (fun z => 2 - z.1) (0, wS c0 i k, wS c1 i k) (.inl rfl) ?_ (fun z hz => ?_)
            · refine Wk.mkG [(6, some 6)] rfl rfl rfl rfl rfl ?_ ?_
              · repeat (first | exact trivial | refine ⟨⟨_, rfl, by first | exact LeA.c (LeC.refl _ rfl) | exact LeA.c (LeC.ow _ _ rfl) | exact LeA.c (LeC.pt _ _ _ _ _ rfl) | exact LeA.c (LeC.nil _ rfl) | exact LeA.c (LeC.nils _ _) | (refine LeA.int ?_; omega) | (refine LeA.int ?_; dsimp only; omega) | exact LeA.c (LeC.fz rfl rfl (by first | rfl | omega) (fun i _ j _ => ⟨rfl, by first | rfl | exact rowN_imm (fun _ => rfl) _ i j | exact rowF_imm (fun _ => rfl) _ i j⟩))⟩, ?_⟩)
              · exact ⟨HeapOk.same rfl rfl rfl rfl, trivial⟩
            · rcases hz with rfl | rfl | rfl
              · dsimp only
                generalize wS c0 i k = v0 at *
                generalize wS c1 i k = v1 at *
                repeat (first
                  | refine AWp.seq ?_
                  | refine thenA_n ?_
                  | refine AWp.block ?_
                  | refine AWp.skip ?_
                  | refine inBlk_n ?_
                  | refine AWp.condT rfl (by first | rfl | assumption | exact cmT) ?_
                  | (refine AWp.region (id := 12) ?_; refine AList.cmpT rfl rfl rfl rfl rfl cmT ?_; refine AList.nil ?_)
                  | (refine AWp.region (id := 13) ?_; refine AList.move rfl rfl rfl ?_; refine AList.assign rfl rfl rfl ?_; refine AList.nil ?_)
                  | (refine AWp.draw (id := 14) mixed ?_; refine AList.move rfl rfl rfl ?_; refine AList.idxArr tyOk rfl rfl rfl rfl rfl rfl rfl rfl oM ?_; refine AList.load1 tyOk rfl rfl rfl rfl rfl rfl rfl oM oM ?_; refine AList.load1l tyOk rfl rfl rfl rfl rfl oM ?_; refine AList.move rfl rfl rfl ?_; refine AList.add rfl rfl rfl rfl (by omega) (by omega) ?_; refine AList.move rfl rfl rfl ?_; refine AList.add rfl rfl rfl rfl (by omega) (by omega) ?_; refine AList.move rfl rfl rfl ?_; refine AList.idx (k := i + k) tyOk rfl rfl rfl rfl rfl rfl rfl rfl (by first | rfl | omega) oM oM ?_; refine AList.idxArrL tyOk rfl rfl rfl rfl rfl rfl rfl rfl oM ?_; refine AList.load1l tyOk rfl rfl rfl rfl rfl oM ?_; refine AList.load1l tyOk rfl rfl rfl rfl rfl oM ?_; refine AList.move rfl rfl rfl ?_; refine AList.add rfl rfl rfl rfl (by omega) (by omega) ?_; refine AList.move rfl rfl rfl ?_; refine AList.idx (k := i) tyOk rfl rfl rfl rfl rfl rfl rfl rfl (by first | rfl | omega) oM oM ?_; refine AList.idxArrL tyOk rfl rfl rfl rfl rfl rfl rfl rfl oM ?_; refine AList.load1l tyOk rfl rfl rfl rfl rfl oM ?_; refine AList.sub rfl rfl rfl rfl (by omega) (by omega) ?_; refine AList.add rfl rfl rfl rfl (by omega) (by omega) ?_; refine AList.idxArr tyOk rfl rfl rfl rfl rfl rfl rfl rfl oM ?_; refine AList.store tyOk rfl rfl rfl rfl rfl rfl rfl rfl oM oM ?_; refine AList.nil ⟨by kernel_rfl, ?_⟩)
                  | (refine AWp.region (id := 15) ?_; refine AList.add rfl rfl rfl rfl (by omega) (by omega) ?_; refine AList.move rfl rfl rfl ?_; refine AList.nil ?_))
                refine ⟨(1, v0 + (c0 (i + k) - c0 i), v1), .inr (.inl rfl), Wk.mkG [(6, some 6)] rfl rfl rfl rfl rfl ?_ ?_, by dsimp only; omega⟩
                · repeat (first | exact trivial | refine ⟨⟨_, rfl, by first | exact LeA.c (LeC.refl _ rfl) | exact LeA.c (LeC.ow _ _ rfl) | exact LeA.c (LeC.pt _ _ _ _ _ rfl) | exact LeA.c (LeC.nil _ rfl) | exact LeA.c (LeC.nils _ _) | (refine LeA.int ?_; omega) | (refine LeA.int ?_; dsimp only; omega) | exact LeA.c (LeC.fz rfl rfl (by first | rfl | omega) (fun i _ j _ => ⟨rfl, by first | rfl | exact rowN_imm (fun _ => rfl) _ i j | exact rowF_imm (fun _ => rfl) _ i j⟩))⟩, ?_⟩)
                · exact ⟨HeapOk.same rfl rfl rfl rfl, trivial⟩
              · dsimp only
                generalize wS c0 i k = v0 at *
                generalize wS c1 i k = v1 at *
                repeat (first
                  | refine AWp.seq ?_
                  | refine thenA_n ?_
                  | refine AWp.block ?_
                  | refine AWp.skip ?_
                  | refine inBlk_n ?_
                  | refine AWp.condT rfl (by first | rfl | assumption | exact cmT) ?_
                  | (refine AWp.region (id := 12) ?_; refine AList.cmpT rfl rfl rfl rfl rfl cmT ?_; refine AList.nil ?_)
                  | (refine AWp.region (id := 13) ?_; refine AList.move rfl rfl rfl ?_; refine AList.assign rfl rfl rfl ?_; refine AList.nil ?_)
                  | (refine AWp.draw (id := 14) mixed ?_; refine AList.move rfl rfl rfl ?_; refine AList.idxArr tyOk rfl rfl rfl rfl rfl rfl rfl rfl oM ?_; refine AList.load1 tyOk rfl rfl rfl rfl rfl rfl rfl oM oM ?_; refine AList.load1l tyOk rfl rfl rfl rfl rfl oM ?_; refine AList.move rfl rfl rfl ?_; refine AList.add rfl rfl rfl rfl (by omega) (by omega) ?_; refine AList.move rfl rfl rfl ?_; refine AList.add rfl rfl rfl rfl (by omega) (by omega) ?_; refine AList.move rfl rfl rfl ?_; refine AList.idx (k := i + k) tyOk rfl rfl rfl rfl rfl rfl rfl rfl (by first | rfl | omega) oM oM ?_; refine AList.idxArrL tyOk rfl rfl rfl rfl rfl rfl rfl rfl oM ?_; refine AList.load1l tyOk rfl rfl rfl rfl rfl oM ?_; refine AList.load1l tyOk rfl rfl rfl rfl rfl oM ?_; refine AList.move rfl rfl rfl ?_; refine AList.add rfl rfl rfl rfl (by omega) (by omega) ?_; refine AList.move rfl rfl rfl ?_; refine AList.idx (k := i) tyOk rfl rfl rfl rfl rfl rfl rfl rfl (by first | rfl | omega) oM oM ?_; refine AList.idxArrL tyOk rfl rfl rfl rfl rfl rfl rfl rfl oM ?_; refine AList.load1l tyOk rfl rfl rfl rfl rfl oM ?_; refine AList.sub rfl rfl rfl rfl (by omega) (by omega) ?_; refine AList.add rfl rfl rfl rfl (by omega) (by omega) ?_; refine AList.idxArr tyOk rfl rfl rfl rfl rfl rfl rfl rfl oM ?_; refine AList.store tyOk rfl rfl rfl rfl rfl rfl rfl rfl oM oM ?_; refine AList.nil ⟨by kernel_rfl, ?_⟩)
                  | (refine AWp.region (id := 15) ?_; refine AList.add rfl rfl rfl rfl (by omega) (by omega) ?_; refine AList.move rfl rfl rfl ?_; refine AList.nil ?_))
                refine ⟨(2, v0 + (c0 (i + k) - c0 i), v1 + (c1 (i + k) - c1 i)), .inr (.inr rfl), Wk.mkG [(6, some 6)] rfl rfl rfl rfl rfl ?_ ?_, by dsimp only; omega⟩
                · repeat (first | exact trivial | refine ⟨⟨_, rfl, by first | exact LeA.c (LeC.refl _ rfl) | exact LeA.c (LeC.ow _ _ rfl) | exact LeA.c (LeC.pt _ _ _ _ _ rfl) | exact LeA.c (LeC.nil _ rfl) | exact LeA.c (LeC.nils _ _) | (refine LeA.int ?_; omega) | (refine LeA.int ?_; dsimp only; omega) | exact LeA.c (LeC.fz rfl rfl (by first | rfl | omega) (fun i _ j _ => ⟨rfl, by first | rfl | exact rowN_imm (fun _ => rfl) _ i j | exact rowF_imm (fun _ => rfl) _ i j⟩))⟩, ?_⟩)
                · exact ⟨HeapOk.same rfl rfl rfl rfl, trivial⟩
              · dsimp only
                repeat (first
                  | refine AWp.seq ?_
                  | refine thenA_n ?_
                  | refine AWp.exit ?_
                  | refine thenA_e ?_
                  | refine inBlk_n ?_
                  | refine inBlk_hit ?_
                  | refine AWp.condF rfl (by first | rfl | assumption | exact cmF) ?_
                  | (refine AWp.region (id := 9) ?_; refine AList.move rfl rfl rfl ?_; refine AList.add rfl rfl rfl rfl (by omega) (by omega) ?_; refine AList.assign rfl rfl rfl ?_; refine AList.nil ?_)
                  | (refine AWp.region (id := 12) ?_; refine AList.cmpF rfl rfl rfl rfl rfl cmF ?_; refine AList.nil ?_))
                refine ⟨i + 1, ⟨by omega, fun h => ?_⟩, Wk.mkG [(6, some 6)] rfl rfl rfl rfl rfl ?_ ?_, by omega⟩
                · have := goes_true hg1 h; have := hN1 h; omega
                · repeat (first | exact trivial | refine ⟨⟨_, rfl, by first | exact LeA.c (LeC.refl _ rfl) | exact LeA.c (LeC.ow _ _ rfl) | exact LeA.c (LeC.pt _ _ _ _ _ rfl) | exact LeA.c (LeC.nil _ rfl) | exact LeA.c (LeC.nils _ _) | (refine LeA.int ?_; omega) | (refine LeA.int ?_; dsimp only; omega) | exact LeA.c (LeC.fz rfl rfl (by first | rfl | omega) (fun i _ j _ => ⟨rfl, by first | rfl | exact rowN_imm (fun _ => rfl) _ i j | exact rowF_imm (fun _ => rfl) _ i j⟩))⟩, ?_⟩)
                · rw [hnx0, hnx1]
                  exact ⟨HeapOk.same rfl rfl rfl rfl, trivial⟩
end Go.Proofs.YtfgcogkhnnflcaaDoor
end

section
namespace Go.Proofs.YtfgcogkhnnflcaaDoor
open Go.RowKit Go.Flow Go.AV Go.Plain
/-- The first clash. -/
def hitC (a b : Bp) (x y : Bg) (c : Cl) : Bool := decide (xsV a b x y c ≤ 0)
def cnfR (p : Cl → Bool) (L : List Cl) : Cl × Bool := match L.find? p with
  | some c => (c, true)
  | none => (clZ, false)
def cnfV (a b : Bp) (x y : Bg) : Cl × Bool := if cmpOk a b then cnfR (hitC a b x y) (alL a.W x y) else (clZ, false)
theorem find_at {p : Cl → Bool} {L : List Cl} {k : Nat} (hk : k < L.length) (h : p (L.getD k clZ) = true) (hn : ∀ i, i < k → p (L.getD i clZ) = false) : L.find? p = some (L.getD k clZ) := by
  have hg : ∀ i (hi : i < L.length), L.getD i clZ = L[i] := fun i hi => by rw [List.getD_eq_getElem?_getD, List.getElem?_eq_getElem hi]; rfl
  rw [List.find?_eq_some_iff_getElem]
  refine ⟨h, k, hk, (hg k hk).symm, fun j hj => ?_⟩
  rw [← hg j (by omega), hn j hj]
  rfl
theorem find_no {p : Cl → Bool} {L : List Cl} (hn : ∀ i, i < L.length → p (L.getD i clZ) = false) : L.find? p = none := by
  rw [List.find?_eq_none]
  intro c hc
  obtain ⟨i, hi, rfl⟩ := List.getElem_of_mem hc
  have := hn i hi
  rw [List.getD_eq_getElem?_getD, List.getElem?_eq_getElem hi] at this
  exact fun h => by rw [show p L[i] = false from this] at h; cases h
/-- The clash of round i of the k-th shift. -/
def clK (L : List (Int × Int)) (k i : Nat) : Cl := ⟨(L.getD k mvZ).1, (L.getD k mvZ).2, (i : Int) - 4⟩
theorem alI_len (m : Nat) (d : Int × Int) (k : Nat) : (alI m d k).length = k := by unfold alI; simp
theorem alI_get (m : Nat) (d : Int × Int) {k i : Nat} (h : i < k) : (alI m d k).getD i clZ = ⟨d.1, d.2, (i : Int) - 4⟩ := by
  unfold alI
  rw [List.getD_eq_getElem?_getD, List.getElem?_map, List.getElem?_range h]
  rfl
theorem find_flat {p : Cl → Bool} {M : Nat} : ∀ (L : List (Int × Int)) (k i : Nat), k < L.length → i < M → p (clK L k i) = true → (∀ k', k' < k → ∀ i', i' < M → p (clK L k' i') = false) → (∀ i', i' < i → p (clK L k i') = false) →
    (L.flatMap fun d => alI 0 d M).find? p = some (clK L k i)
  | [], _, _, h, _, _, _, _ => by cases h
  | d :: L, 0, i, _, hi, hp, _, h2 => by
    rw [List.flatMap_cons, List.find?_append]
    have e : (alI 0 d M).find? p = some ((alI 0 d M).getD i clZ) := find_at (by rw [alI_len]; exact hi) (by rw [alI_get 0 d hi]; exact hp) (fun j hj => by rw [alI_get 0 d (by omega)]; exact h2 j hj)
    rw [e, alI_get 0 d hi]
    rfl
  | d :: L, k + 1, i, hk, hi, hp, h1, h2 => by
    rw [List.flatMap_cons, List.find?_append]
    have e : (alI 0 d M).find? p = none := find_no (fun j hj => by rw [alI_len] at hj; rw [alI_get 0 d hj]; exact h1 0 (by omega) j hj)
    have hs : ∀ k' i', clK (d :: L) (k' + 1) i' = clK L k' i' := fun _ _ => rfl
    rw [e, find_flat L k i (by simpa using hk) hi hp (fun k' hk' i' hi' => h1 (k' + 1) (by omega) i' hi') h2]
    rfl
theorem find_flat_no {p : Cl → Bool} {M : Nat} : ∀ (L : List (Int × Int)), (∀ k', k' < L.length → ∀ i', i' < M → p (clK L k' i') = false) → (L.flatMap fun d => alI 0 d M).find? p = none
  | [], _ => rfl
  | d :: L, h => by
    rw [List.flatMap_cons, List.find?_append, find_no (fun j hj => by rw [alI_len] at hj; rw [alI_get 0 d hj]; exact h 0 (by simp) j hj), find_flat_no L (fun k' hk' i' hi' => h (k' + 1) (by simpa using hk') i' hi')]
    rfl
abbrev clX (a b : Bp) (x y : Bg) (d : Int × Int) (i : Nat) : List Value := [.int .i64 ((i : Int) - 4), .int .i64 (xsV a b x y ⟨d.1, d.2, (i : Int) - 4⟩)]
/-- strips: the function value, and what it hands over. -/
theorem strips_any (a b : Bp) (x y : Bg) (d : Int × Int) (h : cmpOk a b) (hd : (-4 ≤ d.1 ∧ d.1 ≤ 4) ∧ -4 ≤ d.2 ∧ d.2 ≤ 4) :
    ∃ (n : Nat) (c0 c1 : Nat → Int) (t0 t1 : Int), ACalls Tryd.prog 40 [.ag (prC a b (lim4 x) (lim4 y)), .ag (mvC d)] (.c (.fn 56 3 (itC a b x y n c0 c1 t0 t1))) ∧
      ItCalls Tryd.prog 56 ((stYs a b x y n c0 c1 t0 t1).map .c) (clX a b x y d) (alM a.W x y) := by
  obtain ⟨ha, hb, hW, hH⟩ := h
  obtain ⟨q0, q1, q2, q3, q4⟩ := okB ha
  obtain ⟨Wn, hWn⟩ := Int.eq_ofNat_of_zero_le q0
  obtain ⟨Hn, hHn⟩ := Int.eq_ofNat_of_zero_le q2
  have hst := stN_bd x y q0
  obtain ⟨t, ht⟩ := Int.eq_ofNat_of_zero_le hst.1
  have hM : ((alM a.W x y : Nat) : Int) = a.W + 9 - stN a.W x y := by unfold alM; omega
  refine ⟨_, _, _, _, _, strips_A a b x y d Wn Hn ha hb hWn hHn hW.symm hH.symm hd, ?_⟩
  have hX : clX a b x y d = stX x y t (colP (alB a b d.1 d.2) Wn 0 Hn 0) (colP (alB b a (-d.1) (-d.2)) Wn d.1 Hn 0) (totP (alB a b d.1 d.2) Wn Hn 0) (totP (alB b a (-d.1) (-d.2)) Wn Hn 0) := funext fun i => (stX_xs a b x y d Wn Hn t hWn hHn hW.symm hH.symm ht i).symm
  rw [hX]
  have hcb : ∀ (B : Nat → Nat → Bool) (s : Int) (k : Nat), 0 ≤ colP B Wn s Hn 0 k ∧ colP B Wn s Hn 0 k ≤ 97 := fun B s k => by have := colP_bd B Wn s Hn 0 k; omega
  have hob : ∀ (B : Nat → Nat → Bool) (s : Int) (i : Nat), 0 ≤ totP B Wn Hn 0 - wS (colP B Wn s Hn 0) i t ∧ totP B Wn Hn 0 - wS (colP B Wn s Hn 0) i t ≤ 100000 := fun B s i => by
    refine ⟨?_, ?_⟩
    · rw [win_law B Wn s ((i : Int) - 4 - s) i t rfl Hn]
      exact sumTo_nonneg fun k _ => Go.Plain.cnt_nonneg _ _
    · have h1 := totP_bd B Wn Hn 0 (by omega) (by omega)
      have h2 := wS_bd (hcb B s) i t
      omega
  exact stripsIt_A a b x y (Wn + 40) t (alM a.W x y) Wn _ _ _ _ hWn (by omega) rfl ht (by omega) (hcb _ _) (hcb _ _) (hob _ _) (hob _ _)
end Go.Proofs.YtfgcogkhnnflcaaDoor
end
