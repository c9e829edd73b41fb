/- Parts of the proof: A23j. -/
import Derived.Test.YtijaioiojclooaaG17
import Derived.Test.YtijaioiojclooaaHA24sdr04
import Derived.Test.YtijaioiojclooaaHA24sdr03
import Derived.Test.YtijaioiojclooaaG11
import Derived.Test.YtijaioiojclooaaHA24sdr01
import Derived.Test.YtijaioiojclooaaG08
import Derived.Test.YtijaioiojclooaaG10
import Derived.Laws.Cover3
import Derived.Test.YtijaioiojclooaaProg
import Derived.Test.YtijaioiojclooaaG01
import Derived.Test.YtijaioiojclooaaG15
import Derived.Test.YtijaioiojclooaaHA24sdr02
import Derived.Test.YtijaioiojclooaaG07
import Derived.Laws.StructEq
import Derived.Lib.Hide
import Derived.Deep.QuietTactic
import Derived.BigQuiet
import Derived.Deep.DrawnRows
import Derived.Deep.AppendLies
import Derived.Test.YtijaioiojclooaaG16
import Derived.WalkKit
import Derived.Maps.AppendAt
import Derived.OwnWalk
import Derived.StillTail
import Derived.Below
import Derived.Deep.Draws
import Derived.KernelRfl
import Derived.Test.YtijaioiojclooaaG06
import Derived.Test.YtijaioiojclooaaG05
import Derived.Great.BuildSlice
import Derived.Test.YtijaioiojclooaaG04
import Derived.Test.YtijaioiojclooaaG03
import Derived.RangeFuncLeaves
import Derived.RangeFuncRecord
import Derived.Test.YtijaioiojclooaaG02
import Derived.OrdersIn
import Derived.TacticsIn
import Derived.RangeFuncCalls
set_option linter.unusedSimpArgs false
set_option linter.unusedVariables false
section
namespace Go.Proofs.Ytijaioiojclooaa
open Go.RowKit Go.Flow Go.AV Go.Plain
def wiB (b : Bp) (h : Ht) (x : Bg) : Bool := decide (apE b h = 0 ∧ max (max (max h.dx (-h.dx)) h.dy) (-h.dy) ≤ (lim4 x).sh ∧ (h.N : Int) ≤ (lim4 x).lo ∧ (h.M : Int) ≤ (lim4 x).bl ∧ h.ti - h.fr ≤ (lim4 x).st)
theorem apE_ok {b : Bp} {h : Ht} (he : apE b h = 0) : putE b.W b.H b.n h.dx h.dy = 0 ∧ (-2 ≤ h.dx ∧ h.dx ≤ 2 ∧ -2 ≤ h.dy ∧ h.dy ≤ 2) ∧ (0 ≤ h.fr ∧ h.fr ≤ h.ti ∧ h.ti ≤ b.W + 4) ∧ b.W ≤ 96 := by
  unfold apE at he
  split at he
  · rename_i hp
    split at he
    · rename_i h1
      have hp' := hp
      unfold putE at hp'
      split at hp'
      · rename_i hok
        split at hp'
        · rename_i hs
          exact ⟨hp, shiftB_iff.1 hs, h1.2.2, (okB hok).2.1⟩
        · cases hp'
      · exact absurd hp' ‹_›
    · cases he
  · exact absurd he ‹_›
set_option maxHeartbeats 1000000 in
set_option maxRecDepth 100000 in
theorem pWithin_A (b : Bp) (h : Ht) (x : Bg) (hN : h.N ≤ 4611686018427387904) (hM : h.M ≤ 4611686018427387904) : ACalls Try.prog 26 [.ag (bpC b), .ag (htC h), .ag (bgC x)] (.c (bC (wiB b h x))) := by
  have hA := pApply_A b h hN hM
  have hL := plim_A x
  by_cases he : apE b h = 0
  · obtain ⟨-, ⟨d1, d2, d3, d4⟩, ⟨f1, f2, f3⟩, hw⟩ := apE_ok he
    have w1 : IntKind.i64.wrap (-h.dx) = -h.dx := by rw [IntKind.wrap_i64]; omega
    have w2 : IntKind.i64.wrap (-h.dy) = -h.dy := by rw [IntKind.wrap_i64]; omega
    have hwi : wiB b h x = decide (max (max (max h.dx (-h.dx)) h.dy) (-h.dy) ≤ (lim4 x).sh ∧ (h.N : Int) ≤ (lim4 x).lo ∧ (h.M : Int) ≤ (lim4 x).bl ∧ h.ti - h.fr ≤ (lim4 x).st) := by unfold wiB; simp only [he, true_and]
    rw [hwi]
    rw [apV, apI, he] at hA
    generalize lim4 x = y at hL ⊢
    by_cases c1 : max (max (max h.dx (-h.dx)) h.dy) (-h.dy) ≤ y.sh
    · by_cases c2 : (h.N : Int) ≤ y.lo
      · by_cases c3 : (h.M : Int) ≤ y.bl
        · by_cases c4 : h.ti - h.fr ≤ y.st
          · rw [decide_eq_true ⟨c1, c2, c3, c4⟩]
            refine acalls_at Try.func26 rfl rfl Try.ntmps26 rfl ?_
            repeat (first
              | refine AWp.seq ?_
              | refine thenA_n ?_
              | refine AWp.ret ?_
              | (refine AWp.region (id := 0) ?_; refine AList.box rfl rfl rfl rfl rfl ?_; refine AList.box rfl rfl rfl rfl rfl ?_; refine AList.box rfl rfl rfl rfl rfl ?_; refine AList.assign rfl rfl rfl ?_; refine AList.nil ?_)
              | (refine AWp.region (id := 1) ?_; refine AList.loadA tyOk rfl rfl rfl rfl rfl rfl rfl oM oM ?_; refine AList.call rfl rfl rfl rfl Try.func56 rfl (by kernel_rfl) (hL) ?_; refine AList.store tyOk rfl rfl rfl rfl rfl rfl rfl rfl oM oM ?_; refine AList.nil ?_)
              | (refine AWp.region (id := 2) ?_; refine AList.loadA tyOk rfl rfl rfl rfl rfl rfl rfl oM oM ?_; refine AList.loadA tyOk rfl rfl rfl rfl rfl rfl rfl oM oM ?_; refine AList.call rfl rfl rfl rfl Try.func25 rfl (by kernel_rfl) (hA) ?_; refine AList.move rfl rfl rfl ?_; refine AList.extract rfl rfl rfl rfl ?_; refine AList.extract rfl rfl rfl rfl ?_; refine AList.alloc tyOk rfl rfl rfl rfl rfl ?_; refine AList.store tyOk rfl rfl rfl rfl rfl rfl rfl rfl oM oM ?_; refine AList.assign rfl rfl rfl ?_; refine AList.nil ?_)
              | (refine AWp.region (id := 3) ?_; refine AList.fieldPt tyOk rfl rfl rfl rfl rfl rfl rfl ?_; refine AList.load1 tyOk rfl rfl rfl rfl rfl rfl rfl oM oM ?_; refine AList.fieldPt tyOk rfl rfl rfl rfl rfl rfl rfl ?_; refine AList.load1 tyOk rfl rfl rfl rfl rfl rfl rfl oM oM ?_; refine AList.negW rfl rfl rfl ?_; refine AList.fieldPt tyOk rfl rfl rfl rfl rfl rfl rfl ?_; refine AList.load1 tyOk rfl rfl rfl rfl rfl rfl rfl oM oM ?_; refine AList.fieldPt tyOk rfl rfl rfl rfl rfl rfl rfl ?_; refine AList.load1 tyOk rfl rfl rfl rfl rfl rfl rfl oM oM ?_; refine AList.negW rfl rfl rfl ?_; refine AList.max4 rfl rfl rfl rfl rfl rfl ?_; refine AList.assign rfl rfl rfl ?_; refine AList.nil ?_)
              | (refine AWp.region (id := 4) ?_; refine AList.move rfl rfl rfl ?_; refine AList.cmp rfl rfl rfl rfl rfl ?_; refine AList.move rfl rfl rfl ?_; refine AList.move rfl rfl rfl ?_; refine AList.fieldPt tyOk rfl rfl rfl rfl rfl rfl rfl ?_; refine AList.load1 tyOk rfl rfl rfl rfl rfl rfl rfl oM oM ?_; refine AList.cmpT rfl rfl rfl rfl rfl cmT ?_; refine AList.pickT rfl rfl rfl rfl ?_; refine AList.move rfl rfl rfl ?_; refine AList.fieldPt tyOk rfl rfl rfl rfl rfl rfl rfl ?_; refine AList.load1 tyOk rfl rfl rfl rfl rfl rfl rfl oM oM ?_; refine AList.lenLs tyOk rfl rfl rfl rfl rfl ?_; refine AList.fieldPt tyOk rfl rfl rfl rfl rfl rfl rfl ?_; refine AList.load1 tyOk rfl rfl rfl rfl rfl rfl rfl oM oM ?_; refine AList.cmpT rfl rfl rfl rfl rfl cmT ?_; refine AList.pickT rfl rfl rfl rfl ?_; refine AList.move rfl rfl rfl ?_; refine AList.fieldPt tyOk rfl rfl rfl rfl rfl rfl rfl ?_; refine AList.load1 tyOk rfl rfl rfl rfl rfl rfl rfl oM oM ?_; refine AList.lenLs tyOk rfl rfl rfl rfl rfl ?_; refine AList.fieldPt tyOk rfl rfl rfl rfl rfl rfl rfl ?_; refine AList.load1 tyOk rfl rfl rfl rfl rfl rfl rfl oM oM ?_; refine AList.cmpT rfl rfl rfl rfl rfl cmT ?_; refine AList.pickT rfl rfl rfl rfl ?_; refine AList.move rfl rfl rfl ?_; refine AList.fieldPt tyOk rfl rfl rfl rfl rfl rfl rfl ?_; refine AList.load1 tyOk rfl rfl rfl rfl rfl rfl rfl oM oM ?_; refine AList.fieldPt tyOk rfl rfl rfl rfl rfl rfl rfl ?_; refine AList.load1 tyOk rfl rfl rfl rfl rfl rfl rfl oM oM ?_; refine AList.sub rfl rfl rfl rfl (by omega) (by omega) ?_; refine AList.fieldPt tyOk rfl rfl rfl rfl rfl rfl rfl ?_; refine AList.load1 tyOk rfl rfl rfl rfl rfl rfl rfl oM oM ?_; refine AList.cmpT rfl rfl rfl rfl rfl cmT ?_; refine AList.pickT rfl rfl rfl rfl ?_; refine AList.assign rfl rfl rfl ?_; refine AList.nil ?_))
            refine ⟨mkSt 63 [(6, .c (bC true))] [] [], [], Wk.mk [] rfl rfl rfl ?_ trivial, rfl, rfl, ARets.one (x := .c _) (ARes.tmp rfl rfl)⟩
            repeat (first | exact trivial | refine ⟨⟨_, rfl, by first | exact LeA.c (LeC.refl _ rfl) | exact LeA.c (LeC.ow _ _ rfl) | exact LeA.c (LeC.pt _ _ _ _ _ rfl) | exact LeA.c (LeC.nil _ rfl) | exact LeA.c (LeC.nils _ _) | (refine LeA.int ?_; omega) | (refine LeA.int ?_; dsimp only; omega) | exact LeA.c (LeC.fz rfl rfl (by first | rfl | omega) (fun i _ j _ => ⟨rfl, by first | rfl | exact rowN_imm (fun _ => rfl) _ i j | exact rowF_imm (fun _ => rfl) _ i j⟩))⟩, ?_⟩)
          · rw [decide_eq_false fun h => c4 h.2.2.2]
            refine acalls_at Try.func26 rfl rfl Try.ntmps26 rfl ?_
            repeat (first
              | refine AWp.seq ?_
              | refine thenA_n ?_
              | refine AWp.ret ?_
              | (refine AWp.region (id := 0) ?_; refine AList.box rfl rfl rfl rfl rfl ?_; refine AList.box rfl rfl rfl rfl rfl ?_; refine AList.box rfl rfl rfl rfl rfl ?_; refine AList.assign rfl rfl rfl ?_; refine AList.nil ?_)
              | (refine AWp.region (id := 1) ?_; refine AList.loadA tyOk rfl rfl rfl rfl rfl rfl rfl oM oM ?_; refine AList.call rfl rfl rfl rfl Try.func56 rfl (by kernel_rfl) (hL) ?_; refine AList.store tyOk rfl rfl rfl rfl rfl rfl rfl rfl oM oM ?_; refine AList.nil ?_)
              | (refine AWp.region (id := 2) ?_; refine AList.loadA tyOk rfl rfl rfl rfl rfl rfl rfl oM oM ?_; refine AList.loadA tyOk rfl rfl rfl rfl rfl rfl rfl oM oM ?_; refine AList.call rfl rfl rfl rfl Try.func25 rfl (by kernel_rfl) (hA) ?_; refine AList.move rfl rfl rfl ?_; refine AList.extract rfl rfl rfl rfl ?_; refine AList.extract rfl rfl rfl rfl ?_; refine AList.alloc tyOk rfl rfl rfl rfl rfl ?_; refine AList.store tyOk rfl rfl rfl rfl rfl rfl rfl rfl oM oM ?_; refine AList.assign rfl rfl rfl ?_; refine AList.nil ?_)
              | (refine AWp.region (id := 3) ?_; refine AList.fieldPt tyOk rfl rfl rfl rfl rfl rfl rfl ?_; refine AList.load1 tyOk rfl rfl rfl rfl rfl rfl rfl oM oM ?_; refine AList.fieldPt tyOk rfl rfl rfl rfl rfl rfl rfl ?_; refine AList.load1 tyOk rfl rfl rfl rfl rfl rfl rfl oM oM ?_; refine AList.negW rfl rfl rfl ?_; refine AList.fieldPt tyOk rfl rfl rfl rfl rfl rfl rfl ?_; refine AList.load1 tyOk rfl rfl rfl rfl rfl rfl rfl oM oM ?_; refine AList.fieldPt tyOk rfl rfl rfl rfl rfl rfl rfl ?_; refine AList.load1 tyOk rfl rfl rfl rfl rfl rfl rfl oM oM ?_; refine AList.negW rfl rfl rfl ?_; refine AList.max4 rfl rfl rfl rfl rfl rfl ?_; refine AList.assign rfl rfl rfl ?_; refine AList.nil ?_)
              | (refine AWp.region (id := 4) ?_; refine AList.move rfl rfl rfl ?_; refine AList.cmp rfl rfl rfl rfl rfl ?_; refine AList.move rfl rfl rfl ?_; refine AList.move rfl rfl rfl ?_; refine AList.fieldPt tyOk rfl rfl rfl rfl rfl rfl rfl ?_; refine AList.load1 tyOk rfl rfl rfl rfl rfl rfl rfl oM oM ?_; refine AList.cmpT rfl rfl rfl rfl rfl cmT ?_; refine AList.pickT rfl rfl rfl rfl ?_; refine AList.move rfl rfl rfl ?_; refine AList.fieldPt tyOk rfl rfl rfl rfl rfl rfl rfl ?_; refine AList.load1 tyOk rfl rfl rfl rfl rfl rfl rfl oM oM ?_; refine AList.lenLs tyOk rfl rfl rfl rfl rfl ?_; refine AList.fieldPt tyOk rfl rfl rfl rfl rfl rfl rfl ?_; refine AList.load1 tyOk rfl rfl rfl rfl rfl rfl rfl oM oM ?_; refine AList.cmpT rfl rfl rfl rfl rfl cmT ?_; refine AList.pickT rfl rfl rfl rfl ?_; refine AList.move rfl rfl rfl ?_; refine AList.fieldPt tyOk rfl rfl rfl rfl rfl rfl rfl ?_; refine AList.load1 tyOk rfl rfl rfl rfl rfl rfl rfl oM oM ?_; refine AList.lenLs tyOk rfl rfl rfl rfl rfl ?_; refine AList.fieldPt tyOk rfl rfl rfl rfl rfl rfl rfl ?_; refine AList.load1 tyOk rfl rfl rfl rfl rfl rfl rfl oM oM ?_; refine AList.cmpT rfl rfl rfl rfl rfl cmT ?_; refine AList.pickT rfl rfl rfl rfl ?_; refine AList.move rfl rfl rfl ?_; refine AList.fieldPt tyOk rfl rfl rfl rfl rfl rfl rfl ?_; refine AList.load1 tyOk rfl rfl rfl rfl rfl rfl rfl oM oM ?_; refine AList.fieldPt tyOk rfl rfl rfl rfl rfl rfl rfl ?_; refine AList.load1 tyOk rfl rfl rfl rfl rfl rfl rfl oM oM ?_; refine AList.sub rfl rfl rfl rfl (by omega) (by omega) ?_; refine AList.fieldPt tyOk rfl rfl rfl rfl rfl rfl rfl ?_; refine AList.load1 tyOk rfl rfl rfl rfl rfl rfl rfl oM oM ?_; refine AList.cmpF rfl rfl rfl rfl rfl cmF ?_; refine AList.pickT rfl rfl rfl rfl ?_; refine AList.assign rfl rfl rfl ?_; refine AList.nil ?_))
            refine ⟨mkSt 63 [(6, .c (bC false))] [] [], [], Wk.mk [] rfl rfl rfl ?_ trivial, rfl, rfl, ARets.one (x := .c _) (ARes.tmp rfl rfl)⟩
            repeat (first | exact trivial | refine ⟨⟨_, rfl, by first | exact LeA.c (LeC.refl _ rfl) | exact LeA.c (LeC.ow _ _ rfl) | exact LeA.c (LeC.pt _ _ _ _ _ rfl) | exact LeA.c (LeC.nil _ rfl) | exact LeA.c (LeC.nils _ _) | (refine LeA.int ?_; omega) | (refine LeA.int ?_; dsimp only; omega) | exact LeA.c (LeC.fz rfl rfl (by first | rfl | omega) (fun i _ j _ => ⟨rfl, by first | rfl | exact rowN_imm (fun _ => rfl) _ i j | exact rowF_imm (fun _ => rfl) _ i j⟩))⟩, ?_⟩)
        · rw [decide_eq_false fun h => c3 h.2.2.1]
          refine acalls_at Try.func26 rfl rfl Try.ntmps26 rfl ?_
          repeat (first
            | refine AWp.seq ?_
            | refine thenA_n ?_
            | refine AWp.ret ?_
            | (refine AWp.region (id := 0) ?_; refine AList.box rfl rfl rfl rfl rfl ?_; refine AList.box rfl rfl rfl rfl rfl ?_; refine AList.box rfl rfl rfl rfl rfl ?_; refine AList.assign rfl rfl rfl ?_; refine AList.nil ?_)
            | (refine AWp.region (id := 1) ?_; refine AList.loadA tyOk rfl rfl rfl rfl rfl rfl rfl oM oM ?_; refine AList.call rfl rfl rfl rfl Try.func56 rfl (by kernel_rfl) (hL) ?_; refine AList.store tyOk rfl rfl rfl rfl rfl rfl rfl rfl oM oM ?_; refine AList.nil ?_)
            | (refine AWp.region (id := 2) ?_; refine AList.loadA tyOk rfl rfl rfl rfl rfl rfl rfl oM oM ?_; refine AList.loadA tyOk rfl rfl rfl rfl rfl rfl rfl oM oM ?_; refine AList.call rfl rfl rfl rfl Try.func25 rfl (by kernel_rfl) (hA) ?_; refine AList.move rfl rfl rfl ?_; refine AList.extract rfl rfl rfl rfl ?_; refine AList.extract rfl rfl rfl rfl ?_; refine AList.alloc tyOk rfl rfl rfl rfl rfl ?_; refine AList.store tyOk rfl rfl rfl rfl rfl rfl rfl rfl oM oM ?_; refine AList.assign rfl rfl rfl ?_; refine AList.nil ?_)
            | (refine AWp.region (id := 3) ?_; refine AList.fieldPt tyOk rfl rfl rfl rfl rfl rfl rfl ?_; refine AList.load1 tyOk rfl rfl rfl rfl rfl rfl rfl oM oM ?_; refine AList.fieldPt tyOk rfl rfl rfl rfl rfl rfl rfl ?_; refine AList.load1 tyOk rfl rfl rfl rfl rfl rfl rfl oM oM ?_; refine AList.negW rfl rfl rfl ?_; refine AList.fieldPt tyOk rfl rfl rfl rfl rfl rfl rfl ?_; refine AList.load1 tyOk rfl rfl rfl rfl rfl rfl rfl oM oM ?_; refine AList.fieldPt tyOk rfl rfl rfl rfl rfl rfl rfl ?_; refine AList.load1 tyOk rfl rfl rfl rfl rfl rfl rfl oM oM ?_; refine AList.negW rfl rfl rfl ?_; refine AList.max4 rfl rfl rfl rfl rfl rfl ?_; refine AList.assign rfl rfl rfl ?_; refine AList.nil ?_)
            | (refine AWp.region (id := 4) ?_; refine AList.move rfl rfl rfl ?_; refine AList.cmp rfl rfl rfl rfl rfl ?_; refine AList.move rfl rfl rfl ?_; refine AList.move rfl rfl rfl ?_; refine AList.fieldPt tyOk rfl rfl rfl rfl rfl rfl rfl ?_; refine AList.load1 tyOk rfl rfl rfl rfl rfl rfl rfl oM oM ?_; refine AList.cmpT rfl rfl rfl rfl rfl cmT ?_; refine AList.pickT rfl rfl rfl rfl ?_; refine AList.move rfl rfl rfl ?_; refine AList.fieldPt tyOk rfl rfl rfl rfl rfl rfl rfl ?_; refine AList.load1 tyOk rfl rfl rfl rfl rfl rfl rfl oM oM ?_; refine AList.lenLs tyOk rfl rfl rfl rfl rfl ?_; refine AList.fieldPt tyOk rfl rfl rfl rfl rfl rfl rfl ?_; refine AList.load1 tyOk rfl rfl rfl rfl rfl rfl rfl oM oM ?_; refine AList.cmpT rfl rfl rfl rfl rfl cmT ?_; refine AList.pickT rfl rfl rfl rfl ?_; refine AList.move rfl rfl rfl ?_; refine AList.fieldPt tyOk rfl rfl rfl rfl rfl rfl rfl ?_; refine AList.load1 tyOk rfl rfl rfl rfl rfl rfl rfl oM oM ?_; refine AList.lenLs tyOk rfl rfl rfl rfl rfl ?_; refine AList.fieldPt tyOk rfl rfl rfl rfl rfl rfl rfl ?_; refine AList.load1 tyOk rfl rfl rfl rfl rfl rfl rfl oM oM ?_; refine AList.cmpF rfl rfl rfl rfl rfl cmF ?_; refine AList.pickT rfl rfl rfl rfl ?_; refine AList.move rfl rfl rfl ?_; refine AList.skip rfl rfl ?_; refine AList.skip rfl rfl ?_; refine AList.skip rfl rfl ?_; refine AList.skip rfl rfl ?_; refine AList.skip rfl rfl ?_; refine AList.skip rfl rfl ?_; refine AList.skip rfl rfl ?_; refine AList.skip rfl rfl ?_; refine AList.pickF rfl rfl rfl rfl ?_; refine AList.assign rfl rfl rfl ?_; refine AList.nil ?_))
          refine ⟨mkSt 63 [(6, .c (bC false))] [] [], [], Wk.mk [] rfl rfl rfl ?_ trivial, rfl, rfl, ARets.one (x := .c _) (ARes.tmp rfl rfl)⟩
          repeat (first | exact trivial | refine ⟨⟨_, rfl, by first | exact LeA.c (LeC.refl _ rfl) | exact LeA.c (LeC.ow _ _ rfl) | exact LeA.c (LeC.pt _ _ _ _ _ rfl) | exact LeA.c (LeC.nil _ rfl) | exact LeA.c (LeC.nils _ _) | (refine LeA.int ?_; omega) | (refine LeA.int ?_; dsimp only; omega) | exact LeA.c (LeC.fz rfl rfl (by first | rfl | omega) (fun i _ j _ => ⟨rfl, by first | rfl | exact rowN_imm (fun _ => rfl) _ i j | exact rowF_imm (fun _ => rfl) _ i j⟩))⟩, ?_⟩)
      · rw [decide_eq_false fun h => c2 h.2.1]
        refine acalls_at Try.func26 rfl rfl Try.ntmps26 rfl ?_
        repeat (first
          | refine AWp.seq ?_
          | refine thenA_n ?_
          | refine AWp.ret ?_
          | (refine AWp.region (id := 0) ?_; refine AList.box rfl rfl rfl rfl rfl ?_; refine AList.box rfl rfl rfl rfl rfl ?_; refine AList.box rfl rfl rfl rfl rfl ?_; refine AList.assign rfl rfl rfl ?_; refine AList.nil ?_)
          | (refine AWp.region (id := 1) ?_; refine AList.loadA tyOk rfl rfl rfl rfl rfl rfl rfl oM oM ?_; refine AList.call rfl rfl rfl rfl Try.func56 rfl (by kernel_rfl) (hL) ?_; refine AList.store tyOk rfl rfl rfl rfl rfl rfl rfl rfl oM oM ?_; refine AList.nil ?_)
          | (refine AWp.region (id := 2) ?_; refine AList.loadA tyOk rfl rfl rfl rfl rfl rfl rfl oM oM ?_; refine AList.loadA tyOk rfl rfl rfl rfl rfl rfl rfl oM oM ?_; refine AList.call rfl rfl rfl rfl Try.func25 rfl (by kernel_rfl) (hA) ?_; refine AList.move rfl rfl rfl ?_; refine AList.extract rfl rfl rfl rfl ?_; refine AList.extract rfl rfl rfl rfl ?_; refine AList.alloc tyOk rfl rfl rfl rfl rfl ?_; refine AList.store tyOk rfl rfl rfl rfl rfl rfl rfl rfl oM oM ?_; refine AList.assign rfl rfl rfl ?_; refine AList.nil ?_)
          | (refine AWp.region (id := 3) ?_; refine AList.fieldPt tyOk rfl rfl rfl rfl rfl rfl rfl ?_; refine AList.load1 tyOk rfl rfl rfl rfl rfl rfl rfl oM oM ?_; refine AList.fieldPt tyOk rfl rfl rfl rfl rfl rfl rfl ?_; refine AList.load1 tyOk rfl rfl rfl rfl rfl rfl rfl oM oM ?_; refine AList.negW rfl rfl rfl ?_; refine AList.fieldPt tyOk rfl rfl rfl rfl rfl rfl rfl ?_; refine AList.load1 tyOk rfl rfl rfl rfl rfl rfl rfl oM oM ?_; refine AList.fieldPt tyOk rfl rfl rfl rfl rfl rfl rfl ?_; refine AList.load1 tyOk rfl rfl rfl rfl rfl rfl rfl oM oM ?_; refine AList.negW rfl rfl rfl ?_; refine AList.max4 rfl rfl rfl rfl rfl rfl ?_; refine AList.assign rfl rfl rfl ?_; refine AList.nil ?_)
          | (refine AWp.region (id := 4) ?_; refine AList.move rfl rfl rfl ?_; refine AList.cmp rfl rfl rfl rfl rfl ?_; refine AList.move rfl rfl rfl ?_; refine AList.move rfl rfl rfl ?_; refine AList.fieldPt tyOk rfl rfl rfl rfl rfl rfl rfl ?_; refine AList.load1 tyOk rfl rfl rfl rfl rfl rfl rfl oM oM ?_; refine AList.cmpT rfl rfl rfl rfl rfl cmT ?_; refine AList.pickT rfl rfl rfl rfl ?_; refine AList.move rfl rfl rfl ?_; refine AList.fieldPt tyOk rfl rfl rfl rfl rfl rfl rfl ?_; refine AList.load1 tyOk rfl rfl rfl rfl rfl rfl rfl oM oM ?_; refine AList.lenLs tyOk rfl rfl rfl rfl rfl ?_; refine AList.fieldPt tyOk rfl rfl rfl rfl rfl rfl rfl ?_; refine AList.load1 tyOk rfl rfl rfl rfl rfl rfl rfl oM oM ?_; refine AList.cmpF rfl rfl rfl rfl rfl cmF ?_; refine AList.pickT rfl rfl rfl rfl ?_; refine AList.move rfl rfl rfl ?_; refine AList.skip rfl rfl ?_; refine AList.skip rfl rfl ?_; refine AList.skip rfl rfl ?_; refine AList.skip rfl rfl ?_; refine AList.skip rfl rfl ?_; refine AList.skip rfl rfl ?_; refine AList.pickF rfl rfl rfl rfl ?_; refine AList.move rfl rfl rfl ?_; refine AList.skip rfl rfl ?_; refine AList.skip rfl rfl ?_; refine AList.skip rfl rfl ?_; refine AList.skip rfl rfl ?_; refine AList.skip rfl rfl ?_; refine AList.skip rfl rfl ?_; refine AList.skip rfl rfl ?_; refine AList.skip rfl rfl ?_; refine AList.pickF rfl rfl rfl rfl ?_; refine AList.assign rfl rfl rfl ?_; refine AList.nil ?_))
        refine ⟨mkSt 63 [(6, .c (bC false))] [] [], [], Wk.mk [] rfl rfl rfl ?_ trivial, rfl, rfl, ARets.one (x := .c _) (ARes.tmp rfl rfl)⟩
        repeat (first | exact trivial | refine ⟨⟨_, rfl, by first | exact LeA.c (LeC.refl _ rfl) | exact LeA.c (LeC.ow _ _ rfl) | exact LeA.c (LeC.pt _ _ _ _ _ rfl) | exact LeA.c (LeC.nil _ rfl) | exact LeA.c (LeC.nils _ _) | (refine LeA.int ?_; omega) | (refine LeA.int ?_; dsimp only; omega) | exact LeA.c (LeC.fz rfl rfl (by first | rfl | omega) (fun i _ j _ => ⟨rfl, by first | rfl | exact rowN_imm (fun _ => rfl) _ i j | exact rowF_imm (fun _ => rfl) _ i j⟩))⟩, ?_⟩)
    · rw [decide_eq_false fun h => c1 h.1]
      refine acalls_at Try.func26 rfl rfl Try.ntmps26 rfl ?_
      repeat (first
        | refine AWp.seq ?_
        | refine thenA_n ?_
        | refine AWp.ret ?_
        | (refine AWp.region (id := 0) ?_; refine AList.box rfl rfl rfl rfl rfl ?_; refine AList.box rfl rfl rfl rfl rfl ?_; refine AList.box rfl rfl rfl rfl rfl ?_; refine AList.assign rfl rfl rfl ?_; refine AList.nil ?_)
        | (refine AWp.region (id := 1) ?_; refine AList.loadA tyOk rfl rfl rfl rfl rfl rfl rfl oM oM ?_; refine AList.call rfl rfl rfl rfl Try.func56 rfl (by kernel_rfl) (hL) ?_; refine AList.store tyOk rfl rfl rfl rfl rfl rfl rfl rfl oM oM ?_; refine AList.nil ?_)
        | (refine AWp.region (id := 2) ?_; refine AList.loadA tyOk rfl rfl rfl rfl rfl rfl rfl oM oM ?_; refine AList.loadA tyOk rfl rfl rfl rfl rfl rfl rfl oM oM ?_; refine AList.call rfl rfl rfl rfl Try.func25 rfl (by kernel_rfl) (hA) ?_; refine AList.move rfl rfl rfl ?_; refine AList.extract rfl rfl rfl rfl ?_; refine AList.extract rfl rfl rfl rfl ?_; refine AList.alloc tyOk rfl rfl rfl rfl rfl ?_; refine AList.store tyOk rfl rfl rfl rfl rfl rfl rfl rfl oM oM ?_; refine AList.assign rfl rfl rfl ?_; refine AList.nil ?_)
        | (refine AWp.region (id := 3) ?_; refine AList.fieldPt tyOk rfl rfl rfl rfl rfl rfl rfl ?_; refine AList.load1 tyOk rfl rfl rfl rfl rfl rfl rfl oM oM ?_; refine AList.fieldPt tyOk rfl rfl rfl rfl rfl rfl rfl ?_; refine AList.load1 tyOk rfl rfl rfl rfl rfl rfl rfl oM oM ?_; refine AList.negW rfl rfl rfl ?_; refine AList.fieldPt tyOk rfl rfl rfl rfl rfl rfl rfl ?_; refine AList.load1 tyOk rfl rfl rfl rfl rfl rfl rfl oM oM ?_; refine AList.fieldPt tyOk rfl rfl rfl rfl rfl rfl rfl ?_; refine AList.load1 tyOk rfl rfl rfl rfl rfl rfl rfl oM oM ?_; refine AList.negW rfl rfl rfl ?_; refine AList.max4 rfl rfl rfl rfl rfl rfl ?_; refine AList.assign rfl rfl rfl ?_; refine AList.nil ?_)
        | (refine AWp.region (id := 4) ?_; refine AList.move rfl rfl rfl ?_; refine AList.cmp rfl rfl rfl rfl rfl ?_; refine AList.move rfl rfl rfl ?_; refine AList.move rfl rfl rfl ?_; refine AList.fieldPt tyOk rfl rfl rfl rfl rfl rfl rfl ?_; refine AList.load1 tyOk rfl rfl rfl rfl rfl rfl rfl oM oM ?_; refine AList.cmpF rfl rfl rfl rfl rfl cmF ?_; refine AList.pickT rfl rfl rfl rfl ?_; refine AList.move rfl rfl rfl ?_; refine AList.skip rfl rfl ?_; refine AList.skip rfl rfl ?_; refine AList.skip rfl rfl ?_; refine AList.skip rfl rfl ?_; refine AList.skip rfl rfl ?_; refine AList.skip rfl rfl ?_; refine AList.pickF rfl rfl rfl rfl ?_; refine AList.move rfl rfl rfl ?_; refine AList.skip rfl rfl ?_; refine AList.skip rfl rfl ?_; refine AList.skip rfl rfl ?_; refine AList.skip rfl rfl ?_; refine AList.skip rfl rfl ?_; refine AList.skip rfl rfl ?_; refine AList.pickF rfl rfl rfl rfl ?_; refine AList.move rfl rfl rfl ?_; refine AList.skip rfl rfl ?_; refine AList.skip rfl rfl ?_; refine AList.skip rfl rfl ?_; refine AList.skip rfl rfl ?_; refine AList.skip rfl rfl ?_; refine AList.skip rfl rfl ?_; refine AList.skip rfl rfl ?_; refine AList.skip rfl rfl ?_; refine AList.pickF rfl rfl rfl rfl ?_; refine AList.assign rfl rfl rfl ?_; refine AList.nil ?_))
      refine ⟨mkSt 63 [(6, .c (bC false))] [] [], [], Wk.mk [] rfl rfl rfl ?_ trivial, rfl, rfl, ARets.one (x := .c _) (ARes.tmp rfl rfl)⟩
      repeat (first | exact trivial | refine ⟨⟨_, rfl, by first | exact LeA.c (LeC.refl _ rfl) | exact LeA.c (LeC.ow _ _ rfl) | exact LeA.c (LeC.pt _ _ _ _ _ rfl) | exact LeA.c (LeC.nil _ rfl) | exact LeA.c (LeC.nils _ _) | (refine LeA.int ?_; omega) | (refine LeA.int ?_; dsimp only; omega) | exact LeA.c (LeC.fz rfl rfl (by first | rfl | omega) (fun i _ j _ => ⟨rfl, by first | rfl | exact rowN_imm (fun _ => rfl) _ i j | exact rowF_imm (fun _ => rfl) _ i j⟩))⟩, ?_⟩)
  · have hwi : wiB b h x = false := decide_eq_false fun h => he h.1
    rw [hwi]
    rw [apV, apI, if_neg he] at hA
    generalize apE b h = e at hA he
    refine acalls_at Try.func26 rfl rfl Try.ntmps26 rfl ?_
    repeat (first
      | refine AWp.seq ?_
      | refine thenA_n ?_
      | refine AWp.ret ?_
      | (refine AWp.region (id := 0) ?_; refine AList.box rfl rfl rfl rfl rfl ?_; refine AList.box rfl rfl rfl rfl rfl ?_; refine AList.box rfl rfl rfl rfl rfl ?_; refine AList.assign rfl rfl rfl ?_; refine AList.nil ?_)
      | (refine AWp.region (id := 1) ?_; refine AList.loadA tyOk rfl rfl rfl rfl rfl rfl rfl oM oM ?_; refine AList.call rfl rfl rfl rfl Try.func56 rfl (by kernel_rfl) (hL) ?_; refine AList.store tyOk rfl rfl rfl rfl rfl rfl rfl rfl oM oM ?_; refine AList.nil ?_)
      | (refine AWp.region (id := 2) ?_; refine AList.loadA tyOk rfl rfl rfl rfl rfl rfl rfl oM oM ?_; refine AList.loadA tyOk rfl rfl rfl rfl rfl rfl rfl oM oM ?_; refine AList.call rfl rfl rfl rfl Try.func25 rfl (by kernel_rfl) (hA) ?_; refine AList.move rfl rfl rfl ?_; refine AList.extract rfl rfl rfl rfl ?_; refine AList.extract rfl rfl rfl rfl ?_; refine AList.alloc tyOk rfl rfl rfl rfl rfl ?_; refine AList.store tyOk rfl rfl rfl rfl rfl rfl rfl rfl oM oM ?_; refine AList.assign rfl rfl rfl ?_; refine AList.nil ?_)
      | (refine AWp.region (id := 3) ?_; refine AList.fieldPt tyOk rfl rfl rfl rfl rfl rfl rfl ?_; refine AList.load1 tyOk rfl rfl rfl rfl rfl rfl rfl oM oM ?_; refine AList.fieldPt tyOk rfl rfl rfl rfl rfl rfl rfl ?_; refine AList.load1 tyOk rfl rfl rfl rfl rfl rfl rfl oM oM ?_; refine AList.negW rfl rfl rfl ?_; refine AList.fieldPt tyOk rfl rfl rfl rfl rfl rfl rfl ?_; refine AList.load1 tyOk rfl rfl rfl rfl rfl rfl rfl oM oM ?_; refine AList.fieldPt tyOk rfl rfl rfl rfl rfl rfl rfl ?_; refine AList.load1 tyOk rfl rfl rfl rfl rfl rfl rfl oM oM ?_; refine AList.negW rfl rfl rfl ?_; refine AList.max4 rfl rfl rfl rfl rfl rfl ?_; refine AList.assign rfl rfl rfl ?_; refine AList.nil ?_)
      | (refine AWp.region (id := 4) ?_; refine AList.move rfl rfl rfl ?_; refine AList.cmpF rfl rfl rfl rfl rfl cmF ?_; refine AList.move rfl rfl rfl ?_; refine AList.skip rfl rfl ?_; refine AList.skip rfl rfl ?_; refine AList.skip rfl rfl ?_; refine AList.skip rfl rfl ?_; refine AList.pickF rfl rfl rfl rfl ?_; refine AList.move rfl rfl rfl ?_; refine AList.skip rfl rfl ?_; refine AList.skip rfl rfl ?_; refine AList.skip rfl rfl ?_; refine AList.skip rfl rfl ?_; refine AList.skip rfl rfl ?_; refine AList.skip rfl rfl ?_; refine AList.pickF rfl rfl rfl rfl ?_; refine AList.move rfl rfl rfl ?_; refine AList.skip rfl rfl ?_; refine AList.skip rfl rfl ?_; refine AList.skip rfl rfl ?_; refine AList.skip rfl rfl ?_; refine AList.skip rfl rfl ?_; refine AList.skip rfl rfl ?_; refine AList.pickF rfl rfl rfl rfl ?_; refine AList.move rfl rfl rfl ?_; refine AList.skip rfl rfl ?_; refine AList.skip rfl rfl ?_; refine AList.skip rfl rfl ?_; refine AList.skip rfl rfl ?_; refine AList.skip rfl rfl ?_; refine AList.skip rfl rfl ?_; refine AList.skip rfl rfl ?_; refine AList.skip rfl rfl ?_; refine AList.pickF rfl rfl rfl rfl ?_; refine AList.assign rfl rfl rfl ?_; refine AList.nil ?_))
    refine ⟨mkSt 63 [(6, .c (bC false))] [] [], [], Wk.mk [] rfl rfl rfl ?_ trivial, rfl, rfl, ARets.one (x := .c _) (ARes.tmp rfl rfl)⟩
    repeat (first | exact trivial | refine ⟨⟨_, rfl, by first | exact LeA.c (LeC.refl _ rfl) | exact LeA.c (LeC.ow _ _ rfl) | exact LeA.c (LeC.pt _ _ _ _ _ rfl) | exact LeA.c (LeC.nil _ rfl) | exact LeA.c (LeC.nils _ _) | (refine LeA.int ?_; omega) | (refine LeA.int ?_; dsimp only; omega) | exact LeA.c (LeC.fz rfl rfl (by first | rfl | omega) (fun i _ j _ => ⟨rfl, by first | rfl | exact rowN_imm (fun _ => rfl) _ i j | exact rowF_imm (fun _ => rfl) _ i j⟩))⟩, ?_⟩)
end Go.Proofs.Ytijaioiojclooaa
end
