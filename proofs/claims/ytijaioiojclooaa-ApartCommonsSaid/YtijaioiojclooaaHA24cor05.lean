/- Parts of the proof: A24v. -/
import Derived.Test.YtijaioiojclooaaG25
import Derived.Test.YtijaioiojclooaaHA24cor04
import Derived.Test.YtijaioiojclooaaG24
import Derived.Test.YtijaioiojclooaaHA24cor03
import Derived.Test.YtijaioiojclooaaG23
import Derived.Test.YtijaioiojclooaaG18
import Derived.Test.YtijaioiojclooaaG04
import Derived.Scope
import Derived.Test.YtijaioiojclooaaG21
import Derived.Test.YtijaioiojclooaaG22
import Derived.Test.YtijaioiojclooaaG09
import Derived.Test.YtijaioiojclooaaG03
import Derived.RangeFuncLeaves
import Derived.RangeFuncRecord
import Derived.Test.YtijaioiojclooaaHA24cor01
import Derived.Shelf.Abstract
import Derived.Test.YtijaioiojclooaaG02
import Derived.Test.YtijaioiojclooaaG08
import Derived.Test.YtijaioiojclooaaG01
import Derived.Test.YtijaioiojclooaaG20
import Derived.RangeFuncNested
import Derived.Deep.AppendLies
import Derived.OrdersIn
import Derived.TacticsIn
import Derived.RangeFuncCalls
import Derived.Test.YtijaioiojclooaaHA24cor02
import Derived.Test.YtijaioiojclooaaG17
import Derived.Maps.AppendAt
import Derived.OwnWalk
import Derived.Test.YtijaioiojclooaaG19
import Derived.Test.YtijaioiojclooaaProg
import Derived.Test.YtijaioiojclooaaG11
import Derived.Laws.Cover3
import Derived.StillTail
import Derived.Below
import Derived.Deep.Draws
import Derived.WalkKit
import Derived.KernelRfl
import Derived.Test.YtijaioiojclooaaG14
import Derived.Test.YtijaioiojclooaaG16
import Derived.Lib.Hide
import Derived.Deep.QuietTactic
import Derived.BigQuiet
import Derived.Deep.DrawnRows
import Derived.Test.YtijaioiojclooaaG07
import Derived.Laws.StructEq
import Derived.Test.YtijaioiojclooaaG13
import Derived.Test.YtijaioiojclooaaG10
import Derived.Test.YtijaioiojclooaaG12
import Derived.Test.YtijaioiojclooaaG06
import Derived.Test.YtijaioiojclooaaG05
import Derived.Great.BuildSlice
import Derived.Test.YtijaioiojclooaaG15
set_option linter.unusedSimpArgs false
set_option linter.unusedVariables false
section
namespace Go.Proofs.Ytijaioiojclooaa
open Go.RowKit Go.Flow Go.AV Go.Plain
set_option maxHeartbeats 2000000 in
set_option maxRecDepth 100000 in
theorem rCommon_A (a b : Bp) (x y : Bg) (c : Cl) : ACalls Try.prog 20 [.ag (bpC a), .ag (bpC b), .ag (bgC x), .ag (bgC y), .ag (clC c)] (.tu [.ag (ipC (cmV a b x y c).1), .c (iC (cmV a b x y c).2)]) := by
  have hCa := rbCheck_A a.W a.H a.n a.d
  have hCb := rbCheck_A b.W b.H b.n b.d
  have hCo := Comparable_A a b
  unfold cmV
  by_cases ha : chk a.W a.H a.n = 0
  case neg =>
    rw [if_pos ha]
    refine acalls_at Try.func20 rfl rfl Try.ntmps20 rfl ?_
    repeat (first
      | refine AWp.seq ?_
      | refine thenA_n ?_
      | refine AWp.ret ?_
      | refine thenA_r ?_
      | refine AWp.condT rfl (by first | rfl | assumption | exact cmT) ?_
      | (refine AWp.region (id := 0) ?_; refine AList.box rfl rfl rfl rfl rfl ?_; refine AList.box rfl rfl rfl rfl rfl ?_; refine AList.box rfl rfl rfl rfl rfl ?_; refine AList.box rfl rfl rfl rfl rfl ?_; refine AList.box rfl rfl rfl rfl rfl ?_; refine AList.alloc tyOk rfl rfl rfl rfl rfl ?_; refine AList.assign rfl rfl rfl ?_; refine AList.nil ?_)
      | (refine AWp.region (id := 1) ?_; refine AList.loadA tyOk rfl rfl rfl rfl rfl rfl rfl oM oM ?_; refine AList.call rfl rfl rfl rfl Try.func51 rfl (by kernel_rfl) (hCa) ?_; refine AList.assign rfl rfl rfl ?_; refine AList.nil ?_)
      | (refine AWp.region (id := 2) ?_; refine AList.move rfl rfl rfl ?_; refine AList.cmpT rfl rfl rfl rfl rfl cmT ?_; refine AList.nil ?_)
      | (refine AWp.region (id := 3) ?_; refine AList.buildSt tyOk rfl rfl rfl rfl rfl rfl rfl rfl ?_; refine AList.move rfl rfl rfl ?_; refine AList.store tyOk rfl rfl rfl rfl rfl rfl rfl rfl oM oM ?_; refine AList.assign rfl rfl rfl ?_; refine AList.nil ?_))
    refine ⟨mkSt 165 [(10, .c (.pt 10 3 0 0)), (11, .c (iC (chk a.W a.H a.n)))] [(10, ⟨false, 1, 3, 52, lF (ipC (ipZ))⟩)] [10], [(10, ⟨false, 1, 3, 52, lF (ipC (ipZ))⟩)], Wk.mk [(10, some 10)] rfl rfl rfl ?_ ?_, rfl, rfl, ARets.two (x := .ag _) (y := .c _) (ARes.box tyOk rfl rfl rfl rfl rfl rfl rfl) (ARes.tmp rfl rfl)⟩
    · repeat (first | exact trivial | refine ⟨⟨_, rfl, by first | exact LeA.c (LeC.refl _ rfl) | exact LeA.c (LeC.ow _ _ rfl) | exact LeA.c (LeC.pt _ _ _ _ _ rfl) | exact LeA.c (LeC.nil _ rfl) | exact LeA.c (LeC.nils _ _) | (refine LeA.int ?_; omega) | (refine LeA.int ?_; dsimp only; omega) | exact LeA.c (LeC.fz rfl rfl (by first | rfl | omega) (fun i _ j _ => ⟨rfl, by first | rfl | exact rowN_imm (fun _ => rfl) _ i j | exact rowF_imm (fun _ => rfl) _ i j⟩))⟩, ?_⟩)
    · repeat (first | exact trivial | refine ⟨by first | exact HeapOk.same rfl rfl rfl rfl | exact HeapOk.lent rfl rfl rfl rfl | exact HeapOk.nil rfl rfl | exact HeapOk.row rfl rfl (by first | rfl | omega) (fun i _ j _ => ⟨rfl, by first | rfl | exact rowN_imm (fun _ => rfl) _ i j | exact rowF_imm (fun _ => rfl) _ i j⟩) | exact HeapOk.box rfl rfl (by repeat (first | exact trivial | refine ⟨by first | exact LeC.refl _ rfl | exact LeC.ow _ _ rfl | exact LeC.nil _ rfl | exact LeC.nils _ _ | exact LeC.fz rfl rfl (by first | rfl | omega) (fun i _ j _ => ⟨rfl, by first | rfl | exact rowN_imm (fun _ => rfl) _ i j | exact rowF_imm (fun _ => rfl) _ i j⟩) | exact LeC.int (by omega), ?_⟩)) rfl, ?_⟩)
  rw [if_neg (fun h => h ha)]
  rw [ha] at hCa
  by_cases hb : chk b.W b.H b.n = 0
  case neg =>
    rw [if_pos hb]
    refine acalls_at Try.func20 rfl rfl Try.ntmps20 rfl ?_
    repeat (first
      | refine AWp.seq ?_
      | refine thenA_n ?_
      | refine AWp.skip ?_
      | refine AWp.ret ?_
      | refine thenA_r ?_
      | refine AWp.condT rfl (by first | rfl | assumption | exact cmT) ?_
      | refine AWp.condF rfl (by first | rfl | assumption | exact cmF) ?_
      | (refine AWp.region (id := 0) ?_; refine AList.box rfl rfl rfl rfl rfl ?_; refine AList.box rfl rfl rfl rfl rfl ?_; refine AList.box rfl rfl rfl rfl rfl ?_; refine AList.box rfl rfl rfl rfl rfl ?_; refine AList.box rfl rfl rfl rfl rfl ?_; refine AList.alloc tyOk rfl rfl rfl rfl rfl ?_; refine AList.assign rfl rfl rfl ?_; refine AList.nil ?_)
      | (refine AWp.region (id := 1) ?_; refine AList.loadA tyOk rfl rfl rfl rfl rfl rfl rfl oM oM ?_; refine AList.call rfl rfl rfl rfl Try.func51 rfl (by kernel_rfl) (hCa) ?_; refine AList.assign rfl rfl rfl ?_; refine AList.nil ?_)
      | (refine AWp.region (id := 2) ?_; refine AList.move rfl rfl rfl ?_; refine AList.cmp rfl rfl rfl rfl rfl ?_; refine AList.nil ?_)
      | (refine AWp.region (id := 4) ?_; refine AList.loadA tyOk rfl rfl rfl rfl rfl rfl rfl oM oM ?_; refine AList.call rfl rfl rfl rfl Try.func51 rfl (by kernel_rfl) (hCb) ?_; refine AList.assign rfl rfl rfl ?_; refine AList.nil ?_)
      | (refine AWp.region (id := 5) ?_; refine AList.move rfl rfl rfl ?_; refine AList.cmpT rfl rfl rfl rfl rfl cmT ?_; refine AList.nil ?_)
      | (refine AWp.region (id := 6) ?_; refine AList.buildSt tyOk rfl rfl rfl rfl rfl rfl rfl rfl ?_; refine AList.move rfl rfl rfl ?_; refine AList.store tyOk rfl rfl rfl rfl rfl rfl rfl rfl oM oM ?_; refine AList.assign rfl rfl rfl ?_; refine AList.nil ?_))
    refine ⟨mkSt 165 [(10, .c (.pt 10 3 0 0)), (11, .c (iC (chk b.W b.H b.n)))] [(10, ⟨false, 1, 3, 52, lF (ipC (ipZ))⟩)] [10], [(10, ⟨false, 1, 3, 52, lF (ipC (ipZ))⟩)], Wk.mk [(10, some 10)] rfl rfl rfl ?_ ?_, rfl, rfl, ARets.two (x := .ag _) (y := .c _) (ARes.box tyOk rfl rfl rfl rfl rfl rfl rfl) (ARes.tmp rfl rfl)⟩
    · repeat (first | exact trivial | refine ⟨⟨_, rfl, by first | exact LeA.c (LeC.refl _ rfl) | exact LeA.c (LeC.ow _ _ rfl) | exact LeA.c (LeC.pt _ _ _ _ _ rfl) | exact LeA.c (LeC.nil _ rfl) | exact LeA.c (LeC.nils _ _) | (refine LeA.int ?_; omega) | (refine LeA.int ?_; dsimp only; omega) | exact LeA.c (LeC.fz rfl rfl (by first | rfl | omega) (fun i _ j _ => ⟨rfl, by first | rfl | exact rowN_imm (fun _ => rfl) _ i j | exact rowF_imm (fun _ => rfl) _ i j⟩))⟩, ?_⟩)
    · repeat (first | exact trivial | refine ⟨by first | exact HeapOk.same rfl rfl rfl rfl | exact HeapOk.lent rfl rfl rfl rfl | exact HeapOk.nil rfl rfl | exact HeapOk.row rfl rfl (by first | rfl | omega) (fun i _ j _ => ⟨rfl, by first | rfl | exact rowN_imm (fun _ => rfl) _ i j | exact rowF_imm (fun _ => rfl) _ i j⟩) | exact HeapOk.box rfl rfl (by repeat (first | exact trivial | refine ⟨by first | exact LeC.refl _ rfl | exact LeC.ow _ _ rfl | exact LeC.nil _ rfl | exact LeC.nils _ _ | exact LeC.fz rfl rfl (by first | rfl | omega) (fun i _ j _ => ⟨rfl, by first | rfl | exact rowN_imm (fun _ => rfl) _ i j | exact rowF_imm (fun _ => rfl) _ i j⟩) | exact LeC.int (by omega), ?_⟩)) rfl, ?_⟩)
  rw [if_neg (fun h => h hb)]
  rw [hb] at hCb
  by_cases hok : cmpOk a b
  case neg =>
    rw [if_pos hok]
    rw [decide_eq_false hok] at hCo
    refine acalls_at Try.func20 rfl rfl Try.ntmps20 rfl ?_
    repeat (first
      | refine AWp.seq ?_
      | refine thenA_n ?_
      | refine AWp.skip ?_
      | refine AWp.ret ?_
      | refine thenA_r ?_
      | refine AWp.condT rfl (by first | rfl | assumption | exact cmT) ?_
      | refine AWp.condF rfl (by first | rfl | assumption | exact cmF) ?_
      | (refine AWp.region (id := 0) ?_; refine AList.box rfl rfl rfl rfl rfl ?_; refine AList.box rfl rfl rfl rfl rfl ?_; refine AList.box rfl rfl rfl rfl rfl ?_; refine AList.box rfl rfl rfl rfl rfl ?_; refine AList.box rfl rfl rfl rfl rfl ?_; refine AList.alloc tyOk rfl rfl rfl rfl rfl ?_; refine AList.assign rfl rfl rfl ?_; refine AList.nil ?_)
      | (refine AWp.region (id := 1) ?_; refine AList.loadA tyOk rfl rfl rfl rfl rfl rfl rfl oM oM ?_; refine AList.call rfl rfl rfl rfl Try.func51 rfl (by kernel_rfl) (hCa) ?_; refine AList.assign rfl rfl rfl ?_; refine AList.nil ?_)
      | (refine AWp.region (id := 2) ?_; refine AList.move rfl rfl rfl ?_; refine AList.cmp rfl rfl rfl rfl rfl ?_; refine AList.nil ?_)
      | (refine AWp.region (id := 4) ?_; refine AList.loadA tyOk rfl rfl rfl rfl rfl rfl rfl oM oM ?_; refine AList.call rfl rfl rfl rfl Try.func51 rfl (by kernel_rfl) (hCb) ?_; refine AList.assign rfl rfl rfl ?_; refine AList.nil ?_)
      | (refine AWp.region (id := 5) ?_; refine AList.move rfl rfl rfl ?_; refine AList.cmp rfl rfl rfl rfl rfl ?_; refine AList.nil ?_)
      | (refine AWp.region (id := 7) ?_; refine AList.loadA tyOk rfl rfl rfl rfl rfl rfl rfl oM oM ?_; refine AList.loadA tyOk rfl rfl rfl rfl rfl rfl rfl oM oM ?_; refine AList.call rfl rfl rfl rfl Try.func35 rfl (by kernel_rfl) (hCo) ?_; refine AList.notB rfl rfl rfl ?_; refine AList.nil ?_)
      | (refine AWp.region (id := 8) ?_; refine AList.buildSt tyOk rfl rfl rfl rfl rfl rfl rfl rfl ?_; refine AList.store tyOk rfl rfl rfl rfl rfl rfl rfl rfl oM oM ?_; refine AList.assign rfl rfl rfl ?_; refine AList.nil ?_))
    refine ⟨mkSt 165 [(10, .c (.pt 10 3 0 0)), (11, .c (iC 13))] [(10, ⟨false, 1, 3, 52, lF (ipC (ipZ))⟩)] [10], [(10, ⟨false, 1, 3, 52, lF (ipC (ipZ))⟩)], Wk.mk [(10, some 10)] rfl rfl rfl ?_ ?_, rfl, rfl, ARets.two (x := .ag _) (y := .c _) (ARes.box tyOk rfl rfl rfl rfl rfl rfl rfl) (ARes.tmp rfl rfl)⟩
    · repeat (first | exact trivial | refine ⟨⟨_, rfl, by first | exact LeA.c (LeC.refl _ rfl) | exact LeA.c (LeC.ow _ _ rfl) | exact LeA.c (LeC.pt _ _ _ _ _ rfl) | exact LeA.c (LeC.nil _ rfl) | exact LeA.c (LeC.nils _ _) | (refine LeA.int ?_; omega) | (refine LeA.int ?_; dsimp only; omega) | exact LeA.c (LeC.fz rfl rfl (by first | rfl | omega) (fun i _ j _ => ⟨rfl, by first | rfl | exact rowN_imm (fun _ => rfl) _ i j | exact rowF_imm (fun _ => rfl) _ i j⟩))⟩, ?_⟩)
    · repeat (first | exact trivial | refine ⟨by first | exact HeapOk.same rfl rfl rfl rfl | exact HeapOk.lent rfl rfl rfl rfl | exact HeapOk.nil rfl rfl | exact HeapOk.row rfl rfl (by first | rfl | omega) (fun i _ j _ => ⟨rfl, by first | rfl | exact rowN_imm (fun _ => rfl) _ i j | exact rowF_imm (fun _ => rfl) _ i j⟩) | exact HeapOk.box rfl rfl (by repeat (first | exact trivial | refine ⟨by first | exact LeC.refl _ rfl | exact LeC.ow _ _ rfl | exact LeC.nil _ rfl | exact LeC.nils _ _ | exact LeC.fz rfl rfl (by first | rfl | omega) (fun i _ j _ => ⟨rfl, by first | rfl | exact rowN_imm (fun _ => rfl) _ i j | exact rowF_imm (fun _ => rfl) _ i j⟩) | exact LeC.int (by omega), ?_⟩)) rfl, ?_⟩)
  rw [if_neg (fun h => h hok)]
  rw [decide_eq_true hok] at hCo
  have hIs := rIs_A a b x y c hok
  cases his : isB a b x y c with
  | false =>
    rw [his] at hIs
    rw [if_neg (by decide)]
    refine acalls_at Try.func20 rfl rfl Try.ntmps20 rfl ?_
    repeat (first
      | refine AWp.seq ?_
      | refine thenA_n ?_
      | refine AWp.skip ?_
      | refine AWp.ret ?_
      | refine thenA_r ?_
      | refine AWp.condT rfl (by first | rfl | assumption | exact cmT) ?_
      | refine AWp.condF rfl (by first | rfl | assumption | exact cmF) ?_
      | (refine AWp.region (id := 0) ?_; refine AList.box rfl rfl rfl rfl rfl ?_; refine AList.box rfl rfl rfl rfl rfl ?_; refine AList.box rfl rfl rfl rfl rfl ?_; refine AList.box rfl rfl rfl rfl rfl ?_; refine AList.box rfl rfl rfl rfl rfl ?_; refine AList.alloc tyOk rfl rfl rfl rfl rfl ?_; refine AList.assign rfl rfl rfl ?_; refine AList.nil ?_)
      | (refine AWp.region (id := 1) ?_; refine AList.loadA tyOk rfl rfl rfl rfl rfl rfl rfl oM oM ?_; refine AList.call rfl rfl rfl rfl Try.func51 rfl (by kernel_rfl) (hCa) ?_; refine AList.assign rfl rfl rfl ?_; refine AList.nil ?_)
      | (refine AWp.region (id := 2) ?_; refine AList.move rfl rfl rfl ?_; refine AList.cmp rfl rfl rfl rfl rfl ?_; refine AList.nil ?_)
      | (refine AWp.region (id := 4) ?_; refine AList.loadA tyOk rfl rfl rfl rfl rfl rfl rfl oM oM ?_; refine AList.call rfl rfl rfl rfl Try.func51 rfl (by kernel_rfl) (hCb) ?_; refine AList.assign rfl rfl rfl ?_; refine AList.nil ?_)
      | (refine AWp.region (id := 5) ?_; refine AList.move rfl rfl rfl ?_; refine AList.cmp rfl rfl rfl rfl rfl ?_; refine AList.nil ?_)
      | (refine AWp.region (id := 7) ?_; refine AList.loadA tyOk rfl rfl rfl rfl rfl rfl rfl oM oM ?_; refine AList.loadA tyOk rfl rfl rfl rfl rfl rfl rfl oM oM ?_; refine AList.call rfl rfl rfl rfl Try.func35 rfl (by kernel_rfl) (hCo) ?_; refine AList.notB rfl rfl rfl ?_; refine AList.nil ?_)
      | (refine AWp.region (id := 9) ?_; refine AList.loadA tyOk rfl rfl rfl rfl rfl rfl rfl oM oM ?_; refine AList.loadA tyOk rfl rfl rfl rfl rfl rfl rfl oM oM ?_; refine AList.loadA tyOk rfl rfl rfl rfl rfl rfl rfl oM oM ?_; refine AList.loadA tyOk rfl rfl rfl rfl rfl rfl rfl oM oM ?_; refine AList.loadA tyOk rfl rfl rfl rfl rfl rfl rfl oM oM ?_; refine AList.call rfl rfl rfl rfl Try.func52 rfl (by kernel_rfl) (hIs) ?_; refine AList.notB rfl rfl rfl ?_; refine AList.nil ?_)
      | (refine AWp.region (id := 10) ?_; refine AList.buildSt tyOk rfl rfl rfl rfl rfl rfl rfl rfl ?_; refine AList.store tyOk rfl rfl rfl rfl rfl rfl rfl rfl oM oM ?_; refine AList.assign rfl rfl rfl ?_; refine AList.nil ?_))
    refine ⟨mkSt 165 [(10, .c (.pt 10 3 0 0)), (11, .c (iC 60))] [(10, ⟨false, 1, 3, 52, lF (ipC (ipZ))⟩)] [10], [(10, ⟨false, 1, 3, 52, lF (ipC (ipZ))⟩)], Wk.mk [(10, some 10)] rfl rfl rfl ?_ ?_, rfl, rfl, ARets.two (x := .ag _) (y := .c _) (ARes.box tyOk rfl rfl rfl rfl rfl rfl rfl) (ARes.tmp rfl rfl)⟩
    · repeat (first | exact trivial | refine ⟨⟨_, rfl, by first | exact LeA.c (LeC.refl _ rfl) | exact LeA.c (LeC.ow _ _ rfl) | exact LeA.c (LeC.pt _ _ _ _ _ rfl) | exact LeA.c (LeC.nil _ rfl) | exact LeA.c (LeC.nils _ _) | (refine LeA.int ?_; omega) | (refine LeA.int ?_; dsimp only; omega) | exact LeA.c (LeC.fz rfl rfl (by first | rfl | omega) (fun i _ j _ => ⟨rfl, by first | rfl | exact rowN_imm (fun _ => rfl) _ i j | exact rowF_imm (fun _ => rfl) _ i j⟩))⟩, ?_⟩)
    · repeat (first | exact trivial | refine ⟨by first | exact HeapOk.same rfl rfl rfl rfl | exact HeapOk.lent rfl rfl rfl rfl | exact HeapOk.nil rfl rfl | exact HeapOk.row rfl rfl (by first | rfl | omega) (fun i _ j _ => ⟨rfl, by first | rfl | exact rowN_imm (fun _ => rfl) _ i j | exact rowF_imm (fun _ => rfl) _ i j⟩) | exact HeapOk.box rfl rfl (by repeat (first | exact trivial | refine ⟨by first | exact LeC.refl _ rfl | exact LeC.ow _ _ rfl | exact LeC.nil _ rfl | exact LeC.nils _ _ | exact LeC.fz rfl rfl (by first | rfl | omega) (fun i _ j _ => ⟨rfl, by first | rfl | exact rowN_imm (fun _ => rfl) _ i j | exact rowF_imm (fun _ => rfl) _ i j⟩) | exact LeC.int (by omega), ?_⟩)) rfl, ?_⟩)
  | true =>
    rw [his] at hIs
    rw [if_pos rfl]
    obtain ⟨q0, q1, q2, q3, q4⟩ := okB ha
    have hcm : c ∈ alL a.W x y := by
      unfold isB at his
      rw [Bool.and_eq_true] at his
      exact of_decide_eq_true his.1
    have hcb := cl_mem_bd ⟨q0, q1⟩ hcm
    have hl1 := rlim24_A x
    have hl2 := rlim24_A y
    have b1 := lim_bds x
    have b2 := lim_bds y
    have hpx := part_A c.dx (lim4 y).sh (by omega)
    have hpy := part_A c.dy (lim4 y).sh (by omega)
    have hSt := rStrip_A a.W (lim4 x) (lim4 y) ⟨q0, q1⟩
    rw [stN_lim] at hSt
    have ht := stN_bd x y q0
    unfold cmImg cmPx
    have hpb : -2 ≤ cmp1 y c.dx ∧ cmp1 y c.dx ≤ 2 := by unfold cmp1; omega
    have hqb : -2 ≤ cmp1 y c.dy ∧ cmp1 y c.dy ≤ 2 := by unfold cmp1; omega
    rw [show max (-(lim4 y).sh) (min (lim4 y).sh c.dx) = cmp1 y c.dx from rfl] at hpx
    rw [show max (-(lim4 y).sh) (min (lim4 y).sh c.dy) = cmp1 y c.dy from rfl] at hpy
    obtain ⟨p, hp⟩ : ∃ p, cmp1 y c.dx = p := ⟨_, rfl⟩
    obtain ⟨q, hq⟩ : ∃ q, cmp1 y c.dy = q := ⟨_, rfl⟩
    rw [hp] at hpx hpb ⊢
    rw [hq] at hpy hqb ⊢
    obtain ⟨t, htt⟩ : ∃ t, stN a.W x y = t := ⟨_, rfl⟩
    rw [htt] at hSt ht ⊢
    have hN0 : 0 ≤ (a.W + 4) * (a.H + 4) := Int.mul_nonneg (by omega) (by omega)
    obtain ⟨N, hN⟩ := Int.eq_ofNat_of_zero_le hN0
    have hNb : (N : Int) ≤ 10000 := by
      rw [← hN]
      exact Int.mul_le_mul (show a.W + 4 ≤ 100 by omega) (show a.H + 4 ≤ 100 by omega) (by omega) (by omega)
    rw [hN, Int.toNat_natCast]
    obtain ⟨ia, hia⟩ : ∃ f, cmIn a a.W (p - c.dx) (q - c.dy) = f := ⟨_, rfl⟩
    obtain ⟨ib, hib⟩ : ∃ f, cmIn b a.W p q = f := ⟨_, rfl⟩
    obtain ⟨u, hu⟩ : ∃ f, cmU a.W (c.col + 2 + (p - c.dx)) (c.col + 2 + (p - c.dx) + t) = f := ⟨_, rfl⟩
    rw [hia, hib, hu]
    obtain ⟨l0, hl0⟩ : ∃ l, l = ((lim4 x).lo, (lim4 y).lo) := ⟨_, rfl⟩
    rw [← hl0]
    have hlb := cmL_bd (ia := ia) (ib := ib) (u := u) (l := l0) (by rw [hl0]; dsimp only; omega)
    refine acalls_at Try.func20 rfl rfl Try.ntmps20 rfl ?_
    repeat (first
      | refine AWp.seq ?_
      | refine thenA_n ?_
      | refine AWp.block ?_
      | refine AWp.skip ?_
      | refine AWp.condF rfl (by first | rfl | assumption | exact cmF) ?_
      | (refine AWp.region (id := 0) ?_; refine AList.box rfl rfl rfl rfl rfl ?_; refine AList.box rfl rfl rfl rfl rfl ?_; refine AList.box rfl rfl rfl rfl rfl ?_; refine AList.box rfl rfl rfl rfl rfl ?_; refine AList.box rfl rfl rfl rfl rfl ?_; refine AList.alloc tyOk rfl rfl rfl rfl rfl ?_; refine AList.assign rfl rfl rfl ?_; refine AList.nil ?_)
      | (refine AWp.region (id := 1) ?_; refine AList.loadA tyOk rfl rfl rfl rfl rfl rfl rfl oM oM ?_; refine AList.call rfl rfl rfl rfl Try.func51 rfl (by kernel_rfl) (hCa) ?_; refine AList.assign rfl rfl rfl ?_; refine AList.nil ?_)
      | (refine AWp.region (id := 2) ?_; refine AList.move rfl rfl rfl ?_; refine AList.cmp rfl rfl rfl rfl rfl ?_; refine AList.nil ?_)
      | (refine AWp.region (id := 4) ?_; refine AList.loadA tyOk rfl rfl rfl rfl rfl rfl rfl oM oM ?_; refine AList.call rfl rfl rfl rfl Try.func51 rfl (by kernel_rfl) (hCb) ?_; refine AList.assign rfl rfl rfl ?_; refine AList.nil ?_)
      | (refine AWp.region (id := 5) ?_; refine AList.move rfl rfl rfl ?_; refine AList.cmp rfl rfl rfl rfl rfl ?_; refine AList.nil ?_)
      | (refine AWp.region (id := 7) ?_; refine AList.loadA tyOk rfl rfl rfl rfl rfl rfl rfl oM oM ?_; refine AList.loadA tyOk rfl rfl rfl rfl rfl rfl rfl oM oM ?_; refine AList.call rfl rfl rfl rfl Try.func35 rfl (by kernel_rfl) (hCo) ?_; refine AList.notB rfl rfl rfl ?_; refine AList.nil ?_)
      | (refine AWp.region (id := 9) ?_; refine AList.loadA tyOk rfl rfl rfl rfl rfl rfl rfl oM oM ?_; refine AList.loadA tyOk rfl rfl rfl rfl rfl rfl rfl oM oM ?_; refine AList.loadA tyOk rfl rfl rfl rfl rfl rfl rfl oM oM ?_; refine AList.loadA tyOk rfl rfl rfl rfl rfl rfl rfl oM oM ?_; refine AList.loadA tyOk rfl rfl rfl rfl rfl rfl rfl oM oM ?_; refine AList.call rfl rfl rfl rfl Try.func52 rfl (by kernel_rfl) (hIs) ?_; refine AList.notB rfl rfl rfl ?_; refine AList.nil ?_)
      | (refine AWp.region (id := 11) ?_; refine AList.loadA tyOk rfl rfl rfl rfl rfl rfl rfl oM oM ?_; refine AList.call rfl rfl rfl rfl Try.func43 rfl (by kernel_rfl) (hl1) ?_; refine AList.store tyOk rfl rfl rfl rfl rfl rfl rfl rfl oM oM ?_; refine AList.nil ?_)
      | (refine AWp.region (id := 12) ?_; refine AList.loadA tyOk rfl rfl rfl rfl rfl rfl rfl oM oM ?_; refine AList.call rfl rfl rfl rfl Try.func43 rfl (by kernel_rfl) (hl2) ?_; refine AList.store tyOk rfl rfl rfl rfl rfl rfl rfl rfl oM oM ?_; refine AList.nil ?_)
      | (refine AWp.region (id := 13) ?_; refine AList.fieldPt tyOk rfl rfl rfl rfl rfl rfl rfl ?_; refine AList.load1 tyOk rfl rfl rfl rfl rfl rfl rfl oM oM ?_; refine AList.fieldPt tyOk rfl rfl rfl rfl rfl rfl rfl ?_; refine AList.load1 tyOk rfl rfl rfl rfl rfl rfl rfl oM oM ?_; refine AList.call rfl rfl rfl rfl Try.func53 rfl (by kernel_rfl) (hpx) ?_; refine AList.assign rfl rfl rfl ?_; refine AList.nil ?_)
      | (refine AWp.region (id := 14) ?_; refine AList.fieldPt tyOk rfl rfl rfl rfl rfl rfl rfl ?_; refine AList.load1 tyOk rfl rfl rfl rfl rfl rfl rfl oM oM ?_; refine AList.fieldPt tyOk rfl rfl rfl rfl rfl rfl rfl ?_; refine AList.load1 tyOk rfl rfl rfl rfl rfl rfl rfl oM oM ?_; refine AList.call rfl rfl rfl rfl Try.func53 rfl (by kernel_rfl) (hpy) ?_; refine AList.assign rfl rfl rfl ?_; refine AList.nil ?_)
      | (refine AWp.region (id := 15) ?_; refine AList.move rfl rfl rfl ?_; refine AList.fieldPt tyOk rfl rfl rfl rfl rfl rfl rfl ?_; refine AList.load1 tyOk rfl rfl rfl rfl rfl rfl rfl oM oM ?_; refine AList.sub rfl rfl rfl rfl (by omega) (by omega) ?_; refine AList.assign rfl rfl rfl ?_; refine AList.nil ?_)
      | (refine AWp.region (id := 16) ?_; refine AList.move rfl rfl rfl ?_; refine AList.fieldPt tyOk rfl rfl rfl rfl rfl rfl rfl ?_; refine AList.load1 tyOk rfl rfl rfl rfl rfl rfl rfl oM oM ?_; refine AList.sub rfl rfl rfl rfl (by omega) (by omega) ?_; refine AList.assign rfl rfl rfl ?_; refine AList.nil ?_)
      | (refine AWp.region (id := 17) ?_; refine AList.fieldPt tyOk rfl rfl rfl rfl rfl rfl rfl ?_; refine AList.load1 tyOk rfl rfl rfl rfl rfl rfl rfl oM oM ?_; refine AList.add rfl rfl rfl rfl (by omega) (by omega) ?_; refine AList.move rfl rfl rfl ?_; refine AList.add rfl rfl rfl rfl (by omega) (by omega) ?_; refine AList.assign rfl rfl rfl ?_; refine AList.nil ?_)
      | (refine AWp.region (id := 18) ?_; refine AList.move rfl rfl rfl ?_; refine AList.fieldPt tyOk rfl rfl rfl rfl rfl rfl rfl ?_; refine AList.load1 tyOk rfl rfl rfl rfl rfl rfl rfl oM oM ?_; refine AList.loadA tyOk rfl rfl rfl rfl rfl rfl rfl oM oM ?_; refine AList.loadA tyOk rfl rfl rfl rfl rfl rfl rfl oM oM ?_; refine AList.call rfl rfl rfl rfl Try.func54 rfl (by kernel_rfl) (hSt) ?_; refine AList.add rfl rfl rfl rfl (by omega) (by omega) ?_; refine AList.assign rfl rfl rfl ?_; refine AList.nil ?_)
      | (refine AWp.region (id := 19) ?_; refine AList.fieldPt tyOk rfl rfl rfl rfl rfl rfl rfl ?_; refine AList.load1 tyOk rfl rfl rfl rfl rfl rfl rfl oM oM ?_; refine AList.add rfl rfl rfl rfl (by omega) (by omega) ?_; refine AList.fieldPt tyOk rfl rfl rfl rfl rfl rfl rfl ?_; refine AList.load1 tyOk rfl rfl rfl rfl rfl rfl rfl oM oM ?_; refine AList.add rfl rfl rfl rfl (by omega) (by omega) ?_; refine AList.buildSt tyOk rfl rfl rfl rfl rfl rfl rfl rfl ?_; refine AList.alloc tyOk rfl rfl rfl rfl rfl ?_; refine AList.store tyOk rfl rfl rfl rfl rfl rfl rfl rfl oM oM ?_; refine AList.nil ?_)
      | (refine AWp.region (id := 20) ?_; refine AList.assign rfl rfl rfl ?_; refine AList.nil ?_))
    refine AWp.round (fun k : Nat => mkSt 165 [(5, .c (.pt 5 3 0 0)), (6, .c (.pt 6 3 0 0)), (7, .c (.pt 7 4 0 0)), (8, .c (.pt 8 4 0 0)), (10, .c (.pt 10 3 0 0)), (14, .c (iC p)), (15, .c (iC q)), (16, .c (iC (p - c.dx))), (17, .c (iC (q - c.dy))), (18, .c (iC (c.col + 2 + (p - c.dx)))), (19, .c (iC (c.col + 2 + (p - c.dx) + t))), (20, .c (.pt 20 3 0 0)), (21, .c (iC k))] [(5, ⟨false, 1, 3, 27, lF (bpC a)⟩), (6, ⟨false, 1, 3, 27, lF (bpC b)⟩), (7, ⟨false, 1, 4, 29, lF [iC (cmL ia ib u l0 k).1, iC (lim4 x).bl, iC (lim4 x).sh, iC (lim4 x).st]⟩), (8, ⟨false, 1, 4, 29, lF [iC (cmL ia ib u l0 k).2, iC (lim4 y).bl, iC (lim4 y).sh, iC (lim4 y).st]⟩), (10, ⟨false, 1, 3, 52, lF [iC 0, iC 0, .p (.slice none 0 0)]⟩), (20, ⟨false, 1, 3, 52, lF [iC (a.W + 4), iC (a.H + 4), .ow 60]⟩), (60, rowI k (cmP ia ib u l0))] [5, 6, 7, 8, 10, 20, 60])
      (fun k => k ≤ N) (fun k => N - k) 0 (Nat.zero_le _) ?_ (fun k hk => ?_)
    · rw [show cmL ia ib u l0 0 = ((lim4 x).lo, (lim4 y).lo) from hl0]
      refine Wk.mk [(5, some 5), (6, some 6), (7, some 7), (8, some 8), (10, some 10), (20, some 20), (60, none)] rfl rfl rfl ?_ ?_
      · repeat (first | exact trivial | refine ⟨⟨_, rfl, by first | exact LeA.c (LeC.refl _ rfl) | exact LeA.c (LeC.ow _ _ rfl) | exact LeA.c (LeC.pt _ _ _ _ _ rfl) | exact LeA.c (LeC.nil _ rfl) | exact LeA.c (LeC.nils _ _) | (refine LeA.int ?_; omega) | (refine LeA.int ?_; dsimp only; omega) | exact LeA.c (LeC.fz rfl rfl (by first | rfl | omega) (fun i _ j _ => ⟨rfl, by first | rfl | exact rowN_imm (fun _ => rfl) _ i j | exact rowF_imm (fun _ => rfl) _ i j⟩))⟩, ?_⟩)
      · repeat (first | exact trivial | refine ⟨by first | exact HeapOk.same rfl rfl rfl rfl | exact HeapOk.lent rfl rfl rfl rfl | exact HeapOk.nil rfl rfl | exact HeapOk.row rfl rfl (by first | rfl | omega) (fun i _ j _ => ⟨rfl, by first | rfl | exact rowN_imm (fun _ => rfl) _ i j | exact rowF_imm (fun _ => rfl) _ i j⟩) | exact HeapOk.box rfl rfl (by repeat (first | exact trivial | refine ⟨by first | exact LeC.refl _ rfl | exact LeC.ow _ _ rfl | exact LeC.nil _ rfl | exact LeC.nils _ _ | exact LeC.fz rfl rfl (by first | rfl | omega) (fun i _ j _ => ⟨rfl, by first | rfl | exact rowN_imm (fun _ => rfl) _ i j | exact rowF_imm (fun _ => rfl) _ i j⟩) | exact LeC.int (by omega), ?_⟩)) rfl, ?_⟩)
    · by_cases hkN : k < N
      · have hi0 := Int.emod_nonneg (k : Int) (show a.W + 4 ≠ 0 by omega)
        have hi1 := Int.emod_lt_of_pos (k : Int) (show 0 < a.W + 4 by omega)
        have hj0 := Int.ediv_nonneg (show 0 ≤ (k : Int) by omega) (show 0 ≤ a.W + 4 by omega)
        have hj1 : (k : Int) / (a.W + 4) ≤ 10000 := by
          have := Int.ediv_le_self (a.W + 4) (show 0 ≤ (k : Int) by omega)
          omega
        have hGa := Get_A a.W a.H a.n a.d ((k : Int) % (a.W + 4) - 2 - (p - c.dx)) ((k : Int) / (a.W + 4) - 2 - (q - c.dy)) ha
        have hGb := Get_A b.W b.H b.n b.d ((k : Int) % (a.W + 4) - 2 - p) ((k : Int) / (a.W + 4) - 2 - q) hb
        rw [show hasB a.W a.H a.d ((k : Int) % (a.W + 4) - 2 - (p - c.dx)) ((k : Int) / (a.W + 4) - 2 - (q - c.dy)) = ia k by rw [← hia]; rfl] at hGa
        rw [show hasB b.W b.H b.d ((k : Int) % (a.W + 4) - 2 - p) ((k : Int) / (a.W + 4) - 2 - q) = ib k by rw [← hib]; rfl] at hGb
        have hlk := hlb k
        obtain ⟨v, hv⟩ : ∃ v, cmP ia ib u l0 k = v := ⟨_, rfl⟩
        obtain ⟨l1, hl1'⟩ : ∃ l, cmL ia ib u l0 (k + 1) = l := ⟨_, rfl⟩
        obtain ⟨l, hl⟩ : ∃ l, cmL ia ib u l0 k = l := ⟨_, rfl⟩
        have hQ : cmQ (ia k) (ib k) (u k) l = (v, l1) := by rw [← hv, ← hl1', ← hl]; rfl
        rw [hl] at hlk
        have huk : u k = (decide (c.col + 2 + (p - c.dx) ≤ (k : Int) % (a.W + 4)) && decide ((k : Int) % (a.W + 4) < c.col + 2 + (p - c.dx) + t)) := by rw [← hu]; rfl
        clear hlb
        rw [hl]
        repeat (first
          | refine AWp.seq ?_
          | refine thenA_n ?_
          | refine AWp.block ?_
          | refine AWp.skip ?_
          | refine AWp.condT rfl (by first | rfl | assumption | exact cmT) ?_
          | (refine AWp.region (id := 21) ?_; refine AList.move rfl rfl rfl ?_; refine AList.fieldPt tyOk rfl rfl rfl rfl rfl rfl rfl ?_; refine AList.load1 tyOk rfl rfl rfl rfl rfl rfl rfl oM oM ?_; refine AList.fieldPt tyOk rfl rfl rfl rfl rfl rfl rfl ?_; refine AList.load1 tyOk rfl rfl rfl rfl rfl rfl rfl oM oM ?_; refine AList.mul rfl rfl rfl rfl (by omega) (by omega) ?_; refine AList.cmpT rfl rfl rfl rfl rfl cmT ?_; refine AList.nil ?_)
          | (refine AWp.region (id := 23) ?_; refine AList.move rfl rfl rfl ?_; refine AList.fieldPt tyOk rfl rfl rfl rfl rfl rfl rfl ?_; refine AList.load1 tyOk rfl rfl rfl rfl rfl rfl rfl oM oM ?_; refine AList.rem rfl rfl rfl rfl (by omega) (by omega) ?_; refine AList.assign rfl rfl rfl ?_; refine AList.nil ?_)
          | (refine AWp.region (id := 24) ?_; refine AList.move rfl rfl rfl ?_; refine AList.fieldPt tyOk rfl rfl rfl rfl rfl rfl rfl ?_; refine AList.load1 tyOk rfl rfl rfl rfl rfl rfl rfl oM oM ?_; refine AList.quo rfl rfl rfl rfl (by omega) (by omega) (by omega) ?_; refine AList.assign rfl rfl rfl ?_; refine AList.nil ?_)
          | (refine AWp.region (id := 25) ?_; refine AList.loadA tyOk rfl rfl rfl rfl rfl rfl rfl oM oM ?_; refine AList.move rfl rfl rfl ?_; refine AList.sub rfl rfl rfl rfl (by omega) (by omega) ?_; refine AList.move rfl rfl rfl ?_; refine AList.sub rfl rfl rfl rfl (by omega) (by omega) ?_; refine AList.move rfl rfl rfl ?_; refine AList.sub rfl rfl rfl rfl (by omega) (by omega) ?_; refine AList.move rfl rfl rfl ?_; refine AList.sub rfl rfl rfl rfl (by omega) (by omega) ?_; refine AList.call rfl rfl rfl rfl Try.func55 rfl (by kernel_rfl) (hGa) ?_; refine AList.assign rfl rfl rfl ?_; refine AList.nil ?_)
          | (refine AWp.region (id := 26) ?_; refine AList.loadA tyOk rfl rfl rfl rfl rfl rfl rfl oM oM ?_; refine AList.move rfl rfl rfl ?_; refine AList.sub rfl rfl rfl rfl (by omega) (by omega) ?_; refine AList.move rfl rfl rfl ?_; refine AList.sub rfl rfl rfl rfl (by omega) (by omega) ?_; refine AList.move rfl rfl rfl ?_; refine AList.sub rfl rfl rfl rfl (by omega) (by omega) ?_; refine AList.move rfl rfl rfl ?_; refine AList.sub rfl rfl rfl rfl (by omega) (by omega) ?_; refine AList.call rfl rfl rfl rfl Try.func55 rfl (by kernel_rfl) (hGb) ?_; refine AList.assign rfl rfl rfl ?_; refine AList.nil ?_)
          | (refine AWp.region (id := 27) ?_; refine AList.assign rfl rfl rfl ?_; refine AList.nil ?_))
        refine AWp.cut (mkSt 165 [(5, .c (.pt 5 3 0 0)), (6, .c (.pt 6 3 0 0)), (7, .c (.pt 7 4 0 0)), (8, .c (.pt 8 4 0 0)), (10, .c (.pt 10 3 0 0)), (14, .c (iC p)), (15, .c (iC q)), (16, .c (iC (p - c.dx))), (17, .c (iC (q - c.dy))), (18, .c (iC (c.col + 2 + (p - c.dx)))), (19, .c (iC (c.col + 2 + (p - c.dx) + t))), (20, .c (.pt 20 3 0 0)), (21, .c (iC k)), (24, .c (bC (ia k))), (25, .c (bC (ib k))), (26, .c (iC 0)), (137, .c (bC (u k)))] [(5, ⟨false, 1, 3, 27, lF (bpC a)⟩), (6, ⟨false, 1, 3, 27, lF (bpC b)⟩), (7, ⟨false, 1, 4, 29, lF [iC l.1, iC (lim4 x).bl, iC (lim4 x).sh, iC (lim4 x).st]⟩), (8, ⟨false, 1, 4, 29, lF [iC l.2, iC (lim4 y).bl, iC (lim4 y).sh, iC (lim4 y).st]⟩), (10, ⟨false, 1, 3, 52, lF [iC 0, iC 0, .p (.slice none 0 0)]⟩), (20, ⟨false, 1, 3, 52, lF [iC (a.W + 4), iC (a.H + 4), .ow 60]⟩), (60, rowI k (cmP ia ib u l0))] [5, 6, 7, 8, 10, 20, 60]) ?_ (fun S2 hw2 => AWp.weak hw2 ?_)
        · by_cases g1 : c.col + 2 + (p - c.dx) ≤ (k : Int) % (a.W + 4)
          · by_cases g2 : (k : Int) % (a.W + 4) < c.col + 2 + (p - c.dx) + t
            · rw [huk, decide_eq_true g1, decide_eq_true g2]
              repeat (first
                | (refine AWp.region (id := 28) ?_; refine AList.move rfl rfl rfl ?_; refine AList.move rfl rfl rfl ?_; refine AList.cmpT rfl rfl rfl rfl rfl cmT ?_; refine AList.move rfl rfl rfl ?_; refine AList.move rfl rfl rfl ?_; refine AList.move rfl rfl rfl ?_; refine AList.cmpT rfl rfl rfl rfl rfl cmT ?_; refine AList.pickT rfl rfl rfl rfl ?_; refine AList.nil ?_))
              refine ⟨rfl, Wk.mk [(5, some 5), (6, some 6), (7, some 7), (8, some 8), (10, some 10), (20, some 20), (60, some 60)] rfl rfl rfl ?_ ?_⟩
              · repeat (first | exact trivial | refine ⟨⟨_, rfl, by first | exact LeA.c (LeC.refl _ rfl) | exact LeA.c (LeC.ow _ _ rfl) | exact LeA.c (LeC.pt _ _ _ _ _ rfl) | exact LeA.c (LeC.nil _ rfl) | exact LeA.c (LeC.nils _ _) | (refine LeA.int ?_; omega) | (refine LeA.int ?_; dsimp only; omega) | exact LeA.c (LeC.fz rfl rfl (by first | rfl | omega) (fun i _ j _ => ⟨rfl, by first | rfl | exact rowN_imm (fun _ => rfl) _ i j | exact rowF_imm (fun _ => rfl) _ i j⟩))⟩, ?_⟩)
              · repeat (first | exact trivial | refine ⟨by first | exact HeapOk.same rfl rfl rfl rfl | exact HeapOk.lent rfl rfl rfl rfl | exact HeapOk.nil rfl rfl | exact HeapOk.row rfl rfl (by first | rfl | omega) (fun i _ j _ => ⟨rfl, by first | rfl | exact rowN_imm (fun _ => rfl) _ i j | exact rowF_imm (fun _ => rfl) _ i j⟩) | exact HeapOk.box rfl rfl (by repeat (first | exact trivial | refine ⟨by first | exact LeC.refl _ rfl | exact LeC.ow _ _ rfl | exact LeC.nil _ rfl | exact LeC.nils _ _ | exact LeC.fz rfl rfl (by first | rfl | omega) (fun i _ j _ => ⟨rfl, by first | rfl | exact rowN_imm (fun _ => rfl) _ i j | exact rowF_imm (fun _ => rfl) _ i j⟩) | exact LeC.int (by omega), ?_⟩)) rfl, ?_⟩)
            · rw [huk, decide_eq_true g1, decide_eq_false g2]
              repeat (first
                | (refine AWp.region (id := 28) ?_; refine AList.move rfl rfl rfl ?_; refine AList.move rfl rfl rfl ?_; refine AList.cmpT rfl rfl rfl rfl rfl cmT ?_; refine AList.move rfl rfl rfl ?_; refine AList.move rfl rfl rfl ?_; refine AList.move rfl rfl rfl ?_; refine AList.cmpF rfl rfl rfl rfl rfl cmF ?_; refine AList.pickT rfl rfl rfl rfl ?_; refine AList.nil ?_))
              refine ⟨rfl, Wk.mk [(5, some 5), (6, some 6), (7, some 7), (8, some 8), (10, some 10), (20, some 20), (60, some 60)] rfl rfl rfl ?_ ?_⟩
              · repeat (first | exact trivial | refine ⟨⟨_, rfl, by first | exact LeA.c (LeC.refl _ rfl) | exact LeA.c (LeC.ow _ _ rfl) | exact LeA.c (LeC.pt _ _ _ _ _ rfl) | exact LeA.c (LeC.nil _ rfl) | exact LeA.c (LeC.nils _ _) | (refine LeA.int ?_; omega) | (refine LeA.int ?_; dsimp only; omega) | exact LeA.c (LeC.fz rfl rfl (by first | rfl | omega) (fun i _ j _ => ⟨rfl, by first | rfl | exact rowN_imm (fun _ => rfl) _ i j | exact rowF_imm (fun _ => rfl) _ i j⟩))⟩, ?_⟩)
              · repeat (first | exact trivial | refine ⟨by first | exact HeapOk.same rfl rfl rfl rfl | exact HeapOk.lent rfl rfl rfl rfl | exact HeapOk.nil rfl rfl | exact HeapOk.row rfl rfl (by first | rfl | omega) (fun i _ j _ => ⟨rfl, by first | rfl | exact rowN_imm (fun _ => rfl) _ i j | exact rowF_imm (fun _ => rfl) _ i j⟩) | exact HeapOk.box rfl rfl (by repeat (first | exact trivial | refine ⟨by first | exact LeC.refl _ rfl | exact LeC.ow _ _ rfl | exact LeC.nil _ rfl | exact LeC.nils _ _ | exact LeC.fz rfl rfl (by first | rfl | omega) (fun i _ j _ => ⟨rfl, by first | rfl | exact rowN_imm (fun _ => rfl) _ i j | exact rowF_imm (fun _ => rfl) _ i j⟩) | exact LeC.int (by omega), ?_⟩)) rfl, ?_⟩)
          · rw [huk, decide_eq_false g1]
            repeat (first
              | (refine AWp.region (id := 28) ?_; refine AList.move rfl rfl rfl ?_; refine AList.move rfl rfl rfl ?_; refine AList.cmpF rfl rfl rfl rfl rfl cmF ?_; refine AList.move rfl rfl rfl ?_; refine AList.skip rfl rfl ?_; refine AList.skip rfl rfl ?_; refine AList.skip rfl rfl ?_; refine AList.pickF rfl rfl rfl rfl ?_; refine AList.nil ?_))
            refine ⟨rfl, Wk.mk [(5, some 5), (6, some 6), (7, some 7), (8, some 8), (10, some 10), (20, some 20), (60, some 60)] rfl rfl rfl ?_ ?_⟩
            · repeat (first | exact trivial | refine ⟨⟨_, rfl, by first | exact LeA.c (LeC.refl _ rfl) | exact LeA.c (LeC.ow _ _ rfl) | exact LeA.c (LeC.pt _ _ _ _ _ rfl) | exact LeA.c (LeC.nil _ rfl) | exact LeA.c (LeC.nils _ _) | (refine LeA.int ?_; omega) | (refine LeA.int ?_; dsimp only; omega) | exact LeA.c (LeC.fz rfl rfl (by first | rfl | omega) (fun i _ j _ => ⟨rfl, by first | rfl | exact rowN_imm (fun _ => rfl) _ i j | exact rowF_imm (fun _ => rfl) _ i j⟩))⟩, ?_⟩)
            · repeat (first | exact trivial | refine ⟨by first | exact HeapOk.same rfl rfl rfl rfl | exact HeapOk.lent rfl rfl rfl rfl | exact HeapOk.nil rfl rfl | exact HeapOk.row rfl rfl (by first | rfl | omega) (fun i _ j _ => ⟨rfl, by first | rfl | exact rowN_imm (fun _ => rfl) _ i j | exact rowF_imm (fun _ => rfl) _ i j⟩) | exact HeapOk.box rfl rfl (by repeat (first | exact trivial | refine ⟨by first | exact LeC.refl _ rfl | exact LeC.ow _ _ rfl | exact LeC.nil _ rfl | exact LeC.nils _ _ | exact LeC.fz rfl rfl (by first | rfl | omega) (fun i _ j _ => ⟨rfl, by first | rfl | exact rowN_imm (fun _ => rfl) _ i j | exact rowF_imm (fun _ => rfl) _ i j⟩) | exact LeC.int (by omega), ?_⟩)) rfl, ?_⟩)
        refine AWp.cut (mkSt 165 [(5, .c (.pt 5 3 0 0)), (6, .c (.pt 6 3 0 0)), (7, .c (.pt 7 4 0 0)), (8, .c (.pt 8 4 0 0)), (10, .c (.pt 10 3 0 0)), (14, .c (iC p)), (15, .c (iC q)), (16, .c (iC (p - c.dx))), (17, .c (iC (q - c.dy))), (18, .c (iC (c.col + 2 + (p - c.dx)))), (19, .c (iC (c.col + 2 + (p - c.dx) + t))), (20, .c (.pt 20 3 0 0)), (21, .c (iC k)), (26, .c (iC v))] [(5, ⟨false, 1, 3, 27, lF (bpC a)⟩), (6, ⟨false, 1, 3, 27, lF (bpC b)⟩), (7, ⟨false, 1, 4, 29, lF [iC l1.1, iC (lim4 x).bl, iC (lim4 x).sh, iC (lim4 x).st]⟩), (8, ⟨false, 1, 4, 29, lF [iC l1.2, iC (lim4 y).bl, iC (lim4 y).sh, iC (lim4 y).st]⟩), (10, ⟨false, 1, 3, 52, lF [iC 0, iC 0, .p (.slice none 0 0)]⟩), (20, ⟨false, 1, 3, 52, lF [iC (a.W + 4), iC (a.H + 4), .ow 60]⟩), (60, rowI k (cmP ia ib u l0))] [5, 6, 7, 8, 10, 20, 60]) ?_ (fun S3 hw3 => AWp.weak hw3 ?_)
        · clear huk hw2 hGa hGb
          cases hu' : u k with
          | true =>
            rw [hu'] at hQ
            obtain ⟨rfl, rfl⟩ := Prod.mk.inj hQ
            repeat (first
              | refine AWp.condT rfl (by first | rfl | assumption | exact cmT) ?_
              | (refine AWp.region (id := 29) ?_; refine AList.assign rfl rfl rfl ?_; refine AList.nil ?_))
            refine ⟨rfl, Wk.mk [(5, some 5), (6, some 6), (7, some 7), (8, some 8), (10, some 10), (20, some 20), (60, some 60)] rfl rfl rfl ?_ ?_⟩
            · repeat (first | exact trivial | refine ⟨⟨_, rfl, by first | exact LeA.c (LeC.refl _ rfl) | exact LeA.c (LeC.ow _ _ rfl) | exact LeA.c (LeC.pt _ _ _ _ _ rfl) | exact LeA.c (LeC.nil _ rfl) | exact LeA.c (LeC.nils _ _) | (refine LeA.int ?_; omega) | (refine LeA.int ?_; dsimp only; omega) | exact LeA.c (LeC.fz rfl rfl (by first | rfl | omega) (fun i _ j _ => ⟨rfl, by first | rfl | exact rowN_imm (fun _ => rfl) _ i j | exact rowF_imm (fun _ => rfl) _ i j⟩))⟩, ?_⟩)
            · repeat (first | exact trivial | refine ⟨by first | exact HeapOk.same rfl rfl rfl rfl | exact HeapOk.lent rfl rfl rfl rfl | exact HeapOk.nil rfl rfl | exact HeapOk.row rfl rfl (by first | rfl | omega) (fun i _ j _ => ⟨rfl, by first | rfl | exact rowN_imm (fun _ => rfl) _ i j | exact rowF_imm (fun _ => rfl) _ i j⟩) | exact HeapOk.box rfl rfl (by repeat (first | exact trivial | refine ⟨by first | exact LeC.refl _ rfl | exact LeC.ow _ _ rfl | exact LeC.nil _ rfl | exact LeC.nils _ _ | exact LeC.fz rfl rfl (by first | rfl | omega) (fun i _ j _ => ⟨rfl, by first | rfl | exact rowN_imm (fun _ => rfl) _ i j | exact rowF_imm (fun _ => rfl) _ i j⟩) | exact LeC.int (by omega), ?_⟩)) rfl, ?_⟩)
          | false =>
            rw [hu'] at hQ
            cases hia' : ia k with
            | true =>
              rw [hia'] at hQ
              cases hib' : ib k with
              | true =>
                rw [hib'] at hQ
                obtain ⟨rfl, rfl⟩ := Prod.mk.inj hQ
                repeat (first
                  | refine AWp.seq ?_
                  | refine thenA_n ?_
                  | refine AWp.condT rfl (by first | rfl | assumption | exact cmT) ?_
                  | refine AWp.condF rfl (by first | rfl | assumption | exact cmF) ?_
                  | (refine AWp.region (id := 30) ?_; refine AList.move rfl rfl rfl ?_; refine AList.move rfl rfl rfl ?_; refine AList.move rfl rfl rfl ?_; refine AList.pickT rfl rfl rfl rfl ?_; refine AList.nil ?_)
                  | (refine AWp.region (id := 31) ?_; refine AList.assign rfl rfl rfl ?_; refine AList.nil ?_))
                refine ⟨rfl, Wk.mk [(5, some 5), (6, some 6), (7, some 7), (8, some 8), (10, some 10), (20, some 20), (60, some 60)] rfl rfl rfl ?_ ?_⟩
                · repeat (first | exact trivial | refine ⟨⟨_, rfl, by first | exact LeA.c (LeC.refl _ rfl) | exact LeA.c (LeC.ow _ _ rfl) | exact LeA.c (LeC.pt _ _ _ _ _ rfl) | exact LeA.c (LeC.nil _ rfl) | exact LeA.c (LeC.nils _ _) | (refine LeA.int ?_; omega) | (refine LeA.int ?_; dsimp only; omega) | exact LeA.c (LeC.fz rfl rfl (by first | rfl | omega) (fun i _ j _ => ⟨rfl, by first | rfl | exact rowN_imm (fun _ => rfl) _ i j | exact rowF_imm (fun _ => rfl) _ i j⟩))⟩, ?_⟩)
                · repeat (first | exact trivial | refine ⟨by first | exact HeapOk.same rfl rfl rfl rfl | exact HeapOk.lent rfl rfl rfl rfl | exact HeapOk.nil rfl rfl | exact HeapOk.row rfl rfl (by first | rfl | omega) (fun i _ j _ => ⟨rfl, by first | rfl | exact rowN_imm (fun _ => rfl) _ i j | exact rowF_imm (fun _ => rfl) _ i j⟩) | exact HeapOk.box rfl rfl (by repeat (first | exact trivial | refine ⟨by first | exact LeC.refl _ rfl | exact LeC.ow _ _ rfl | exact LeC.nil _ rfl | exact LeC.nils _ _ | exact LeC.fz rfl rfl (by first | rfl | omega) (fun i _ j _ => ⟨rfl, by first | rfl | exact rowN_imm (fun _ => rfl) _ i j | exact rowF_imm (fun _ => rfl) _ i j⟩) | exact LeC.int (by omega), ?_⟩)) rfl, ?_⟩)
              | false =>
                rw [hib'] at hQ
                by_cases h0 : l.1 = 0
                · have hQ1 : ((1 : Int), l) = (v, l1) := by rw [← hQ]; show _ = (if l.1 = 0 then _ else _); rw [if_pos h0]
                  obtain ⟨rfl, rfl⟩ := Prod.mk.inj hQ1
                  repeat (first
                    | refine AWp.seq ?_
                    | refine thenA_n ?_
                    | refine AWp.condT rfl (by first | rfl | assumption | exact cmT) ?_
                    | refine AWp.condF rfl (by first | rfl | assumption | exact cmF) ?_
                    | (refine AWp.region (id := 30) ?_; refine AList.move rfl rfl rfl ?_; refine AList.move rfl rfl rfl ?_; refine AList.move rfl rfl rfl ?_; refine AList.pickT rfl rfl rfl rfl ?_; refine AList.nil ?_)
                    | (refine AWp.region (id := 32) ?_; refine AList.move rfl rfl rfl ?_; refine AList.nil ?_)
                    | (refine AWp.region (id := 33) ?_; refine AList.fieldPt tyOk rfl rfl rfl rfl rfl rfl rfl ?_; refine AList.load1 tyOk rfl rfl rfl rfl rfl rfl rfl oM oM ?_; refine AList.cmpT rfl rfl rfl rfl rfl cmT ?_; refine AList.nil ?_)
                    | (refine AWp.region (id := 34) ?_; refine AList.assign rfl rfl rfl ?_; refine AList.nil ?_))
                  refine ⟨rfl, Wk.mk [(5, some 5), (6, some 6), (7, some 7), (8, some 8), (10, some 10), (20, some 20), (60, some 60)] rfl rfl rfl ?_ ?_⟩
                  · repeat (first | exact trivial | refine ⟨⟨_, rfl, by first | exact LeA.c (LeC.refl _ rfl) | exact LeA.c (LeC.ow _ _ rfl) | exact LeA.c (LeC.pt _ _ _ _ _ rfl) | exact LeA.c (LeC.nil _ rfl) | exact LeA.c (LeC.nils _ _) | (refine LeA.int ?_; omega) | (refine LeA.int ?_; dsimp only; omega) | exact LeA.c (LeC.fz rfl rfl (by first | rfl | omega) (fun i _ j _ => ⟨rfl, by first | rfl | exact rowN_imm (fun _ => rfl) _ i j | exact rowF_imm (fun _ => rfl) _ i j⟩))⟩, ?_⟩)
                  · repeat (first | exact trivial | refine ⟨by first | exact HeapOk.same rfl rfl rfl rfl | exact HeapOk.lent rfl rfl rfl rfl | exact HeapOk.nil rfl rfl | exact HeapOk.row rfl rfl (by first | rfl | omega) (fun i _ j _ => ⟨rfl, by first | rfl | exact rowN_imm (fun _ => rfl) _ i j | exact rowF_imm (fun _ => rfl) _ i j⟩) | exact HeapOk.box rfl rfl (by repeat (first | exact trivial | refine ⟨by first | exact LeC.refl _ rfl | exact LeC.ow _ _ rfl | exact LeC.nil _ rfl | exact LeC.nils _ _ | exact LeC.fz rfl rfl (by first | rfl | omega) (fun i _ j _ => ⟨rfl, by first | rfl | exact rowN_imm (fun _ => rfl) _ i j | exact rowF_imm (fun _ => rfl) _ i j⟩) | exact LeC.int (by omega), ?_⟩)) rfl, ?_⟩)
                · have hQ1 : ((0 : Int), (l.1 - 1, l.2)) = (v, l1) := by rw [← hQ]; show _ = (if l.1 = 0 then _ else _); rw [if_neg h0]
                  obtain ⟨rfl, rfl⟩ := Prod.mk.inj hQ1
                  repeat (first
                    | refine AWp.seq ?_
                    | refine thenA_n ?_
                    | refine AWp.condT rfl (by first | rfl | assumption | exact cmT) ?_
                    | refine AWp.condF rfl (by first | rfl | assumption | exact cmF) ?_
                    | (refine AWp.region (id := 30) ?_; refine AList.move rfl rfl rfl ?_; refine AList.move rfl rfl rfl ?_; refine AList.move rfl rfl rfl ?_; refine AList.pickT rfl rfl rfl rfl ?_; refine AList.nil ?_)
                    | (refine AWp.region (id := 32) ?_; refine AList.move rfl rfl rfl ?_; refine AList.nil ?_)
                    | (refine AWp.region (id := 33) ?_; refine AList.fieldPt tyOk rfl rfl rfl rfl rfl rfl rfl ?_; refine AList.load1 tyOk rfl rfl rfl rfl rfl rfl rfl oM oM ?_; refine AList.cmpF rfl rfl rfl rfl rfl cmF ?_; refine AList.nil ?_)
                    | (refine AWp.region (id := 35) ?_; refine AList.fieldPt tyOk rfl rfl rfl rfl rfl rfl rfl ?_; refine AList.load1 tyOk rfl rfl rfl rfl rfl rfl rfl oM oM ?_; refine AList.sub rfl rfl rfl rfl (by omega) (by omega) ?_; refine AList.fieldPt tyOk rfl rfl rfl rfl rfl rfl rfl ?_; refine AList.store tyOk rfl rfl rfl rfl rfl rfl rfl rfl oM oM ?_; refine AList.nil ?_))
                  refine ⟨rfl, Wk.mk [(5, some 5), (6, some 6), (7, some 7), (8, some 8), (10, some 10), (20, some 20), (60, some 60)] rfl rfl rfl ?_ ?_⟩
                  · repeat (first | exact trivial | refine ⟨⟨_, rfl, by first | exact LeA.c (LeC.refl _ rfl) | exact LeA.c (LeC.ow _ _ rfl) | exact LeA.c (LeC.pt _ _ _ _ _ rfl) | exact LeA.c (LeC.nil _ rfl) | exact LeA.c (LeC.nils _ _) | (refine LeA.int ?_; omega) | (refine LeA.int ?_; dsimp only; omega) | exact LeA.c (LeC.fz rfl rfl (by first | rfl | omega) (fun i _ j _ => ⟨rfl, by first | rfl | exact rowN_imm (fun _ => rfl) _ i j | exact rowF_imm (fun _ => rfl) _ i j⟩))⟩, ?_⟩)
                  · repeat (first | exact trivial | refine ⟨by first | exact HeapOk.same rfl rfl rfl rfl | exact HeapOk.lent rfl rfl rfl rfl | exact HeapOk.nil rfl rfl | exact HeapOk.row rfl rfl (by first | rfl | omega) (fun i _ j _ => ⟨rfl, by first | rfl | exact rowN_imm (fun _ => rfl) _ i j | exact rowF_imm (fun _ => rfl) _ i j⟩) | exact HeapOk.box rfl rfl (by repeat (first | exact trivial | refine ⟨by first | exact LeC.refl _ rfl | exact LeC.ow _ _ rfl | exact LeC.nil _ rfl | exact LeC.nils _ _ | exact LeC.fz rfl rfl (by first | rfl | omega) (fun i _ j _ => ⟨rfl, by first | rfl | exact rowN_imm (fun _ => rfl) _ i j | exact rowF_imm (fun _ => rfl) _ i j⟩) | exact LeC.int (by omega), ?_⟩)) rfl, ?_⟩)
            | false =>
              rw [hia'] at hQ
              cases hib' : ib k with
              | true =>
                rw [hib'] at hQ
                by_cases h0 : l.2 = 0
                · have hQ1 : ((1 : Int), l) = (v, l1) := by rw [← hQ]; show _ = (if l.2 = 0 then _ else _); rw [if_pos h0]
                  obtain ⟨rfl, rfl⟩ := Prod.mk.inj hQ1
                  repeat (first
                    | refine AWp.seq ?_
                    | refine thenA_n ?_
                    | refine AWp.condT rfl (by first | rfl | assumption | exact cmT) ?_
                    | refine AWp.condF rfl (by first | rfl | assumption | exact cmF) ?_
                    | (refine AWp.region (id := 30) ?_; refine AList.move rfl rfl rfl ?_; refine AList.move rfl rfl rfl ?_; refine AList.skip rfl rfl ?_; refine AList.pickF rfl rfl rfl rfl ?_; refine AList.nil ?_)
                    | (refine AWp.region (id := 32) ?_; refine AList.move rfl rfl rfl ?_; refine AList.nil ?_)
                    | (refine AWp.region (id := 36) ?_; refine AList.move rfl rfl rfl ?_; refine AList.nil ?_)
                    | (refine AWp.region (id := 37) ?_; refine AList.fieldPt tyOk rfl rfl rfl rfl rfl rfl rfl ?_; refine AList.load1 tyOk rfl rfl rfl rfl rfl rfl rfl oM oM ?_; refine AList.cmpT rfl rfl rfl rfl rfl cmT ?_; refine AList.nil ?_)
                    | (refine AWp.region (id := 38) ?_; refine AList.assign rfl rfl rfl ?_; refine AList.nil ?_))
                  refine ⟨rfl, Wk.mk [(5, some 5), (6, some 6), (7, some 7), (8, some 8), (10, some 10), (20, some 20), (60, some 60)] rfl rfl rfl ?_ ?_⟩
                  · repeat (first | exact trivial | refine ⟨⟨_, rfl, by first | exact LeA.c (LeC.refl _ rfl) | exact LeA.c (LeC.ow _ _ rfl) | exact LeA.c (LeC.pt _ _ _ _ _ rfl) | exact LeA.c (LeC.nil _ rfl) | exact LeA.c (LeC.nils _ _) | (refine LeA.int ?_; omega) | (refine LeA.int ?_; dsimp only; omega) | exact LeA.c (LeC.fz rfl rfl (by first | rfl | omega) (fun i _ j _ => ⟨rfl, by first | rfl | exact rowN_imm (fun _ => rfl) _ i j | exact rowF_imm (fun _ => rfl) _ i j⟩))⟩, ?_⟩)
                  · repeat (first | exact trivial | refine ⟨by first | exact HeapOk.same rfl rfl rfl rfl | exact HeapOk.lent rfl rfl rfl rfl | exact HeapOk.nil rfl rfl | exact HeapOk.row rfl rfl (by first | rfl | omega) (fun i _ j _ => ⟨rfl, by first | rfl | exact rowN_imm (fun _ => rfl) _ i j | exact rowF_imm (fun _ => rfl) _ i j⟩) | exact HeapOk.box rfl rfl (by repeat (first | exact trivial | refine ⟨by first | exact LeC.refl _ rfl | exact LeC.ow _ _ rfl | exact LeC.nil _ rfl | exact LeC.nils _ _ | exact LeC.fz rfl rfl (by first | rfl | omega) (fun i _ j _ => ⟨rfl, by first | rfl | exact rowN_imm (fun _ => rfl) _ i j | exact rowF_imm (fun _ => rfl) _ i j⟩) | exact LeC.int (by omega), ?_⟩)) rfl, ?_⟩)
                · have hQ1 : ((0 : Int), (l.1, l.2 - 1)) = (v, l1) := by rw [← hQ]; show _ = (if l.2 = 0 then _ else _); rw [if_neg h0]
                  obtain ⟨rfl, rfl⟩ := Prod.mk.inj hQ1
                  repeat (first
                    | refine AWp.seq ?_
                    | refine thenA_n ?_
                    | refine AWp.condT rfl (by first | rfl | assumption | exact cmT) ?_
                    | refine AWp.condF rfl (by first | rfl | assumption | exact cmF) ?_
                    | (refine AWp.region (id := 30) ?_; refine AList.move rfl rfl rfl ?_; refine AList.move rfl rfl rfl ?_; refine AList.skip rfl rfl ?_; refine AList.pickF rfl rfl rfl rfl ?_; refine AList.nil ?_)
                    | (refine AWp.region (id := 32) ?_; refine AList.move rfl rfl rfl ?_; refine AList.nil ?_)
                    | (refine AWp.region (id := 36) ?_; refine AList.move rfl rfl rfl ?_; refine AList.nil ?_)
                    | (refine AWp.region (id := 37) ?_; refine AList.fieldPt tyOk rfl rfl rfl rfl rfl rfl rfl ?_; refine AList.load1 tyOk rfl rfl rfl rfl rfl rfl rfl oM oM ?_; refine AList.cmpF rfl rfl rfl rfl rfl cmF ?_; refine AList.nil ?_)
                    | (refine AWp.region (id := 39) ?_; refine AList.fieldPt tyOk rfl rfl rfl rfl rfl rfl rfl ?_; refine AList.load1 tyOk rfl rfl rfl rfl rfl rfl rfl oM oM ?_; refine AList.sub rfl rfl rfl rfl (by omega) (by omega) ?_; refine AList.fieldPt tyOk rfl rfl rfl rfl rfl rfl rfl ?_; refine AList.store tyOk rfl rfl rfl rfl rfl rfl rfl rfl oM oM ?_; refine AList.nil ?_))
                  refine ⟨rfl, Wk.mk [(5, some 5), (6, some 6), (7, some 7), (8, some 8), (10, some 10), (20, some 20), (60, some 60)] rfl rfl rfl ?_ ?_⟩
                  · repeat (first | exact trivial | refine ⟨⟨_, rfl, by first | exact LeA.c (LeC.refl _ rfl) | exact LeA.c (LeC.ow _ _ rfl) | exact LeA.c (LeC.pt _ _ _ _ _ rfl) | exact LeA.c (LeC.nil _ rfl) | exact LeA.c (LeC.nils _ _) | (refine LeA.int ?_; omega) | (refine LeA.int ?_; dsimp only; omega) | exact LeA.c (LeC.fz rfl rfl (by first | rfl | omega) (fun i _ j _ => ⟨rfl, by first | rfl | exact rowN_imm (fun _ => rfl) _ i j | exact rowF_imm (fun _ => rfl) _ i j⟩))⟩, ?_⟩)
                  · repeat (first | exact trivial | refine ⟨by first | exact HeapOk.same rfl rfl rfl rfl | exact HeapOk.lent rfl rfl rfl rfl | exact HeapOk.nil rfl rfl | exact HeapOk.row rfl rfl (by first | rfl | omega) (fun i _ j _ => ⟨rfl, by first | rfl | exact rowN_imm (fun _ => rfl) _ i j | exact rowF_imm (fun _ => rfl) _ i j⟩) | exact HeapOk.box rfl rfl (by repeat (first | exact trivial | refine ⟨by first | exact LeC.refl _ rfl | exact LeC.ow _ _ rfl | exact LeC.nil _ rfl | exact LeC.nils _ _ | exact LeC.fz rfl rfl (by first | rfl | omega) (fun i _ j _ => ⟨rfl, by first | rfl | exact rowN_imm (fun _ => rfl) _ i j | exact rowF_imm (fun _ => rfl) _ i j⟩) | exact LeC.int (by omega), ?_⟩)) rfl, ?_⟩)
              | false =>
                rw [hib'] at hQ
                obtain ⟨rfl, rfl⟩ := Prod.mk.inj hQ
                repeat (first
                  | refine AWp.seq ?_
                  | refine thenA_n ?_
                  | refine AWp.skip ?_
                  | refine AWp.condF rfl (by first | rfl | assumption | exact cmF) ?_
                  | (refine AWp.region (id := 30) ?_; refine AList.move rfl rfl rfl ?_; refine AList.move rfl rfl rfl ?_; refine AList.skip rfl rfl ?_; refine AList.pickF rfl rfl rfl rfl ?_; refine AList.nil ?_)
                  | (refine AWp.region (id := 32) ?_; refine AList.move rfl rfl rfl ?_; refine AList.nil ?_)
                  | (refine AWp.region (id := 36) ?_; refine AList.move rfl rfl rfl ?_; refine AList.nil ?_))
                refine ⟨rfl, Wk.mk [(5, some 5), (6, some 6), (7, some 7), (8, some 8), (10, some 10), (20, some 20), (60, some 60)] rfl rfl rfl ?_ ?_⟩
                · repeat (first | exact trivial | refine ⟨⟨_, rfl, by first | exact LeA.c (LeC.refl _ rfl) | exact LeA.c (LeC.ow _ _ rfl) | exact LeA.c (LeC.pt _ _ _ _ _ rfl) | exact LeA.c (LeC.nil _ rfl) | exact LeA.c (LeC.nils _ _) | (refine LeA.int ?_; omega) | (refine LeA.int ?_; dsimp only; omega) | exact LeA.c (LeC.fz rfl rfl (by first | rfl | omega) (fun i _ j _ => ⟨rfl, by first | rfl | exact rowN_imm (fun _ => rfl) _ i j | exact rowF_imm (fun _ => rfl) _ i j⟩))⟩, ?_⟩)
                · repeat (first | exact trivial | refine ⟨by first | exact HeapOk.same rfl rfl rfl rfl | exact HeapOk.lent rfl rfl rfl rfl | exact HeapOk.nil rfl rfl | exact HeapOk.row rfl rfl (by first | rfl | omega) (fun i _ j _ => ⟨rfl, by first | rfl | exact rowN_imm (fun _ => rfl) _ i j | exact rowF_imm (fun _ => rfl) _ i j⟩) | exact HeapOk.box rfl rfl (by repeat (first | exact trivial | refine ⟨by first | exact LeC.refl _ rfl | exact LeC.ow _ _ rfl | exact LeC.nil _ rfl | exact LeC.nils _ _ | exact LeC.fz rfl rfl (by first | rfl | omega) (fun i _ j _ => ⟨rfl, by first | rfl | exact rowN_imm (fun _ => rfl) _ i j | exact rowF_imm (fun _ => rfl) _ i j⟩) | exact LeC.int (by omega), ?_⟩)) rfl, ?_⟩)
        repeat (first
          | refine thenA_n ?_
          | refine inBlk_n ?_
          | (refine AWp.region (id := 22) ?_; refine AList.move rfl rfl rfl ?_; refine AList.add rfl rfl rfl rfl (by omega) (by omega) ?_; refine AList.assign rfl rfl rfl ?_; refine AList.nil ?_)
          | (refine AWp.region (id := 40) ?_; refine AList.fieldPt tyOk rfl rfl rfl rfl rfl rfl rfl ?_; refine AList.load1 tyOk rfl rfl rfl rfl rfl rfl rfl oM oM ?_; refine AList.move rfl rfl rfl ?_; refine AList.litSl tyOk rfl rfl rfl rfl rfl rfl rfl rfl rfl rfl rfl ?_; refine AList.appL tyOk rfl rfl rfl rfl rfl rfl rfl rfl rfl rfl oM oM ?_; refine AList.fieldPt tyOk rfl rfl rfl rfl rfl rfl rfl ?_; refine AList.store tyOk rfl rfl rfl rfl rfl rfl rfl rfl oM oM ?_; refine AList.nil ?_))
        refine ⟨k + 1, hkN, Wk.mk [(5, some 5), (6, some 6), (7, some 7), (8, some 8), (10, some 10), (20, some 20), (60, some 162)] rfl rfl rfl ?_ ?_, by omega⟩
        · repeat (first | exact trivial | refine ⟨⟨_, rfl, by first | exact LeA.c (LeC.refl _ rfl) | exact LeA.c (LeC.ow _ _ rfl) | exact LeA.c (LeC.pt _ _ _ _ _ rfl) | exact LeA.c (LeC.nil _ rfl) | exact LeA.c (LeC.nils _ _) | (refine LeA.int ?_; omega) | (refine LeA.int ?_; dsimp only; omega) | exact LeA.c (LeC.fz rfl rfl (by first | rfl | omega) (fun i _ j _ => ⟨rfl, by first | rfl | exact rowN_imm (fun _ => rfl) _ i j | exact rowF_imm (fun _ => rfl) _ i j⟩))⟩, ?_⟩)
        · rw [hl1']
          exact ⟨HeapOk.same rfl rfl rfl rfl, HeapOk.same rfl rfl rfl rfl, HeapOk.same rfl rfl rfl rfl, HeapOk.same rfl rfl rfl rfl, HeapOk.same rfl rfl rfl rfl, HeapOk.box rfl rfl ⟨LeC.int rfl, LeC.int rfl, LeC.ow _ _ rfl, trivial⟩ rfl, HeapOk.row rfl rfl rfl (app_one (g' := fun i => iC (cmP ia ib u l0 i)) (fun i hi => rfl) (congrArg iC hv.symm) fun _ _ => rfl), trivial⟩
      · obtain rfl : k = N := by omega
        repeat (first
          | refine AWp.seq ?_
          | refine thenA_n ?_
          | refine AWp.exit ?_
          | refine AWp.ret ?_
          | refine AWp.condF rfl (by first | rfl | assumption | exact cmF) ?_
          | (refine AWp.region (id := 21) ?_; refine AList.move rfl rfl rfl ?_; refine AList.fieldPt tyOk rfl rfl rfl rfl rfl rfl rfl ?_; refine AList.load1 tyOk rfl rfl rfl rfl rfl rfl rfl oM oM ?_; refine AList.fieldPt tyOk rfl rfl rfl rfl rfl rfl rfl ?_; refine AList.load1 tyOk rfl rfl rfl rfl rfl rfl rfl oM oM ?_; refine AList.mul rfl rfl rfl rfl (by omega) (by omega) ?_; refine AList.cmpF rfl rfl rfl rfl rfl cmF ?_; refine AList.nil ?_)
          | (refine AWp.region (id := 41) ?_; refine AList.loadA tyOk rfl rfl rfl rfl rfl rfl rfl oM oM ?_; refine AList.store tyOk rfl rfl rfl rfl rfl rfl rfl rfl oM oM ?_; refine AList.assign rfl rfl rfl ?_; refine AList.nil ?_))
        refine ⟨mkSt 165 [(10, .c (.pt 10 3 0 0)), (11, .c (iC 0))] [(10, ⟨false, 1, 3, 52, lF (ipC (⟨a.W + 4, a.H + 4, k, cmP ia ib u l0⟩))⟩)] [10], [(10, ⟨false, 1, 3, 52, lF (ipC (⟨a.W + 4, a.H + 4, k, cmP ia ib u l0⟩))⟩)], Wk.mk [(10, some 10)] rfl rfl rfl ?_ ?_, rfl, rfl, ARets.two (x := .ag _) (y := .c _) (ARes.box tyOk rfl rfl rfl rfl rfl rfl rfl) (ARes.tmp rfl rfl)⟩
        · repeat (first | exact trivial | refine ⟨⟨_, rfl, by first | exact LeA.c (LeC.refl _ rfl) | exact LeA.c (LeC.ow _ _ rfl) | exact LeA.c (LeC.pt _ _ _ _ _ rfl) | exact LeA.c (LeC.nil _ rfl) | exact LeA.c (LeC.nils _ _) | (refine LeA.int ?_; omega) | (refine LeA.int ?_; dsimp only; omega) | exact LeA.c (LeC.fz rfl rfl (by first | rfl | omega) (fun i _ j _ => ⟨rfl, by first | rfl | exact rowN_imm (fun _ => rfl) _ i j | exact rowF_imm (fun _ => rfl) _ i j⟩))⟩, ?_⟩)
        · exact ⟨HeapOk.box rfl rfl ⟨LeC.int rfl, LeC.int rfl, LeC.fz rfl rfl rfl (fun i _ => cell1 ⟨rfl, rfl⟩), trivial⟩ rfl, trivial⟩
end Go.Proofs.Ytijaioiojclooaa
end
