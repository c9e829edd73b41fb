/- Parts of the proof: A23s, A23t. -/
import Derived.Test.YtijaioiojclooaaG18
import Derived.Test.YtijaioiojclooaaHA24sdr06
import Derived.Test.YtijaioiojclooaaG09
import Derived.Shelf.Abstract
import Derived.Test.YtijaioiojclooaaG08
import Derived.Test.YtijaioiojclooaaHA24sdr01
import Derived.RangeFuncNested
import Derived.Test.YtijaioiojclooaaG17
import Derived.Test.YtijaioiojclooaaHA24sdr05
import Derived.Test.YtijaioiojclooaaProg
import Derived.Test.YtijaioiojclooaaG11
import Derived.Laws.Cover3
import Derived.Test.YtijaioiojclooaaHA24sdr04
import Derived.Test.YtijaioiojclooaaG16
import Derived.Test.YtijaioiojclooaaHA24sdr02
import Derived.Test.YtijaioiojclooaaG01
import Derived.Lib.Hide
import Derived.Deep.QuietTactic
import Derived.BigQuiet
import Derived.Deep.DrawnRows
import Derived.Test.YtijaioiojclooaaG07
import Derived.Laws.StructEq
import Derived.Test.YtijaioiojclooaaHA24sdr03
import Derived.WalkKit
import Derived.StillTail
import Derived.Below
import Derived.Deep.Draws
import Derived.KernelRfl
import Derived.Deep.AppendLies
import Derived.Test.YtijaioiojclooaaG06
import Derived.Maps.AppendAt
import Derived.OwnWalk
import Derived.Test.YtijaioiojclooaaG05
import Derived.Great.BuildSlice
import Derived.Test.YtijaioiojclooaaG10
import Derived.Test.YtijaioiojclooaaG15
import Derived.Test.YtijaioiojclooaaG04
import Derived.Test.YtijaioiojclooaaG03
import Derived.RangeFuncLeaves
import Derived.RangeFuncRecord
import Derived.Test.YtijaioiojclooaaG02
import Derived.OrdersIn
import Derived.TacticsIn
import Derived.RangeFuncCalls
import Derived.Test.YtijaioiojclooaaG19
set_option linter.unusedSimpArgs false
set_option linter.unusedVariables false
section
namespace Go.Proofs.Ytijaioiojclooaa
open Go.RowKit Go.Flow Go.AV Go.Plain
/-- What the result boxes hold. -/
def exB0 (m : Mc) (b : Bool) : List AB := [⟨false, 1, 4, 62, lF (mcC m)⟩, ⟨false, 1, 1, 4, lF [bC b]⟩]
abbrev exSl (x : Ip) (b : Bp) (y : Bg) : List (Nat × AV) := [(3, .c (.pl 1 3 (lF (ipC x)) 0 0)), (4, .c (.pl 1 3 (lF (bpC b)) 0 0)), (5, .c (.pl 1 4 (lF (bgC y)) 0 0)), (6, .c (.pt 1000 4 0 0)), (7, .c (.pt 1001 1 0 0))]
theorem exB0_plain (m : Mc) (b : Bool) : (exB0 m b).length = [6, 7].length ∧ ∀ B ∈ exB0 m b, PlainB B := ⟨rfl, fun B hB => by
  rcases List.mem_cons.1 hB with rfl | hB
  · exact PlainB.box [.int .i64 m.dx, .int .i64 m.dy, .int .i64 m.lo, .int .i64 m.bl] rfl rfl
  · rcases List.mem_cons.1 hB with rfl | hB
    · exact PlainB.box [.bool b] rfl rfl
    · cases hB⟩
theorem shX_one (m i : Nat) (v : Value) (hv : v ∈ shX m i) : v.oneCell' = true := by
  rcases List.mem_cons.1 hv with rfl | hv
  · rfl
  · rcases List.mem_cons.1 hv with rfl | hv
    · rfl
    · cases hv
theorem exB_cases {x : Ip} {b : Bp} {y : Bg} {p : Int × Int} (h : exB x b y p = false) : ¬ fitOk x b p.1 p.2 ∨ (fitOk x b p.1 p.2 ∧ ¬ fitN x b p.1 p.2 0 1 ≤ y.lo) ∨ (fitOk x b p.1 p.2 ∧ fitN x b p.1 p.2 0 1 ≤ y.lo ∧ ¬ fitN x b p.1 p.2 1 0 ≤ y.bl) := by
  have := of_decide_eq_false h
  by_cases q1 : fitOk x b p.1 p.2
  · by_cases q2 : fitN x b p.1 p.2 0 1 ≤ y.lo
    · exact .inr (.inr ⟨q1, q2, fun q3 => this ⟨q1, q2, q3⟩⟩)
    · exact .inr (.inl ⟨q1, q2⟩)
  · exact .inl q1
set_option maxHeartbeats 1000000 in
set_option maxRecDepth 100000 in
theorem pExplains_A (x : Ip) (b : Bp) (y : Bg) (hn : x.n ≤ 4611686018427387904) : ACalls Try.prog 22 [.ag (ipC x), .ag (bpC b), .ag (bgC y)] (.tu [.ag (mcC (exV x b y).1), .c (bC (exV x b y).2)]) := by
  have hL := plim_A y
  obtain ⟨s0, s1⟩ := lim_sh y
  obtain ⟨m, hm⟩ : ∃ m, (lim4 y).sh.toNat = m := ⟨_, rfl⟩
  have hse : (lim4 y).sh = (m : Int) := by omega
  have hSh := shifts_A (lim4 y).sh
  have hIt := shiftsIt_A m (by omega)
  rw [← hse] at hIt
  have hxl : exL x b y = shL m := by unfold exL; rw [hm]
  refine acalls_at Try.func22 rfl rfl Try.ntmps22 rfl ?_
  repeat (first
    | refine AWp.seq ?_
    | refine thenA_n ?_
    | refine AWp.block ?_
    | (refine AWp.region (id := 0) ?_; refine AList.box rfl rfl rfl rfl rfl ?_; refine AList.box rfl rfl rfl rfl rfl ?_; refine AList.box rfl rfl rfl rfl rfl ?_; refine AList.alloc tyOk rfl rfl rfl rfl rfl ?_; refine AList.alloc tyOk rfl rfl rfl rfl rfl ?_; refine AList.nil ?_)
    | (refine AWp.region (id := 1) ?_; refine AList.loadA tyOk rfl rfl rfl rfl rfl rfl rfl oM oM ?_; refine AList.call rfl rfl rfl rfl Try.func56 rfl (by kernel_rfl) (hL) ?_; refine AList.store tyOk rfl rfl rfl rfl rfl rfl rfl rfl oM oM ?_; refine AList.nil ?_)
    | (refine AWp.region (id := 2) ?_; refine AList.fieldPt tyOk rfl rfl rfl rfl rfl rfl rfl ?_; refine AList.load1 tyOk rfl rfl rfl rfl rfl rfl rfl oM oM ?_; refine AList.call rfl rfl rfl rfl Try.func57 rfl (by kernel_rfl) (hSh) ?_; refine AList.nil ?_))
  rcases first_hit (fun i => exB x b (lim4 y) ((exL x b y).getD i mvZ)) (exL x b y).length with hno | ⟨k, hk, hb, hno⟩
  · rw [exV_miss hno]
    refine AWp.range (N := (shL m).length) (stop := false) (eS := .ret) (ids := [6, 7]) (bsI := fun _ => exB0 ⟨0, 0, 0, 0⟩ false) (ts := exSl x b (lim4 y)) (ys := [plI (lim4 y).sh]) (xs := shX m) rfl (enters_of Try.func79 (by kernel_rfl) rfl) ⟨ViewC.imm _ rfl, trivial⟩ rfl hIt (fun _ h => h) (fun h => by cases h) (fun _ => rfl) rfl ?_ (fun i hi => exB0_plain _ _) ?_ rfl (fun i hi => ⟨rfl, shX_one m i⟩) (.inl rfl) (fun i hi => ?_) ?_
    · exact LendOk.box rfl rfl rfl (LendOk.box rfl rfl rfl trivial)
    · repeat (first | exact trivial | refine ⟨⟨_, rfl, by first | exact ViewA.c (ViewC.imm _ rfl) | exact ViewA.c (ViewC.lend _ _ _ _ _ rfl) | exact ViewA.c (ViewC.roBox rfl rfl rfl rfl)⟩, ?_⟩)
    · have hfa := hno i (by rw [hxl]; exact hi)
      have hFt := iFits_A x b ((shL m).getD i mvZ).1 ((shL m).getD i mvZ).2 hn
      rw [hxl] at hfa
      have hcs := exB_cases hfa
      rcases hcs with g1 | ⟨g1, g2⟩ | ⟨g1, g2, g3⟩
      · rw [fitV, decide_eq_false g1] at hFt
        repeat (first
          | refine AWp.seq ?_
          | refine thenA_n ?_
          | (refine AWp.region (id := 3) ?_; refine AList.assign rfl rfl rfl ?_; refine AList.nil ?_)
          | (refine AWp.region (id := 4) ?_; refine AList.assign rfl rfl rfl ?_; refine AList.nil ?_))
        refine ⟨rfl, ?_⟩
        repeat (first
          | refine AWp.seq ?_
          | refine thenA_n ?_
          | refine AWp.block ?_
          | refine AWp.skip ?_
          | refine inBlk_n ?_
          | refine AWp.condF rfl (by first | rfl | assumption | exact cmF) ?_
          | (refine AWp.region (id := 5) ?_; refine AList.loadAl tyOk rfl rfl rfl rfl rfl oM ?_; refine AList.loadAl tyOk rfl rfl rfl rfl rfl oM ?_; refine AList.move rfl rfl rfl ?_; refine AList.move rfl rfl rfl ?_; refine AList.call rfl rfl rfl rfl Try.func58 rfl (by kernel_rfl) (hFt) ?_; refine AList.move rfl rfl rfl ?_; refine AList.extract rfl rfl rfl rfl ?_; refine AList.extract rfl rfl rfl rfl ?_; refine AList.extract rfl rfl rfl rfl ?_; refine AList.assign rfl rfl rfl ?_; refine AList.assign rfl rfl rfl ?_; refine AList.assign rfl rfl rfl ?_; refine AList.nil ?_)
          | (refine AWp.region (id := 6) ?_; refine AList.move rfl rfl rfl ?_; refine AList.move rfl rfl rfl ?_; refine AList.skip rfl rfl ?_; refine AList.skip rfl rfl ?_; refine AList.skip rfl rfl ?_; refine AList.skip rfl rfl ?_; refine AList.pickF rfl rfl rfl rfl ?_; refine AList.move rfl rfl rfl ?_; refine AList.skip rfl rfl ?_; refine AList.skip rfl rfl ?_; refine AList.skip rfl rfl ?_; refine AList.skip rfl rfl ?_; refine AList.pickF rfl rfl rfl rfl ?_; refine AList.nil ?_))
        refine ⟨rfl, mkG (fun _ => True) 0 true 48 2 [] (lentL 0 (exB0 ⟨0, 0, 0, 0⟩ false)) [], [], Wk.mkG [] rfl rfl rfl rfl rfl trivial ?_, rfl, rfl⟩
        repeat (first | exact trivial | refine ⟨by first | exact HeapOk.same rfl rfl rfl rfl | exact HeapOk.lent rfl rfl rfl rfl | exact HeapOk.nil rfl rfl | exact HeapOk.row rfl rfl (by first | rfl | omega) (fun i _ j _ => ⟨rfl, by first | rfl | exact rowN_imm (fun _ => rfl) _ i j | exact rowF_imm (fun _ => rfl) _ i j⟩) | exact HeapOk.box rfl rfl (by repeat (first | exact trivial | refine ⟨by first | exact LeC.refl _ rfl | exact LeC.ow _ _ rfl | exact LeC.nil _ rfl | exact LeC.nils _ _ | exact LeC.fz rfl rfl (by first | rfl | omega) (fun i _ j _ => ⟨rfl, by first | rfl | exact rowN_imm (fun _ => rfl) _ i j | exact rowF_imm (fun _ => rfl) _ i j⟩) | exact LeC.int (by omega), ?_⟩)) rfl, ?_⟩)
      all_goals
        rw [fitV, decide_eq_true g1] at hFt
        repeat (first
          | refine AWp.seq ?_
          | refine thenA_n ?_
          | (refine AWp.region (id := 3) ?_; refine AList.assign rfl rfl rfl ?_; refine AList.nil ?_)
          | (refine AWp.region (id := 4) ?_; refine AList.assign rfl rfl rfl ?_; refine AList.nil ?_))
        refine ⟨rfl, ?_⟩
        repeat (first
          | refine AWp.seq ?_
          | refine thenA_n ?_
          | refine AWp.block ?_
          | refine AWp.skip ?_
          | refine inBlk_n ?_
          | refine AWp.condF rfl (by first | rfl | assumption | exact cmF) ?_
          | (refine AWp.region (id := 5) ?_; refine AList.loadAl tyOk rfl rfl rfl rfl rfl oM ?_; refine AList.loadAl tyOk rfl rfl rfl rfl rfl oM ?_; refine AList.move rfl rfl rfl ?_; refine AList.move rfl rfl rfl ?_; refine AList.call rfl rfl rfl rfl Try.func58 rfl (by kernel_rfl) (hFt) ?_; refine AList.move rfl rfl rfl ?_; refine AList.extract rfl rfl rfl rfl ?_; refine AList.extract rfl rfl rfl rfl ?_; refine AList.extract rfl rfl rfl rfl ?_; refine AList.assign rfl rfl rfl ?_; refine AList.assign rfl rfl rfl ?_; refine AList.assign rfl rfl rfl ?_; refine AList.nil ?_)
          | (refine AWp.region (id := 6) ?_; refine AList.move rfl rfl rfl ?_; refine AList.move rfl rfl rfl ?_; refine AList.move rfl rfl rfl ?_; refine AList.fieldPl tyOk rfl rfl rfl rfl rfl rfl rfl ?_; refine AList.load1l tyOk rfl rfl rfl rfl rfl oM ?_; (first | refine AList.cmpT rfl rfl rfl rfl rfl cmT ?_ | refine AList.cmpF rfl rfl rfl rfl rfl cmF ?_); refine AList.pickT rfl rfl rfl rfl ?_; refine AList.move rfl rfl rfl ?_; (first | refine AList.skip rfl rfl ?_ | refine AList.move rfl rfl rfl ?_); (first | refine AList.skip rfl rfl ?_ | refine AList.fieldPl tyOk rfl rfl rfl rfl rfl rfl rfl ?_); (first | refine AList.skip rfl rfl ?_ | refine AList.load1l tyOk rfl rfl rfl rfl rfl oM ?_); (first | refine AList.skip rfl rfl ?_ | refine AList.cmpF rfl rfl rfl rfl rfl cmF ?_); (first | refine AList.pickT rfl rfl rfl rfl ?_ | refine AList.pickF rfl rfl rfl rfl ?_); refine AList.nil ?_))
        refine ⟨rfl, mkG (fun _ => True) 0 true 48 2 [] (lentL 0 (exB0 ⟨0, 0, 0, 0⟩ false)) [], [], Wk.mkG [] rfl rfl rfl rfl rfl trivial ?_, rfl, rfl⟩
        repeat (first | exact trivial | refine ⟨by first | exact HeapOk.same rfl rfl rfl rfl | exact HeapOk.lent rfl rfl rfl rfl | exact HeapOk.nil rfl rfl | exact HeapOk.row rfl rfl (by first | rfl | omega) (fun i _ j _ => ⟨rfl, by first | rfl | exact rowN_imm (fun _ => rfl) _ i j | exact rowF_imm (fun _ => rfl) _ i j⟩) | exact HeapOk.box rfl rfl (by repeat (first | exact trivial | refine ⟨by first | exact LeC.refl _ rfl | exact LeC.ow _ _ rfl | exact LeC.nil _ rfl | exact LeC.nils _ _ | exact LeC.fz rfl rfl (by first | rfl | omega) (fun i _ j _ => ⟨rfl, by first | rfl | exact rowN_imm (fun _ => rfl) _ i j | exact rowF_imm (fun _ => rfl) _ i j⟩) | exact LeC.int (by omega), ?_⟩)) rfl, ?_⟩)
    · repeat (first
        | refine AWp.seq ?_
        | refine thenA_n ?_
        | refine AWp.ret ?_
        | (refine AWp.region (id := 8) ?_; refine AList.buildSt tyOk rfl rfl rfl rfl rfl rfl rfl rfl ?_; refine AList.store tyOk rfl rfl rfl rfl rfl rfl rfl rfl oM oM ?_; refine AList.store tyOk rfl rfl rfl rfl rfl rfl rfl rfl oM oM ?_; refine AList.nil ?_))
      refine ⟨mkSt 48 [(6, .c (.pt 6 4 0 0)), (7, .c (.pt 7 1 0 0))] [(6, ⟨false, 1, 4, 62, lF [iC 0, iC 0, iC 0, iC 0]⟩), (7, ⟨false, 1, 1, 4, lF [bC false]⟩)] [6, 7], [(6, ⟨false, 1, 4, 62, lF [iC 0, iC 0, iC 0, iC 0]⟩), (7, ⟨false, 1, 1, 4, lF [bC false]⟩)], Wk.mk [(6, some 6), (7, some 7)] rfl rfl rfl ?_ ?_, rfl, rfl, ARets.two (x := .ag _) (y := .c _) (ARes.box tyOk rfl rfl rfl rfl rfl rfl rfl) (ARes.box1 tyOk rfl rfl rfl rfl rfl rfl)⟩
      · repeat (first | exact trivial | refine ⟨⟨_, rfl, by first | exact LeA.c (LeC.refl _ rfl) | exact LeA.c (LeC.ow _ _ rfl) | exact LeA.c (LeC.pt _ _ _ _ _ rfl) | exact LeA.c (LeC.nil _ rfl) | exact LeA.c (LeC.nils _ _) | (refine LeA.int ?_; omega) | (refine LeA.int ?_; dsimp only; omega) | exact LeA.c (LeC.fz rfl rfl (by first | rfl | omega) (fun i _ j _ => ⟨rfl, by first | rfl | exact rowN_imm (fun _ => rfl) _ i j | exact rowF_imm (fun _ => rfl) _ i j⟩))⟩, ?_⟩)
      · repeat (first | exact trivial | refine ⟨by first | exact HeapOk.same rfl rfl rfl rfl | exact HeapOk.lent rfl rfl rfl rfl | exact HeapOk.nil rfl rfl | exact HeapOk.row rfl rfl (by first | rfl | omega) (fun i _ j _ => ⟨rfl, by first | rfl | exact rowN_imm (fun _ => rfl) _ i j | exact rowF_imm (fun _ => rfl) _ i j⟩) | exact HeapOk.box rfl rfl (by repeat (first | exact trivial | refine ⟨by first | exact LeC.refl _ rfl | exact LeC.ow _ _ rfl | exact LeC.nil _ rfl | exact LeC.nils _ _ | exact LeC.fz rfl rfl (by first | rfl | omega) (fun i _ j _ => ⟨rfl, by first | rfl | exact rowN_imm (fun _ => rfl) _ i j | exact rowF_imm (fun _ => rfl) _ i j⟩) | exact LeC.int (by omega), ?_⟩)) rfl, ?_⟩)
  · rw [exV_hit hk hb hno]
    obtain ⟨mc, hmc⟩ : ∃ mc : Mc, mc = ⟨((exL x b y).getD k mvZ).1, ((exL x b y).getD k mvZ).2, fitN x b ((exL x b y).getD k mvZ).1 ((exL x b y).getD k mvZ).2 0 1, fitN x b ((exL x b y).getD k mvZ).1 ((exL x b y).getD k mvZ).2 1 0⟩ := ⟨_, rfl⟩
    rw [← hmc]
    refine AWp.range (N := k + 1) (stop := true) (eS := .ret) (ids := [6, 7]) (bsI := fun i => if i ≤ k then exB0 ⟨0, 0, 0, 0⟩ false else exB0 mc true) (ts := exSl x b (lim4 y)) (ys := [plI (lim4 y).sh]) (xs := shX m) rfl (enters_of Try.func79 (by kernel_rfl) rfl) ⟨ViewC.imm _ rfl, trivial⟩ rfl hIt (fun _ h => h) (fun _ => ⟨by omega, by rw [← hxl]; omega⟩) (fun h => by cases h) rfl ?_ (fun i hi => ?_) ?_ rfl (fun i hi => ⟨rfl, shX_one m i⟩) (.inl rfl) (fun i hi => ?_) ?_
    · exact LendOk.box rfl rfl rfl (LendOk.box rfl rfl rfl trivial)
    · by_cases h : i ≤ k
      · rw [if_pos h]; exact exB0_plain _ _
      · rw [if_neg h]; exact exB0_plain _ _
    · repeat (first | exact trivial | refine ⟨⟨_, rfl, by first | exact ViewA.c (ViewC.imm _ rfl) | exact ViewA.c (ViewC.lend _ _ _ _ _ rfl) | exact ViewA.c (ViewC.roBox rfl rfl rfl rfl)⟩, ?_⟩)
    · have hFt := iFits_A x b ((shL m).getD i mvZ).1 ((shL m).getD i mvZ).2 hn
      rw [if_pos (by omega : i ≤ k)]
      by_cases hik : i = k
      · subst hik
        rw [hxl] at hb hmc
        obtain ⟨g1, g2, g3⟩ := of_decide_eq_true hb
        have hg : goesB (i + 1) true i = false := by unfold goesB; rw [show Nat.beq (i + 1) (i + 1) = true from Nat.beq_refl _]; rfl
        rw [hg, if_neg (by omega : ¬ i + 1 ≤ i), fitV, decide_eq_true g1] at *
        repeat (first
          | refine AWp.seq ?_
          | refine thenA_n ?_
          | (refine AWp.region (id := 3) ?_; refine AList.assign rfl rfl rfl ?_; refine AList.nil ?_)
          | (refine AWp.region (id := 4) ?_; refine AList.assign rfl rfl rfl ?_; refine AList.nil ?_))
        refine ⟨rfl, ?_⟩
        repeat (first
          | refine AWp.seq ?_
          | refine thenA_n ?_
          | refine AWp.block ?_
          | refine AWp.ret ?_
          | refine inBlk_r ?_
          | refine AWp.condT rfl (by first | rfl | assumption | exact cmT) ?_
          | (refine AWp.region (id := 5) ?_; refine AList.loadAl tyOk rfl rfl rfl rfl rfl oM ?_; refine AList.loadAl tyOk rfl rfl rfl rfl rfl oM ?_; refine AList.move rfl rfl rfl ?_; refine AList.move rfl rfl rfl ?_; refine AList.call rfl rfl rfl rfl Try.func58 rfl (by kernel_rfl) (hFt) ?_; refine AList.move rfl rfl rfl ?_; refine AList.extract rfl rfl rfl rfl ?_; refine AList.extract rfl rfl rfl rfl ?_; refine AList.extract rfl rfl rfl rfl ?_; refine AList.assign rfl rfl rfl ?_; refine AList.assign rfl rfl rfl ?_; refine AList.assign rfl rfl rfl ?_; refine AList.nil ?_)
          | (refine AWp.region (id := 6) ?_; refine AList.move rfl rfl rfl ?_; refine AList.move rfl rfl rfl ?_; refine AList.move rfl rfl rfl ?_; refine AList.fieldPl tyOk rfl rfl rfl rfl rfl rfl rfl ?_; refine AList.load1l tyOk rfl rfl rfl rfl rfl oM ?_; refine AList.cmpT rfl rfl rfl rfl rfl cmT ?_; refine AList.pickT rfl rfl rfl rfl ?_; refine AList.move rfl rfl rfl ?_; refine AList.move rfl rfl rfl ?_; refine AList.fieldPl tyOk rfl rfl rfl rfl rfl rfl rfl ?_; refine AList.load1l tyOk rfl rfl rfl rfl rfl oM ?_; refine AList.cmpT rfl rfl rfl rfl rfl cmT ?_; refine AList.pickT rfl rfl rfl rfl ?_; refine AList.nil ?_)
          | (refine AWp.region (id := 7) ?_; refine AList.move rfl rfl rfl ?_; refine AList.move rfl rfl rfl ?_; refine AList.move rfl rfl rfl ?_; refine AList.move rfl rfl rfl ?_; refine AList.buildSt tyOk rfl rfl rfl rfl rfl rfl rfl rfl ?_; refine AList.store tyOk rfl rfl rfl rfl rfl rfl rfl rfl oM oM ?_; refine AList.store tyOk rfl rfl rfl rfl rfl rfl rfl rfl oM oM ?_; refine AList.nil ?_))
        subst hmc
        refine ⟨rfl, mkG (fun _ => True) 0 true 48 2 [] (lentL 0 (exB0 ⟨((shL m).getD i mvZ).1, ((shL m).getD i mvZ).2, fitN x b ((shL m).getD i mvZ).1 ((shL m).getD i mvZ).2 0 1, fitN x b ((shL m).getD i mvZ).1 ((shL m).getD i mvZ).2 1 0⟩ true)) [], [], Wk.mkG [] rfl rfl rfl rfl rfl trivial ?_, rfl, rfl⟩
        repeat (first | exact trivial | refine ⟨by first | exact HeapOk.same rfl rfl rfl rfl | exact HeapOk.lent rfl rfl rfl rfl | exact HeapOk.nil rfl rfl | exact HeapOk.row rfl rfl (by first | rfl | omega) (fun i _ j _ => ⟨rfl, by first | rfl | exact rowN_imm (fun _ => rfl) _ i j | exact rowF_imm (fun _ => rfl) _ i j⟩) | exact HeapOk.box rfl rfl (by repeat (first | exact trivial | refine ⟨by first | exact LeC.refl _ rfl | exact LeC.ow _ _ rfl | exact LeC.nil _ rfl | exact LeC.nils _ _ | exact LeC.fz rfl rfl (by first | rfl | omega) (fun i _ j _ => ⟨rfl, by first | rfl | exact rowN_imm (fun _ => rfl) _ i j | exact rowF_imm (fun _ => rfl) _ i j⟩) | exact LeC.int (by omega), ?_⟩)) rfl, ?_⟩)
      · have hfa := hno i (by omega)
        rw [hxl] at hfa
        have hg : goesB (k + 1) true i = true := by
          unfold goesB
          rw [show Nat.beq (i + 1) (k + 1) = false from Bool.eq_false_iff.2 fun h => by have := Nat.eq_of_beq_eq_true h; omega]
          rfl
        rw [hg, if_pos (by omega : i + 1 ≤ k)]
        have hcs := exB_cases hfa
        rcases hcs with g1 | ⟨g1, g2⟩ | ⟨g1, g2, g3⟩
        · rw [fitV, decide_eq_false g1] at hFt
          repeat (first
            | refine AWp.seq ?_
            | refine thenA_n ?_
            | (refine AWp.region (id := 3) ?_; refine AList.assign rfl rfl rfl ?_; refine AList.nil ?_)
            | (refine AWp.region (id := 4) ?_; refine AList.assign rfl rfl rfl ?_; refine AList.nil ?_))
          refine ⟨rfl, ?_⟩
          repeat (first
            | refine AWp.seq ?_
            | refine thenA_n ?_
            | refine AWp.block ?_
            | refine AWp.skip ?_
            | refine inBlk_n ?_
            | refine AWp.condF rfl (by first | rfl | assumption | exact cmF) ?_
            | (refine AWp.region (id := 5) ?_; refine AList.loadAl tyOk rfl rfl rfl rfl rfl oM ?_; refine AList.loadAl tyOk rfl rfl rfl rfl rfl oM ?_; refine AList.move rfl rfl rfl ?_; refine AList.move rfl rfl rfl ?_; refine AList.call rfl rfl rfl rfl Try.func58 rfl (by kernel_rfl) (hFt) ?_; refine AList.move rfl rfl rfl ?_; refine AList.extract rfl rfl rfl rfl ?_; refine AList.extract rfl rfl rfl rfl ?_; refine AList.extract rfl rfl rfl rfl ?_; refine AList.assign rfl rfl rfl ?_; refine AList.assign rfl rfl rfl ?_; refine AList.assign rfl rfl rfl ?_; refine AList.nil ?_)
            | (refine AWp.region (id := 6) ?_; refine AList.move rfl rfl rfl ?_; refine AList.move rfl rfl rfl ?_; refine AList.skip rfl rfl ?_; refine AList.skip rfl rfl ?_; refine AList.skip rfl rfl ?_; refine AList.skip rfl rfl ?_; refine AList.pickF rfl rfl rfl rfl ?_; refine AList.move rfl rfl rfl ?_; refine AList.skip rfl rfl ?_; refine AList.skip rfl rfl ?_; refine AList.skip rfl rfl ?_; refine AList.skip rfl rfl ?_; refine AList.pickF rfl rfl rfl rfl ?_; refine AList.nil ?_))
          refine ⟨rfl, mkG (fun _ => True) 0 true 48 2 [] (lentL 0 (exB0 ⟨0, 0, 0, 0⟩ false)) [], [], Wk.mkG [] rfl rfl rfl rfl rfl trivial ?_, rfl, rfl⟩
          repeat (first | exact trivial | refine ⟨by first | exact HeapOk.same rfl rfl rfl rfl | exact HeapOk.lent rfl rfl rfl rfl | exact HeapOk.nil rfl rfl | exact HeapOk.row rfl rfl (by first | rfl | omega) (fun i _ j _ => ⟨rfl, by first | rfl | exact rowN_imm (fun _ => rfl) _ i j | exact rowF_imm (fun _ => rfl) _ i j⟩) | exact HeapOk.box rfl rfl (by repeat (first | exact trivial | refine ⟨by first | exact LeC.refl _ rfl | exact LeC.ow _ _ rfl | exact LeC.nil _ rfl | exact LeC.nils _ _ | exact LeC.fz rfl rfl (by first | rfl | omega) (fun i _ j _ => ⟨rfl, by first | rfl | exact rowN_imm (fun _ => rfl) _ i j | exact rowF_imm (fun _ => rfl) _ i j⟩) | exact LeC.int (by omega), ?_⟩)) rfl, ?_⟩)
        all_goals
          rw [fitV, decide_eq_true g1] at hFt
          repeat (first
            | refine AWp.seq ?_
            | refine thenA_n ?_
            | (refine AWp.region (id := 3) ?_; refine AList.assign rfl rfl rfl ?_; refine AList.nil ?_)
            | (refine AWp.region (id := 4) ?_; refine AList.assign rfl rfl rfl ?_; refine AList.nil ?_))
          refine ⟨rfl, ?_⟩
          repeat (first
            | refine AWp.seq ?_
            | refine thenA_n ?_
            | refine AWp.block ?_
            | refine AWp.skip ?_
            | refine inBlk_n ?_
            | refine AWp.condF rfl (by first | rfl | assumption | exact cmF) ?_
            | (refine AWp.region (id := 5) ?_; refine AList.loadAl tyOk rfl rfl rfl rfl rfl oM ?_; refine AList.loadAl tyOk rfl rfl rfl rfl rfl oM ?_; refine AList.move rfl rfl rfl ?_; refine AList.move rfl rfl rfl ?_; refine AList.call rfl rfl rfl rfl Try.func58 rfl (by kernel_rfl) (hFt) ?_; refine AList.move rfl rfl rfl ?_; refine AList.extract rfl rfl rfl rfl ?_; refine AList.extract rfl rfl rfl rfl ?_; refine AList.extract rfl rfl rfl rfl ?_; refine AList.assign rfl rfl rfl ?_; refine AList.assign rfl rfl rfl ?_; refine AList.assign rfl rfl rfl ?_; refine AList.nil ?_)
            | (refine AWp.region (id := 6) ?_; refine AList.move rfl rfl rfl ?_; refine AList.move rfl rfl rfl ?_; refine AList.move rfl rfl rfl ?_; refine AList.fieldPl tyOk rfl rfl rfl rfl rfl rfl rfl ?_; refine AList.load1l tyOk rfl rfl rfl rfl rfl oM ?_; (first | refine AList.cmpT rfl rfl rfl rfl rfl cmT ?_ | refine AList.cmpF rfl rfl rfl rfl rfl cmF ?_); refine AList.pickT rfl rfl rfl rfl ?_; refine AList.move rfl rfl rfl ?_; (first | refine AList.skip rfl rfl ?_ | refine AList.move rfl rfl rfl ?_); (first | refine AList.skip rfl rfl ?_ | refine AList.fieldPl tyOk rfl rfl rfl rfl rfl rfl rfl ?_); (first | refine AList.skip rfl rfl ?_ | refine AList.load1l tyOk rfl rfl rfl rfl rfl oM ?_); (first | refine AList.skip rfl rfl ?_ | refine AList.cmpF rfl rfl rfl rfl rfl cmF ?_); (first | refine AList.pickT rfl rfl rfl rfl ?_ | refine AList.pickF rfl rfl rfl rfl ?_); refine AList.nil ?_))
          refine ⟨rfl, mkG (fun _ => True) 0 true 48 2 [] (lentL 0 (exB0 ⟨0, 0, 0, 0⟩ false)) [], [], Wk.mkG [] rfl rfl rfl rfl rfl trivial ?_, rfl, rfl⟩
          repeat (first | exact trivial | refine ⟨by first | exact HeapOk.same rfl rfl rfl rfl | exact HeapOk.lent rfl rfl rfl rfl | exact HeapOk.nil rfl rfl | exact HeapOk.row rfl rfl (by first | rfl | omega) (fun i _ j _ => ⟨rfl, by first | rfl | exact rowN_imm (fun _ => rfl) _ i j | exact rowF_imm (fun _ => rfl) _ i j⟩) | exact HeapOk.box rfl rfl (by repeat (first | exact trivial | refine ⟨by first | exact LeC.refl _ rfl | exact LeC.ow _ _ rfl | exact LeC.nil _ rfl | exact LeC.nils _ _ | exact LeC.fz rfl rfl (by first | rfl | omega) (fun i _ j _ => ⟨rfl, by first | rfl | exact rowN_imm (fun _ => rfl) _ i j | exact rowF_imm (fun _ => rfl) _ i j⟩) | exact LeC.int (by omega), ?_⟩)) rfl, ?_⟩)
    · rw [if_neg (by omega : ¬ k + 1 ≤ k)]
      repeat (first
        | refine thenA_r ?_
        | refine inBlk_r ?_)
      refine ⟨mkSt 48 [(6, .c (.pt 6 4 0 0)), (7, .c (.pt 7 1 0 0))] [(6, ⟨false, 1, 4, 62, lF (mcC mc)⟩), (7, ⟨false, 1, 1, 4, lF [bC true]⟩)] [6, 7], [(6, ⟨false, 1, 4, 62, lF (mcC mc)⟩), (7, ⟨false, 1, 1, 4, lF [bC true]⟩)], Wk.mk [(6, some 6), (7, some 7)] rfl rfl rfl ?_ ?_, rfl, rfl, ARets.two (x := .ag _) (y := .c _) (ARes.box tyOk rfl rfl rfl rfl rfl rfl rfl) (ARes.box1 tyOk rfl rfl rfl rfl rfl rfl)⟩
      · repeat (first | exact trivial | refine ⟨⟨_, rfl, by first | exact LeA.c (LeC.refl _ rfl) | exact LeA.c (LeC.ow _ _ rfl) | exact LeA.c (LeC.pt _ _ _ _ _ rfl) | exact LeA.c (LeC.nil _ rfl) | exact LeA.c (LeC.nils _ _) | (refine LeA.int ?_; omega) | (refine LeA.int ?_; dsimp only; omega) | exact LeA.c (LeC.fz rfl rfl (by first | rfl | omega) (fun i _ j _ => ⟨rfl, by first | rfl | exact rowN_imm (fun _ => rfl) _ i j | exact rowF_imm (fun _ => rfl) _ i j⟩))⟩, ?_⟩)
      · repeat (first | exact trivial | refine ⟨by first | exact HeapOk.same rfl rfl rfl rfl | exact HeapOk.lent rfl rfl rfl rfl | exact HeapOk.nil rfl rfl | exact HeapOk.row rfl rfl (by first | rfl | omega) (fun i _ j _ => ⟨rfl, by first | rfl | exact rowN_imm (fun _ => rfl) _ i j | exact rowF_imm (fun _ => rfl) _ i j⟩) | exact HeapOk.box rfl rfl (by repeat (first | exact trivial | refine ⟨by first | exact LeC.refl _ rfl | exact LeC.ow _ _ rfl | exact LeC.nil _ rfl | exact LeC.nils _ _ | exact LeC.fz rfl rfl (by first | rfl | omega) (fun i _ j _ => ⟨rfl, by first | rfl | exact rowN_imm (fun _ => rfl) _ i j | exact rowF_imm (fun _ => rfl) _ i j⟩) | exact LeC.int (by omega), ?_⟩)) rfl, ?_⟩)
end Go.Proofs.Ytijaioiojclooaa
end

section
namespace Go.Proofs.Ytijaioiojclooaa
open Go.RowKit Go.Flow Go.AV Go.Plain
abbrev nilC : CV := .p (.slice none 0 0)
end Go.Proofs.Ytijaioiojclooaa
end
