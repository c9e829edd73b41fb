/- Parts of the proof: A24u. -/
import Derived.Test.YtijaioiojclooaaG25
import Derived.Test.YtijaioiojclooaaG24
import Derived.Test.YtijaioiojclooaaHA24cor03
import Derived.Test.YtijaioiojclooaaG23
import Derived.Test.YtijaioiojclooaaG18
import Derived.Test.YtijaioiojclooaaG04
import Derived.Scope
import Derived.Test.YtijaioiojclooaaG21
import Derived.Test.YtijaioiojclooaaG22
import Derived.Test.YtijaioiojclooaaG09
import Derived.Test.YtijaioiojclooaaG03
import Derived.RangeFuncLeaves
import Derived.RangeFuncRecord
import Derived.Test.YtijaioiojclooaaHA24cor01
import Derived.Shelf.Abstract
import Derived.Test.YtijaioiojclooaaG02
import Derived.Test.YtijaioiojclooaaG08
import Derived.Test.YtijaioiojclooaaG01
import Derived.Test.YtijaioiojclooaaG20
import Derived.RangeFuncNested
import Derived.Deep.AppendLies
import Derived.OrdersIn
import Derived.TacticsIn
import Derived.RangeFuncCalls
import Derived.Test.YtijaioiojclooaaHA24cor02
import Derived.Test.YtijaioiojclooaaG17
import Derived.Maps.AppendAt
import Derived.OwnWalk
import Derived.Test.YtijaioiojclooaaG19
import Derived.Test.YtijaioiojclooaaProg
import Derived.Test.YtijaioiojclooaaG11
import Derived.Laws.Cover3
import Derived.StillTail
import Derived.Below
import Derived.Deep.Draws
import Derived.WalkKit
import Derived.KernelRfl
import Derived.Test.YtijaioiojclooaaG14
import Derived.Test.YtijaioiojclooaaG16
import Derived.Lib.Hide
import Derived.Deep.QuietTactic
import Derived.BigQuiet
import Derived.Deep.DrawnRows
import Derived.Test.YtijaioiojclooaaG07
import Derived.Laws.StructEq
import Derived.Test.YtijaioiojclooaaG13
import Derived.Test.YtijaioiojclooaaG10
import Derived.Test.YtijaioiojclooaaG12
import Derived.Test.YtijaioiojclooaaG06
import Derived.Test.YtijaioiojclooaaG05
import Derived.Great.BuildSlice
import Derived.Test.YtijaioiojclooaaG15
set_option linter.unusedSimpArgs false
set_option linter.unusedVariables false
section
namespace Go.Proofs.Ytijaioiojclooaa
open Go.RowKit Go.Flow Go.AV Go.Plain
set_option maxHeartbeats 2000000 in
set_option maxRecDepth 100000 in
theorem rIs_A (a b : Bp) (x y : Bg) (c : Cl) (hok : cmpOk a b) : ACalls Try.prog 52 [.ag (bpC a), .ag (bpC b), .ag (bgC x), .ag (bgC y), .ag (clC c)] (.c (bC (isB a b x y c))) := by
  obtain ⟨q0, q1, -, -, -⟩ := okB hok.1
  have hAll := All_A a.W x y ⟨q0, q1⟩
  have hlen := al_len (x := x) (y := y) ⟨q0, q1⟩
  have hE : c ∈ alL a.W x y → ACalls Try.prog 37 [.ag (bpC a), .ag (bpC b), .ag (bgC x), .ag (bgC y), .ag (clC c)] (.c (iC (xsV a b x y c))) := fun h => by
    obtain ⟨j, hj, e⟩ := List.getElem_of_mem h
    have h1 := al_bd (x := x) (y := y) ⟨q0, q1⟩ hj
    rw [List.getD_eq_getElem?_getD, List.getElem?_eq_getElem hj, Option.getD_some, e] at h1
    exact rExcess_A a b x y c hok.1 hok.2.1 (by omega) (by omega) (by omega)
  unfold isB
  have hmem : ∀ i, i < (alL a.W x y).length → (alL a.W x y).getD i clZ ∈ alL a.W x y := fun i hi => by
    rw [List.getD_eq_getElem?_getD, List.getElem?_eq_getElem hi]
    exact List.getElem_mem hi
  have hcase := first_hit (fun i => decide ((alL a.W x y).getD i clZ = c)) (alL a.W x y).length
  generalize alL a.W x y = L at *
  obtain ⟨n, hnl⟩ : ∃ n, L.length = n := ⟨_, rfl⟩
  rcases hcase with hno | ⟨k0, hk0, hb, hno⟩
  · have hc : c ∉ L := fun h => by
      obtain ⟨j, hj, e⟩ := List.getElem_of_mem h
      have := of_decide_eq_false (hno j hj)
      rw [List.getD_eq_getElem?_getD, List.getElem?_eq_getElem hj] at this
      exact absurd e this
    rw [decide_eq_false hc, Bool.false_and]
    rw [hnl] at hAll hlen hno
    refine acalls_at Try.func52 rfl rfl Try.ntmps52 rfl ?_
    repeat (first
      | refine AWp.seq ?_
      | refine thenA_n ?_
      | refine AWp.block ?_
      | (refine AWp.region (id := 0) ?_; refine AList.box rfl rfl rfl rfl rfl ?_; refine AList.box rfl rfl rfl rfl rfl ?_; refine AList.box rfl rfl rfl rfl rfl ?_; refine AList.box rfl rfl rfl rfl rfl ?_; refine AList.box rfl rfl rfl rfl rfl ?_; refine AList.assign rfl rfl rfl ?_; refine AList.nil ?_)
      | (refine AWp.region (id := 1) ?_; refine AList.fieldPt tyOk rfl rfl rfl rfl rfl rfl rfl ?_; refine AList.load1 tyOk rfl rfl rfl rfl rfl rfl rfl oM oM ?_; refine AList.loadA tyOk rfl rfl rfl rfl rfl rfl rfl oM oM ?_; refine AList.loadA tyOk rfl rfl rfl rfl rfl rfl rfl oM oM ?_; refine AList.call rfl rfl rfl rfl Try.func36 rfl (by kernel_rfl) (hAll) ?_; refine AList.assign rfl rfl rfl ?_; refine AList.nil ?_)
      | (refine AWp.region (id := 2) ?_; refine AList.assign rfl rfl rfl ?_; refine AList.nil ?_))
    refine AWp.round (fun k : Nat => mkSt 37 [(5, .c (.pt 5 3 0 0)), (6, .c (.pt 6 3 0 0)), (7, .c (.pt 7 4 0 0)), (8, .c (.pt 8 4 0 0)), (9, .c (.pt 9 3 0 0)), (11, .c (.ls n 3 (rowF clC clZ L))), (12, .c (iC k))] [(5, ⟨false, 1, 3, 27, lF (bpC a)⟩), (6, ⟨false, 1, 3, 27, lF (bpC b)⟩), (7, ⟨false, 1, 4, 29, lF (bgC x)⟩), (8, ⟨false, 1, 4, 29, lF (bgC y)⟩), (9, ⟨false, 1, 3, 40, lF (clC c)⟩)] [5, 6, 7, 8, 9])
      (fun k => k ≤ n) (fun k => n - k) 0 (Nat.zero_le _) ?_ (fun k hk => ?_)
    · refine Wk.mk [(5, some 5), (6, some 6), (7, some 7), (8, some 8), (9, some 9)] rfl rfl rfl ?_ ?_
      · repeat (first | exact trivial | refine ⟨⟨_, rfl, by first | exact LeA.c (LeC.refl _ rfl) | exact LeA.c (LeC.ow _ _ rfl) | exact LeA.c (LeC.pt _ _ _ _ _ rfl) | exact LeA.c (LeC.nil _ rfl) | exact LeA.c (LeC.nils _ _) | (refine LeA.int ?_; omega) | (refine LeA.int ?_; dsimp only; omega) | exact LeA.c (LeC.fz rfl rfl (by first | rfl | omega) (fun i _ j _ => ⟨rfl, by first | rfl | exact rowN_imm (fun _ => rfl) _ i j | exact rowF_imm (fun _ => rfl) _ i j⟩))⟩, ?_⟩)
      · repeat (first | exact trivial | refine ⟨by first | exact HeapOk.same rfl rfl rfl rfl | exact HeapOk.lent rfl rfl rfl rfl | exact HeapOk.nil rfl rfl | exact HeapOk.row rfl rfl (by first | rfl | omega) (fun i _ j _ => ⟨rfl, by first | rfl | exact rowN_imm (fun _ => rfl) _ i j | exact rowF_imm (fun _ => rfl) _ i j⟩) | exact HeapOk.box rfl rfl (by repeat (first | exact trivial | refine ⟨by first | exact LeC.refl _ rfl | exact LeC.ow _ _ rfl | exact LeC.nil _ rfl | exact LeC.nils _ _ | exact LeC.fz rfl rfl (by first | rfl | omega) (fun i _ j _ => ⟨rfl, by first | rfl | exact rowN_imm (fun _ => rfl) _ i j | exact rowF_imm (fun _ => rfl) _ i j⟩) | exact LeC.int (by omega), ?_⟩)) rfl, ?_⟩)
    · by_cases hkn : k < n
      · have he : ¬ L.getD k clZ = c := of_decide_eq_false (hno k hkn)
        have hne : ∀ w, (Go.binOp .eql 40 _ _).run Try.prog w = .ok (.bool false) w := fun w => (cl_eq (L.getD k clZ) c w).trans (by rw [decide_eq_false he])
        repeat (first
          | refine AWp.seq ?_
          | refine thenA_n ?_
          | refine AWp.block ?_
          | refine AWp.skip ?_
          | refine inBlk_n ?_
          | refine AWp.condT rfl (by first | rfl | assumption | exact cmT) ?_
          | refine AWp.condF rfl (by first | rfl | assumption | exact cmF) ?_
          | (refine AWp.region (id := 3) ?_; refine AList.move rfl rfl rfl ?_; refine AList.move rfl rfl rfl ?_; refine AList.lenLs tyOk rfl rfl rfl rfl rfl ?_; refine AList.cmpT rfl rfl rfl rfl rfl cmT ?_; refine AList.nil ?_)
          | (refine AWp.region (id := 4) ?_; refine AList.move rfl rfl rfl ?_; refine AList.add rfl rfl rfl rfl (by omega) (by omega) ?_; refine AList.assign rfl rfl rfl ?_; refine AList.nil ?_)
          | (refine AWp.draw (id := 5) mixed ?_; refine AList.move rfl rfl rfl ?_; refine AList.move rfl rfl rfl ?_; refine AList.idx (k := k) tyOk rfl rfl rfl rfl rfl rfl rfl rfl (by first | rfl | omega) oM oM ?_; refine AList.loadAl tyOk rfl rfl rfl rfl rfl oM ?_; refine AList.loadA tyOk rfl rfl rfl rfl rfl rfl rfl oM oM ?_; refine AList.binAg rfl rfl rfl rfl rfl rfl (by kernel_rfl) (hne) ?_; refine AList.nil ⟨by kernel_rfl, ?_⟩))
        refine ⟨k + 1, hkn, Wk.mk [(5, some 5), (6, some 6), (7, some 7), (8, some 8), (9, some 9)] rfl rfl rfl ?_ ?_, by omega⟩
        · repeat (first | exact trivial | refine ⟨⟨_, rfl, by first | exact LeA.c (LeC.refl _ rfl) | exact LeA.c (LeC.ow _ _ rfl) | exact LeA.c (LeC.pt _ _ _ _ _ rfl) | exact LeA.c (LeC.nil _ rfl) | exact LeA.c (LeC.nils _ _) | (refine LeA.int ?_; omega) | (refine LeA.int ?_; dsimp only; omega) | exact LeA.c (LeC.fz rfl rfl (by first | rfl | omega) (fun i _ j _ => ⟨rfl, by first | rfl | exact rowN_imm (fun _ => rfl) _ i j | exact rowF_imm (fun _ => rfl) _ i j⟩))⟩, ?_⟩)
        · repeat (first | exact trivial | refine ⟨by first | exact HeapOk.same rfl rfl rfl rfl | exact HeapOk.lent rfl rfl rfl rfl | exact HeapOk.nil rfl rfl | exact HeapOk.row rfl rfl (by first | rfl | omega) (fun i _ j _ => ⟨rfl, by first | rfl | exact rowN_imm (fun _ => rfl) _ i j | exact rowF_imm (fun _ => rfl) _ i j⟩) | exact HeapOk.box rfl rfl (by repeat (first | exact trivial | refine ⟨by first | exact LeC.refl _ rfl | exact LeC.ow _ _ rfl | exact LeC.nil _ rfl | exact LeC.nils _ _ | exact LeC.fz rfl rfl (by first | rfl | omega) (fun i _ j _ => ⟨rfl, by first | rfl | exact rowN_imm (fun _ => rfl) _ i j | exact rowF_imm (fun _ => rfl) _ i j⟩) | exact LeC.int (by omega), ?_⟩)) rfl, ?_⟩)
      · obtain rfl : k = n := by omega
        repeat (first
          | refine AWp.seq ?_
          | refine thenA_n ?_
          | refine AWp.exit ?_
          | refine AWp.ret ?_
          | refine AWp.condF rfl (by first | rfl | assumption | exact cmF) ?_
          | (refine AWp.region (id := 3) ?_; refine AList.move rfl rfl rfl ?_; refine AList.move rfl rfl rfl ?_; refine AList.lenLs tyOk rfl rfl rfl rfl rfl ?_; refine AList.cmpF rfl rfl rfl rfl rfl cmF ?_; refine AList.nil ?_)
          | (refine AWp.region (id := 7) ?_; refine AList.assign rfl rfl rfl ?_; refine AList.nil ?_))
        refine ⟨mkSt 37 [(10, .c (bC false))] [] [], [], Wk.mk [] rfl rfl rfl ?_ trivial, rfl, rfl, ARets.one (x := .c _) (ARes.tmp rfl rfl)⟩
        repeat (first | exact trivial | refine ⟨⟨_, rfl, by first | exact LeA.c (LeC.refl _ rfl) | exact LeA.c (LeC.ow _ _ rfl) | exact LeA.c (LeC.pt _ _ _ _ _ rfl) | exact LeA.c (LeC.nil _ rfl) | exact LeA.c (LeC.nils _ _) | (refine LeA.int ?_; omega) | (refine LeA.int ?_; dsimp only; omega) | exact LeA.c (LeC.fz rfl rfl (by first | rfl | omega) (fun i _ j _ => ⟨rfl, by first | rfl | exact rowN_imm (fun _ => rfl) _ i j | exact rowF_imm (fun _ => rfl) _ i j⟩))⟩, ?_⟩)
  · have hb' : L.getD k0 clZ = c := of_decide_eq_true hb
    have hc : c ∈ L := by rw [← hb']; exact hmem k0 hk0
    have hEc := hE hc
    rw [decide_eq_true hc, Bool.true_and]
    rw [hnl] at hAll hlen hk0
    refine acalls_at Try.func52 rfl rfl Try.ntmps52 rfl ?_
    repeat (first
      | refine AWp.seq ?_
      | refine thenA_n ?_
      | refine AWp.block ?_
      | (refine AWp.region (id := 0) ?_; refine AList.box rfl rfl rfl rfl rfl ?_; refine AList.box rfl rfl rfl rfl rfl ?_; refine AList.box rfl rfl rfl rfl rfl ?_; refine AList.box rfl rfl rfl rfl rfl ?_; refine AList.box rfl rfl rfl rfl rfl ?_; refine AList.assign rfl rfl rfl ?_; refine AList.nil ?_)
      | (refine AWp.region (id := 1) ?_; refine AList.fieldPt tyOk rfl rfl rfl rfl rfl rfl rfl ?_; refine AList.load1 tyOk rfl rfl rfl rfl rfl rfl rfl oM oM ?_; refine AList.loadA tyOk rfl rfl rfl rfl rfl rfl rfl oM oM ?_; refine AList.loadA tyOk rfl rfl rfl rfl rfl rfl rfl oM oM ?_; refine AList.call rfl rfl rfl rfl Try.func36 rfl (by kernel_rfl) (hAll) ?_; refine AList.assign rfl rfl rfl ?_; refine AList.nil ?_)
      | (refine AWp.region (id := 2) ?_; refine AList.assign rfl rfl rfl ?_; refine AList.nil ?_))
    refine AWp.round (fun k : Nat => mkSt 37 [(5, .c (.pt 5 3 0 0)), (6, .c (.pt 6 3 0 0)), (7, .c (.pt 7 4 0 0)), (8, .c (.pt 8 4 0 0)), (9, .c (.pt 9 3 0 0)), (11, .c (.ls n 3 (rowF clC clZ L))), (12, .c (iC k))] [(5, ⟨false, 1, 3, 27, lF (bpC a)⟩), (6, ⟨false, 1, 3, 27, lF (bpC b)⟩), (7, ⟨false, 1, 4, 29, lF (bgC x)⟩), (8, ⟨false, 1, 4, 29, lF (bgC y)⟩), (9, ⟨false, 1, 3, 40, lF (clC c)⟩)] [5, 6, 7, 8, 9])
      (fun k => k ≤ k0) (fun k => n - k) 0 (Nat.zero_le _) ?_ (fun k hk => ?_)
    · refine Wk.mk [(5, some 5), (6, some 6), (7, some 7), (8, some 8), (9, some 9)] rfl rfl rfl ?_ ?_
      · repeat (first | exact trivial | refine ⟨⟨_, rfl, by first | exact LeA.c (LeC.refl _ rfl) | exact LeA.c (LeC.ow _ _ rfl) | exact LeA.c (LeC.pt _ _ _ _ _ rfl) | exact LeA.c (LeC.nil _ rfl) | exact LeA.c (LeC.nils _ _) | (refine LeA.int ?_; omega) | (refine LeA.int ?_; dsimp only; omega) | exact LeA.c (LeC.fz rfl rfl (by first | rfl | omega) (fun i _ j _ => ⟨rfl, by first | rfl | exact rowN_imm (fun _ => rfl) _ i j | exact rowF_imm (fun _ => rfl) _ i j⟩))⟩, ?_⟩)
      · repeat (first | exact trivial | refine ⟨by first | exact HeapOk.same rfl rfl rfl rfl | exact HeapOk.lent rfl rfl rfl rfl | exact HeapOk.nil rfl rfl | exact HeapOk.row rfl rfl (by first | rfl | omega) (fun i _ j _ => ⟨rfl, by first | rfl | exact rowN_imm (fun _ => rfl) _ i j | exact rowF_imm (fun _ => rfl) _ i j⟩) | exact HeapOk.box rfl rfl (by repeat (first | exact trivial | refine ⟨by first | exact LeC.refl _ rfl | exact LeC.ow _ _ rfl | exact LeC.nil _ rfl | exact LeC.nils _ _ | exact LeC.fz rfl rfl (by first | rfl | omega) (fun i _ j _ => ⟨rfl, by first | rfl | exact rowN_imm (fun _ => rfl) _ i j | exact rowF_imm (fun _ => rfl) _ i j⟩) | exact LeC.int (by omega), ?_⟩)) rfl, ?_⟩)
    · have hkn : k < n := by omega
      by_cases hkk : k < k0
      · have he : ¬ L.getD k clZ = c := of_decide_eq_false (hno k hkk)
        have hne : ∀ w, (Go.binOp .eql 40 _ _).run Try.prog w = .ok (.bool false) w := fun w => (cl_eq (L.getD k clZ) c w).trans (by rw [decide_eq_false he])
        repeat (first
          | refine AWp.seq ?_
          | refine thenA_n ?_
          | refine AWp.block ?_
          | refine AWp.skip ?_
          | refine inBlk_n ?_
          | refine AWp.condT rfl (by first | rfl | assumption | exact cmT) ?_
          | refine AWp.condF rfl (by first | rfl | assumption | exact cmF) ?_
          | (refine AWp.region (id := 3) ?_; refine AList.move rfl rfl rfl ?_; refine AList.move rfl rfl rfl ?_; refine AList.lenLs tyOk rfl rfl rfl rfl rfl ?_; refine AList.cmpT rfl rfl rfl rfl rfl cmT ?_; refine AList.nil ?_)
          | (refine AWp.region (id := 4) ?_; refine AList.move rfl rfl rfl ?_; refine AList.add rfl rfl rfl rfl (by omega) (by omega) ?_; refine AList.assign rfl rfl rfl ?_; refine AList.nil ?_)
          | (refine AWp.draw (id := 5) mixed ?_; refine AList.move rfl rfl rfl ?_; refine AList.move rfl rfl rfl ?_; refine AList.idx (k := k) tyOk rfl rfl rfl rfl rfl rfl rfl rfl (by first | rfl | omega) oM oM ?_; refine AList.loadAl tyOk rfl rfl rfl rfl rfl oM ?_; refine AList.loadA tyOk rfl rfl rfl rfl rfl rfl rfl oM oM ?_; refine AList.binAg rfl rfl rfl rfl rfl rfl (by kernel_rfl) (hne) ?_; refine AList.nil ⟨by kernel_rfl, ?_⟩))
        refine ⟨k + 1, hkk, Wk.mk [(5, some 5), (6, some 6), (7, some 7), (8, some 8), (9, some 9)] rfl rfl rfl ?_ ?_, by omega⟩
        · repeat (first | exact trivial | refine ⟨⟨_, rfl, by first | exact LeA.c (LeC.refl _ rfl) | exact LeA.c (LeC.ow _ _ rfl) | exact LeA.c (LeC.pt _ _ _ _ _ rfl) | exact LeA.c (LeC.nil _ rfl) | exact LeA.c (LeC.nils _ _) | (refine LeA.int ?_; omega) | (refine LeA.int ?_; dsimp only; omega) | exact LeA.c (LeC.fz rfl rfl (by first | rfl | omega) (fun i _ j _ => ⟨rfl, by first | rfl | exact rowN_imm (fun _ => rfl) _ i j | exact rowF_imm (fun _ => rfl) _ i j⟩))⟩, ?_⟩)
        · repeat (first | exact trivial | refine ⟨by first | exact HeapOk.same rfl rfl rfl rfl | exact HeapOk.lent rfl rfl rfl rfl | exact HeapOk.nil rfl rfl | exact HeapOk.row rfl rfl (by first | rfl | omega) (fun i _ j _ => ⟨rfl, by first | rfl | exact rowN_imm (fun _ => rfl) _ i j | exact rowF_imm (fun _ => rfl) _ i j⟩) | exact HeapOk.box rfl rfl (by repeat (first | exact trivial | refine ⟨by first | exact LeC.refl _ rfl | exact LeC.ow _ _ rfl | exact LeC.nil _ rfl | exact LeC.nils _ _ | exact LeC.fz rfl rfl (by first | rfl | omega) (fun i _ j _ => ⟨rfl, by first | rfl | exact rowN_imm (fun _ => rfl) _ i j | exact rowF_imm (fun _ => rfl) _ i j⟩) | exact LeC.int (by omega), ?_⟩)) rfl, ?_⟩)
      · obtain rfl : k = k0 := by omega
        have hne : ∀ w, (Go.binOp .eql 40 _ _).run Try.prog w = .ok (.bool true) w := fun w => (cl_eq (L.getD k clZ) c w).trans (by rw [decide_eq_true hb'])
        by_cases hx : xsV a b x y c ≤ 0
        · rw [decide_eq_true hx]
          repeat (first
            | refine AWp.seq ?_
            | refine thenA_n ?_
            | refine AWp.block ?_
            | refine AWp.skip ?_
            | refine AWp.ret ?_
            | refine thenA_r ?_
            | refine inBlk_r ?_
            | refine AWp.condT rfl (by first | rfl | assumption | exact cmT) ?_
            | (refine AWp.region (id := 3) ?_; refine AList.move rfl rfl rfl ?_; refine AList.move rfl rfl rfl ?_; refine AList.lenLs tyOk rfl rfl rfl rfl rfl ?_; refine AList.cmpT rfl rfl rfl rfl rfl cmT ?_; refine AList.nil ?_)
            | (refine AWp.draw (id := 5) mixed ?_; refine AList.move rfl rfl rfl ?_; refine AList.move rfl rfl rfl ?_; refine AList.idx (k := k) tyOk rfl rfl rfl rfl rfl rfl rfl rfl (by first | rfl | omega) oM oM ?_; refine AList.loadAl tyOk rfl rfl rfl rfl rfl oM ?_; refine AList.loadA tyOk rfl rfl rfl rfl rfl rfl rfl oM oM ?_; refine AList.binAg rfl rfl rfl rfl rfl rfl (by kernel_rfl) (hne) ?_; refine AList.nil ⟨by kernel_rfl, ?_⟩)
            | (refine AWp.region (id := 6) ?_; refine AList.loadA tyOk rfl rfl rfl rfl rfl rfl rfl oM oM ?_; refine AList.loadA tyOk rfl rfl rfl rfl rfl rfl rfl oM oM ?_; refine AList.loadA tyOk rfl rfl rfl rfl rfl rfl rfl oM oM ?_; refine AList.loadA tyOk rfl rfl rfl rfl rfl rfl rfl oM oM ?_; refine AList.loadA tyOk rfl rfl rfl rfl rfl rfl rfl oM oM ?_; refine AList.call rfl rfl rfl rfl Try.func37 rfl (by kernel_rfl) (hEc) ?_; refine AList.cmpT rfl rfl rfl rfl rfl cmT ?_; refine AList.assign rfl rfl rfl ?_; refine AList.nil ?_))
          refine ⟨mkSt 37 [(10, .c (bC true))] [] [], [], Wk.mk [] rfl rfl rfl ?_ trivial, rfl, rfl, ARets.one (x := .c _) (ARes.tmp rfl rfl)⟩
          repeat (first | exact trivial | refine ⟨⟨_, rfl, by first | exact LeA.c (LeC.refl _ rfl) | exact LeA.c (LeC.ow _ _ rfl) | exact LeA.c (LeC.pt _ _ _ _ _ rfl) | exact LeA.c (LeC.nil _ rfl) | exact LeA.c (LeC.nils _ _) | (refine LeA.int ?_; omega) | (refine LeA.int ?_; dsimp only; omega) | exact LeA.c (LeC.fz rfl rfl (by first | rfl | omega) (fun i _ j _ => ⟨rfl, by first | rfl | exact rowN_imm (fun _ => rfl) _ i j | exact rowF_imm (fun _ => rfl) _ i j⟩))⟩, ?_⟩)
        · rw [decide_eq_false hx]
          repeat (first
            | refine AWp.seq ?_
            | refine thenA_n ?_
            | refine AWp.block ?_
            | refine AWp.skip ?_
            | refine AWp.ret ?_
            | refine thenA_r ?_
            | refine inBlk_r ?_
            | refine AWp.condT rfl (by first | rfl | assumption | exact cmT) ?_
            | (refine AWp.region (id := 3) ?_; refine AList.move rfl rfl rfl ?_; refine AList.move rfl rfl rfl ?_; refine AList.lenLs tyOk rfl rfl rfl rfl rfl ?_; refine AList.cmpT rfl rfl rfl rfl rfl cmT ?_; refine AList.nil ?_)
            | (refine AWp.draw (id := 5) mixed ?_; refine AList.move rfl rfl rfl ?_; refine AList.move rfl rfl rfl ?_; refine AList.idx (k := k) tyOk rfl rfl rfl rfl rfl rfl rfl rfl (by first | rfl | omega) oM oM ?_; refine AList.loadAl tyOk rfl rfl rfl rfl rfl oM ?_; refine AList.loadA tyOk rfl rfl rfl rfl rfl rfl rfl oM oM ?_; refine AList.binAg rfl rfl rfl rfl rfl rfl (by kernel_rfl) (hne) ?_; refine AList.nil ⟨by kernel_rfl, ?_⟩)
            | (refine AWp.region (id := 6) ?_; refine AList.loadA tyOk rfl rfl rfl rfl rfl rfl rfl oM oM ?_; refine AList.loadA tyOk rfl rfl rfl rfl rfl rfl rfl oM oM ?_; refine AList.loadA tyOk rfl rfl rfl rfl rfl rfl rfl oM oM ?_; refine AList.loadA tyOk rfl rfl rfl rfl rfl rfl rfl oM oM ?_; refine AList.loadA tyOk rfl rfl rfl rfl rfl rfl rfl oM oM ?_; refine AList.call rfl rfl rfl rfl Try.func37 rfl (by kernel_rfl) (hEc) ?_; refine AList.cmpF rfl rfl rfl rfl rfl cmF ?_; refine AList.assign rfl rfl rfl ?_; refine AList.nil ?_))
          refine ⟨mkSt 37 [(10, .c (bC false))] [] [], [], Wk.mk [] rfl rfl rfl ?_ trivial, rfl, rfl, ARets.one (x := .c _) (ARes.tmp rfl rfl)⟩
          repeat (first | exact trivial | refine ⟨⟨_, rfl, by first | exact LeA.c (LeC.refl _ rfl) | exact LeA.c (LeC.ow _ _ rfl) | exact LeA.c (LeC.pt _ _ _ _ _ rfl) | exact LeA.c (LeC.nil _ rfl) | exact LeA.c (LeC.nils _ _) | (refine LeA.int ?_; omega) | (refine LeA.int ?_; dsimp only; omega) | exact LeA.c (LeC.fz rfl rfl (by first | rfl | omega) (fun i _ j _ => ⟨rfl, by first | rfl | exact rowN_imm (fun _ => rfl) _ i j | exact rowF_imm (fun _ => rfl) _ i j⟩))⟩, ?_⟩)
set_option maxRecDepth 100000 in
theorem part_A (n m : Int) (hm : 0 ≤ m ∧ m ≤ 2) : ACalls Try.prog 53 [.c (iC n), .c (iC m)] (.c (iC (max (-m) (min m n)))) := by
  refine acalls_at Try.func53 rfl rfl Try.ntmps53 rfl ?_
  repeat (first
    | refine AWp.seq ?_
    | refine thenA_n ?_
    | refine AWp.ret ?_
    | (refine AWp.region (id := 0) ?_; refine AList.assign rfl rfl rfl ?_; refine AList.nil ?_)
    | (refine AWp.region (id := 1) ?_; refine AList.move rfl rfl rfl ?_; refine AList.neg rfl rfl rfl (by omega) (by omega) ?_; refine AList.move rfl rfl rfl ?_; refine AList.move rfl rfl rfl ?_; refine AList.minI rfl rfl rfl rfl ?_; refine AList.maxI rfl rfl rfl rfl ?_; refine AList.assign rfl rfl rfl ?_; refine AList.nil ?_))
  refine ⟨mkSt 11 [(4, .c (iC (max (-m) (min m n))))] [] [], [], Wk.mk [] rfl rfl rfl ?_ trivial, rfl, rfl, ARets.one (x := .c _) (ARes.tmp rfl rfl)⟩
  repeat (first | exact trivial | refine ⟨⟨_, rfl, by first | exact LeA.c (LeC.refl _ rfl) | exact LeA.c (LeC.ow _ _ rfl) | exact LeA.c (LeC.pt _ _ _ _ _ rfl) | exact LeA.c (LeC.nil _ rfl) | exact LeA.c (LeC.nils _ _) | (refine LeA.int ?_; omega) | (refine LeA.int ?_; dsimp only; omega) | exact LeA.c (LeC.fz rfl rfl (by first | rfl | omega) (fun i _ j _ => ⟨rfl, by first | rfl | exact rowN_imm (fun _ => rfl) _ i j | exact rowF_imm (fun _ => rfl) _ i j⟩))⟩, ?_⟩)
end Go.Proofs.Ytijaioiojclooaa
end
