/- Parts of the proof: A01. -/
import Derived.Test.YtijaioiojclooaaG11
set_option linter.unusedSimpArgs false
set_option linter.unusedVariables false
section
namespace Go.Proofs.Ytijaioiojclooaa
open Go.RowKit Go.Flow Go.AV
theorem Mod_A (n m : Int) (hm : 0 < m) (hM : m ≤ 1000000) : ACalls Try.prog 31 [.c (iC n), .c (iC m)] (.c (iC (n % m))) :=
  ACalls.old rfl fun O w vals h => by
    obtain ⟨x, y, rfl, h1, h2⟩ := args2 h
    cases rep_c h1
    cases rep_c h2
    exact (Mod_any n m hm hM w).mono fun e w' ⟨a, b⟩ => ⟨a, b ▸ Ext.refl w⟩
abbrev drawB (N : Nat) (f : Nat → Int) (a : Nat) : AB := ⟨false, 1, 2, 106, lF [.ls N 1 (iF f), iC a]⟩
set_option maxRecDepth 100000 in
theorem Next_A (N : Nat) (f : Nat → Int) (a : Nat) (m : Int) (ha : a ≤ N) (hN : N ≤ 4611686018427387904) (hm : 0 < m) (hM : m ≤ 1000000) :
    HCalls Try.prog 60 [.c (.pt 1000 2 0 0), .c (iC m)] [(1000, drawB N f a)] (.c (iC (dval N f a m))) [(1000, drawB N f (dat N a))] := by
  by_cases hlt : a < N
  · have e1 : dval N f a m = f a % m := if_pos hlt
    have e2 : dat N a = a + 1 := if_pos hlt
    rw [e1, e2]
    refine hcalls_at Try.func60 rfl rfl Try.ntmps60 rfl rfl (fun p hp => by cases hp with | head => exact fun k j _ _ => lF_imm rfl k j | tail _ h => cases h) ?_
    repeat (first
      | refine AWp.seq ?_
      | refine thenA_n ?_
      | refine AWp.skip ?_
      | refine AWp.ret ?_
      | refine AWp.condF rfl (by first | rfl | assumption | exact cmF) ?_
      | (refine AWp.region (id := 0) ?_; refine AList.assign rfl rfl rfl ?_; refine AList.nil ?_)
      | (refine AWp.draw (id := 1) mixed ?_; refine AList.move rfl rfl rfl ?_; refine AList.nilPt rfl rfl rfl rfl ?_; refine AList.fieldPt tyOk rfl rfl rfl rfl rfl rfl rfl ?_; refine AList.load1 tyOk rfl rfl rfl rfl rfl rfl rfl oM oM ?_; refine AList.move rfl rfl rfl ?_; refine AList.nilPt rfl rfl rfl rfl ?_; refine AList.fieldPt tyOk rfl rfl rfl rfl rfl rfl rfl ?_; refine AList.load1 tyOk rfl rfl rfl rfl rfl rfl rfl oM oM ?_; refine AList.lenLs tyOk rfl rfl rfl rfl rfl ?_; refine AList.cmpF rfl rfl rfl rfl rfl cmF ?_; refine AList.nil ⟨by kernel_rfl, ?_⟩)
      | (refine AWp.region (id := 3) ?_; refine AList.move rfl rfl rfl ?_; refine AList.nilPt rfl rfl rfl rfl ?_; refine AList.fieldPt tyOk rfl rfl rfl rfl rfl rfl rfl ?_; refine AList.load1 tyOk rfl rfl rfl rfl rfl rfl rfl oM oM ?_; refine AList.add rfl rfl rfl rfl (by omega) (by omega) ?_; refine AList.nilPt rfl rfl rfl rfl ?_; refine AList.fieldPt tyOk rfl rfl rfl rfl rfl rfl rfl ?_; refine AList.store tyOk rfl rfl rfl rfl rfl rfl rfl rfl oM oM ?_; refine AList.nil ?_)
      | (refine AWp.draw (id := 4) mixed ?_; refine AList.move rfl rfl rfl ?_; refine AList.nilPt rfl rfl rfl rfl ?_; refine AList.fieldPt tyOk rfl rfl rfl rfl rfl rfl rfl ?_; refine AList.load1 tyOk rfl rfl rfl rfl rfl rfl rfl oM oM ?_; refine AList.move rfl rfl rfl ?_; refine AList.nilPt rfl rfl rfl rfl ?_; refine AList.fieldPt tyOk rfl rfl rfl rfl rfl rfl rfl ?_; refine AList.load1 tyOk rfl rfl rfl rfl rfl rfl rfl oM oM ?_; refine AList.sub rfl rfl rfl rfl (by omega) (by omega) ?_; refine AList.idx (k := a) tyOk rfl rfl rfl rfl rfl rfl rfl rfl (by first | rfl | omega) oM oM ?_; refine AList.load1l tyOk rfl rfl rfl rfl rfl oM ?_; refine AList.move rfl rfl rfl ?_; refine AList.call rfl rfl rfl rfl Try.func31 rfl (by kernel_rfl) (Mod_A (f a) m hm hM) ?_; refine AList.assign rfl rfl rfl ?_; refine AList.nil ⟨by kernel_rfl, ?_⟩))
    refine ⟨mkL 35 1 [(4, .c (iC (f a % m)))] [(1000, drawB N f (a + 1))] [], [], Wk.mkL [] rfl rfl rfl rfl rfl ?_ ?_, rfl, rfl, ARets.one (x := .c _) (ARes.tmp rfl rfl)⟩
    · repeat (first | exact trivial | refine ⟨⟨_, rfl, by first | exact LeA.c (LeC.refl _ rfl) | exact LeA.c (LeC.ow _ _ rfl) | exact LeA.c (LeC.pt _ _ _ _ _ rfl) | exact LeA.c (LeC.nil _ rfl) | exact LeA.c (LeC.nils _ _) | (refine LeA.int ?_; omega) | (refine LeA.int ?_; dsimp only; omega) | exact LeA.c (LeC.fz rfl rfl (by first | rfl | omega) (fun i _ j _ => ⟨rfl, by first | rfl | exact rowN_imm (fun _ => rfl) _ i j | exact rowF_imm (fun _ => rfl) _ i j⟩))⟩, ?_⟩)
    · repeat (first | exact trivial | refine ⟨by first | exact HeapOk.same rfl rfl rfl rfl | exact HeapOk.lent rfl rfl rfl rfl | exact HeapOk.nil rfl rfl | exact HeapOk.row rfl rfl (by first | rfl | omega) (fun i _ j _ => ⟨rfl, by first | rfl | exact rowN_imm (fun _ => rfl) _ i j | exact rowF_imm (fun _ => rfl) _ i j⟩) | exact HeapOk.box rfl rfl (by repeat (first | exact trivial | refine ⟨by first | exact LeC.refl _ rfl | exact LeC.ow _ _ rfl | exact LeC.nil _ rfl | exact LeC.nils _ _ | exact LeC.fz rfl rfl (by first | rfl | omega) (fun i _ j _ => ⟨rfl, by first | rfl | exact rowN_imm (fun _ => rfl) _ i j | exact rowF_imm (fun _ => rfl) _ i j⟩) | exact LeC.int (by omega), ?_⟩)) rfl, ?_⟩)
  · have e1 : dval N f a m = 0 := if_neg hlt
    have e2 : dat N a = a := if_neg hlt
    rw [e1, e2]
    refine hcalls_at Try.func60 rfl rfl Try.ntmps60 rfl rfl (fun p hp => by cases hp with | head => exact fun k j _ _ => lF_imm rfl k j | tail _ h => cases h) ?_
    repeat (first
      | refine AWp.seq ?_
      | refine thenA_n ?_
      | refine AWp.ret ?_
      | refine thenA_r ?_
      | refine AWp.condT rfl (by first | rfl | assumption | exact cmT) ?_
      | (refine AWp.region (id := 0) ?_; refine AList.assign rfl rfl rfl ?_; refine AList.nil ?_)
      | (refine AWp.draw (id := 1) mixed ?_; refine AList.move rfl rfl rfl ?_; refine AList.nilPt rfl rfl rfl rfl ?_; refine AList.fieldPt tyOk rfl rfl rfl rfl rfl rfl rfl ?_; refine AList.load1 tyOk rfl rfl rfl rfl rfl rfl rfl oM oM ?_; refine AList.move rfl rfl rfl ?_; refine AList.nilPt rfl rfl rfl rfl ?_; refine AList.fieldPt tyOk rfl rfl rfl rfl rfl rfl rfl ?_; refine AList.load1 tyOk rfl rfl rfl rfl rfl rfl rfl oM oM ?_; refine AList.lenLs tyOk rfl rfl rfl rfl rfl ?_; refine AList.cmpT rfl rfl rfl rfl rfl cmT ?_; refine AList.nil ⟨by kernel_rfl, ?_⟩)
      | (refine AWp.region (id := 2) ?_; refine AList.assign rfl rfl rfl ?_; refine AList.nil ?_))
    refine ⟨mkL 35 1 [(4, .c (iC 0))] [(1000, drawB N f a)] [], [], Wk.mkL [] rfl rfl rfl rfl rfl ?_ ?_, rfl, rfl, ARets.one (x := .c _) (ARes.tmp rfl rfl)⟩
    · repeat (first | exact trivial | refine ⟨⟨_, rfl, by first | exact LeA.c (LeC.refl _ rfl) | exact LeA.c (LeC.ow _ _ rfl) | exact LeA.c (LeC.pt _ _ _ _ _ rfl) | exact LeA.c (LeC.nil _ rfl) | exact LeA.c (LeC.nils _ _) | (refine LeA.int ?_; omega) | (refine LeA.int ?_; dsimp only; omega) | exact LeA.c (LeC.fz rfl rfl (by first | rfl | omega) (fun i _ j _ => ⟨rfl, by first | rfl | exact rowN_imm (fun _ => rfl) _ i j | exact rowF_imm (fun _ => rfl) _ i j⟩))⟩, ?_⟩)
    · repeat (first | exact trivial | refine ⟨by first | exact HeapOk.same rfl rfl rfl rfl | exact HeapOk.lent rfl rfl rfl rfl | exact HeapOk.nil rfl rfl | exact HeapOk.row rfl rfl (by first | rfl | omega) (fun i _ j _ => ⟨rfl, by first | rfl | exact rowN_imm (fun _ => rfl) _ i j | exact rowF_imm (fun _ => rfl) _ i j⟩) | exact HeapOk.box rfl rfl (by repeat (first | exact trivial | refine ⟨by first | exact LeC.refl _ rfl | exact LeC.ow _ _ rfl | exact LeC.nil _ rfl | exact LeC.nils _ _ | exact LeC.fz rfl rfl (by first | rfl | omega) (fun i _ j _ => ⟨rfl, by first | rfl | exact rowN_imm (fun _ => rfl) _ i j | exact rowF_imm (fun _ => rfl) _ i j⟩) | exact LeC.int (by omega), ?_⟩)) rfl, ?_⟩)
end Go.Proofs.Ytijaioiojclooaa
end
