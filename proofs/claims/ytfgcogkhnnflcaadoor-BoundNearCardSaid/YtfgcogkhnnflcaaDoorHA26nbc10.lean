/- Parts of the proof: A01, A23a, A23c, A23f, A23l, A23n, A24i, A23q, A23s. -/
import Derived.Test.YtfgcogkhnnflcaaDoorG14
import Derived.Test.YtfgcogkhnnflcaaDoorHA26nbc04
import Derived.Test.YtfgcogkhnnflcaaDoorG13
import Derived.Test.YtfgcogkhnnflcaaDoorProg
import Derived.Test.YtfgcogkhnnflcaaDoorG11
import Derived.Test.YtfgcogkhnnflcaaDoorG01
import Derived.Test.YtfgcogkhnnflcaaDoorHA26nbc01
import Derived.Test.YtfgcogkhnnflcaaDoorG06
import Derived.Test.YtfgcogkhnnflcaaDoorHA26nbc03
import Derived.Laws.StructEq
import Derived.Lib.Hide
import Derived.Deep.QuietTactic
import Derived.BigQuiet
import Derived.Deep.DrawnRows
import Derived.Test.YtfgcogkhnnflcaaDoorG04
import Derived.Deep.AppendLies
import Derived.Maps.AppendAt
import Derived.OwnWalk
import Derived.StillTail
import Derived.Below
import Derived.Deep.Draws
import Derived.WalkKit
import Derived.KernelRfl
import Derived.Test.YtfgcogkhnnflcaaDoorG10
import Derived.Test.YtfgcogkhnnflcaaDoorHA26nbc02
import Derived.Great.BuildSlice
import Derived.Test.YtfgcogkhnnflcaaDoorG09
import Derived.RangeFuncLeaves
import Derived.RangeFuncRecord
import Derived.Test.YtfgcogkhnnflcaaDoorG08
import Derived.OrdersIn
import Derived.TacticsIn
import Derived.RangeFuncCalls
import Derived.Test.YtfgcogkhnnflcaaDoorG16
import Derived.Laws.Cover3
import Derived.Test.YtfgcogkhnnflcaaDoorG02
import Derived.Test.YtfgcogkhnnflcaaDoorG05
import Derived.Test.YtfgcogkhnnflcaaDoorHA26nbc09
import Derived.Test.YtfgcogkhnnflcaaDoorHA26nbc08
import Derived.Test.YtfgcogkhnnflcaaDoorHA26nbc07
import Derived.Test.YtfgcogkhnnflcaaDoorHA26nbc06
import Derived.Test.YtfgcogkhnnflcaaDoorHA26nbc05
import Derived.Test.YtfgcogkhnnflcaaDoorG12
import Derived.Test.YtfgcogkhnnflcaaDoorG15
import Derived.Shelf.Abstract
import Derived.RangeFuncNested
set_option linter.unusedSimpArgs false
set_option linter.unusedVariables false
section
namespace Go.Proofs.YtfgcogkhnnflcaaDoor
open Go.RowKit Go.Flow Go.AV
theorem Mod_A (n m : Int) (hm : 0 < m) (hM : m ≤ 1000000) : ACalls Tryd.prog 42 [.c (iC n), .c (iC m)] (.c (iC (n % m))) :=
  ACalls.old rfl fun O w vals h => by
    obtain ⟨x, y, rfl, h1, h2⟩ := args2 h
    cases rep_c h1
    cases rep_c h2
    exact (Mod_any n m hm hM w).mono fun e w' ⟨a, b⟩ => ⟨a, b ▸ Ext.refl w⟩
abbrev drawB (N : Nat) (f : Nat → Int) (a : Nat) : AB := ⟨false, 1, 2, 61, lF [.ls N 1 (iF f), iC a]⟩
set_option maxRecDepth 100000 in
theorem Next_A (N : Nat) (f : Nat → Int) (a : Nat) (m : Int) (ha : a ≤ N) (hN : N ≤ 4611686018427387904) (hm : 0 < m) (hM : m ≤ 1000000) :
    HCalls Tryd.prog 25 [.c (.pt 1000 2 0 0), .c (iC m)] [(1000, drawB N f a)] (.c (iC (dval N f a m))) [(1000, drawB N f (dat N a))] := by
  by_cases hlt : a < N
  · have e1 : dval N f a m = f a % m := if_pos hlt
    have e2 : dat N a = a + 1 := if_pos hlt
    rw [e1, e2]
    refine hcalls_at Tryd.func25 rfl rfl Tryd.ntmps25 rfl rfl (fun p hp => by cases hp with | head => exact fun k j _ _ => lF_imm rfl k j | tail _ h => cases h) ?_
    repeat (first
      | refine AWp.seq ?_
      | refine thenA_n ?_
      | refine AWp.skip ?_
      | refine AWp.ret ?_
      | refine AWp.condF rfl (by first | rfl | assumption | exact cmF) ?_
      | (refine AWp.region (id := 0) ?_; refine AList.assign rfl rfl rfl ?_; refine AList.nil ?_)
      | (refine AWp.draw (id := 1) mixed ?_; refine AList.move rfl rfl rfl ?_; refine AList.nilPt rfl rfl rfl rfl ?_; refine AList.fieldPt tyOk rfl rfl rfl rfl rfl rfl rfl ?_; refine AList.load1 tyOk rfl rfl rfl rfl rfl rfl rfl oM oM ?_; refine AList.move rfl rfl rfl ?_; refine AList.nilPt rfl rfl rfl rfl ?_; refine AList.fieldPt tyOk rfl rfl rfl rfl rfl rfl rfl ?_; refine AList.load1 tyOk rfl rfl rfl rfl rfl rfl rfl oM oM ?_; refine AList.lenLs tyOk rfl rfl rfl rfl rfl ?_; refine AList.cmpF rfl rfl rfl rfl rfl cmF ?_; refine AList.nil ⟨by kernel_rfl, ?_⟩)
      | (refine AWp.region (id := 3) ?_; refine AList.move rfl rfl rfl ?_; refine AList.nilPt rfl rfl rfl rfl ?_; refine AList.fieldPt tyOk rfl rfl rfl rfl rfl rfl rfl ?_; refine AList.load1 tyOk rfl rfl rfl rfl rfl rfl rfl oM oM ?_; refine AList.add rfl rfl rfl rfl (by omega) (by omega) ?_; refine AList.nilPt rfl rfl rfl rfl ?_; refine AList.fieldPt tyOk rfl rfl rfl rfl rfl rfl rfl ?_; refine AList.store tyOk rfl rfl rfl rfl rfl rfl rfl rfl oM oM ?_; refine AList.nil ?_)
      | (refine AWp.draw (id := 4) mixed ?_; refine AList.move rfl rfl rfl ?_; refine AList.nilPt rfl rfl rfl rfl ?_; refine AList.fieldPt tyOk rfl rfl rfl rfl rfl rfl rfl ?_; refine AList.load1 tyOk rfl rfl rfl rfl rfl rfl rfl oM oM ?_; refine AList.move rfl rfl rfl ?_; refine AList.nilPt rfl rfl rfl rfl ?_; refine AList.fieldPt tyOk rfl rfl rfl rfl rfl rfl rfl ?_; refine AList.load1 tyOk rfl rfl rfl rfl rfl rfl rfl oM oM ?_; refine AList.sub rfl rfl rfl rfl (by omega) (by omega) ?_; refine AList.idx (k := a) tyOk rfl rfl rfl rfl rfl rfl rfl rfl (by first | rfl | omega) oM oM ?_; refine AList.load1l tyOk rfl rfl rfl rfl rfl oM ?_; refine AList.move rfl rfl rfl ?_; refine AList.call rfl rfl rfl rfl Tryd.func42 rfl (by kernel_rfl) (Mod_A (f a) m hm hM) ?_; refine AList.assign rfl rfl rfl ?_; refine AList.nil ⟨by kernel_rfl, ?_⟩))
    refine ⟨mkL 35 1 [(4, .c (iC (f a % m)))] [(1000, drawB N f (a + 1))] [], [], Wk.mkL [] rfl rfl rfl rfl rfl ?_ ?_, rfl, rfl, ARets.one (x := .c _) (ARes.tmp rfl rfl)⟩
    · repeat (first | exact trivial | refine ⟨⟨_, rfl, by first | exact LeA.c (LeC.refl _ rfl) | exact LeA.c (LeC.ow _ _ rfl) | exact LeA.c (LeC.pt _ _ _ _ _ rfl) | exact LeA.c (LeC.nil _ rfl) | exact LeA.c (LeC.nils _ _) | (refine LeA.int ?_; omega) | (refine LeA.int ?_; dsimp only; omega) | exact LeA.c (LeC.fz rfl rfl (by first | rfl | omega) (fun i _ j _ => ⟨rfl, by first | rfl | exact rowN_imm (fun _ => rfl) _ i j | exact rowF_imm (fun _ => rfl) _ i j⟩))⟩, ?_⟩)
    · repeat (first | exact trivial | refine ⟨by first | exact HeapOk.same rfl rfl rfl rfl | exact HeapOk.lent rfl rfl rfl rfl | exact HeapOk.nil rfl rfl | exact HeapOk.row rfl rfl (by first | rfl | omega) (fun i _ j _ => ⟨rfl, by first | rfl | exact rowN_imm (fun _ => rfl) _ i j | exact rowF_imm (fun _ => rfl) _ i j⟩) | exact HeapOk.box rfl rfl (by repeat (first | exact trivial | refine ⟨by first | exact LeC.refl _ rfl | exact LeC.ow _ _ rfl | exact LeC.nil _ rfl | exact LeC.nils _ _ | exact LeC.fz rfl rfl (by first | rfl | omega) (fun i _ j _ => ⟨rfl, by first | rfl | exact rowN_imm (fun _ => rfl) _ i j | exact rowF_imm (fun _ => rfl) _ i j⟩) | exact LeC.int (by omega), ?_⟩)) rfl, ?_⟩)
  · have e1 : dval N f a m = 0 := if_neg hlt
    have e2 : dat N a = a := if_neg hlt
    rw [e1, e2]
    refine hcalls_at Tryd.func25 rfl rfl Tryd.ntmps25 rfl rfl (fun p hp => by cases hp with | head => exact fun k j _ _ => lF_imm rfl k j | tail _ h => cases h) ?_
    repeat (first
      | refine AWp.seq ?_
      | refine thenA_n ?_
      | refine AWp.ret ?_
      | refine thenA_r ?_
      | refine AWp.condT rfl (by first | rfl | assumption | exact cmT) ?_
      | (refine AWp.region (id := 0) ?_; refine AList.assign rfl rfl rfl ?_; refine AList.nil ?_)
      | (refine AWp.draw (id := 1) mixed ?_; refine AList.move rfl rfl rfl ?_; refine AList.nilPt rfl rfl rfl rfl ?_; refine AList.fieldPt tyOk rfl rfl rfl rfl rfl rfl rfl ?_; refine AList.load1 tyOk rfl rfl rfl rfl rfl rfl rfl oM oM ?_; refine AList.move rfl rfl rfl ?_; refine AList.nilPt rfl rfl rfl rfl ?_; refine AList.fieldPt tyOk rfl rfl rfl rfl rfl rfl rfl ?_; refine AList.load1 tyOk rfl rfl rfl rfl rfl rfl rfl oM oM ?_; refine AList.lenLs tyOk rfl rfl rfl rfl rfl ?_; refine AList.cmpT rfl rfl rfl rfl rfl cmT ?_; refine AList.nil ⟨by kernel_rfl, ?_⟩)
      | (refine AWp.region (id := 2) ?_; refine AList.assign rfl rfl rfl ?_; refine AList.nil ?_))
    refine ⟨mkL 35 1 [(4, .c (iC 0))] [(1000, drawB N f a)] [], [], Wk.mkL [] rfl rfl rfl rfl rfl ?_ ?_, rfl, rfl, ARets.one (x := .c _) (ARes.tmp rfl rfl)⟩
    · repeat (first | exact trivial | refine ⟨⟨_, rfl, by first | exact LeA.c (LeC.refl _ rfl) | exact LeA.c (LeC.ow _ _ rfl) | exact LeA.c (LeC.pt _ _ _ _ _ rfl) | exact LeA.c (LeC.nil _ rfl) | exact LeA.c (LeC.nils _ _) | (refine LeA.int ?_; omega) | (refine LeA.int ?_; dsimp only; omega) | exact LeA.c (LeC.fz rfl rfl (by first | rfl | omega) (fun i _ j _ => ⟨rfl, by first | rfl | exact rowN_imm (fun _ => rfl) _ i j | exact rowF_imm (fun _ => rfl) _ i j⟩))⟩, ?_⟩)
    · repeat (first | exact trivial | refine ⟨by first | exact HeapOk.same rfl rfl rfl rfl | exact HeapOk.lent rfl rfl rfl rfl | exact HeapOk.nil rfl rfl | exact HeapOk.row rfl rfl (by first | rfl | omega) (fun i _ j _ => ⟨rfl, by first | rfl | exact rowN_imm (fun _ => rfl) _ i j | exact rowF_imm (fun _ => rfl) _ i j⟩) | exact HeapOk.box rfl rfl (by repeat (first | exact trivial | refine ⟨by first | exact LeC.refl _ rfl | exact LeC.ow _ _ rfl | exact LeC.nil _ rfl | exact LeC.nils _ _ | exact LeC.fz rfl rfl (by first | rfl | omega) (fun i _ j _ => ⟨rfl, by first | rfl | exact rowN_imm (fun _ => rfl) _ i j | exact rowF_imm (fun _ => rfl) _ i j⟩) | exact LeC.int (by omega), ?_⟩)) rfl, ?_⟩)
end Go.Proofs.YtfgcogkhnnflcaaDoor
end

section
namespace Go.Proofs.YtfgcogkhnnflcaaDoor
open Go.RowKit Go.Flow Go.AV Go.Plain
abbrev bgZ : Bg := ⟨0, 0, 0, 0⟩
end Go.Proofs.YtfgcogkhnnflcaaDoor
end

section
namespace Go.Proofs.YtfgcogkhnnflcaaDoor
open Go.RowKit Go.Flow Go.AV Go.Plain
abbrev rowI (n : Nat) (px : Nat → Int) : AB := ⟨true, n, 1, 3, iF px⟩
end Go.Proofs.YtfgcogkhnnflcaaDoor
end

section
namespace Go.Proofs.YtfgcogkhnnflcaaDoor
open Go.RowKit Go.Flow Go.AV Go.Plain
theorem bCheck_A (W H : Int) (n : Nat) (dot : Nat → Bool) : ACalls Tryd.prog 26 [.ag (bmpV W H n dot)] (.c (iC (chk W H n))) :=
  ACalls.old rfl fun O w vals h => by
    obtain ⟨x, rfl, h1⟩ := args1 h
    obtain ⟨A, c, rfl, -, hA⟩ := rep_bmp h1
    exact Check2_any W H A n c w
end Go.Proofs.YtfgcogkhnnflcaaDoor
end

section
namespace Go.Proofs.YtfgcogkhnnflcaaDoor
open Go.RowKit Go.Flow Go.AV Go.Plain
def bgN (N : Nat) (f : Nat → Int) : Bg := ⟨dval N f 0 5, dval N f (dat N 0) 4, dval N f (dat N (dat N 0)) 2, dval N f (dat N (dat N (dat N 0))) 4⟩
set_option maxRecDepth 100000 in
theorem Budget_A (N : Nat) (f : Nat → Int) (hN : N ≤ 4611686018427387904) : ACalls Tryd.prog 20 [.c (.ls N 1 (iF f))] (.ag (bgC (bgN N f))) := by
  have h1 := dat_le (N := N) (Nat.zero_le N)
  have h2 := dat_le (N := N) h1
  have h3 := dat_le (N := N) h2
  have n1 := Next_A N f 0 5 (Nat.zero_le N) hN (by omega) (by omega)
  have n2 := Next_A N f (dat N 0) 4 h1 hN (by omega) (by omega)
  have n3 := Next_A N f (dat N (dat N 0)) 2 h2 hN (by omega) (by omega)
  have n4 := Next_A N f (dat N (dat N (dat N 0))) 4 h3 hN (by omega) (by omega)
  refine acalls_at Tryd.func20 rfl rfl Tryd.ntmps20 rfl ?_
  repeat (first
    | refine AWp.seq ?_
    | refine thenA_n ?_
    | refine AWp.ret ?_
    | (refine AWp.region (id := 0) ?_; refine AList.alloc tyOk rfl rfl rfl rfl rfl ?_; refine AList.nil ?_)
    | (refine AWp.region (id := 1) ?_; refine AList.move rfl rfl rfl ?_; refine AList.buildSt tyOk rfl rfl rfl rfl rfl rfl rfl rfl ?_; refine AList.box rfl rfl rfl rfl rfl ?_; refine AList.assign rfl rfl rfl ?_; refine AList.nil ?_)
    | (refine AWp.region (id := 2) ?_; refine AList.move rfl rfl rfl ?_; refine AList.callH [6] [drawB N f 0] [drawB N f (dat N 0)] rfl rfl rfl Tryd.func25 rfl (by kernel_rfl) (LendOk.box rfl rfl rfl trivial) rfl (LendImm.box rfl trivial) (n1) ?_; refine AList.move rfl rfl rfl ?_; refine AList.callH [6] [drawB N f (dat N 0)] [drawB N f (dat N (dat N 0))] rfl rfl rfl Tryd.func25 rfl (by kernel_rfl) (LendOk.box rfl rfl rfl trivial) rfl (LendImm.box rfl trivial) (n2) ?_; refine AList.move rfl rfl rfl ?_; refine AList.callH [6] [drawB N f (dat N (dat N 0))] [drawB N f (dat N (dat N (dat N 0)))] rfl rfl rfl Tryd.func25 rfl (by kernel_rfl) (LendOk.box rfl rfl rfl trivial) rfl (LendImm.box rfl trivial) (n3) ?_; refine AList.move rfl rfl rfl ?_; refine AList.callH [6] [drawB N f (dat N (dat N (dat N 0)))] [drawB N f (dat N (dat N (dat N (dat N 0))))] rfl rfl rfl Tryd.func25 rfl (by kernel_rfl) (LendOk.box rfl rfl rfl trivial) rfl (LendImm.box rfl trivial) (n4) ?_; refine AList.buildSt tyOk rfl rfl rfl rfl rfl rfl rfl rfl ?_; refine AList.store tyOk rfl rfl rfl rfl rfl rfl rfl rfl oM oM ?_; refine AList.nil ?_))
  refine ⟨mkSt 16 [(2, .c (.pt 2 4 0 0))] [(2, ⟨false, 1, 4, 25, lF (bgC (bgN N f))⟩)] [2], [(2, ⟨false, 1, 4, 25, lF (bgC (bgN N f))⟩)], Wk.mk [(2, some 2)] rfl rfl rfl ?_ ?_, rfl, rfl, ARets.one (x := .ag _) (ARes.box tyOk rfl rfl rfl rfl rfl rfl rfl)⟩
  · repeat (first | exact trivial | refine ⟨⟨_, rfl, by first | exact LeA.c (LeC.refl _ rfl) | exact LeA.c (LeC.ow _ _ rfl) | exact LeA.c (LeC.pt _ _ _ _ _ rfl) | exact LeA.c (LeC.nil _ rfl) | exact LeA.c (LeC.nils _ _) | (refine LeA.int ?_; omega) | (refine LeA.int ?_; dsimp only; omega) | exact LeA.c (LeC.fz rfl rfl (by first | rfl | omega) (fun i _ j _ => ⟨rfl, by first | rfl | exact rowN_imm (fun _ => rfl) _ i j | exact rowF_imm (fun _ => rfl) _ i j⟩))⟩, ?_⟩)
  · repeat (first | exact trivial | refine ⟨by first | exact HeapOk.same rfl rfl rfl rfl | exact HeapOk.lent rfl rfl rfl rfl | exact HeapOk.nil rfl rfl | exact HeapOk.row rfl rfl (by first | rfl | omega) (fun i _ j _ => ⟨rfl, by first | rfl | exact rowN_imm (fun _ => rfl) _ i j | exact rowF_imm (fun _ => rfl) _ i j⟩) | exact HeapOk.box rfl rfl (by repeat (first | exact trivial | refine ⟨by first | exact LeC.refl _ rfl | exact LeC.ow _ _ rfl | exact LeC.nil _ rfl | exact LeC.nils _ _ | exact LeC.fz rfl rfl (by first | rfl | omega) (fun i _ j _ => ⟨rfl, by first | rfl | exact rowN_imm (fun _ => rfl) _ i j | exact rowF_imm (fun _ => rfl) _ i j⟩) | exact LeC.int (by omega), ?_⟩)) rfl, ?_⟩)
end Go.Proofs.YtfgcogkhnnflcaaDoor
end

section
namespace Go.Proofs.YtfgcogkhnnflcaaDoor
open Go.RowKit Go.Flow Go.AV Go.Plain
abbrev mvC (p : Int × Int) : List CV := [iC p.1, iC p.2]
theorem mvC_imm (p : Int × Int) : (mvC p).all immC = true := rfl
theorem flat_succ {α : Type} (f : Nat → List α) (k : Nat) : (List.range (k + 1)).flatMap f = (List.range k).flatMap f ++ f k := by
  rw [List.range_succ, List.flatMap_append]
  simp
end Go.Proofs.YtfgcogkhnnflcaaDoor
end

section
namespace Go.Proofs.YtfgcogkhnnflcaaDoor
open Go.RowKit Go.Flow Go.AV Go.Plain Go.AV.Srt
def moRow (m i k : Nat) : List (Int × Int) := (List.range k).map fun (j : Nat) => ((j : Int) - m, (i : Int) - m)
def moGrid (m k : Nat) : List (Int × Int) := (List.range k).flatMap fun i => moRow m i (2 * m + 1)
theorem moRow_succ (m i k : Nat) : moRow m i (k + 1) = moRow m i k ++ [((k : Int) - m, (i : Int) - m)] := by
  unfold moRow
  rw [List.range_succ, List.map_append]
  rfl
theorem stable_sh {m : Nat} (hm : m ≤ 4) : stable moZ mvLt (moGrid m (2 * m + 1)) = shL m := by
  obtain h | h | h | h | h : m = 0 ∨ m = 1 ∨ m = 2 ∨ m = 3 ∨ m = 4 := by omega
  all_goals
    subst h
    decide +kernel
theorem moGrid_len {m : Nat} (hm : m ≤ 4) : (moGrid m (2 * m + 1)).length ≤ 81 ∧ 0 < (moGrid m (2 * m + 1)).length := by
  obtain h | h | h | h | h : m = 0 ∨ m = 1 ∨ m = 2 ∨ m = 3 ∨ m = 4 := by omega
  all_goals
    subst h
    exact ⟨by decide +kernel, by decide +kernel⟩
theorem shL_len {m : Nat} (hm : m ≤ 4) : (shL m).length = (2 * m + 1) * (2 * m + 1) := by
  obtain h | h | h | h | h : m = 0 ∨ m = 1 ∨ m = 2 ∨ m = 3 ∨ m = 4 := by omega
  all_goals
    subst h
    decide +kernel
theorem moGrid_ok {m : Nat} (hm : m ≤ 4) : Oks (moGrid m (2 * m + 1)) := fun k => by
  by_cases hk : k < (moGrid m (2 * m + 1)).length
  · have : (moGrid m (2 * m + 1)).getD k moZ ∈ moGrid m (2 * m + 1) := by
      rw [List.getD_eq_getElem?_getD, List.getElem?_eq_getElem hk]
      exact List.getElem_mem hk
    generalize (moGrid m (2 * m + 1)).getD k moZ = p at this
    unfold moGrid moRow at this
    simp only [List.mem_flatMap, List.mem_map, List.mem_range] at this
    obtain ⟨i, hi, j, hj, rfl⟩ := this
    refine ⟨⟨?_, ?_⟩, ?_, ?_⟩ <;> dsimp only <;> omega
  · rw [List.getD_eq_getElem?_getD, List.getElem?_eq_none (by omega)]
    exact mvOkZ
theorem alimit_A (n : Int) (l h : Int) : ACalls Tryd.prog 49 [.c (iC n), .c (iC l), .c (iC h)] (.c (iC (max l (min h n)))) := by
  refine acalls_at Tryd.func49 rfl rfl Tryd.ntmps49 rfl ?_
  -- ax 1 apart.limit
  repeat (first
    | refine AWp.seq ?_
    | refine thenA_n ?_
    | refine AWp.block ?_
    | refine AWp.skip ?_
    | refine AWp.exit ?_
    | refine AWp.ret ?_
    | refine thenA_e ?_
    | refine thenA_r ?_
    | refine inBlk_n ?_
    | refine inBlk_r ?_
    | refine inBlk_hit ?_
    | refine inBlk_miss rfl ?_
    | refine AWp.condT rfl (by first | rfl | assumption | exact cmT) ?_
    | refine AWp.condF rfl (by first | rfl | assumption | exact cmF) ?_
    | refine AWp.scope (fun _ _ h => h) ?_
    | refine AWp.label ?_
    | (refine AWp.region (id := 0) ?_; refine AList.assign rfl rfl rfl ?_; refine AList.nil ?_)
    | (refine AWp.region (id := 1) ?_; refine AList.move rfl rfl rfl ?_; refine AList.move rfl rfl rfl ?_; refine AList.move rfl rfl rfl ?_; refine AList.minI rfl rfl rfl rfl ?_; refine AList.maxI rfl rfl rfl rfl ?_; refine AList.assign rfl rfl rfl ?_; refine AList.nil ?_))
  refine ⟨mkSt 12 [(6, .c (iC (max l (min h n))))] [] [], [], Wk.mk [] rfl rfl rfl ?_ trivial, rfl, rfl, ARets.one (x := .c _) (ARes.tmp rfl rfl)⟩
  repeat (first | exact trivial | refine ⟨⟨_, rfl, by first | exact LeA.c (LeC.refl _ rfl) | exact LeA.c (LeC.ow _ _ rfl) | exact LeA.c (LeC.pt _ _ _ _ _ rfl) | exact LeA.c (LeC.nil _ rfl) | exact LeA.c (LeC.nils _ _) | (refine LeA.int ?_; omega) | (refine LeA.int ?_; dsimp only; omega) | exact LeA.c (LeC.fz rfl rfl (by first | rfl | omega) (fun i _ j _ => ⟨rfl, by first | rfl | exact rowN_imm (fun _ => rfl) _ i j | exact rowF_imm (fun _ => rfl) _ i j⟩))⟩, ?_⟩)
theorem alim1_A (n m : Int) : ACalls Tryd.prog 49 [.c (iC n), .c (iC 0), .c (iC m)] (.c (iC (lim1 n m))) := by
  have h := alimit_A n 0 m
  rw [show max 0 (min m n) = lim1 n m by unfold lim1; omega] at h
  exact h
set_option maxRecDepth 100000 in
theorem alim_A (x : Bg) : ACalls Tryd.prog 38 [.ag (bgC x)] (.ag (bgC (lim4 x))) := by
  refine acalls_at Tryd.func38 rfl rfl Tryd.ntmps38 rfl ?_
  -- ax 2 apart.limited
  repeat (first
    | refine AWp.seq ?_
    | refine thenA_n ?_
    | refine AWp.block ?_
    | refine AWp.skip ?_
    | refine AWp.exit ?_
    | refine AWp.ret ?_
    | refine thenA_e ?_
    | refine thenA_r ?_
    | refine inBlk_n ?_
    | refine inBlk_r ?_
    | refine inBlk_hit ?_
    | refine inBlk_miss rfl ?_
    | refine AWp.condT rfl (by first | rfl | assumption | exact cmT) ?_
    | refine AWp.condF rfl (by first | rfl | assumption | exact cmF) ?_
    | refine AWp.scope (fun _ _ h => h) ?_
    | refine AWp.label ?_
    | (refine AWp.region (id := 0) ?_; refine AList.box rfl rfl rfl rfl rfl ?_; refine AList.alloc tyOk rfl rfl rfl rfl rfl ?_; refine AList.nil ?_)
    | (refine AWp.draw (id := 1) mixed ?_; (first | refine AList.fieldPt tyOk rfl rfl rfl rfl rfl rfl rfl ?_ | refine AList.fieldPl tyOk rfl rfl rfl rfl rfl rfl rfl ?_); (first | refine AList.load1 tyOk rfl rfl rfl rfl rfl rfl rfl oM oM ?_ | refine AList.load1l tyOk rfl rfl rfl rfl rfl oM ?_); refine AList.call rfl rfl rfl rfl Tryd.func49 rfl (by kernel_rfl) (alim1_A _ _) ?_; (first | refine AList.fieldPt tyOk rfl rfl rfl rfl rfl rfl rfl ?_ | refine AList.fieldPl tyOk rfl rfl rfl rfl rfl rfl rfl ?_); (first | refine AList.load1 tyOk rfl rfl rfl rfl rfl rfl rfl oM oM ?_ | refine AList.load1l tyOk rfl rfl rfl rfl rfl oM ?_); refine AList.call rfl rfl rfl rfl Tryd.func49 rfl (by kernel_rfl) (alim1_A _ _) ?_; (first | refine AList.fieldPt tyOk rfl rfl rfl rfl rfl rfl rfl ?_ | refine AList.fieldPl tyOk rfl rfl rfl rfl rfl rfl rfl ?_); (first | refine AList.load1 tyOk rfl rfl rfl rfl rfl rfl rfl oM oM ?_ | refine AList.load1l tyOk rfl rfl rfl rfl rfl oM ?_); refine AList.call rfl rfl rfl rfl Tryd.func49 rfl (by kernel_rfl) (alim1_A _ _) ?_; (first | refine AList.fieldPt tyOk rfl rfl rfl rfl rfl rfl rfl ?_ | refine AList.fieldPl tyOk rfl rfl rfl rfl rfl rfl rfl ?_); (first | refine AList.load1 tyOk rfl rfl rfl rfl rfl rfl rfl oM oM ?_ | refine AList.load1l tyOk rfl rfl rfl rfl rfl oM ?_); refine AList.call rfl rfl rfl rfl Tryd.func49 rfl (by kernel_rfl) (alim1_A _ _) ?_; (first | refine AList.buildSt tyOk rfl rfl rfl rfl rfl rfl rfl rfl ?_ | refine AList.buildArr tyOk rfl rfl rfl rfl rfl rfl rfl rfl ?_); refine AList.store tyOk rfl rfl rfl rfl rfl rfl rfl rfl oM oM ?_; refine AList.nil ⟨by kernel_rfl, ?_⟩))
  refine ⟨mkSt 16 [(2, .c (.pt 2 4 0 0))] [(2, ⟨false, 1, 4, 25, lF (bgC (lim4 x))⟩)] [2], [(2, ⟨false, 1, 4, 25, lF (bgC (lim4 x))⟩)], Wk.mk [(2, some 2)] rfl rfl rfl ?_ ?_, rfl, rfl, ARets.one (x := .ag _) (ARes.box tyOk rfl rfl rfl rfl rfl rfl rfl)⟩
  · repeat (first | exact trivial | refine ⟨⟨_, rfl, by first | exact LeA.c (LeC.refl _ rfl) | exact LeA.c (LeC.ow _ _ rfl) | exact LeA.c (LeC.pt _ _ _ _ _ rfl) | exact LeA.c (LeC.nil _ rfl) | exact LeA.c (LeC.nils _ _) | (refine LeA.int ?_; omega) | (refine LeA.int ?_; dsimp only; omega) | exact LeA.c (LeC.fz rfl rfl (by first | rfl | omega) (fun i _ j _ => ⟨rfl, by first | rfl | exact rowN_imm (fun _ => rfl) _ i j | exact rowF_imm (fun _ => rfl) _ i j⟩))⟩, ?_⟩)
  · repeat (first | exact trivial | refine ⟨by first | exact HeapOk.same rfl rfl rfl rfl | exact HeapOk.lent rfl rfl rfl rfl | exact HeapOk.nil rfl rfl | exact HeapOk.row rfl rfl (by first | rfl | omega) (fun i _ j _ => ⟨rfl, by first | rfl | exact rowN_imm (fun _ => rfl) _ i j | exact rowF_imm (fun _ => rfl) _ i j⟩) | exact HeapOk.box rfl rfl (by repeat (first | exact trivial | refine ⟨by first | exact LeC.refl _ rfl | exact LeC.ow _ _ rfl | exact LeC.nil _ rfl | exact LeC.nils _ _ | exact LeC.fz rfl rfl (by first | rfl | omega) (fun i _ j _ => ⟨rfl, by first | rfl | exact rowN_imm (fun _ => rfl) _ i j | exact rowF_imm (fun _ => rfl) _ i j⟩) | exact LeC.int (by omega), ?_⟩)) rfl, ?_⟩)
set_option maxHeartbeats 2000000 in
set_option maxRecDepth 100000 in
theorem aShifts_A (x y : Bg) : ACalls Tryd.prog 39 [.ag (bgC x), .ag (bgC y)] (.c (.ls (shL (shN x y)).length 2 (rowF mvC mvZ (shL (shN x y))))) := by
  obtain ⟨e, hm⟩ := shN_eq x y
  have h1 := alim_A x
  have h2 := alim_A y
  have b1 := lim_bds x
  have b2 := lim_bds y
  generalize shN x y = m at *
  have hsum : (lim4 x).sh + (lim4 y).sh = (m : Int) := e.symm
  refine acalls_at Tryd.func39 rfl rfl Tryd.ntmps39 rfl ?_
  -- ax 5 apart.Shifts
  repeat (first
    | refine AWp.seq ?_
    | refine thenA_n ?_
    | refine AWp.block ?_
    | refine AWp.skip ?_
    | refine AWp.exit ?_
    | refine AWp.ret ?_
    | refine thenA_e ?_
    | refine thenA_r ?_
    | refine inBlk_n ?_
    | refine inBlk_r ?_
    | refine inBlk_hit ?_
    | refine inBlk_miss rfl ?_
    | refine AWp.condT rfl (by first | rfl | assumption | exact cmT) ?_
    | refine AWp.condF rfl (by first | rfl | assumption | exact cmF) ?_
    | refine AWp.scope (fun _ _ h => h) ?_
    | refine AWp.label ?_
    | (refine AWp.region (id := 0) ?_; refine AList.box rfl rfl rfl rfl rfl ?_; refine AList.box rfl rfl rfl rfl rfl ?_; refine AList.assign rfl rfl rfl ?_; refine AList.nil ?_)
    | (refine AWp.draw (id := 1) mixed ?_; (first | refine AList.loadA tyOk rfl rfl rfl rfl rfl rfl rfl oM oM ?_ | refine AList.loadAl tyOk rfl rfl rfl rfl rfl oM ?_); (first | refine AList.call rfl rfl rfl rfl Tryd.func38 rfl (by kernel_rfl) (h1) ?_ | refine AList.call rfl rfl rfl rfl Tryd.func38 rfl (by kernel_rfl) (h2) ?_); refine AList.field1 tyOk rfl rfl rfl Tryd.underlying25 rfl rfl rfl rfl ?_; (first | refine AList.loadA tyOk rfl rfl rfl rfl rfl rfl rfl oM oM ?_ | refine AList.loadAl tyOk rfl rfl rfl rfl rfl oM ?_); (first | refine AList.call rfl rfl rfl rfl Tryd.func38 rfl (by kernel_rfl) (h1) ?_ | refine AList.call rfl rfl rfl rfl Tryd.func38 rfl (by kernel_rfl) (h2) ?_); refine AList.field1 tyOk rfl rfl rfl Tryd.underlying25 rfl rfl rfl rfl ?_; refine AList.add rfl rfl rfl rfl (by omega) (by omega) ?_; refine AList.assign rfl rfl rfl ?_; refine AList.nil ⟨by kernel_rfl, ?_⟩)
    | (refine AWp.region (id := 2) ?_; refine AList.assign rfl rfl rfl ?_; refine AList.nil ?_)
    | (refine AWp.region (id := 3) ?_; refine AList.move rfl rfl rfl ?_; refine AList.neg rfl rfl rfl (by omega) (by omega) ?_; refine AList.assign rfl rfl rfl ?_; refine AList.nil ?_)
    | (refine AWp.region (id := 4) ?_; refine AList.move rfl rfl rfl ?_; refine AList.move rfl rfl rfl ?_; (first | refine AList.cmpT rfl rfl rfl rfl rfl cmT ?_ | refine AList.cmpF rfl rfl rfl rfl rfl cmF ?_ | refine AList.cmp rfl rfl rfl rfl rfl ?_); refine AList.nil ?_)
    | (refine AWp.region (id := 5) ?_; refine AList.move rfl rfl rfl ?_; refine AList.add rfl rfl rfl rfl (by omega) (by omega) ?_; refine AList.assign rfl rfl rfl ?_; refine AList.nil ?_)
    | (refine AWp.region (id := 6) ?_; refine AList.move rfl rfl rfl ?_; refine AList.neg rfl rfl rfl (by omega) (by omega) ?_; refine AList.assign rfl rfl rfl ?_; refine AList.nil ?_)
    | (refine AWp.region (id := 7) ?_; refine AList.move rfl rfl rfl ?_; refine AList.move rfl rfl rfl ?_; (first | refine AList.cmpT rfl rfl rfl rfl rfl cmT ?_ | refine AList.cmpF rfl rfl rfl rfl rfl cmF ?_ | refine AList.cmp rfl rfl rfl rfl rfl ?_); refine AList.nil ?_)
    | (refine AWp.region (id := 8) ?_; refine AList.move rfl rfl rfl ?_; refine AList.add rfl rfl rfl rfl (by omega) (by omega) ?_; refine AList.assign rfl rfl rfl ?_; refine AList.nil ?_)
    | (refine AWp.region (id := 9) ?_; refine AList.move rfl rfl rfl ?_; refine AList.move rfl rfl rfl ?_; refine AList.move rfl rfl rfl ?_; (first | refine AList.buildSt tyOk rfl rfl rfl rfl rfl rfl rfl rfl ?_ | refine AList.buildArr tyOk rfl rfl rfl rfl rfl rfl rfl rfl ?_); refine AList.litSl tyOk rfl rfl rfl rfl rfl rfl rfl rfl rfl rfl rfl ?_; (first | refine AList.appL0 tyOk rfl rfl rfl rfl rfl rfl rfl rfl rfl rfl oM oM ?_ | refine AList.appL tyOk rfl rfl rfl rfl rfl rfl rfl rfl rfl rfl oM oM ?_ | refine AList.appN tyOk rfl rfl rfl rfl rfl rfl rfl rfl rfl oM oM ?_ | refine AList.appO tyOk rfl rfl rfl rfl rfl rfl rfl rfl rfl rfl rfl oM oM ?_ | refine AList.appE tyOk rfl rfl rfl rfl rfl rfl rfl rfl rfl rfl oM oM ?_); refine AList.assign rfl rfl rfl ?_; refine AList.nil ?_)
    | (refine AWp.region (id := 11) ?_; refine AList.move rfl rfl rfl ?_; refine AList.assign rfl rfl rfl ?_; refine AList.nil ?_))
  refine AWp.round (fun t : Nat × List (Int × Int) => mkSt 39 [(5, .c (iC m)), (6, .c (.ow 20)), (7, .c (iC ((t.1 : Int) - m)))] [(20, mvB t.2)] [20])
    (fun t => t.1 ≤ 2 * m + 1 ∧ t.2 = moGrid m t.1 ∧ t.2.length = (2 * m + 1) * t.1) (fun t => 2 * m + 1 - t.1) (0, []) ⟨Nat.zero_le _, rfl, rfl⟩ ?_ (fun t ht => ?_)
  · refine Wk.mk [(20, none)] rfl rfl rfl ?_ ?_
    · rw [← hsum]
      repeat (first | exact trivial | refine ⟨⟨_, rfl, by first | exact LeA.c (LeC.refl _ rfl) | exact LeA.c (LeC.ow _ _ rfl) | exact LeA.c (LeC.pt _ _ _ _ _ rfl) | exact LeA.c (LeC.nil _ rfl) | exact LeA.c (LeC.nils _ _) | (refine LeA.int ?_; omega) | (refine LeA.int ?_; dsimp only; omega) | exact LeA.c (LeC.fz rfl rfl (by first | rfl | omega) (fun i _ j _ => ⟨rfl, by first | rfl | exact rowN_imm (fun _ => rfl) _ i j | exact rowF_imm (fun _ => rfl) _ i j⟩))⟩, ?_⟩)
    · repeat (first | exact trivial | refine ⟨by first | exact HeapOk.same rfl rfl rfl rfl | exact HeapOk.lent rfl rfl rfl rfl | exact HeapOk.nil rfl rfl | exact HeapOk.row rfl rfl (by first | rfl | omega) (fun i _ j _ => ⟨rfl, by first | rfl | exact rowN_imm (fun _ => rfl) _ i j | exact rowF_imm (fun _ => rfl) _ i j⟩) | exact HeapOk.box rfl rfl (by repeat (first | exact trivial | refine ⟨by first | exact LeC.refl _ rfl | exact LeC.ow _ _ rfl | exact LeC.nil _ rfl | exact LeC.nils _ _ | exact LeC.fz rfl rfl (by first | rfl | omega) (fun i _ j _ => ⟨rfl, by first | rfl | exact rowN_imm (fun _ => rfl) _ i j | exact rowF_imm (fun _ => rfl) _ i j⟩) | exact LeC.int (by omega), ?_⟩)) rfl, ?_⟩)
  · obtain ⟨i, L⟩ := t
    obtain ⟨hi, hL, hl⟩ := ht
    dsimp only at hi hL hl
    dsimp only
    by_cases hlti : i < 2 * m + 1
    · -- ax 6 apart.Shifts
      repeat (first
        | refine AWp.seq ?_
        | refine thenA_n ?_
        | refine AWp.block ?_
        | refine AWp.skip ?_
        | refine AWp.exit ?_
        | refine AWp.ret ?_
        | refine thenA_e ?_
        | refine thenA_r ?_
        | refine inBlk_n ?_
        | refine inBlk_r ?_
        | refine inBlk_hit ?_
        | refine inBlk_miss rfl ?_
        | refine AWp.condT rfl (by first | rfl | assumption | exact cmT) ?_
        | refine AWp.condF rfl (by first | rfl | assumption | exact cmF) ?_
        | refine AWp.scope (fun _ _ h => h) ?_
        | refine AWp.label ?_
        | (refine AWp.region (id := 0) ?_; refine AList.box rfl rfl rfl rfl rfl ?_; refine AList.box rfl rfl rfl rfl rfl ?_; refine AList.assign rfl rfl rfl ?_; refine AList.nil ?_)
        | (refine AWp.region (id := 2) ?_; refine AList.assign rfl rfl rfl ?_; refine AList.nil ?_)
        | (refine AWp.region (id := 3) ?_; refine AList.move rfl rfl rfl ?_; refine AList.neg rfl rfl rfl (by omega) (by omega) ?_; refine AList.assign rfl rfl rfl ?_; refine AList.nil ?_)
        | (refine AWp.region (id := 4) ?_; refine AList.move rfl rfl rfl ?_; refine AList.move rfl rfl rfl ?_; (first | refine AList.cmpT rfl rfl rfl rfl rfl cmT ?_ | refine AList.cmpF rfl rfl rfl rfl rfl cmF ?_ | refine AList.cmp rfl rfl rfl rfl rfl ?_); refine AList.nil ?_)
        | (refine AWp.region (id := 5) ?_; refine AList.move rfl rfl rfl ?_; refine AList.add rfl rfl rfl rfl (by omega) (by omega) ?_; refine AList.assign rfl rfl rfl ?_; refine AList.nil ?_)
        | (refine AWp.region (id := 6) ?_; refine AList.move rfl rfl rfl ?_; refine AList.neg rfl rfl rfl (by omega) (by omega) ?_; refine AList.assign rfl rfl rfl ?_; refine AList.nil ?_)
        | (refine AWp.region (id := 7) ?_; refine AList.move rfl rfl rfl ?_; refine AList.move rfl rfl rfl ?_; (first | refine AList.cmpT rfl rfl rfl rfl rfl cmT ?_ | refine AList.cmpF rfl rfl rfl rfl rfl cmF ?_ | refine AList.cmp rfl rfl rfl rfl rfl ?_); refine AList.nil ?_)
        | (refine AWp.region (id := 8) ?_; refine AList.move rfl rfl rfl ?_; refine AList.add rfl rfl rfl rfl (by omega) (by omega) ?_; refine AList.assign rfl rfl rfl ?_; refine AList.nil ?_)
        | (refine AWp.region (id := 9) ?_; refine AList.move rfl rfl rfl ?_; refine AList.move rfl rfl rfl ?_; refine AList.move rfl rfl rfl ?_; (first | refine AList.buildSt tyOk rfl rfl rfl rfl rfl rfl rfl rfl ?_ | refine AList.buildArr tyOk rfl rfl rfl rfl rfl rfl rfl rfl ?_); refine AList.litSl tyOk rfl rfl rfl rfl rfl rfl rfl rfl rfl rfl rfl ?_; (first | refine AList.appL0 tyOk rfl rfl rfl rfl rfl rfl rfl rfl rfl rfl oM oM ?_ | refine AList.appL tyOk rfl rfl rfl rfl rfl rfl rfl rfl rfl rfl oM oM ?_ | refine AList.appN tyOk rfl rfl rfl rfl rfl rfl rfl rfl rfl oM oM ?_ | refine AList.appO tyOk rfl rfl rfl rfl rfl rfl rfl rfl rfl rfl rfl oM oM ?_ | refine AList.appE tyOk rfl rfl rfl rfl rfl rfl rfl rfl rfl rfl oM oM ?_); refine AList.assign rfl rfl rfl ?_; refine AList.nil ?_)
        | (refine AWp.region (id := 11) ?_; refine AList.move rfl rfl rfl ?_; refine AList.assign rfl rfl rfl ?_; refine AList.nil ?_))
      refine AWp.round (fun t : Nat × List (Int × Int) => mkSt 39 [(5, .c (iC m)), (6, .c (.ow 20)), (7, .c (iC ((i : Int) - m))), (8, .c (iC ((t.1 : Int) - m)))] [(20, mvB t.2)] [20])
        (fun t => t.1 ≤ 2 * m + 1 ∧ t.2 = moGrid m i ++ moRow m i t.1 ∧ t.2.length = (2 * m + 1) * i + t.1) (fun t => 2 * m + 1 - t.1) (0, L) ⟨Nat.zero_le _, by rw [hL]; exact (List.append_nil _).symm, hl⟩ ?_ (fun t ht => ?_)
      · refine Wk.mk [(20, some 20)] rfl rfl rfl ?_ ?_
        · repeat (first | exact trivial | refine ⟨⟨_, rfl, by first | exact LeA.c (LeC.refl _ rfl) | exact LeA.c (LeC.ow _ _ rfl) | exact LeA.c (LeC.pt _ _ _ _ _ rfl) | exact LeA.c (LeC.nil _ rfl) | exact LeA.c (LeC.nils _ _) | (refine LeA.int ?_; omega) | (refine LeA.int ?_; dsimp only; omega) | exact LeA.c (LeC.fz rfl rfl (by first | rfl | omega) (fun i _ j _ => ⟨rfl, by first | rfl | exact rowN_imm (fun _ => rfl) _ i j | exact rowF_imm (fun _ => rfl) _ i j⟩))⟩, ?_⟩)
        · repeat (first | exact trivial | refine ⟨by first | exact HeapOk.same rfl rfl rfl rfl | exact HeapOk.lent rfl rfl rfl rfl | exact HeapOk.nil rfl rfl | exact HeapOk.row rfl rfl (by first | rfl | omega) (fun i _ j _ => ⟨rfl, by first | rfl | exact rowN_imm (fun _ => rfl) _ i j | exact rowF_imm (fun _ => rfl) _ i j⟩) | exact HeapOk.box rfl rfl (by repeat (first | exact trivial | refine ⟨by first | exact LeC.refl _ rfl | exact LeC.ow _ _ rfl | exact LeC.nil _ rfl | exact LeC.nils _ _ | exact LeC.fz rfl rfl (by first | rfl | omega) (fun i _ j _ => ⟨rfl, by first | rfl | exact rowN_imm (fun _ => rfl) _ i j | exact rowF_imm (fun _ => rfl) _ i j⟩) | exact LeC.int (by omega), ?_⟩)) rfl, ?_⟩)
      · obtain ⟨j, L2⟩ := t
        obtain ⟨hj, hL2, hl2⟩ := ht
        dsimp only at hj hL2 hl2
        dsimp only
        by_cases hltj : j < 2 * m + 1
        · have hlen : (L2 ++ [((j : Int) - m, (i : Int) - m)]).length = L2.length + 1 := by simp
          have hb : (2 * m + 1) * i ≤ 81 := by
            have := Nat.mul_le_mul (show 2 * m + 1 ≤ 9 by omega) (show i ≤ 9 by omega)
            omega
          -- ax 7 apart.Shifts
          repeat (first
            | refine AWp.seq ?_
            | refine thenA_n ?_
            | refine AWp.block ?_
            | refine AWp.skip ?_
            | refine AWp.exit ?_
            | refine AWp.ret ?_
            | refine thenA_e ?_
            | refine thenA_r ?_
            | refine inBlk_n ?_
            | refine inBlk_r ?_
            | refine inBlk_hit ?_
            | refine inBlk_miss rfl ?_
            | refine AWp.condT rfl (by first | rfl | assumption | exact cmT) ?_
            | refine AWp.condF rfl (by first | rfl | assumption | exact cmF) ?_
            | refine AWp.scope (fun _ _ h => h) ?_
            | refine AWp.label ?_
            | (refine AWp.region (id := 0) ?_; refine AList.box rfl rfl rfl rfl rfl ?_; refine AList.box rfl rfl rfl rfl rfl ?_; refine AList.assign rfl rfl rfl ?_; refine AList.nil ?_)
            | (refine AWp.region (id := 2) ?_; refine AList.assign rfl rfl rfl ?_; refine AList.nil ?_)
            | (refine AWp.region (id := 3) ?_; refine AList.move rfl rfl rfl ?_; refine AList.neg rfl rfl rfl (by omega) (by omega) ?_; refine AList.assign rfl rfl rfl ?_; refine AList.nil ?_)
            | (refine AWp.region (id := 4) ?_; refine AList.move rfl rfl rfl ?_; refine AList.move rfl rfl rfl ?_; (first | refine AList.cmpT rfl rfl rfl rfl rfl cmT ?_ | refine AList.cmpF rfl rfl rfl rfl rfl cmF ?_ | refine AList.cmp rfl rfl rfl rfl rfl ?_); refine AList.nil ?_)
            | (refine AWp.region (id := 5) ?_; refine AList.move rfl rfl rfl ?_; refine AList.add rfl rfl rfl rfl (by omega) (by omega) ?_; refine AList.assign rfl rfl rfl ?_; refine AList.nil ?_)
            | (refine AWp.region (id := 6) ?_; refine AList.move rfl rfl rfl ?_; refine AList.neg rfl rfl rfl (by omega) (by omega) ?_; refine AList.assign rfl rfl rfl ?_; refine AList.nil ?_)
            | (refine AWp.region (id := 7) ?_; refine AList.move rfl rfl rfl ?_; refine AList.move rfl rfl rfl ?_; (first | refine AList.cmpT rfl rfl rfl rfl rfl cmT ?_ | refine AList.cmpF rfl rfl rfl rfl rfl cmF ?_ | refine AList.cmp rfl rfl rfl rfl rfl ?_); refine AList.nil ?_)
            | (refine AWp.region (id := 8) ?_; refine AList.move rfl rfl rfl ?_; refine AList.add rfl rfl rfl rfl (by omega) (by omega) ?_; refine AList.assign rfl rfl rfl ?_; refine AList.nil ?_)
            | (refine AWp.region (id := 9) ?_; refine AList.move rfl rfl rfl ?_; refine AList.move rfl rfl rfl ?_; refine AList.move rfl rfl rfl ?_; (first | refine AList.buildSt tyOk rfl rfl rfl rfl rfl rfl rfl rfl ?_ | refine AList.buildArr tyOk rfl rfl rfl rfl rfl rfl rfl rfl ?_); refine AList.litSl tyOk rfl rfl rfl rfl rfl rfl rfl rfl rfl rfl rfl ?_; (first | refine AList.appL0 tyOk rfl rfl rfl rfl rfl rfl rfl rfl rfl rfl oM oM ?_ | refine AList.appL tyOk rfl rfl rfl rfl rfl rfl rfl rfl rfl rfl oM oM ?_ | refine AList.appN tyOk rfl rfl rfl rfl rfl rfl rfl rfl rfl oM oM ?_ | refine AList.appO tyOk rfl rfl rfl rfl rfl rfl rfl rfl rfl rfl rfl oM oM ?_ | refine AList.appE tyOk rfl rfl rfl rfl rfl rfl rfl rfl rfl rfl oM oM ?_); refine AList.assign rfl rfl rfl ?_; refine AList.nil ?_)
            | (refine AWp.region (id := 11) ?_; refine AList.move rfl rfl rfl ?_; refine AList.assign rfl rfl rfl ?_; refine AList.nil ?_))
          refine ⟨(j + 1, L2 ++ [((j : Int) - m, (i : Int) - m)]), ⟨by dsimp only; omega, by rw [hL2, moRow_succ, List.append_assoc], by rw [hlen]; dsimp only; omega⟩, Wk.mk [(20, some 35)] rfl rfl rfl ?_ ?_, by dsimp only; omega⟩
          · repeat (first | exact trivial | refine ⟨⟨_, rfl, by first | exact LeA.c (LeC.refl _ rfl) | exact LeA.c (LeC.ow _ _ rfl) | exact LeA.c (LeC.pt _ _ _ _ _ rfl) | exact LeA.c (LeC.nil _ rfl) | exact LeA.c (LeC.nils _ _) | (refine LeA.int ?_; omega) | (refine LeA.int ?_; dsimp only; omega) | exact LeA.c (LeC.fz rfl rfl (by first | rfl | omega) (fun i _ j _ => ⟨rfl, by first | rfl | exact rowN_imm (fun _ => rfl) _ i j | exact rowF_imm (fun _ => rfl) _ i j⟩))⟩, ?_⟩)
          · exact ⟨HeapOk.row rfl rfl hlen (row_snoc L2 ((j : Int) - m, (i : Int) - m) mvC_imm rfl), trivial⟩
        · obtain rfl : j = 2 * m + 1 := by omega
          have hsu : moGrid m (i + 1) = moGrid m i ++ moRow m i (2 * m + 1) := flat_succ _ _
          -- ax 8 apart.Shifts
          repeat (first
            | refine AWp.seq ?_
            | refine thenA_n ?_
            | refine AWp.block ?_
            | refine AWp.skip ?_
            | refine AWp.exit ?_
            | refine AWp.ret ?_
            | refine thenA_e ?_
            | refine thenA_r ?_
            | refine inBlk_n ?_
            | refine inBlk_r ?_
            | refine inBlk_hit ?_
            | refine inBlk_miss rfl ?_
            | refine AWp.condT rfl (by first | rfl | assumption | exact cmT) ?_
            | refine AWp.condF rfl (by first | rfl | assumption | exact cmF) ?_
            | refine AWp.scope (fun _ _ h => h) ?_
            | refine AWp.label ?_
            | (refine AWp.region (id := 0) ?_; refine AList.box rfl rfl rfl rfl rfl ?_; refine AList.box rfl rfl rfl rfl rfl ?_; refine AList.assign rfl rfl rfl ?_; refine AList.nil ?_)
            | (refine AWp.region (id := 2) ?_; refine AList.assign rfl rfl rfl ?_; refine AList.nil ?_)
            | (refine AWp.region (id := 3) ?_; refine AList.move rfl rfl rfl ?_; refine AList.neg rfl rfl rfl (by omega) (by omega) ?_; refine AList.assign rfl rfl rfl ?_; refine AList.nil ?_)
            | (refine AWp.region (id := 4) ?_; refine AList.move rfl rfl rfl ?_; refine AList.move rfl rfl rfl ?_; (first | refine AList.cmpT rfl rfl rfl rfl rfl cmT ?_ | refine AList.cmpF rfl rfl rfl rfl rfl cmF ?_ | refine AList.cmp rfl rfl rfl rfl rfl ?_); refine AList.nil ?_)
            | (refine AWp.region (id := 5) ?_; refine AList.move rfl rfl rfl ?_; refine AList.add rfl rfl rfl rfl (by omega) (by omega) ?_; refine AList.assign rfl rfl rfl ?_; refine AList.nil ?_)
            | (refine AWp.region (id := 6) ?_; refine AList.move rfl rfl rfl ?_; refine AList.neg rfl rfl rfl (by omega) (by omega) ?_; refine AList.assign rfl rfl rfl ?_; refine AList.nil ?_)
            | (refine AWp.region (id := 7) ?_; refine AList.move rfl rfl rfl ?_; refine AList.move rfl rfl rfl ?_; (first | refine AList.cmpT rfl rfl rfl rfl rfl cmT ?_ | refine AList.cmpF rfl rfl rfl rfl rfl cmF ?_ | refine AList.cmp rfl rfl rfl rfl rfl ?_); refine AList.nil ?_)
            | (refine AWp.region (id := 8) ?_; refine AList.move rfl rfl rfl ?_; refine AList.add rfl rfl rfl rfl (by omega) (by omega) ?_; refine AList.assign rfl rfl rfl ?_; refine AList.nil ?_)
            | (refine AWp.region (id := 9) ?_; refine AList.move rfl rfl rfl ?_; refine AList.move rfl rfl rfl ?_; refine AList.move rfl rfl rfl ?_; (first | refine AList.buildSt tyOk rfl rfl rfl rfl rfl rfl rfl rfl ?_ | refine AList.buildArr tyOk rfl rfl rfl rfl rfl rfl rfl rfl ?_); refine AList.litSl tyOk rfl rfl rfl rfl rfl rfl rfl rfl rfl rfl rfl ?_; (first | refine AList.appL0 tyOk rfl rfl rfl rfl rfl rfl rfl rfl rfl rfl oM oM ?_ | refine AList.appL tyOk rfl rfl rfl rfl rfl rfl rfl rfl rfl rfl oM oM ?_ | refine AList.appN tyOk rfl rfl rfl rfl rfl rfl rfl rfl rfl oM oM ?_ | refine AList.appO tyOk rfl rfl rfl rfl rfl rfl rfl rfl rfl rfl rfl oM oM ?_ | refine AList.appE tyOk rfl rfl rfl rfl rfl rfl rfl rfl rfl rfl oM oM ?_); refine AList.assign rfl rfl rfl ?_; refine AList.nil ?_)
            | (refine AWp.region (id := 11) ?_; refine AList.move rfl rfl rfl ?_; refine AList.assign rfl rfl rfl ?_; refine AList.nil ?_))
          refine ⟨(i + 1, L2), ⟨by dsimp only; omega, by rw [hL2, hsu], by dsimp only; rw [hl2, Nat.mul_succ]⟩, Wk.mk [(20, some 20)] rfl rfl rfl ?_ ?_, by dsimp only; omega⟩
          · repeat (first | exact trivial | refine ⟨⟨_, rfl, by first | exact LeA.c (LeC.refl _ rfl) | exact LeA.c (LeC.ow _ _ rfl) | exact LeA.c (LeC.pt _ _ _ _ _ rfl) | exact LeA.c (LeC.nil _ rfl) | exact LeA.c (LeC.nils _ _) | (refine LeA.int ?_; omega) | (refine LeA.int ?_; dsimp only; omega) | exact LeA.c (LeC.fz rfl rfl (by first | rfl | omega) (fun i _ j _ => ⟨rfl, by first | rfl | exact rowN_imm (fun _ => rfl) _ i j | exact rowF_imm (fun _ => rfl) _ i j⟩))⟩, ?_⟩)
          · repeat (first | exact trivial | refine ⟨by first | exact HeapOk.same rfl rfl rfl rfl | exact HeapOk.lent rfl rfl rfl rfl | exact HeapOk.nil rfl rfl | exact HeapOk.row rfl rfl (by first | rfl | omega) (fun i _ j _ => ⟨rfl, by first | rfl | exact rowN_imm (fun _ => rfl) _ i j | exact rowF_imm (fun _ => rfl) _ i j⟩) | exact HeapOk.box rfl rfl (by repeat (first | exact trivial | refine ⟨by first | exact LeC.refl _ rfl | exact LeC.ow _ _ rfl | exact LeC.nil _ rfl | exact LeC.nils _ _ | exact LeC.fz rfl rfl (by first | rfl | omega) (fun i _ j _ => ⟨rfl, by first | rfl | exact rowN_imm (fun _ => rfl) _ i j | exact rowF_imm (fun _ => rfl) _ i j⟩) | exact LeC.int (by omega), ?_⟩)) rfl, ?_⟩)
    · obtain rfl : i = 2 * m + 1 := by omega
      obtain ⟨g1, g2⟩ := moGrid_len hm
      have hO := moGrid_ok hm
      rw [← hL] at g1 g2 hO
      have hS := SortStable_H L (fun _ => CV.any) g2 (by omega) hO
      have hst : stable moZ mvLt L = shL m := by rw [hL]; exact stable_sh hm
      have hslen : (shL m).length = L.length := by rw [shL_len hm, hl]
      rw [hst] at hS
      -- ax 9 apart.Shifts
      repeat (first
        | refine AWp.seq ?_
        | refine thenA_n ?_
        | refine AWp.block ?_
        | refine AWp.skip ?_
        | refine AWp.exit ?_
        | refine AWp.ret ?_
        | refine thenA_e ?_
        | refine thenA_r ?_
        | refine inBlk_n ?_
        | refine inBlk_r ?_
        | refine inBlk_hit ?_
        | refine inBlk_miss rfl ?_
        | refine AWp.condT rfl (by first | rfl | assumption | exact cmT) ?_
        | refine AWp.condF rfl (by first | rfl | assumption | exact cmF) ?_
        | refine AWp.scope (fun _ _ h => h) ?_
        | refine AWp.label ?_
        | (refine AWp.region (id := 4) ?_; refine AList.move rfl rfl rfl ?_; refine AList.move rfl rfl rfl ?_; (first | refine AList.cmpT rfl rfl rfl rfl rfl cmT ?_ | refine AList.cmpF rfl rfl rfl rfl rfl cmF ?_ | refine AList.cmp rfl rfl rfl rfl rfl ?_); refine AList.nil ?_)
        | (refine AWp.region (id := 10) ?_; refine AList.move rfl rfl rfl ?_; refine AList.callH [20] [mvB L] [mvB (shL m)] rfl rfl rfl Tryd.func50 rfl (by kernel_rfl) (LendOk.row rfl g2 (fun i _ j _ => ⟨rfl, rowF_imm mo_imm _ i j⟩) trivial) rfl (LendImm.row (fun i _ j _ => rowF_imm mo_imm _ i j) trivial) (hS) ?_; refine AList.nil ?_))
      refine AWp.weak (S' := mkSt 39 [(6, .c (.ls (shL m).length 2 (rowF mvC mvZ (shL m))))] [] []) (Wk.mk [] rfl rfl rfl ?_ trivial) ?_
      · repeat (first | exact trivial | refine ⟨⟨_, rfl, by first | exact LeA.c (LeC.refl _ rfl) | exact LeA.c (LeC.ow _ _ rfl) | exact LeA.c (LeC.pt _ _ _ _ _ rfl) | exact LeA.c (LeC.nil _ rfl) | exact LeA.c (LeC.nils _ _) | (refine LeA.int ?_; omega) | (refine LeA.int ?_; dsimp only; omega) | exact LeA.c (LeC.fz rfl rfl (by first | rfl | omega) (fun i _ j _ => ⟨rfl, by first | rfl | exact rowN_imm (fun _ => rfl) _ i j | exact rowF_imm (fun _ => rfl) _ i j⟩))⟩, ?_⟩)
      -- ax 10 apart.Shifts
      repeat (first
        | refine AWp.seq ?_
        | refine thenA_n ?_
        | refine AWp.block ?_
        | refine AWp.skip ?_
        | refine AWp.exit ?_
        | refine AWp.ret ?_
        | refine thenA_e ?_
        | refine thenA_r ?_
        | refine inBlk_n ?_
        | refine inBlk_r ?_
        | refine inBlk_hit ?_
        | refine inBlk_miss rfl ?_
        | refine AWp.condT rfl (by first | rfl | assumption | exact cmT) ?_
        | refine AWp.condF rfl (by first | rfl | assumption | exact cmF) ?_
        | refine AWp.scope (fun _ _ h => h) ?_
        | refine AWp.label ?_
        | (refine AWp.region (id := 0) ?_; refine AList.box rfl rfl rfl rfl rfl ?_; refine AList.box rfl rfl rfl rfl rfl ?_; refine AList.assign rfl rfl rfl ?_; refine AList.nil ?_)
        | (refine AWp.region (id := 2) ?_; refine AList.assign rfl rfl rfl ?_; refine AList.nil ?_)
        | (refine AWp.region (id := 3) ?_; refine AList.move rfl rfl rfl ?_; refine AList.neg rfl rfl rfl (by omega) (by omega) ?_; refine AList.assign rfl rfl rfl ?_; refine AList.nil ?_)
        | (refine AWp.region (id := 4) ?_; refine AList.move rfl rfl rfl ?_; refine AList.move rfl rfl rfl ?_; (first | refine AList.cmpT rfl rfl rfl rfl rfl cmT ?_ | refine AList.cmpF rfl rfl rfl rfl rfl cmF ?_ | refine AList.cmp rfl rfl rfl rfl rfl ?_); refine AList.nil ?_)
        | (refine AWp.region (id := 5) ?_; refine AList.move rfl rfl rfl ?_; refine AList.add rfl rfl rfl rfl (by omega) (by omega) ?_; refine AList.assign rfl rfl rfl ?_; refine AList.nil ?_)
        | (refine AWp.region (id := 6) ?_; refine AList.move rfl rfl rfl ?_; refine AList.neg rfl rfl rfl (by omega) (by omega) ?_; refine AList.assign rfl rfl rfl ?_; refine AList.nil ?_)
        | (refine AWp.region (id := 7) ?_; refine AList.move rfl rfl rfl ?_; refine AList.move rfl rfl rfl ?_; (first | refine AList.cmpT rfl rfl rfl rfl rfl cmT ?_ | refine AList.cmpF rfl rfl rfl rfl rfl cmF ?_ | refine AList.cmp rfl rfl rfl rfl rfl ?_); refine AList.nil ?_)
        | (refine AWp.region (id := 8) ?_; refine AList.move rfl rfl rfl ?_; refine AList.add rfl rfl rfl rfl (by omega) (by omega) ?_; refine AList.assign rfl rfl rfl ?_; refine AList.nil ?_)
        | (refine AWp.region (id := 9) ?_; refine AList.move rfl rfl rfl ?_; refine AList.move rfl rfl rfl ?_; refine AList.move rfl rfl rfl ?_; (first | refine AList.buildSt tyOk rfl rfl rfl rfl rfl rfl rfl rfl ?_ | refine AList.buildArr tyOk rfl rfl rfl rfl rfl rfl rfl rfl ?_); refine AList.litSl tyOk rfl rfl rfl rfl rfl rfl rfl rfl rfl rfl rfl ?_; (first | refine AList.appL0 tyOk rfl rfl rfl rfl rfl rfl rfl rfl rfl rfl oM oM ?_ | refine AList.appL tyOk rfl rfl rfl rfl rfl rfl rfl rfl rfl rfl oM oM ?_ | refine AList.appN tyOk rfl rfl rfl rfl rfl rfl rfl rfl rfl oM oM ?_ | refine AList.appO tyOk rfl rfl rfl rfl rfl rfl rfl rfl rfl rfl rfl oM oM ?_ | refine AList.appE tyOk rfl rfl rfl rfl rfl rfl rfl rfl rfl rfl oM oM ?_); refine AList.assign rfl rfl rfl ?_; refine AList.nil ?_)
        | (refine AWp.region (id := 11) ?_; refine AList.move rfl rfl rfl ?_; refine AList.assign rfl rfl rfl ?_; refine AList.nil ?_))
      refine ⟨mkSt 39 [(4, .c (.ls (shL m).length 2 (rowF mvC mvZ (shL m))))] [] [], [], Wk.mk [] rfl rfl rfl ?_ trivial, rfl, rfl, ARets.one (x := .c _) (ARes.tmp rfl rfl)⟩
      repeat (first | exact trivial | refine ⟨⟨_, rfl, by first | exact LeA.c (LeC.refl _ rfl) | exact LeA.c (LeC.ow _ _ rfl) | exact LeA.c (LeC.pt _ _ _ _ _ rfl) | exact LeA.c (LeC.nil _ rfl) | exact LeA.c (LeC.nils _ _) | (refine LeA.int ?_; omega) | (refine LeA.int ?_; dsimp only; omega) | exact LeA.c (LeC.fz rfl rfl (by first | rfl | omega) (fun i _ j _ => ⟨rfl, by first | rfl | exact rowN_imm (fun _ => rfl) _ i j | exact rowF_imm (fun _ => rfl) _ i j⟩))⟩, ?_⟩)
end Go.Proofs.YtfgcogkhnnflcaaDoor
end

section
namespace Go.Proofs.YtfgcogkhnnflcaaDoor
open Go.RowKit Go.Flow Go.AV Go.Plain
theorem goes_false {N i : Nat} {stop : Bool} (h : goesB N stop i = false) : stop = true ∧ i + 1 = N := by
  unfold goesB at h
  rw [Bool.not_eq_false', Bool.and_eq_true] at h
  exact ⟨h.1, Nat.eq_of_beq_eq_true h.2⟩
theorem goes_true {N i : Nat} {stop : Bool} (h : goesB N stop i = true) : stop = true → i + 1 ≠ N := fun hs e => by
  unfold goesB at h
  rw [hs, e, show Nat.beq N N = true from Nat.beq_refl N] at h
  cases h
end Go.Proofs.YtfgcogkhnnflcaaDoor
end

section
namespace Go.Proofs.YtfgcogkhnnflcaaDoor
open Go.RowKit Go.Flow Go.AV Go.Plain
theorem first_hit (p : Nat → Bool) : ∀ n : Nat, (∀ i, i < n → p i = false) ∨ ∃ k, k < n ∧ p k = true ∧ ∀ i, i < k → p i = false
  | 0 => .inl fun i hi => absurd hi (Nat.not_lt_zero _)
  | n + 1 => by
    rcases first_hit p n with h | ⟨k, h1, h2, h3⟩
    · cases hp : p n with
      | true => exact .inr ⟨n, by omega, hp, h⟩
      | false => exact .inl fun i hi => if e : i = n then by rw [e]; exact hp else h i (by omega)
    · exact .inr ⟨k, by omega, h2, h3⟩
end Go.Proofs.YtfgcogkhnnflcaaDoor
end
