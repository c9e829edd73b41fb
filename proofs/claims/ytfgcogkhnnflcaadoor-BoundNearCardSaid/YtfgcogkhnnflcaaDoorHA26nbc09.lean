/- Parts of the proof: A24h. -/
import Derived.Test.YtfgcogkhnnflcaaDoorHA26nbc08
import Derived.Test.YtfgcogkhnnflcaaDoorHA26nbc07
import Derived.Test.YtfgcogkhnnflcaaDoorHA26nbc06
import Derived.Test.YtfgcogkhnnflcaaDoorHA26nbc05
import Derived.Test.YtfgcogkhnnflcaaDoorG12
import Derived.Test.YtfgcogkhnnflcaaDoorHA26nbc04
import Derived.Test.YtfgcogkhnnflcaaDoorG14
import Derived.Test.YtfgcogkhnnflcaaDoorG15
import Derived.Shelf.Abstract
import Derived.Test.YtfgcogkhnnflcaaDoorG13
import Derived.Test.YtfgcogkhnnflcaaDoorG11
import Derived.Test.YtfgcogkhnnflcaaDoorProg
import Derived.Test.YtfgcogkhnnflcaaDoorG01
import Derived.Test.YtfgcogkhnnflcaaDoorHA26nbc01
import Derived.Test.YtfgcogkhnnflcaaDoorG06
import Derived.RangeFuncNested
import Derived.Test.YtfgcogkhnnflcaaDoorHA26nbc03
import Derived.Laws.StructEq
import Derived.Lib.Hide
import Derived.Deep.QuietTactic
import Derived.BigQuiet
import Derived.Deep.DrawnRows
import Derived.Test.YtfgcogkhnnflcaaDoorG04
import Derived.Deep.AppendLies
import Derived.Maps.AppendAt
import Derived.OwnWalk
import Derived.Laws.Cover3
import Derived.StillTail
import Derived.Below
import Derived.Deep.Draws
import Derived.WalkKit
import Derived.KernelRfl
import Derived.Test.YtfgcogkhnnflcaaDoorG10
import Derived.Test.YtfgcogkhnnflcaaDoorHA26nbc02
import Derived.Great.BuildSlice
import Derived.Test.YtfgcogkhnnflcaaDoorG09
import Derived.RangeFuncLeaves
import Derived.RangeFuncRecord
import Derived.Test.YtfgcogkhnnflcaaDoorG08
import Derived.OrdersIn
import Derived.TacticsIn
import Derived.RangeFuncCalls
set_option linter.unusedSimpArgs false
set_option linter.unusedVariables false
section
namespace Go.Proofs.YtfgcogkhnnflcaaDoor
open Go.RowKit Go.Flow Go.AV Go.AV.Srt
theorem ins_len (a b : Nat) (L : List (Int × Int)) : (ins moZ mvLt a b L).length = L.length := insK_len a L _
theorem ins_oks {a b : Nat} {L : List (Int × Int)} (h : Oks L) (ha : a < L.length) (hb : b ≤ L.length) : Oks (ins moZ mvLt a b L) := insK_oks a L h _ (by omega)
theorem ins_none {a b : Nat} {L : List (Int × Int)} (h : b ≤ a + 1) : ins moZ mvLt a b L = L := by unfold ins; rw [show b - (a + 1) = 0 by omega]; rfl
theorem ins_oks' {a b : Nat} {L : List (Int × Int)} (h : Oks L) (hb : b ≤ L.length) : Oks (ins moZ mvLt a b L) := by
  by_cases ha : a < L.length
  · exact ins_oks h ha hb
  · rw [ins_none (by omega)]; exact h
theorem blk_out {n f a : Nat} {L : List (Int × Int)} (h : ¬ a + 20 ≤ n) : blk moZ mvLt n f a L = ins moZ mvLt a n L := by
  cases f with
  | zero => rfl
  | succ f => unfold blk; rw [if_neg h]
theorem mrgs_out {n f s : Nat} {L : List (Int × Int)} (h : ¬ s < n) : mrgs moZ mvLt n f s L = L := by
  cases f with
  | zero => rfl
  | succ f => unfold mrgs; rw [if_neg h]
set_option maxHeartbeats 4000000 in
set_option maxRecDepth 100000 in
theorem stable_H (L : List (Int × Int)) (C : Nat → CV) (hp0 : 0 < L.length) (hn : L.length ≤ 1000) (hL : Oks L) :
    HCalls Tryd.prog 61 [.c (.ow 1000), .c (iC L.length), .c (cmpC C)] [(1000, mvB L)] (.tu []) [(1000, mvB (stable moZ mvLt L))] := by
  refine hcalls_at Tryd.func61 rfl rfl Tryd.ntmps61 rfl rfl (fun p hp => by cases hp with | head => exact fun k j _ _ => rowF_imm mo_imm _ k j | tail _ h => cases h) ?_
  obtain ⟨n, hnl⟩ : ∃ n, L.length = n := ⟨_, rfl⟩
  obtain ⟨B, hB⟩ : ∃ B, blk moZ mvLt n n 0 L = B := ⟨_, rfl⟩
  obtain ⟨R, hR⟩ : ∃ R, mrgs moZ mvLt n n 20 B = R := ⟨_, rfl⟩
  rw [show stable moZ mvLt L = R by unfold stable; rw [hnl, hB, hR]]
  rw [hnl] at hp0 hn ⊢
  repeat (first
    | refine AWp.seq ?_
    | refine AWp.block ?_
    | (refine AWp.region (id := 0) ?_; refine AList.assign rfl rfl rfl ?_; refine AList.nil ?_)
    | (refine AWp.region (id := 1) ?_; refine AList.move rfl rfl rfl ?_; refine AList.assign rfl rfl rfl ?_; refine AList.assign rfl rfl rfl ?_; refine AList.nil ?_))
  refine AWp.round (fun t : Nat × Nat × List (Int × Int) => mkL 63 1 [(0, .c (.ow 1000)), (1, .c (iC n)), (2, .c (cmpC C)), (6, .c (iC 20)), (7, .c (iC t.2.1)), (8, .c (iC ((t.2.1 : Int) + 20)))] [(1000, mvB t.2.2)] [])
    (fun t => t.2.1 ≤ n ∧ n - t.2.1 ≤ t.1 ∧ t.2.2.length = n ∧ Oks t.2.2 ∧ blk moZ mvLt n t.1 t.2.1 t.2.2 = B) (fun t => t.1) (n, 0, L) ⟨Nat.zero_le _, Nat.le_refl _, hnl, hL, hB⟩ ?_ (fun t ht => ?_)
  · refine Wk.mkL [] rfl rfl rfl rfl rfl ?_ ?_
    · repeat (first | exact trivial | refine ⟨⟨_, rfl, by first | exact LeA.c (LeC.fn _ 0 _ _ (fun i hi => absurd hi (Nat.not_lt_zero _)) (fun i hi => absurd hi (Nat.not_lt_zero _))) | exact LeA.c (LeC.owB 1000 rfl) | exact LeA.c (LeC.refl _ rfl) | exact LeA.c (LeC.ow _ _ rfl) | exact LeA.c (LeC.pt _ _ _ _ _ rfl) | exact LeA.c (LeC.nil _ rfl) | exact LeA.c (LeC.nils _ _) | (refine LeA.int ?_; omega) | (refine LeA.int ?_; dsimp only; omega) | exact LeA.c (LeC.fz rfl rfl (by first | rfl | omega) (fun i _ j _ => ⟨rfl, by first | rfl | exact rowN_imm (fun _ => rfl) _ i j | exact rowF_imm (fun _ => rfl) _ i j⟩))⟩, ?_⟩)
    · exact ⟨HeapOk.lentRow rfl rfl (fun i _ j _ => ⟨rfl, rowF_imm mo_imm _ i j⟩), trivial⟩
  · obtain ⟨f, a, M⟩ := t
    obtain ⟨q1, q2, q3, q4, q5⟩ := ht
    dsimp only at q1 q2 q3 q4 q5
    dsimp only
    have hp : 0 < M.length := by omega
    by_cases hab : a + 20 ≤ n
    · obtain ⟨g, rfl⟩ : ∃ g, f = g + 1 := ⟨f - 1, by omega⟩
      have hI := insertion_H M a (a + 20) (fun i => lendB [1000] (C i)) (by omega) (by omega) (by omega) q4
      rw [show (((a + 20 : Nat) : Int)) = (a : Int) + 20 by omega] at hI
      have q5' : blk moZ mvLt n g (a + 20) (ins moZ mvLt a (a + 20) M) = B := by
        rw [← q5]
        show _ = if a + 20 ≤ n then blk moZ mvLt n g (a + 20) (ins moZ mvLt a (a + 20) M) else ins moZ mvLt a n M
        rw [if_pos hab]
      repeat (first
        | refine AWp.seq ?_
        | refine thenA_n ?_
        | refine AWp.block ?_
        | refine AWp.skip ?_
        | refine inBlk_n ?_
        | refine AWp.condT rfl (by first | rfl | assumption | exact cmT) ?_
        | (refine AWp.region (id := 2) ?_; refine AList.move rfl rfl rfl ?_; refine AList.move rfl rfl rfl ?_; refine AList.cmpT rfl rfl rfl rfl rfl cmT ?_; refine AList.nil ?_)
        | (refine AWp.region (id := 3) ?_; refine AList.move rfl rfl rfl ?_; refine AList.move rfl rfl rfl ?_; refine AList.move rfl rfl rfl ?_; refine AList.move rfl rfl rfl ?_; refine AList.callH [1000] [mvB M] [mvB (ins moZ mvLt a (a + 20) M)] rfl rfl rfl Tryd.func63 rfl (by kernel_rfl) (LendOk.row rfl hp (fun i _ j _ => ⟨rfl, rowF_imm mo_imm _ i j⟩) trivial) rfl (LendImm.row (fun i _ j _ => rowF_imm mo_imm _ i j) trivial) (hI) ?_; refine AList.nil ?_)
        | (refine AWp.region (id := 4) ?_; refine AList.move rfl rfl rfl ?_; refine AList.assign rfl rfl rfl ?_; refine AList.nil ?_)
        | (refine AWp.region (id := 5) ?_; refine AList.move rfl rfl rfl ?_; refine AList.move rfl rfl rfl ?_; refine AList.add rfl rfl rfl rfl (by omega) (by omega) ?_; refine AList.assign rfl rfl rfl ?_; refine AList.nil ?_))
      refine ⟨(g, a + 20, ins moZ mvLt a (a + 20) M), ⟨by dsimp only; omega, by dsimp only; omega, by dsimp only; rw [ins_len]; exact q3, ins_oks' q4 (by omega), q5'⟩, Wk.mkL [] rfl rfl rfl rfl rfl ?_ ?_, by dsimp only; omega⟩
      · repeat (first | exact trivial | refine ⟨⟨_, rfl, by first | exact LeA.c (LeC.fn _ 0 _ _ (fun i hi => absurd hi (Nat.not_lt_zero _)) (fun i hi => absurd hi (Nat.not_lt_zero _))) | exact LeA.c (LeC.owB 1000 rfl) | exact LeA.c (LeC.refl _ rfl) | exact LeA.c (LeC.ow _ _ rfl) | exact LeA.c (LeC.pt _ _ _ _ _ rfl) | exact LeA.c (LeC.nil _ rfl) | exact LeA.c (LeC.nils _ _) | (refine LeA.int ?_; omega) | (refine LeA.int ?_; dsimp only; omega) | exact LeA.c (LeC.fz rfl rfl (by first | rfl | omega) (fun i _ j _ => ⟨rfl, by first | rfl | exact rowN_imm (fun _ => rfl) _ i j | exact rowF_imm (fun _ => rfl) _ i j⟩))⟩, ?_⟩)
      · exact ⟨HeapOk.lentRow rfl rfl (fun i _ j _ => ⟨rfl, rowF_imm mo_imm _ i j⟩), trivial⟩
    · rw [blk_out hab] at q5
      have hI := insertion_H M a n (fun i => lendB [1000] (C i)) (by omega) q1 (by omega) q4
      rw [q5] at hI
      have hBl : B.length = n := by rw [← q5, ins_len]; exact q3
      have hBo : Oks B := by rw [← q5]; exact ins_oks' q4 (by omega)
      repeat (first
        | refine AWp.seq ?_
        | refine thenA_n ?_
        | refine AWp.block ?_
        | refine AWp.exit ?_
        | refine AWp.condF rfl (by first | rfl | assumption | exact cmF) ?_
        | (refine AWp.region (id := 2) ?_; refine AList.move rfl rfl rfl ?_; refine AList.move rfl rfl rfl ?_; refine AList.cmpF rfl rfl rfl rfl rfl cmF ?_; refine AList.nil ?_)
        | (refine AWp.region (id := 6) ?_; refine AList.move rfl rfl rfl ?_; refine AList.move rfl rfl rfl ?_; refine AList.move rfl rfl rfl ?_; refine AList.move rfl rfl rfl ?_; refine AList.callH [1000] [mvB M] [mvB B] rfl rfl rfl Tryd.func63 rfl (by kernel_rfl) (LendOk.row rfl hp (fun i _ j _ => ⟨rfl, rowF_imm mo_imm _ i j⟩) trivial) rfl (LendImm.row (fun i _ j _ => rowF_imm mo_imm _ i j) trivial) (hI) ?_; refine AList.nil ?_))
      refine AWp.round (fun t : Nat × Nat × List (Int × Int) => mkL 63 1 [(0, .c (.ow 1000)), (1, .c (iC n)), (2, .c (cmpC C)), (6, .c (iC t.2.1))] [(1000, mvB t.2.2)] [])
        (fun t => 20 ≤ t.2.1 ∧ t.2.1 ≤ 3000 ∧ n - t.2.1 ≤ t.1 ∧ t.2.2.length = n ∧ Oks t.2.2 ∧ mrgs moZ mvLt n t.1 t.2.1 t.2.2 = R) (fun t => t.1) (n, 20, B) ⟨Nat.le_refl _, by dsimp only; omega, by dsimp only; omega, hBl, hBo, hR⟩ ?_ (fun t ht => ?_)
      · refine Wk.mkL [] rfl rfl rfl rfl rfl ?_ ?_
        · repeat (first | exact trivial | refine ⟨⟨_, rfl, by first | exact LeA.c (LeC.fn _ 0 _ _ (fun i hi => absurd hi (Nat.not_lt_zero _)) (fun i hi => absurd hi (Nat.not_lt_zero _))) | exact LeA.c (LeC.owB 1000 rfl) | exact LeA.c (LeC.refl _ rfl) | exact LeA.c (LeC.ow _ _ rfl) | exact LeA.c (LeC.pt _ _ _ _ _ rfl) | exact LeA.c (LeC.nil _ rfl) | exact LeA.c (LeC.nils _ _) | (refine LeA.int ?_; omega) | (refine LeA.int ?_; dsimp only; omega) | exact LeA.c (LeC.fz rfl rfl (by first | rfl | omega) (fun i _ j _ => ⟨rfl, by first | rfl | exact rowN_imm (fun _ => rfl) _ i j | exact rowF_imm (fun _ => rfl) _ i j⟩))⟩, ?_⟩)
        · exact ⟨HeapOk.lentRow rfl rfl (fun i _ j _ => ⟨rfl, rowF_imm mo_imm _ i j⟩), trivial⟩
      · obtain ⟨f, s, K⟩ := t
        obtain ⟨p1, p2, p3, p4, p5, p6⟩ := ht
        dsimp only at p1 p2 p3 p4 p5 p6
        dsimp only
        by_cases hs : s < n
        · obtain ⟨g, rfl⟩ : ∃ g, f = g + 1 := ⟨f - 1, by omega⟩
          obtain ⟨K1, hK1⟩ : ∃ K1, mrg moZ mvLt n s n 0 K = K1 := ⟨_, rfl⟩
          have p6' : mrgs moZ mvLt n g (2 * s) K1 = R := by
            rw [← p6, ← hK1]
            show _ = if s < n then mrgs moZ mvLt n g (2 * s) (mrg moZ mvLt n s n 0 K) else K
            rw [if_pos hs]
          repeat (first
            | refine AWp.seq ?_
            | refine thenA_n ?_
            | refine AWp.block ?_
            | refine AWp.skip ?_
            | refine AWp.condT rfl (by first | rfl | assumption | exact cmT) ?_
            | (refine AWp.region (id := 7) ?_; refine AList.move rfl rfl rfl ?_; refine AList.move rfl rfl rfl ?_; refine AList.cmpT rfl rfl rfl rfl rfl cmT ?_; refine AList.nil ?_)
            | (refine AWp.region (id := 8) ?_; refine AList.move rfl rfl rfl ?_; refine AList.mul rfl rfl rfl rfl (by omega) (by omega) ?_; refine AList.assign rfl rfl rfl ?_; refine AList.assign rfl rfl rfl ?_; refine AList.nil ?_))
          refine AWp.round (fun t : Nat × Nat × List (Int × Int) => mkL 63 1 [(0, .c (.ow 1000)), (1, .c (iC n)), (2, .c (cmpC C)), (6, .c (iC s)), (7, .c (iC t.2.1)), (8, .c (iC ((t.2.1 : Int) + 2 * s)))] [(1000, mvB t.2.2)] [])
            (fun t => t.2.1 ≤ n ∧ n - t.2.1 ≤ t.1 ∧ t.2.2.length = n ∧ Oks t.2.2 ∧ mrg moZ mvLt n s t.1 t.2.1 t.2.2 = K1) (fun t => t.1) (n, 0, K) ⟨Nat.zero_le _, Nat.le_refl _, p4, p5, hK1⟩ ?_ (fun t ht => ?_)
          · refine Wk.mkL [] rfl rfl rfl rfl rfl ?_ ?_
            · repeat (first | exact trivial | refine ⟨⟨_, rfl, by first | exact LeA.c (LeC.fn _ 0 _ _ (fun i hi => absurd hi (Nat.not_lt_zero _)) (fun i hi => absurd hi (Nat.not_lt_zero _))) | exact LeA.c (LeC.owB 1000 rfl) | exact LeA.c (LeC.refl _ rfl) | exact LeA.c (LeC.ow _ _ rfl) | exact LeA.c (LeC.pt _ _ _ _ _ rfl) | exact LeA.c (LeC.nil _ rfl) | exact LeA.c (LeC.nils _ _) | (refine LeA.int ?_; omega) | (refine LeA.int ?_; dsimp only; omega) | exact LeA.c (LeC.fz rfl rfl (by first | rfl | omega) (fun i _ j _ => ⟨rfl, by first | rfl | exact rowN_imm (fun _ => rfl) _ i j | exact rowF_imm (fun _ => rfl) _ i j⟩))⟩, ?_⟩)
            · exact ⟨HeapOk.lentRow rfl rfl (fun i _ j _ => ⟨rfl, rowF_imm mo_imm _ i j⟩), trivial⟩
          · obtain ⟨f, a, M⟩ := t
            obtain ⟨r1, r2, r3, r4, r5⟩ := ht
            dsimp only at r1 r2 r3 r4 r5
            dsimp only
            have hp : 0 < M.length := by omega
            by_cases hab : a + 2 * s ≤ n
            · obtain ⟨g', rfl⟩ : ∃ g, f = g + 1 := ⟨f - 1, by omega⟩
              have hI := sym_H (2 * s) M a (a + s) (a + 2 * s) (fun i => lendB [1000] (C i)) (by omega) (by omega) (by omega) (by omega) r4 (by omega)
              rw [show (((a + s : Nat) : Int)) = (a : Int) + s by omega, show (((a + 2 * s : Nat) : Int)) = (a : Int) + 2 * s by omega] at hI
              have r5' : mrg moZ mvLt n s g' (a + 2 * s) (sym moZ mvLt (2 * s) a (a + s) (a + 2 * s) M) = K1 := by
                rw [← r5]
                show _ = if a + 2 * s ≤ n then mrg moZ mvLt n s g' (a + 2 * s) (sym moZ mvLt (2 * s) a (a + s) (a + 2 * s) M) else if a + s < n then sym moZ mvLt (n - a) a (a + s) n M else M
                rw [if_pos hab]
              repeat (first
                | refine AWp.seq ?_
                | refine thenA_n ?_
                | refine AWp.block ?_
                | refine AWp.skip ?_
                | refine inBlk_n ?_
                | refine AWp.condT rfl (by first | rfl | assumption | exact cmT) ?_
                | (refine AWp.region (id := 9) ?_; refine AList.move rfl rfl rfl ?_; refine AList.move rfl rfl rfl ?_; refine AList.cmpT rfl rfl rfl rfl rfl cmT ?_; refine AList.nil ?_)
                | (refine AWp.region (id := 10) ?_; refine AList.move rfl rfl rfl ?_; refine AList.move rfl rfl rfl ?_; refine AList.move rfl rfl rfl ?_; refine AList.move rfl rfl rfl ?_; refine AList.add rfl rfl rfl rfl (by omega) (by omega) ?_; refine AList.move rfl rfl rfl ?_; refine AList.move rfl rfl rfl ?_; refine AList.callH [1000] [mvB M] [mvB (sym moZ mvLt (2 * s) a (a + s) (a + 2 * s) M)] rfl rfl rfl Tryd.func64 rfl (by kernel_rfl) (LendOk.row rfl hp (fun i _ j _ => ⟨rfl, rowF_imm mo_imm _ i j⟩) trivial) rfl (LendImm.row (fun i _ j _ => rowF_imm mo_imm _ i j) trivial) (hI) ?_; refine AList.nil ?_)
                | (refine AWp.region (id := 11) ?_; refine AList.move rfl rfl rfl ?_; refine AList.assign rfl rfl rfl ?_; refine AList.nil ?_)
                | (refine AWp.region (id := 12) ?_; refine AList.move rfl rfl rfl ?_; refine AList.move rfl rfl rfl ?_; refine AList.mul rfl rfl rfl rfl (by omega) (by omega) ?_; refine AList.add rfl rfl rfl rfl (by omega) (by omega) ?_; refine AList.assign rfl rfl rfl ?_; refine AList.nil ?_))
              refine ⟨(g', a + 2 * s, sym moZ mvLt (2 * s) a (a + s) (a + 2 * s) M), ⟨hab, by dsimp only; omega, by dsimp only; rw [sym_len]; exact r3, sym_oks _ _ _ _ _ (by omega) (by omega) (by omega) r4, r5'⟩, Wk.mkL [] rfl rfl rfl rfl rfl ?_ ?_, by dsimp only; omega⟩
              · repeat (first | exact trivial | refine ⟨⟨_, rfl, by first | exact LeA.c (LeC.fn _ 0 _ _ (fun i hi => absurd hi (Nat.not_lt_zero _)) (fun i hi => absurd hi (Nat.not_lt_zero _))) | exact LeA.c (LeC.owB 1000 rfl) | exact LeA.c (LeC.refl _ rfl) | exact LeA.c (LeC.ow _ _ rfl) | exact LeA.c (LeC.pt _ _ _ _ _ rfl) | exact LeA.c (LeC.nil _ rfl) | exact LeA.c (LeC.nils _ _) | (refine LeA.int ?_; omega) | (refine LeA.int ?_; dsimp only; omega) | exact LeA.c (LeC.fz rfl rfl (by first | rfl | omega) (fun i _ j _ => ⟨rfl, by first | rfl | exact rowN_imm (fun _ => rfl) _ i j | exact rowF_imm (fun _ => rfl) _ i j⟩))⟩, ?_⟩)
              · exact ⟨HeapOk.lentRow rfl rfl (fun i _ j _ => ⟨rfl, rowF_imm mo_imm _ i j⟩), trivial⟩
            · by_cases hm : a + s < n
              · obtain ⟨g', rfl⟩ : ∃ g, f = g + 1 := ⟨f - 1, by omega⟩
                have hI := sym_H (n - a) M a (a + s) n (fun i => lendB [1000] (C i)) (by omega) hm (by omega) (by omega) r4 (by omega)
                rw [show (((a + s : Nat) : Int)) = (a : Int) + s by omega] at hI
                have r5' : sym moZ mvLt (n - a) a (a + s) n M = K1 := by
                  rw [← r5]
                  show _ = if a + 2 * s ≤ n then mrg moZ mvLt n s g' (a + 2 * s) (sym moZ mvLt (2 * s) a (a + s) (a + 2 * s) M) else if a + s < n then sym moZ mvLt (n - a) a (a + s) n M else M
                  rw [if_neg hab, if_pos hm]
                rw [r5'] at hI
                have hKl : K1.length = n := by rw [← r5', sym_len]; exact r3
                have hKo : Oks K1 := by rw [← r5']; exact sym_oks _ _ _ _ _ (by omega) hm (by omega) r4
                repeat (first
                  | refine AWp.seq ?_
                  | refine thenA_n ?_
                  | refine AWp.exit ?_
                  | refine inBlk_n ?_
                  | refine AWp.condT rfl (by first | rfl | assumption | exact cmT) ?_
                  | refine AWp.condF rfl (by first | rfl | assumption | exact cmF) ?_
                  | (refine AWp.region (id := 9) ?_; refine AList.move rfl rfl rfl ?_; refine AList.move rfl rfl rfl ?_; refine AList.cmpF rfl rfl rfl rfl rfl cmF ?_; refine AList.nil ?_)
                  | (refine AWp.region (id := 13) ?_; refine AList.move rfl rfl rfl ?_; refine AList.move rfl rfl rfl ?_; refine AList.add rfl rfl rfl rfl (by omega) (by omega) ?_; refine AList.assign rfl rfl rfl ?_; refine AList.nil ?_)
                  | (refine AWp.region (id := 14) ?_; refine AList.move rfl rfl rfl ?_; refine AList.move rfl rfl rfl ?_; refine AList.cmpT rfl rfl rfl rfl rfl cmT ?_; refine AList.nil ?_)
                  | (refine AWp.region (id := 15) ?_; refine AList.move rfl rfl rfl ?_; refine AList.move rfl rfl rfl ?_; refine AList.move rfl rfl rfl ?_; refine AList.move rfl rfl rfl ?_; refine AList.move rfl rfl rfl ?_; refine AList.callH [1000] [mvB M] [mvB K1] rfl rfl rfl Tryd.func64 rfl (by kernel_rfl) (LendOk.row rfl hp (fun i _ j _ => ⟨rfl, rowF_imm mo_imm _ i j⟩) trivial) rfl (LendImm.row (fun i _ j _ => rowF_imm mo_imm _ i j) trivial) (hI) ?_; refine AList.nil ?_)
                  | (refine AWp.region (id := 16) ?_; refine AList.move rfl rfl rfl ?_; refine AList.mul rfl rfl rfl rfl (by omega) (by omega) ?_; refine AList.assign rfl rfl rfl ?_; refine AList.nil ?_))
                refine ⟨(g, 2 * s, K1), ⟨by dsimp only; omega, by dsimp only; omega, by dsimp only; omega, hKl, hKo, p6'⟩, Wk.mkL [] rfl rfl rfl rfl rfl ?_ ?_, by dsimp only; omega⟩
                · repeat (first | exact trivial | refine ⟨⟨_, rfl, by first | exact LeA.c (LeC.fn _ 0 _ _ (fun i hi => absurd hi (Nat.not_lt_zero _)) (fun i hi => absurd hi (Nat.not_lt_zero _))) | exact LeA.c (LeC.owB 1000 rfl) | exact LeA.c (LeC.refl _ rfl) | exact LeA.c (LeC.ow _ _ rfl) | exact LeA.c (LeC.pt _ _ _ _ _ rfl) | exact LeA.c (LeC.nil _ rfl) | exact LeA.c (LeC.nils _ _) | (refine LeA.int ?_; omega) | (refine LeA.int ?_; dsimp only; omega) | exact LeA.c (LeC.fz rfl rfl (by first | rfl | omega) (fun i _ j _ => ⟨rfl, by first | rfl | exact rowN_imm (fun _ => rfl) _ i j | exact rowF_imm (fun _ => rfl) _ i j⟩))⟩, ?_⟩)
                · exact ⟨HeapOk.lentRow rfl rfl (fun i _ j _ => ⟨rfl, rowF_imm mo_imm _ i j⟩), trivial⟩
              · have r5' : M = K1 := by
                  rw [← r5]
                  cases f with
                  | zero => rfl
                  | succ g' =>
                    show _ = if a + 2 * s ≤ n then mrg moZ mvLt n s g' (a + 2 * s) (sym moZ mvLt (2 * s) a (a + s) (a + 2 * s) M) else if a + s < n then sym moZ mvLt (n - a) a (a + s) n M else M
                    rw [if_neg hab, if_neg hm]
                subst r5'
                repeat (first
                  | refine AWp.seq ?_
                  | refine thenA_n ?_
                  | refine AWp.skip ?_
                  | refine AWp.exit ?_
                  | refine inBlk_n ?_
                  | refine AWp.condF rfl (by first | rfl | assumption | exact cmF) ?_
                  | (refine AWp.region (id := 9) ?_; refine AList.move rfl rfl rfl ?_; refine AList.move rfl rfl rfl ?_; refine AList.cmpF rfl rfl rfl rfl rfl cmF ?_; refine AList.nil ?_)
                  | (refine AWp.region (id := 13) ?_; refine AList.move rfl rfl rfl ?_; refine AList.move rfl rfl rfl ?_; refine AList.add rfl rfl rfl rfl (by omega) (by omega) ?_; refine AList.assign rfl rfl rfl ?_; refine AList.nil ?_)
                  | (refine AWp.region (id := 14) ?_; refine AList.move rfl rfl rfl ?_; refine AList.move rfl rfl rfl ?_; refine AList.cmpF rfl rfl rfl rfl rfl cmF ?_; refine AList.nil ?_)
                  | (refine AWp.region (id := 16) ?_; refine AList.move rfl rfl rfl ?_; refine AList.mul rfl rfl rfl rfl (by omega) (by omega) ?_; refine AList.assign rfl rfl rfl ?_; refine AList.nil ?_))
                refine ⟨(g, 2 * s, M), ⟨by dsimp only; omega, by dsimp only; omega, by dsimp only; omega, r3, r4, p6'⟩, Wk.mkL [] rfl rfl rfl rfl rfl ?_ ?_, by dsimp only; omega⟩
                · repeat (first | exact trivial | refine ⟨⟨_, rfl, by first | exact LeA.c (LeC.fn _ 0 _ _ (fun i hi => absurd hi (Nat.not_lt_zero _)) (fun i hi => absurd hi (Nat.not_lt_zero _))) | exact LeA.c (LeC.owB 1000 rfl) | exact LeA.c (LeC.refl _ rfl) | exact LeA.c (LeC.ow _ _ rfl) | exact LeA.c (LeC.pt _ _ _ _ _ rfl) | exact LeA.c (LeC.nil _ rfl) | exact LeA.c (LeC.nils _ _) | (refine LeA.int ?_; omega) | (refine LeA.int ?_; dsimp only; omega) | exact LeA.c (LeC.fz rfl rfl (by first | rfl | omega) (fun i _ j _ => ⟨rfl, by first | rfl | exact rowN_imm (fun _ => rfl) _ i j | exact rowF_imm (fun _ => rfl) _ i j⟩))⟩, ?_⟩)
                · exact ⟨HeapOk.lentRow rfl rfl (fun i _ j _ => ⟨rfl, rowF_imm mo_imm _ i j⟩), trivial⟩
        · rw [mrgs_out hs] at p6
          subst p6
          repeat (first
            | refine AWp.seq ?_
            | refine thenA_n ?_
            | refine AWp.exit ?_
            | refine thenA_e ?_
            | refine inBlk_hit ?_
            | refine AWp.condF rfl (by first | rfl | assumption | exact cmF) ?_
            | (refine AWp.region (id := 7) ?_; refine AList.move rfl rfl rfl ?_; refine AList.move rfl rfl rfl ?_; refine AList.cmpF rfl rfl rfl rfl rfl cmF ?_; refine AList.nil ?_))
          refine ⟨mkL 63 1 [] [(1000, mvB K)] [], [], Wk.mkL [] rfl rfl rfl rfl rfl trivial ?_, rfl, rfl, ARets.no⟩
          exact ⟨HeapOk.lentRow rfl rfl (fun i _ j _ => ⟨rfl, rowF_imm mo_imm _ i j⟩), trivial⟩
set_option maxRecDepth 100000 in
theorem SortStable_H (L : List (Int × Int)) (C : Nat → CV) (hp0 : 0 < L.length) (hn : L.length ≤ 1000) (hL : Oks L) :
    HCalls Tryd.prog 50 [.c (.ow 1000), .c (cmpC C)] [(1000, mvB L)] (.tu []) [(1000, mvB (stable moZ mvLt L))] := by
  refine hcalls_at Tryd.func50 rfl rfl Tryd.ntmps50 rfl rfl (fun p hp => by cases hp with | head => exact fun k j _ _ => rowF_imm mo_imm _ k j | tail _ h => cases h) ?_
  have hS := stable_H L (fun i => lendB [1000] (C i)) hp0 hn hL
  repeat (first
    | (refine AWp.region (id := 0) ?_; refine AList.move rfl rfl rfl ?_; refine AList.move rfl rfl rfl ?_; refine AList.lenOw tyOk rfl rfl rfl rfl rfl rfl rfl ?_; refine AList.move rfl rfl rfl ?_; refine AList.callH [1000] [mvB L] [mvB (stable moZ mvLt L)] rfl rfl rfl Tryd.func61 rfl (by kernel_rfl) (LendOk.row rfl hp0 (fun i _ j _ => ⟨rfl, rowF_imm mo_imm _ i j⟩) trivial) rfl (LendImm.row (fun i _ j _ => rowF_imm mo_imm _ i j) trivial) (hS) ?_; refine AList.nil ?_))
  refine ⟨mkL 9 1 [] [(1000, mvB (stable moZ mvLt L))] [], [], Wk.mkL [] rfl rfl rfl rfl rfl trivial ?_, rfl, rfl, ARets.no⟩
  exact ⟨HeapOk.lentRow rfl rfl (fun i _ j _ => ⟨rfl, rowF_imm mo_imm _ i j⟩), trivial⟩
end Go.Proofs.YtfgcogkhnnflcaaDoor
end
