/- Parts of the proof: A24g. -/
import Derived.Test.YtfgcogkhnnflcaaDoorHA26nbc07
import Derived.Test.YtfgcogkhnnflcaaDoorHA26nbc06
import Derived.Test.YtfgcogkhnnflcaaDoorHA26nbc05
import Derived.Test.YtfgcogkhnnflcaaDoorG12
import Derived.Test.YtfgcogkhnnflcaaDoorHA26nbc04
import Derived.Test.YtfgcogkhnnflcaaDoorG14
import Derived.Test.YtfgcogkhnnflcaaDoorG15
import Derived.Shelf.Abstract
import Derived.Test.YtfgcogkhnnflcaaDoorG13
import Derived.Test.YtfgcogkhnnflcaaDoorG11
import Derived.Test.YtfgcogkhnnflcaaDoorProg
import Derived.Test.YtfgcogkhnnflcaaDoorG01
import Derived.Test.YtfgcogkhnnflcaaDoorHA26nbc01
import Derived.Test.YtfgcogkhnnflcaaDoorG06
import Derived.RangeFuncNested
import Derived.Test.YtfgcogkhnnflcaaDoorHA26nbc03
import Derived.Laws.StructEq
import Derived.Lib.Hide
import Derived.Deep.QuietTactic
import Derived.BigQuiet
import Derived.Deep.DrawnRows
import Derived.Test.YtfgcogkhnnflcaaDoorG04
import Derived.Deep.AppendLies
import Derived.Maps.AppendAt
import Derived.OwnWalk
import Derived.Laws.Cover3
import Derived.StillTail
import Derived.Below
import Derived.Deep.Draws
import Derived.WalkKit
import Derived.KernelRfl
import Derived.Test.YtfgcogkhnnflcaaDoorG10
import Derived.Test.YtfgcogkhnnflcaaDoorHA26nbc02
import Derived.Great.BuildSlice
import Derived.Test.YtfgcogkhnnflcaaDoorG09
import Derived.RangeFuncLeaves
import Derived.RangeFuncRecord
import Derived.Test.YtfgcogkhnnflcaaDoorG08
import Derived.OrdersIn
import Derived.TacticsIn
import Derived.RangeFuncCalls
set_option linter.unusedSimpArgs false
set_option linter.unusedVariables false
section
namespace Go.Proofs.YtfgcogkhnnflcaaDoor
open Go.RowKit Go.Flow Go.AV Go.AV.Srt
theorem AWp.join2 {P : Program} {x y z : Code} {Q : Exit → St → Prop} {S : St} (S1 : St) (h : AWp P x (thenA (AWp P y (fun e S' => e = .normal ∧ Wk S' S1)) (fun e S' => e = .normal ∧ Wk S' S1)) S) (hz : AWp P z Q S1) :
    AWp P x (thenA (AWp P y (thenA (AWp P z Q) Q)) (thenA (AWp P z Q) Q)) S := h.mono fun e S' h => by
  cases e with
  | normal => exact AWp.mono h fun e S' ⟨he, hw⟩ => by subst he; exact AWp.weak hw hz
  | _ => cases h.1
def SymC (f : Nat) : Prop := ∀ (L : List (Int × Int)) (a m b : Nat) (C : Nat → CV), a < m → m < b → b ≤ L.length → L.length ≤ 1000 → Oks L → b - a ≤ f →
    HCalls Tryd.prog 64 [.c (.ow 1000), .c (iC a), .c (iC m), .c (iC b), .c (cmpC C)] [(1000, mvB L)] (.tu []) [(1000, mvB (sym moZ mvLt f a m b L))]
set_option maxHeartbeats 4000000 in
set_option maxRecDepth 100000 in
theorem sym_gen (f : Nat) (ih : SymC f) (L : List (Int × Int)) (a m b : Nat) (C : Nat → CV) (h1 : a < m) (h2 : m < b) (hb : b ≤ L.length) (hn : L.length ≤ 1000) (hL : Oks L) (hf : b - a ≤ f + 1) (hc0 : ¬ m - a = 1) (hc1 : ¬ b - m = 1) :
    HCalls Tryd.prog 64 [.c (.ow 1000), .c (iC a), .c (iC m), .c (iC b), .c (cmpC C)] [(1000, mvB L)] (.tu []) [(1000, mvB (sym moZ mvLt (f + 1) a m b L))] := by
  refine hcalls_at Tryd.func64 rfl rfl Tryd.ntmps64 rfl rfl (fun p hp => by cases hp with | head => exact fun k j _ _ => rowF_imm mo_imm _ k j | tail _ h => cases h) ?_
  have hu0 := half_u (i := a) (j := b) (by omega)
  have hi0 := half_i (i := a) (j := b) (by omega)
  obtain ⟨d, hd⟩ : ∃ d, (a + b) / 2 = d := ⟨_, rfl⟩
  rw [hd] at hi0
  have hdb : a < d ∧ d < b ∧ 2 * d ≤ a + b ∧ a + b ≤ 2 * d + 1 := by omega
  obtain ⟨s0, hs0⟩ : ∃ s0, (if d < m then d + m - b else a) = s0 := ⟨_, rfl⟩
  obtain ⟨r0, hr0⟩ : ∃ r0, (if d < m then d else m) = r0 := ⟨_, rfl⟩
  have hsr : a ≤ s0 ∧ s0 ≤ r0 ∧ r0 ≤ m ∧ r0 ≤ d ∧ d + m - s0 ≤ b := by
    rw [← hs0, ← hr0]
    split <;> omega
  obtain ⟨T, hT⟩ : ∃ T : Nat → Bool, T = fun c => !(mvLt (L.getD (d + m - 1 - c) moZ) (L.getD c moZ)) := ⟨_, rfl⟩
  obtain ⟨s, hse⟩ : ∃ s, bs T (r0 - s0) s0 r0 = s := ⟨_, rfl⟩
  have hsb := bs_bd T (r0 - s0) s0 r0 hsr.2.1
  rw [hse] at hsb
  obtain ⟨e, he⟩ : ∃ e, d + m - s = e := ⟨_, rfl⟩
  obtain ⟨L1, hL1⟩ : ∃ L1, (if s < m ∧ m < e then rot moZ m (e - s) (m - s) (e - m) L else L) = L1 := ⟨_, rfl⟩
  obtain ⟨L2, hL2⟩ : ∃ L2, (if a < s ∧ s < d then sym moZ mvLt f a s d L1 else L1) = L2 := ⟨_, rfl⟩
  obtain ⟨L3, hL3⟩ : ∃ L3, (if d < e ∧ e < b then sym moZ mvLt f d e b L2 else L2) = L3 := ⟨_, rfl⟩
  have hsy : sym moZ mvLt (f + 1) a m b L = L3 := by
    unfold sym
    rw [if_neg hc0, if_neg hc1]
    dsimp only
    rw [hd, hs0, hr0, ← hT, hse, he, hL1, hL2, hL3]
  have hL1o : Oks L1 ∧ L1.length = L.length := by
    rw [← hL1]
    split
    · exact ⟨rot_oks m _ _ _ _ (by omega) (by omega) hL, rot_len _ _ _ _ _⟩
    · exact ⟨hL, rfl⟩
  have hL2o : Oks L2 ∧ L2.length = L.length := by
    rw [← hL2]
    split
    · rename_i hc; exact ⟨sym_oks f _ _ _ _ hc.1 hc.2 (by rw [hL1o.2]; omega) hL1o.1, by rw [sym_len]; exact hL1o.2⟩
    · exact hL1o
  have hL3l : L3.length = L.length := by
    rw [← hL3]
    split
    · rw [sym_len]; exact hL2o.2
    · exact hL2o.2
  rw [hsy]
  -- ax 1 slices.symMergeCmpFunc[api.Move]
  repeat (first
    | refine AWp.seq ?_
    | refine thenA_n ?_
    | refine AWp.block ?_
    | refine AWp.skip ?_
    | refine AWp.exit ?_
    | refine AWp.ret ?_
    | refine thenA_e ?_
    | refine thenA_r ?_
    | refine inBlk_n ?_
    | refine inBlk_r ?_
    | refine inBlk_hit ?_
    | refine inBlk_miss rfl ?_
    | refine AWp.condT rfl (by first | rfl | assumption | exact cmT) ?_
    | refine AWp.condF rfl (by first | rfl | assumption | exact cmF) ?_
    | refine AWp.scope (fun _ _ h => h) ?_
    | refine AWp.label ?_
    | (refine AWp.region (id := 0) ?_; refine AList.move rfl rfl rfl ?_; refine AList.move rfl rfl rfl ?_; refine AList.sub rfl rfl rfl rfl (by omega) (by omega) ?_; (first | refine AList.cmpT rfl rfl rfl rfl rfl cmT ?_ | refine AList.cmpF rfl rfl rfl rfl rfl cmF ?_ | refine AList.cmp rfl rfl rfl rfl rfl ?_); refine AList.nil ?_)
    | (refine AWp.region (id := 12) ?_; refine AList.move rfl rfl rfl ?_; refine AList.move rfl rfl rfl ?_; refine AList.sub rfl rfl rfl rfl (by omega) (by omega) ?_; (first | refine AList.cmpT rfl rfl rfl rfl rfl cmT ?_ | refine AList.cmpF rfl rfl rfl rfl rfl cmF ?_ | refine AList.cmp rfl rfl rfl rfl rfl ?_); refine AList.nil ?_)
    | (refine AWp.region (id := 24) ?_; refine AList.move rfl rfl rfl ?_; refine AList.move rfl rfl rfl ?_; refine AList.add rfl rfl rfl rfl (by omega) (by omega) ?_; refine AList.convI (hu0) (by kernel_rfl) Tryd.underlying111 rfl rfl rfl ?_; refine AList.shr1 rfl rfl rfl rfl ?_; refine AList.convI (hi0) (by kernel_rfl) Tryd.underlying3 rfl rfl rfl ?_; refine AList.assign rfl rfl rfl ?_; refine AList.nil ?_)
    | (refine AWp.region (id := 25) ?_; refine AList.move rfl rfl rfl ?_; refine AList.move rfl rfl rfl ?_; refine AList.add rfl rfl rfl rfl (by omega) (by omega) ?_; refine AList.assign rfl rfl rfl ?_; refine AList.nil ?_)
    | (refine AWp.region (id := 26) ?_; refine AList.assign rfl rfl rfl ?_; refine AList.assign rfl rfl rfl ?_; refine AList.nil ?_))
  refine AWp.join2 (mkL 220 1 (sySl a m b C ++ [(18, .c (iC d)), (19, .c (iC ((d : Int) + m))), (20, .c (iC s0)), (21, .c (iC r0))]) [(1000, mvB L)] []) ?_ ?_
  · by_cases hdm : d < m
    · rw [if_pos hdm] at hs0 hr0
      -- ax 2 slices.symMergeCmpFunc[api.Move]
      repeat (first
        | refine AWp.seq ?_
        | refine thenA_n ?_
        | refine AWp.block ?_
        | refine AWp.skip ?_
        | refine AWp.exit ?_
        | refine AWp.ret ?_
        | refine thenA_e ?_
        | refine thenA_r ?_
        | refine inBlk_n ?_
        | refine inBlk_r ?_
        | refine inBlk_hit ?_
        | refine inBlk_miss rfl ?_
        | refine AWp.condT rfl (by first | rfl | assumption | exact cmT) ?_
        | refine AWp.condF rfl (by first | rfl | assumption | exact cmF) ?_
        | refine AWp.scope (fun _ _ h => h) ?_
        | refine AWp.label ?_
        | (refine AWp.region (id := 27) ?_; refine AList.move rfl rfl rfl ?_; refine AList.move rfl rfl rfl ?_; (first | refine AList.cmpT rfl rfl rfl rfl rfl cmT ?_ | refine AList.cmpF rfl rfl rfl rfl rfl cmF ?_ | refine AList.cmp rfl rfl rfl rfl rfl ?_); refine AList.nil ?_)
        | (refine AWp.region (id := 28) ?_; refine AList.move rfl rfl rfl ?_; refine AList.move rfl rfl rfl ?_; refine AList.sub rfl rfl rfl rfl (by omega) (by omega) ?_; refine AList.assign rfl rfl rfl ?_; refine AList.nil ?_)
        | (refine AWp.region (id := 29) ?_; refine AList.move rfl rfl rfl ?_; refine AList.assign rfl rfl rfl ?_; refine AList.nil ?_)
        | (refine AWp.region (id := 30) ?_; refine AList.move rfl rfl rfl ?_; refine AList.assign rfl rfl rfl ?_; refine AList.nil ?_)
        | (refine AWp.region (id := 31) ?_; refine AList.move rfl rfl rfl ?_; refine AList.assign rfl rfl rfl ?_; refine AList.nil ?_))
      refine ⟨rfl, ?_⟩
      refine Wk.mkL [] rfl rfl rfl rfl rfl ?_ ?_
      · repeat (first | exact trivial | refine ⟨⟨_, rfl, by first | exact LeA.c (LeC.fn _ 0 _ _ (fun i hi => absurd hi (Nat.not_lt_zero _)) (fun i hi => absurd hi (Nat.not_lt_zero _))) | exact LeA.c (LeC.owB 1000 rfl) | exact LeA.c (LeC.refl _ rfl) | exact LeA.c (LeC.ow _ _ rfl) | exact LeA.c (LeC.pt _ _ _ _ _ rfl) | exact LeA.c (LeC.nil _ rfl) | exact LeA.c (LeC.nils _ _) | (refine LeA.int ?_; omega) | (refine LeA.int ?_; dsimp only; omega) | exact LeA.c (LeC.fz rfl rfl (by first | rfl | omega) (fun i _ j _ => ⟨rfl, by first | rfl | exact rowN_imm (fun _ => rfl) _ i j | exact rowF_imm (fun _ => rfl) _ i j⟩))⟩, ?_⟩)
      · exact ⟨HeapOk.lentRow rfl rfl (fun i _ j _ => ⟨rfl, rowF_imm mo_imm _ i j⟩), trivial⟩
    · rw [if_neg hdm] at hs0 hr0
      -- ax 3 slices.symMergeCmpFunc[api.Move]
      repeat (first
        | refine AWp.seq ?_
        | refine thenA_n ?_
        | refine AWp.block ?_
        | refine AWp.skip ?_
        | refine AWp.exit ?_
        | refine AWp.ret ?_
        | refine thenA_e ?_
        | refine thenA_r ?_
        | refine inBlk_n ?_
        | refine inBlk_r ?_
        | refine inBlk_hit ?_
        | refine inBlk_miss rfl ?_
        | refine AWp.condT rfl (by first | rfl | assumption | exact cmT) ?_
        | refine AWp.condF rfl (by first | rfl | assumption | exact cmF) ?_
        | refine AWp.scope (fun _ _ h => h) ?_
        | refine AWp.label ?_
        | (refine AWp.region (id := 27) ?_; refine AList.move rfl rfl rfl ?_; refine AList.move rfl rfl rfl ?_; (first | refine AList.cmpT rfl rfl rfl rfl rfl cmT ?_ | refine AList.cmpF rfl rfl rfl rfl rfl cmF ?_ | refine AList.cmp rfl rfl rfl rfl rfl ?_); refine AList.nil ?_)
        | (refine AWp.region (id := 28) ?_; refine AList.move rfl rfl rfl ?_; refine AList.move rfl rfl rfl ?_; refine AList.sub rfl rfl rfl rfl (by omega) (by omega) ?_; refine AList.assign rfl rfl rfl ?_; refine AList.nil ?_)
        | (refine AWp.region (id := 29) ?_; refine AList.move rfl rfl rfl ?_; refine AList.assign rfl rfl rfl ?_; refine AList.nil ?_)
        | (refine AWp.region (id := 30) ?_; refine AList.move rfl rfl rfl ?_; refine AList.assign rfl rfl rfl ?_; refine AList.nil ?_)
        | (refine AWp.region (id := 31) ?_; refine AList.move rfl rfl rfl ?_; refine AList.assign rfl rfl rfl ?_; refine AList.nil ?_))
      refine ⟨rfl, ?_⟩
      refine Wk.mkL [] rfl rfl rfl rfl rfl ?_ ?_
      · repeat (first | exact trivial | refine ⟨⟨_, rfl, by first | exact LeA.c (LeC.fn _ 0 _ _ (fun i hi => absurd hi (Nat.not_lt_zero _)) (fun i hi => absurd hi (Nat.not_lt_zero _))) | exact LeA.c (LeC.owB 1000 rfl) | exact LeA.c (LeC.refl _ rfl) | exact LeA.c (LeC.ow _ _ rfl) | exact LeA.c (LeC.pt _ _ _ _ _ rfl) | exact LeA.c (LeC.nil _ rfl) | exact LeA.c (LeC.nils _ _) | (refine LeA.int ?_; omega) | (refine LeA.int ?_; dsimp only; omega) | exact LeA.c (LeC.fz rfl rfl (by first | rfl | omega) (fun i _ j _ => ⟨rfl, by first | rfl | exact rowN_imm (fun _ => rfl) _ i j | exact rowF_imm (fun _ => rfl) _ i j⟩))⟩, ?_⟩)
      · exact ⟨HeapOk.lentRow rfl rfl (fun i _ j _ => ⟨rfl, rowF_imm mo_imm _ i j⟩), trivial⟩
  -- ax 4 slices.symMergeCmpFunc[api.Move]
  repeat (first
    | refine AWp.seq ?_
    | refine thenA_n ?_
    | refine AWp.block ?_
    | refine AWp.skip ?_
    | refine AWp.exit ?_
    | refine AWp.ret ?_
    | refine thenA_e ?_
    | refine thenA_r ?_
    | refine inBlk_n ?_
    | refine inBlk_r ?_
    | refine inBlk_hit ?_
    | refine inBlk_miss rfl ?_
    | refine AWp.condT rfl (by first | rfl | assumption | exact cmT) ?_
    | refine AWp.condF rfl (by first | rfl | assumption | exact cmF) ?_
    | refine AWp.scope (fun _ _ h => h) ?_
    | refine AWp.label ?_
    | (refine AWp.region (id := 32) ?_; refine AList.move rfl rfl rfl ?_; refine AList.sub rfl rfl rfl rfl (by omega) (by omega) ?_; refine AList.assign rfl rfl rfl ?_; refine AList.nil ?_))
  refine AWp.round (fun t : Nat × Nat × Nat => mkL 220 1 (sySl a m b C ++ [(18, .c (iC d)), (19, .c (iC ((d : Int) + m))), (20, .c (iC t.2.1)), (21, .c (iC t.2.2)), (22, .c (iC ((d : Int) + m - 1)))]) [(1000, mvB L)] [])
    (fun t => s0 ≤ t.2.1 ∧ t.2.1 ≤ t.2.2 ∧ t.2.2 ≤ r0 ∧ t.2.2 - t.2.1 ≤ t.1 ∧ bs T t.1 t.2.1 t.2.2 = s) (fun t => t.1) (r0 - s0, s0, r0) ⟨Nat.le_refl _, hsr.2.1, Nat.le_refl _, Nat.le_refl _, hse⟩ ?_ (fun t ht => ?_)
  · refine Wk.mkL [] rfl rfl rfl rfl rfl ?_ ?_
    · repeat (first | exact trivial | refine ⟨⟨_, rfl, by first | exact LeA.c (LeC.fn _ 0 _ _ (fun i hi => absurd hi (Nat.not_lt_zero _)) (fun i hi => absurd hi (Nat.not_lt_zero _))) | exact LeA.c (LeC.owB 1000 rfl) | exact LeA.c (LeC.refl _ rfl) | exact LeA.c (LeC.ow _ _ rfl) | exact LeA.c (LeC.pt _ _ _ _ _ rfl) | exact LeA.c (LeC.nil _ rfl) | exact LeA.c (LeC.nils _ _) | (refine LeA.int ?_; omega) | (refine LeA.int ?_; dsimp only; omega) | exact LeA.c (LeC.fz rfl rfl (by first | rfl | omega) (fun i _ j _ => ⟨rfl, by first | rfl | exact rowN_imm (fun _ => rfl) _ i j | exact rowF_imm (fun _ => rfl) _ i j⟩))⟩, ?_⟩)
    · exact ⟨HeapOk.lentRow rfl rfl (fun i _ j _ => ⟨rfl, rowF_imm mo_imm _ i j⟩), trivial⟩
  · obtain ⟨g, i, j⟩ := t
    obtain ⟨q1, q2, q3, q4, q5⟩ := ht
    dsimp only at q1 q2 q3 q4 q5
    dsimp only
    by_cases hij : i < j
    · obtain ⟨g, rfl⟩ : ∃ k, g = k + 1 := ⟨g - 1, by omega⟩
      have hu := half_u (i := i) (j := j) (by omega)
      have hi := half_i (i := i) (j := j) (by omega)
      obtain ⟨c, hh⟩ : ∃ c, (i + j) / 2 = c := ⟨_, rfl⟩
      rw [hh] at hi
      have hhb : i ≤ c ∧ c < j := by omega
      have hcm := cmp_A (L.getD (d + m - 1 - c) moZ) (L.getD c moZ) (hL _) (hL _)
      have q5' : (if T c = true then bs T g (c + 1) j else bs T g i c) = s := by
        rw [← q5, ← hh]
        show _ = if i < j then (if T ((i + j) / 2) = true then bs T g ((i + j) / 2 + 1) j else bs T g i ((i + j) / 2)) else i
        rw [if_pos hij]
      by_cases hl : mvLt (L.getD (d + m - 1 - c) moZ) (L.getD c moZ) = true
      · have hl' := mvCmp_lt.1 hl
        rw [if_neg (by rw [hT]; simp only [hl]; decide)] at q5'
        -- ax 5 slices.symMergeCmpFunc[api.Move]
        repeat (first
          | refine AWp.seq ?_
          | refine thenA_n ?_
          | refine AWp.block ?_
          | refine AWp.skip ?_
          | refine AWp.exit ?_
          | refine AWp.ret ?_
          | refine thenA_e ?_
          | refine thenA_r ?_
          | refine inBlk_n ?_
          | refine inBlk_r ?_
          | refine inBlk_hit ?_
          | refine inBlk_miss rfl ?_
          | refine AWp.condT rfl (by first | rfl | assumption | exact cmT) ?_
          | refine AWp.condF rfl (by first | rfl | assumption | exact cmF) ?_
          | refine AWp.scope (fun _ _ h => h) ?_
          | refine AWp.label ?_
          | (refine AWp.region (id := 33) ?_; refine AList.move rfl rfl rfl ?_; refine AList.move rfl rfl rfl ?_; (first | refine AList.cmpT rfl rfl rfl rfl rfl cmT ?_ | refine AList.cmpF rfl rfl rfl rfl rfl cmF ?_ | refine AList.cmp rfl rfl rfl rfl rfl ?_); refine AList.nil ?_)
          | (refine AWp.region (id := 34) ?_; refine AList.move rfl rfl rfl ?_; refine AList.move rfl rfl rfl ?_; refine AList.add rfl rfl rfl rfl (by omega) (by omega) ?_; refine AList.convI (hu) (by kernel_rfl) Tryd.underlying111 rfl rfl rfl ?_; refine AList.shr1 rfl rfl rfl rfl ?_; refine AList.convI (hi) (by kernel_rfl) Tryd.underlying3 rfl rfl rfl ?_; refine AList.assign rfl rfl rfl ?_; refine AList.nil ?_)
          | (refine AWp.draw (id := 35) mixed ?_; refine AList.move rfl rfl rfl ?_; refine AList.move rfl rfl rfl ?_; refine AList.move rfl rfl rfl ?_; refine AList.move rfl rfl rfl ?_; refine AList.sub rfl rfl rfl rfl (by omega) (by omega) ?_; (first | refine AList.idx (k := d + m - 1 - c) tyOk rfl rfl rfl rfl rfl rfl rfl rfl (by first | rfl | omega) oM oM ?_ | refine AList.idxOw (k := d + m - 1 - c) tyOk rfl rfl rfl rfl rfl rfl rfl rfl rfl rfl (by first | rfl | omega) oM ?_); (first | refine AList.loadA tyOk rfl rfl rfl rfl rfl rfl rfl oM oM ?_ | refine AList.loadAl tyOk rfl rfl rfl rfl rfl oM ?_); refine AList.move rfl rfl rfl ?_; refine AList.move rfl rfl rfl ?_; (first | refine AList.idx (k := c) tyOk rfl rfl rfl rfl rfl rfl rfl rfl (by first | rfl | omega) oM oM ?_ | refine AList.idxOw (k := c) tyOk rfl rfl rfl rfl rfl rfl rfl rfl rfl rfl (by first | rfl | omega) oM ?_); (first | refine AList.loadA tyOk rfl rfl rfl rfl rfl rfl rfl oM oM ?_ | refine AList.loadAl tyOk rfl rfl rfl rfl rfl oM ?_); refine AList.call0 rfl rfl rfl rfl rfl Tryd.func51 rfl (by kernel_rfl) (hcm) ?_; (first | refine AList.cmpT rfl rfl rfl rfl rfl cmT ?_ | refine AList.cmpF rfl rfl rfl rfl rfl cmF ?_ | refine AList.cmp rfl rfl rfl rfl rfl ?_); refine AList.notB rfl rfl rfl ?_; refine AList.nil ⟨by kernel_rfl, ?_⟩)
          | (refine AWp.region (id := 36) ?_; refine AList.move rfl rfl rfl ?_; refine AList.add rfl rfl rfl rfl (by omega) (by omega) ?_; refine AList.assign rfl rfl rfl ?_; refine AList.nil ?_)
          | (refine AWp.region (id := 37) ?_; refine AList.move rfl rfl rfl ?_; refine AList.assign rfl rfl rfl ?_; refine AList.nil ?_))
        refine ⟨(g, i, c), ⟨q1, by dsimp only; omega, by dsimp only; omega, by dsimp only; omega, q5'⟩, Wk.mkL [] rfl rfl rfl rfl rfl ?_ ?_, by dsimp only; omega⟩
        · repeat (first | exact trivial | refine ⟨⟨_, rfl, by first | exact LeA.c (LeC.fn _ 0 _ _ (fun i hi => absurd hi (Nat.not_lt_zero _)) (fun i hi => absurd hi (Nat.not_lt_zero _))) | exact LeA.c (LeC.owB 1000 rfl) | exact LeA.c (LeC.refl _ rfl) | exact LeA.c (LeC.ow _ _ rfl) | exact LeA.c (LeC.pt _ _ _ _ _ rfl) | exact LeA.c (LeC.nil _ rfl) | exact LeA.c (LeC.nils _ _) | (refine LeA.int ?_; omega) | (refine LeA.int ?_; dsimp only; omega) | exact LeA.c (LeC.fz rfl rfl (by first | rfl | omega) (fun i _ j _ => ⟨rfl, by first | rfl | exact rowN_imm (fun _ => rfl) _ i j | exact rowF_imm (fun _ => rfl) _ i j⟩))⟩, ?_⟩)
        · exact ⟨HeapOk.lentRow rfl rfl (fun i _ j _ => ⟨rfl, rowF_imm mo_imm _ i j⟩), trivial⟩
      · have hl' : ¬ mvCmp (L.getD (d + m - 1 - c) moZ) (L.getD c moZ) < 0 := fun h => hl (mvCmp_lt.2 h)
        rw [if_pos (by rw [hT]; simp only [Bool.eq_false_iff.2 hl]; decide)] at q5'
        -- ax 6 slices.symMergeCmpFunc[api.Move]
        repeat (first
          | refine AWp.seq ?_
          | refine thenA_n ?_
          | refine AWp.block ?_
          | refine AWp.skip ?_
          | refine AWp.exit ?_
          | refine AWp.ret ?_
          | refine thenA_e ?_
          | refine thenA_r ?_
          | refine inBlk_n ?_
          | refine inBlk_r ?_
          | refine inBlk_hit ?_
          | refine inBlk_miss rfl ?_
          | refine AWp.condT rfl (by first | rfl | assumption | exact cmT) ?_
          | refine AWp.condF rfl (by first | rfl | assumption | exact cmF) ?_
          | refine AWp.scope (fun _ _ h => h) ?_
          | refine AWp.label ?_
          | (refine AWp.region (id := 33) ?_; refine AList.move rfl rfl rfl ?_; refine AList.move rfl rfl rfl ?_; (first | refine AList.cmpT rfl rfl rfl rfl rfl cmT ?_ | refine AList.cmpF rfl rfl rfl rfl rfl cmF ?_ | refine AList.cmp rfl rfl rfl rfl rfl ?_); refine AList.nil ?_)
          | (refine AWp.region (id := 34) ?_; refine AList.move rfl rfl rfl ?_; refine AList.move rfl rfl rfl ?_; refine AList.add rfl rfl rfl rfl (by omega) (by omega) ?_; refine AList.convI (hu) (by kernel_rfl) Tryd.underlying111 rfl rfl rfl ?_; refine AList.shr1 rfl rfl rfl rfl ?_; refine AList.convI (hi) (by kernel_rfl) Tryd.underlying3 rfl rfl rfl ?_; refine AList.assign rfl rfl rfl ?_; refine AList.nil ?_)
          | (refine AWp.draw (id := 35) mixed ?_; refine AList.move rfl rfl rfl ?_; refine AList.move rfl rfl rfl ?_; refine AList.move rfl rfl rfl ?_; refine AList.move rfl rfl rfl ?_; refine AList.sub rfl rfl rfl rfl (by omega) (by omega) ?_; (first | refine AList.idx (k := d + m - 1 - c) tyOk rfl rfl rfl rfl rfl rfl rfl rfl (by first | rfl | omega) oM oM ?_ | refine AList.idxOw (k := d + m - 1 - c) tyOk rfl rfl rfl rfl rfl rfl rfl rfl rfl rfl (by first | rfl | omega) oM ?_); (first | refine AList.loadA tyOk rfl rfl rfl rfl rfl rfl rfl oM oM ?_ | refine AList.loadAl tyOk rfl rfl rfl rfl rfl oM ?_); refine AList.move rfl rfl rfl ?_; refine AList.move rfl rfl rfl ?_; (first | refine AList.idx (k := c) tyOk rfl rfl rfl rfl rfl rfl rfl rfl (by first | rfl | omega) oM oM ?_ | refine AList.idxOw (k := c) tyOk rfl rfl rfl rfl rfl rfl rfl rfl rfl rfl (by first | rfl | omega) oM ?_); (first | refine AList.loadA tyOk rfl rfl rfl rfl rfl rfl rfl oM oM ?_ | refine AList.loadAl tyOk rfl rfl rfl rfl rfl oM ?_); refine AList.call0 rfl rfl rfl rfl rfl Tryd.func51 rfl (by kernel_rfl) (hcm) ?_; (first | refine AList.cmpT rfl rfl rfl rfl rfl cmT ?_ | refine AList.cmpF rfl rfl rfl rfl rfl cmF ?_ | refine AList.cmp rfl rfl rfl rfl rfl ?_); refine AList.notB rfl rfl rfl ?_; refine AList.nil ⟨by kernel_rfl, ?_⟩)
          | (refine AWp.region (id := 36) ?_; refine AList.move rfl rfl rfl ?_; refine AList.add rfl rfl rfl rfl (by omega) (by omega) ?_; refine AList.assign rfl rfl rfl ?_; refine AList.nil ?_)
          | (refine AWp.region (id := 37) ?_; refine AList.move rfl rfl rfl ?_; refine AList.assign rfl rfl rfl ?_; refine AList.nil ?_))
        refine ⟨(g, c + 1, j), ⟨by dsimp only; omega, by dsimp only; omega, q3, by dsimp only; omega, q5'⟩, Wk.mkL [] rfl rfl rfl rfl rfl ?_ ?_, by dsimp only; omega⟩
        · repeat (first | exact trivial | refine ⟨⟨_, rfl, by first | exact LeA.c (LeC.fn _ 0 _ _ (fun i hi => absurd hi (Nat.not_lt_zero _)) (fun i hi => absurd hi (Nat.not_lt_zero _))) | exact LeA.c (LeC.owB 1000 rfl) | exact LeA.c (LeC.refl _ rfl) | exact LeA.c (LeC.ow _ _ rfl) | exact LeA.c (LeC.pt _ _ _ _ _ rfl) | exact LeA.c (LeC.nil _ rfl) | exact LeA.c (LeC.nils _ _) | (refine LeA.int ?_; omega) | (refine LeA.int ?_; dsimp only; omega) | exact LeA.c (LeC.fz rfl rfl (by first | rfl | omega) (fun i _ j _ => ⟨rfl, by first | rfl | exact rowN_imm (fun _ => rfl) _ i j | exact rowF_imm (fun _ => rfl) _ i j⟩))⟩, ?_⟩)
        · exact ⟨HeapOk.lentRow rfl rfl (fun i _ j _ => ⟨rfl, rowF_imm mo_imm _ i j⟩), trivial⟩
    · obtain rfl : i = s := by rw [← q5]; exact (bs_stop hij).symm
      have hei : (e : Int) = (d : Int) + m - i := by omega
      have hp : 0 < L.length := by omega
      have hp1 : 0 < L1.length := by omega
      have hp2 : 0 < L2.length := by omega
      -- ax 7 slices.symMergeCmpFunc[api.Move]
      repeat (first
        | refine AWp.seq ?_
        | refine thenA_n ?_
        | refine AWp.block ?_
        | refine AWp.skip ?_
        | refine AWp.exit ?_
        | refine AWp.ret ?_
        | refine thenA_e ?_
        | refine thenA_r ?_
        | refine inBlk_n ?_
        | refine inBlk_r ?_
        | refine inBlk_hit ?_
        | refine inBlk_miss rfl ?_
        | refine AWp.condT rfl (by first | rfl | assumption | exact cmT) ?_
        | refine AWp.condF rfl (by first | rfl | assumption | exact cmF) ?_
        | refine AWp.scope (fun _ _ h => h) ?_
        | refine AWp.label ?_
        | (refine AWp.region (id := 33) ?_; refine AList.move rfl rfl rfl ?_; refine AList.move rfl rfl rfl ?_; (first | refine AList.cmpT rfl rfl rfl rfl rfl cmT ?_ | refine AList.cmpF rfl rfl rfl rfl rfl cmF ?_ | refine AList.cmp rfl rfl rfl rfl rfl ?_); refine AList.nil ?_)
        | (refine AWp.region (id := 38) ?_; refine AList.move rfl rfl rfl ?_; refine AList.move rfl rfl rfl ?_; refine AList.sub rfl rfl rfl rfl (by omega) (by omega) ?_; refine AList.assign rfl rfl rfl ?_; refine AList.nil ?_))
      refine AWp.join2 (mkL 220 1 (sySl a m b C ++ [(18, .c (iC d)), (20, .c (iC i)), (24, .c (iC e))]) [(1000, mvB L1)] []) ?_ ?_
      · by_cases c1 : i < m
        · by_cases c2 : m < e
          · rw [if_pos ⟨c1, c2⟩] at hL1
            have hR := rotate_H L i m e (fun i => lendB [1000] (C i)) c1 c2 (by omega) hn
            rw [hL1] at hR
            rw [hei] at hR
            -- ax 8 slices.symMergeCmpFunc[api.Move]
            repeat (first
              | refine AWp.seq ?_
              | refine thenA_n ?_
              | refine AWp.block ?_
              | refine AWp.skip ?_
              | refine AWp.exit ?_
              | refine AWp.ret ?_
              | refine thenA_e ?_
              | refine thenA_r ?_
              | refine inBlk_n ?_
              | refine inBlk_r ?_
              | refine inBlk_hit ?_
              | refine inBlk_miss rfl ?_
              | refine AWp.condT rfl (by first | rfl | assumption | exact cmT) ?_
              | refine AWp.condF rfl (by first | rfl | assumption | exact cmF) ?_
              | refine AWp.scope (fun _ _ h => h) ?_
              | refine AWp.label ?_
              | (refine AWp.region (id := 39) ?_; refine AList.move rfl rfl rfl ?_; refine AList.move rfl rfl rfl ?_; (first | refine AList.cmpT rfl rfl rfl rfl rfl cmT ?_ | refine AList.cmpF rfl rfl rfl rfl rfl cmF ?_ | refine AList.cmp rfl rfl rfl rfl rfl ?_); refine AList.move rfl rfl rfl ?_; (first | refine AList.skip rfl rfl ?_ | refine AList.move rfl rfl rfl ?_); (first | refine AList.skip rfl rfl ?_ | refine AList.move rfl rfl rfl ?_); (first | refine AList.skip rfl rfl ?_ | refine AList.cmpT rfl rfl rfl rfl rfl cmT ?_ | refine AList.cmpF rfl rfl rfl rfl rfl cmF ?_ | refine AList.cmp rfl rfl rfl rfl rfl ?_); (first | refine AList.pickT rfl rfl rfl rfl ?_ | refine AList.pickF rfl rfl rfl rfl ?_ | refine AList.pick rfl rfl rfl rfl rfl ?_); refine AList.nil ?_)
              | (refine AWp.region (id := 40) ?_; refine AList.move rfl rfl rfl ?_; refine AList.move rfl rfl rfl ?_; refine AList.move rfl rfl rfl ?_; refine AList.move rfl rfl rfl ?_; refine AList.move rfl rfl rfl ?_; refine AList.callH [1000] [mvB L] [mvB L1] rfl rfl rfl Tryd.func65 rfl (by kernel_rfl) (LendOk.row rfl hp (fun i _ j _ => ⟨rfl, rowF_imm mo_imm _ i j⟩) trivial) rfl (LendImm.row (fun i _ j _ => rowF_imm mo_imm _ i j) trivial) (hR) ?_; refine AList.nil ?_))
            refine ⟨rfl, ?_⟩
            refine Wk.mkL [] rfl rfl rfl rfl rfl ?_ ?_
            · repeat (first | exact trivial | refine ⟨⟨_, rfl, by first | exact LeA.c (LeC.fn _ 0 _ _ (fun i hi => absurd hi (Nat.not_lt_zero _)) (fun i hi => absurd hi (Nat.not_lt_zero _))) | exact LeA.c (LeC.owB 1000 rfl) | exact LeA.c (LeC.refl _ rfl) | exact LeA.c (LeC.ow _ _ rfl) | exact LeA.c (LeC.pt _ _ _ _ _ rfl) | exact LeA.c (LeC.nil _ rfl) | exact LeA.c (LeC.nils _ _) | (refine LeA.int ?_; omega) | (refine LeA.int ?_; dsimp only; omega) | exact LeA.c (LeC.fz rfl rfl (by first | rfl | omega) (fun i _ j _ => ⟨rfl, by first | rfl | exact rowN_imm (fun _ => rfl) _ i j | exact rowF_imm (fun _ => rfl) _ i j⟩))⟩, ?_⟩)
            · exact ⟨HeapOk.lentRow rfl rfl (fun i _ j _ => ⟨rfl, rowF_imm mo_imm _ i j⟩), trivial⟩
          · rw [if_neg fun h => c2 h.2] at hL1
            rw [← hL1]
            -- ax 9 slices.symMergeCmpFunc[api.Move]
            repeat (first
              | refine AWp.seq ?_
              | refine thenA_n ?_
              | refine AWp.block ?_
              | refine AWp.skip ?_
              | refine AWp.exit ?_
              | refine AWp.ret ?_
              | refine thenA_e ?_
              | refine thenA_r ?_
              | refine inBlk_n ?_
              | refine inBlk_r ?_
              | refine inBlk_hit ?_
              | refine inBlk_miss rfl ?_
              | refine AWp.condT rfl (by first | rfl | assumption | exact cmT) ?_
              | refine AWp.condF rfl (by first | rfl | assumption | exact cmF) ?_
              | refine AWp.scope (fun _ _ h => h) ?_
              | refine AWp.label ?_
              | (refine AWp.region (id := 39) ?_; refine AList.move rfl rfl rfl ?_; refine AList.move rfl rfl rfl ?_; (first | refine AList.cmpT rfl rfl rfl rfl rfl cmT ?_ | refine AList.cmpF rfl rfl rfl rfl rfl cmF ?_ | refine AList.cmp rfl rfl rfl rfl rfl ?_); refine AList.move rfl rfl rfl ?_; (first | refine AList.skip rfl rfl ?_ | refine AList.move rfl rfl rfl ?_); (first | refine AList.skip rfl rfl ?_ | refine AList.move rfl rfl rfl ?_); (first | refine AList.skip rfl rfl ?_ | refine AList.cmpT rfl rfl rfl rfl rfl cmT ?_ | refine AList.cmpF rfl rfl rfl rfl rfl cmF ?_ | refine AList.cmp rfl rfl rfl rfl rfl ?_); (first | refine AList.pickT rfl rfl rfl rfl ?_ | refine AList.pickF rfl rfl rfl rfl ?_ | refine AList.pick rfl rfl rfl rfl rfl ?_); refine AList.nil ?_))
            refine ⟨rfl, ?_⟩
            refine Wk.mkL [] rfl rfl rfl rfl rfl ?_ ?_
            · repeat (first | exact trivial | refine ⟨⟨_, rfl, by first | exact LeA.c (LeC.fn _ 0 _ _ (fun i hi => absurd hi (Nat.not_lt_zero _)) (fun i hi => absurd hi (Nat.not_lt_zero _))) | exact LeA.c (LeC.owB 1000 rfl) | exact LeA.c (LeC.refl _ rfl) | exact LeA.c (LeC.ow _ _ rfl) | exact LeA.c (LeC.pt _ _ _ _ _ rfl) | exact LeA.c (LeC.nil _ rfl) | exact LeA.c (LeC.nils _ _) | (refine LeA.int ?_; omega) | (refine LeA.int ?_; dsimp only; omega) | exact LeA.c (LeC.fz rfl rfl (by first | rfl | omega) (fun i _ j _ => ⟨rfl, by first | rfl | exact rowN_imm (fun _ => rfl) _ i j | exact rowF_imm (fun _ => rfl) _ i j⟩))⟩, ?_⟩)
            · exact ⟨HeapOk.lentRow rfl rfl (fun i _ j _ => ⟨rfl, rowF_imm mo_imm _ i j⟩), trivial⟩
        · rw [if_neg fun h => c1 h.1] at hL1
          rw [← hL1]
          -- ax 10 slices.symMergeCmpFunc[api.Move]
          repeat (first
            | refine AWp.seq ?_
            | refine thenA_n ?_
            | refine AWp.block ?_
            | refine AWp.skip ?_
            | refine AWp.exit ?_
            | refine AWp.ret ?_
            | refine thenA_e ?_
            | refine thenA_r ?_
            | refine inBlk_n ?_
            | refine inBlk_r ?_
            | refine inBlk_hit ?_
            | refine inBlk_miss rfl ?_
            | refine AWp.condT rfl (by first | rfl | assumption | exact cmT) ?_
            | refine AWp.condF rfl (by first | rfl | assumption | exact cmF) ?_
            | refine AWp.scope (fun _ _ h => h) ?_
            | refine AWp.label ?_
            | (refine AWp.region (id := 39) ?_; refine AList.move rfl rfl rfl ?_; refine AList.move rfl rfl rfl ?_; (first | refine AList.cmpT rfl rfl rfl rfl rfl cmT ?_ | refine AList.cmpF rfl rfl rfl rfl rfl cmF ?_ | refine AList.cmp rfl rfl rfl rfl rfl ?_); refine AList.move rfl rfl rfl ?_; (first | refine AList.skip rfl rfl ?_ | refine AList.move rfl rfl rfl ?_); (first | refine AList.skip rfl rfl ?_ | refine AList.move rfl rfl rfl ?_); (first | refine AList.skip rfl rfl ?_ | refine AList.cmpT rfl rfl rfl rfl rfl cmT ?_ | refine AList.cmpF rfl rfl rfl rfl rfl cmF ?_ | refine AList.cmp rfl rfl rfl rfl rfl ?_); (first | refine AList.pickT rfl rfl rfl rfl ?_ | refine AList.pickF rfl rfl rfl rfl ?_ | refine AList.pick rfl rfl rfl rfl rfl ?_); refine AList.nil ?_))
          refine ⟨rfl, ?_⟩
          refine Wk.mkL [] rfl rfl rfl rfl rfl ?_ ?_
          · repeat (first | exact trivial | refine ⟨⟨_, rfl, by first | exact LeA.c (LeC.fn _ 0 _ _ (fun i hi => absurd hi (Nat.not_lt_zero _)) (fun i hi => absurd hi (Nat.not_lt_zero _))) | exact LeA.c (LeC.owB 1000 rfl) | exact LeA.c (LeC.refl _ rfl) | exact LeA.c (LeC.ow _ _ rfl) | exact LeA.c (LeC.pt _ _ _ _ _ rfl) | exact LeA.c (LeC.nil _ rfl) | exact LeA.c (LeC.nils _ _) | (refine LeA.int ?_; omega) | (refine LeA.int ?_; dsimp only; omega) | exact LeA.c (LeC.fz rfl rfl (by first | rfl | omega) (fun i _ j _ => ⟨rfl, by first | rfl | exact rowN_imm (fun _ => rfl) _ i j | exact rowF_imm (fun _ => rfl) _ i j⟩))⟩, ?_⟩)
          · exact ⟨HeapOk.lentRow rfl rfl (fun i _ j _ => ⟨rfl, rowF_imm mo_imm _ i j⟩), trivial⟩
      refine AWp.seq ?_
      refine AWp.seq ?_
      refine AWp.join2 (mkL 220 1 (sySl a m b C ++ [(18, .c (iC d)), (20, .c (iC i)), (24, .c (iC e))]) [(1000, mvB L2)] []) ?_ ?_
      · by_cases c1 : a < i
        · by_cases c2 : i < d
          · rw [if_pos ⟨c1, c2⟩] at hL2
            have hR := ih L1 a i d (fun i => lendB [1000] (C i)) c1 c2 (by omega) (by omega) hL1o.1 (by omega)
            rw [hL2] at hR
            -- ax 11 slices.symMergeCmpFunc[api.Move]
            repeat (first
              | refine AWp.seq ?_
              | refine thenA_n ?_
              | refine AWp.block ?_
              | refine AWp.skip ?_
              | refine AWp.exit ?_
              | refine AWp.ret ?_
              | refine thenA_e ?_
              | refine thenA_r ?_
              | refine inBlk_n ?_
              | refine inBlk_r ?_
              | refine inBlk_hit ?_
              | refine inBlk_miss rfl ?_
              | refine AWp.condT rfl (by first | rfl | assumption | exact cmT) ?_
              | refine AWp.condF rfl (by first | rfl | assumption | exact cmF) ?_
              | refine AWp.scope (fun _ _ h => h) ?_
              | refine AWp.label ?_
              | (refine AWp.region (id := 41) ?_; refine AList.move rfl rfl rfl ?_; refine AList.move rfl rfl rfl ?_; (first | refine AList.cmpT rfl rfl rfl rfl rfl cmT ?_ | refine AList.cmpF rfl rfl rfl rfl rfl cmF ?_ | refine AList.cmp rfl rfl rfl rfl rfl ?_); refine AList.move rfl rfl rfl ?_; (first | refine AList.skip rfl rfl ?_ | refine AList.move rfl rfl rfl ?_); (first | refine AList.skip rfl rfl ?_ | refine AList.move rfl rfl rfl ?_); (first | refine AList.skip rfl rfl ?_ | refine AList.cmpT rfl rfl rfl rfl rfl cmT ?_ | refine AList.cmpF rfl rfl rfl rfl rfl cmF ?_ | refine AList.cmp rfl rfl rfl rfl rfl ?_); (first | refine AList.pickT rfl rfl rfl rfl ?_ | refine AList.pickF rfl rfl rfl rfl ?_ | refine AList.pick rfl rfl rfl rfl rfl ?_); refine AList.nil ?_)
              | (refine AWp.region (id := 42) ?_; refine AList.move rfl rfl rfl ?_; refine AList.move rfl rfl rfl ?_; refine AList.move rfl rfl rfl ?_; refine AList.move rfl rfl rfl ?_; refine AList.move rfl rfl rfl ?_; refine AList.callH [1000] [mvB L1] [mvB L2] rfl rfl rfl Tryd.func64 rfl (by kernel_rfl) (LendOk.row rfl hp1 (fun i _ j _ => ⟨rfl, rowF_imm mo_imm _ i j⟩) trivial) rfl (LendImm.row (fun i _ j _ => rowF_imm mo_imm _ i j) trivial) (hR) ?_; refine AList.nil ?_))
            refine ⟨rfl, ?_⟩
            refine Wk.mkL [] rfl rfl rfl rfl rfl ?_ ?_
            · repeat (first | exact trivial | refine ⟨⟨_, rfl, by first | exact LeA.c (LeC.fn _ 0 _ _ (fun i hi => absurd hi (Nat.not_lt_zero _)) (fun i hi => absurd hi (Nat.not_lt_zero _))) | exact LeA.c (LeC.owB 1000 rfl) | exact LeA.c (LeC.refl _ rfl) | exact LeA.c (LeC.ow _ _ rfl) | exact LeA.c (LeC.pt _ _ _ _ _ rfl) | exact LeA.c (LeC.nil _ rfl) | exact LeA.c (LeC.nils _ _) | (refine LeA.int ?_; omega) | (refine LeA.int ?_; dsimp only; omega) | exact LeA.c (LeC.fz rfl rfl (by first | rfl | omega) (fun i _ j _ => ⟨rfl, by first | rfl | exact rowN_imm (fun _ => rfl) _ i j | exact rowF_imm (fun _ => rfl) _ i j⟩))⟩, ?_⟩)
            · exact ⟨HeapOk.lentRow rfl rfl (fun i _ j _ => ⟨rfl, rowF_imm mo_imm _ i j⟩), trivial⟩
          · rw [if_neg fun h => c2 h.2] at hL2
            rw [← hL2]
            -- ax 12 slices.symMergeCmpFunc[api.Move]
            repeat (first
              | refine AWp.seq ?_
              | refine thenA_n ?_
              | refine AWp.block ?_
              | refine AWp.skip ?_
              | refine AWp.exit ?_
              | refine AWp.ret ?_
              | refine thenA_e ?_
              | refine thenA_r ?_
              | refine inBlk_n ?_
              | refine inBlk_r ?_
              | refine inBlk_hit ?_
              | refine inBlk_miss rfl ?_
              | refine AWp.condT rfl (by first | rfl | assumption | exact cmT) ?_
              | refine AWp.condF rfl (by first | rfl | assumption | exact cmF) ?_
              | refine AWp.scope (fun _ _ h => h) ?_
              | refine AWp.label ?_
              | (refine AWp.region (id := 41) ?_; refine AList.move rfl rfl rfl ?_; refine AList.move rfl rfl rfl ?_; (first | refine AList.cmpT rfl rfl rfl rfl rfl cmT ?_ | refine AList.cmpF rfl rfl rfl rfl rfl cmF ?_ | refine AList.cmp rfl rfl rfl rfl rfl ?_); refine AList.move rfl rfl rfl ?_; (first | refine AList.skip rfl rfl ?_ | refine AList.move rfl rfl rfl ?_); (first | refine AList.skip rfl rfl ?_ | refine AList.move rfl rfl rfl ?_); (first | refine AList.skip rfl rfl ?_ | refine AList.cmpT rfl rfl rfl rfl rfl cmT ?_ | refine AList.cmpF rfl rfl rfl rfl rfl cmF ?_ | refine AList.cmp rfl rfl rfl rfl rfl ?_); (first | refine AList.pickT rfl rfl rfl rfl ?_ | refine AList.pickF rfl rfl rfl rfl ?_ | refine AList.pick rfl rfl rfl rfl rfl ?_); refine AList.nil ?_))
            refine ⟨rfl, ?_⟩
            refine Wk.mkL [] rfl rfl rfl rfl rfl ?_ ?_
            · repeat (first | exact trivial | refine ⟨⟨_, rfl, by first | exact LeA.c (LeC.fn _ 0 _ _ (fun i hi => absurd hi (Nat.not_lt_zero _)) (fun i hi => absurd hi (Nat.not_lt_zero _))) | exact LeA.c (LeC.owB 1000 rfl) | exact LeA.c (LeC.refl _ rfl) | exact LeA.c (LeC.ow _ _ rfl) | exact LeA.c (LeC.pt _ _ _ _ _ rfl) | exact LeA.c (LeC.nil _ rfl) | exact LeA.c (LeC.nils _ _) | (refine LeA.int ?_; omega) | (refine LeA.int ?_; dsimp only; omega) | exact LeA.c (LeC.fz rfl rfl (by first | rfl | omega) (fun i _ j _ => ⟨rfl, by first | rfl | exact rowN_imm (fun _ => rfl) _ i j | exact rowF_imm (fun _ => rfl) _ i j⟩))⟩, ?_⟩)
            · exact ⟨HeapOk.lentRow rfl rfl (fun i _ j _ => ⟨rfl, rowF_imm mo_imm _ i j⟩), trivial⟩
        · rw [if_neg fun h => c1 h.1] at hL2
          rw [← hL2]
          -- ax 13 slices.symMergeCmpFunc[api.Move]
          repeat (first
            | refine AWp.seq ?_
            | refine thenA_n ?_
            | refine AWp.block ?_
            | refine AWp.skip ?_
            | refine AWp.exit ?_
            | refine AWp.ret ?_
            | refine thenA_e ?_
            | refine thenA_r ?_
            | refine inBlk_n ?_
            | refine inBlk_r ?_
            | refine inBlk_hit ?_
            | refine inBlk_miss rfl ?_
            | refine AWp.condT rfl (by first | rfl | assumption | exact cmT) ?_
            | refine AWp.condF rfl (by first | rfl | assumption | exact cmF) ?_
            | refine AWp.scope (fun _ _ h => h) ?_
            | refine AWp.label ?_
            | (refine AWp.region (id := 41) ?_; refine AList.move rfl rfl rfl ?_; refine AList.move rfl rfl rfl ?_; (first | refine AList.cmpT rfl rfl rfl rfl rfl cmT ?_ | refine AList.cmpF rfl rfl rfl rfl rfl cmF ?_ | refine AList.cmp rfl rfl rfl rfl rfl ?_); refine AList.move rfl rfl rfl ?_; (first | refine AList.skip rfl rfl ?_ | refine AList.move rfl rfl rfl ?_); (first | refine AList.skip rfl rfl ?_ | refine AList.move rfl rfl rfl ?_); (first | refine AList.skip rfl rfl ?_ | refine AList.cmpT rfl rfl rfl rfl rfl cmT ?_ | refine AList.cmpF rfl rfl rfl rfl rfl cmF ?_ | refine AList.cmp rfl rfl rfl rfl rfl ?_); (first | refine AList.pickT rfl rfl rfl rfl ?_ | refine AList.pickF rfl rfl rfl rfl ?_ | refine AList.pick rfl rfl rfl rfl rfl ?_); refine AList.nil ?_))
          refine ⟨rfl, ?_⟩
          refine Wk.mkL [] rfl rfl rfl rfl rfl ?_ ?_
          · repeat (first | exact trivial | refine ⟨⟨_, rfl, by first | exact LeA.c (LeC.fn _ 0 _ _ (fun i hi => absurd hi (Nat.not_lt_zero _)) (fun i hi => absurd hi (Nat.not_lt_zero _))) | exact LeA.c (LeC.owB 1000 rfl) | exact LeA.c (LeC.refl _ rfl) | exact LeA.c (LeC.ow _ _ rfl) | exact LeA.c (LeC.pt _ _ _ _ _ rfl) | exact LeA.c (LeC.nil _ rfl) | exact LeA.c (LeC.nils _ _) | (refine LeA.int ?_; omega) | (refine LeA.int ?_; dsimp only; omega) | exact LeA.c (LeC.fz rfl rfl (by first | rfl | omega) (fun i _ j _ => ⟨rfl, by first | rfl | exact rowN_imm (fun _ => rfl) _ i j | exact rowF_imm (fun _ => rfl) _ i j⟩))⟩, ?_⟩)
          · exact ⟨HeapOk.lentRow rfl rfl (fun i _ j _ => ⟨rfl, rowF_imm mo_imm _ i j⟩), trivial⟩
      by_cases c1 : d < e
      · by_cases c2 : e < b
        · rw [if_pos ⟨c1, c2⟩] at hL3
          have hR := ih L2 d e b (fun i => lendB [1000] (C i)) c1 c2 (by omega) (by omega) hL2o.1 (by omega)
          rw [hL3] at hR
          -- ax 14 slices.symMergeCmpFunc[api.Move]
          repeat (first
            | refine AWp.seq ?_
            | refine thenA_n ?_
            | refine AWp.block ?_
            | refine AWp.skip ?_
            | refine AWp.exit ?_
            | refine AWp.ret ?_
            | refine thenA_e ?_
            | refine thenA_r ?_
            | refine inBlk_n ?_
            | refine inBlk_r ?_
            | refine inBlk_hit ?_
            | refine inBlk_miss rfl ?_
            | refine AWp.condT rfl (by first | rfl | assumption | exact cmT) ?_
            | refine AWp.condF rfl (by first | rfl | assumption | exact cmF) ?_
            | refine AWp.scope (fun _ _ h => h) ?_
            | refine AWp.label ?_
            | (refine AWp.region (id := 43) ?_; refine AList.move rfl rfl rfl ?_; refine AList.move rfl rfl rfl ?_; (first | refine AList.cmpT rfl rfl rfl rfl rfl cmT ?_ | refine AList.cmpF rfl rfl rfl rfl rfl cmF ?_ | refine AList.cmp rfl rfl rfl rfl rfl ?_); refine AList.move rfl rfl rfl ?_; (first | refine AList.skip rfl rfl ?_ | refine AList.move rfl rfl rfl ?_); (first | refine AList.skip rfl rfl ?_ | refine AList.move rfl rfl rfl ?_); (first | refine AList.skip rfl rfl ?_ | refine AList.cmpT rfl rfl rfl rfl rfl cmT ?_ | refine AList.cmpF rfl rfl rfl rfl rfl cmF ?_ | refine AList.cmp rfl rfl rfl rfl rfl ?_); (first | refine AList.pickT rfl rfl rfl rfl ?_ | refine AList.pickF rfl rfl rfl rfl ?_ | refine AList.pick rfl rfl rfl rfl rfl ?_); refine AList.nil ?_)
            | (refine AWp.region (id := 44) ?_; refine AList.move rfl rfl rfl ?_; refine AList.move rfl rfl rfl ?_; refine AList.move rfl rfl rfl ?_; refine AList.move rfl rfl rfl ?_; refine AList.move rfl rfl rfl ?_; refine AList.callH [1000] [mvB L2] [mvB L3] rfl rfl rfl Tryd.func64 rfl (by kernel_rfl) (LendOk.row rfl hp2 (fun i _ j _ => ⟨rfl, rowF_imm mo_imm _ i j⟩) trivial) rfl (LendImm.row (fun i _ j _ => rowF_imm mo_imm _ i j) trivial) (hR) ?_; refine AList.nil ?_))
          refine ⟨mkL 220 1 [] [(1000, mvB (L3))] [], [], Wk.mkL [] rfl rfl rfl rfl rfl trivial ?_, rfl, rfl, ARets.no⟩
          exact ⟨HeapOk.lentRow rfl rfl (fun i _ j _ => ⟨rfl, rowF_imm mo_imm _ i j⟩), trivial⟩
        · rw [if_neg fun h => c2 h.2] at hL3
          rw [← hL3]
          -- ax 15 slices.symMergeCmpFunc[api.Move]
          repeat (first
            | refine AWp.seq ?_
            | refine thenA_n ?_
            | refine AWp.block ?_
            | refine AWp.skip ?_
            | refine AWp.exit ?_
            | refine AWp.ret ?_
            | refine thenA_e ?_
            | refine thenA_r ?_
            | refine inBlk_n ?_
            | refine inBlk_r ?_
            | refine inBlk_hit ?_
            | refine inBlk_miss rfl ?_
            | refine AWp.condT rfl (by first | rfl | assumption | exact cmT) ?_
            | refine AWp.condF rfl (by first | rfl | assumption | exact cmF) ?_
            | refine AWp.scope (fun _ _ h => h) ?_
            | refine AWp.label ?_
            | (refine AWp.region (id := 43) ?_; refine AList.move rfl rfl rfl ?_; refine AList.move rfl rfl rfl ?_; (first | refine AList.cmpT rfl rfl rfl rfl rfl cmT ?_ | refine AList.cmpF rfl rfl rfl rfl rfl cmF ?_ | refine AList.cmp rfl rfl rfl rfl rfl ?_); refine AList.move rfl rfl rfl ?_; (first | refine AList.skip rfl rfl ?_ | refine AList.move rfl rfl rfl ?_); (first | refine AList.skip rfl rfl ?_ | refine AList.move rfl rfl rfl ?_); (first | refine AList.skip rfl rfl ?_ | refine AList.cmpT rfl rfl rfl rfl rfl cmT ?_ | refine AList.cmpF rfl rfl rfl rfl rfl cmF ?_ | refine AList.cmp rfl rfl rfl rfl rfl ?_); (first | refine AList.pickT rfl rfl rfl rfl ?_ | refine AList.pickF rfl rfl rfl rfl ?_ | refine AList.pick rfl rfl rfl rfl rfl ?_); refine AList.nil ?_))
          refine ⟨mkL 220 1 [] [(1000, mvB (L2))] [], [], Wk.mkL [] rfl rfl rfl rfl rfl trivial ?_, rfl, rfl, ARets.no⟩
          exact ⟨HeapOk.lentRow rfl rfl (fun i _ j _ => ⟨rfl, rowF_imm mo_imm _ i j⟩), trivial⟩
      · rw [if_neg fun h => c1 h.1] at hL3
        rw [← hL3]
        -- ax 16 slices.symMergeCmpFunc[api.Move]
        repeat (first
          | refine AWp.seq ?_
          | refine thenA_n ?_
          | refine AWp.block ?_
          | refine AWp.skip ?_
          | refine AWp.exit ?_
          | refine AWp.ret ?_
          | refine thenA_e ?_
          | refine thenA_r ?_
          | refine inBlk_n ?_
          | refine inBlk_r ?_
          | refine inBlk_hit ?_
          | refine inBlk_miss rfl ?_
          | refine AWp.condT rfl (by first | rfl | assumption | exact cmT) ?_
          | refine AWp.condF rfl (by first | rfl | assumption | exact cmF) ?_
          | refine AWp.scope (fun _ _ h => h) ?_
          | refine AWp.label ?_
          | (refine AWp.region (id := 43) ?_; refine AList.move rfl rfl rfl ?_; refine AList.move rfl rfl rfl ?_; (first | refine AList.cmpT rfl rfl rfl rfl rfl cmT ?_ | refine AList.cmpF rfl rfl rfl rfl rfl cmF ?_ | refine AList.cmp rfl rfl rfl rfl rfl ?_); refine AList.move rfl rfl rfl ?_; (first | refine AList.skip rfl rfl ?_ | refine AList.move rfl rfl rfl ?_); (first | refine AList.skip rfl rfl ?_ | refine AList.move rfl rfl rfl ?_); (first | refine AList.skip rfl rfl ?_ | refine AList.cmpT rfl rfl rfl rfl rfl cmT ?_ | refine AList.cmpF rfl rfl rfl rfl rfl cmF ?_ | refine AList.cmp rfl rfl rfl rfl rfl ?_); (first | refine AList.pickT rfl rfl rfl rfl ?_ | refine AList.pickF rfl rfl rfl rfl ?_ | refine AList.pick rfl rfl rfl rfl rfl ?_); refine AList.nil ?_))
        refine ⟨mkL 220 1 [] [(1000, mvB (L2))] [], [], Wk.mkL [] rfl rfl rfl rfl rfl trivial ?_, rfl, rfl, ARets.no⟩
        exact ⟨HeapOk.lentRow rfl rfl (fun i _ j _ => ⟨rfl, rowF_imm mo_imm _ i j⟩), trivial⟩
theorem sym_H : ∀ f, SymC f
  | 0 => fun L a m b C h1 h2 h3 h4 h5 h6 => absurd h6 (by omega)
  | f + 1 => fun L a m b C h1 h2 h3 h4 h5 h6 => by
    by_cases c1 : m - a = 1
    · exact sym_one f L a m b C h1 h2 h3 h4 h5 c1
    · by_cases c2 : b - m = 1
      · exact sym_two f L a m b C h1 h2 h3 h4 h5 c1 c2
      · exact sym_gen f (sym_H f) L a m b C h1 h2 h3 h4 h5 h6 c1 c2
end Go.Proofs.YtfgcogkhnnflcaaDoor
end
