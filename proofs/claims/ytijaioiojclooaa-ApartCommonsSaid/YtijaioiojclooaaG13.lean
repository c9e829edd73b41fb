/- Parts of the proof: A24e, A24f. -/
import Derived.Test.YtijaioiojclooaaG12
set_option linter.unusedSimpArgs false
set_option linter.unusedVariables false
section
namespace Go.Proofs.Ytijaioiojclooaa
open Go.RowKit Go.Flow Go.AV Go.AV.Srt
theorem half_u {i j : Nat} (h : i + j ≤ 100000) : IntKind.u64.wrap ((i : Int) + j) = (i : Int) + j := by rw [IntKind.wrap_u64]; omega
theorem half_i {i j : Nat} (h : i + j ≤ 100000) : IntKind.i64.wrap (((i : Int) + j) / 2) = (((i + j) / 2 : Nat) : Int) := by rw [IntKind.wrap_i64]; omega
abbrev sySl (a m b : Nat) (C : Nat → CV) : List (Nat × AV) := [(0, .c (.ow 1000)), (1, .c (iC a)), (2, .c (iC m)), (3, .c (iC b)), (4, .c (cmpC C))]
set_option maxHeartbeats 4000000 in
set_option maxRecDepth 100000 in
theorem sym_one (f : Nat) (L : List (Int × Int)) (a m b : Nat) (C : Nat → CV) (h1 : a < m) (h2 : m < b) (hb : b ≤ L.length) (hn : L.length ≤ 1000) (hL : Oks L) (hc : m - a = 1) :
    HCalls Try.prog 88 [.c (.ow 1000), .c (iC a), .c (iC m), .c (iC b), .c (cmpC C)] [(1000, mvB L)] (.tu []) [(1000, mvB (sym moZ mvLt (f + 1) a m b L))] := by
  refine hcalls_at Try.func88 rfl rfl Try.ntmps88 rfl rfl (fun p hp => by cases hp with | head => exact fun k j _ _ => rowF_imm mo_imm _ k j | tail _ h => cases h) ?_
  obtain ⟨T, hT⟩ : ∃ T : Nat → Bool, T = fun h => mvLt (L.getD h moZ) (L.getD a moZ) := ⟨_, rfl⟩
  have hs : sym moZ mvLt (f + 1) a m b L = upK moZ a (bs T (b - m) m b - 1 - a) L := by unfold sym; rw [if_pos hc, hT]
  obtain ⟨s, hse⟩ : ∃ s, bs T (b - m) m b = s := ⟨_, rfl⟩
  have hsb := bs_bd T (b - m) m b (by omega)
  rw [hs, hse]
  rw [hse] at hsb
  repeat (first
    | refine AWp.seq ?_
    | refine thenA_n ?_
    | refine AWp.block ?_
    | refine AWp.condT rfl (by first | rfl | assumption | exact cmT) ?_
    | (refine AWp.region (id := 0) ?_; refine AList.move rfl rfl rfl ?_; refine AList.move rfl rfl rfl ?_; refine AList.sub rfl rfl rfl rfl (by omega) (by omega) ?_; refine AList.cmpT rfl rfl rfl rfl rfl cmT ?_; refine AList.nil ?_)
    | (refine AWp.region (id := 1) ?_; refine AList.move rfl rfl rfl ?_; refine AList.assign rfl rfl rfl ?_; refine AList.nil ?_)
    | (refine AWp.region (id := 2) ?_; refine AList.move rfl rfl rfl ?_; refine AList.assign rfl rfl rfl ?_; refine AList.nil ?_))
  refine AWp.round (fun t : Nat × Nat × Nat => mkL 220 1 (sySl a m b C ++ [(10, .c (iC t.2.1)), (11, .c (iC t.2.2))]) [(1000, mvB L)] [])
    (fun t => m ≤ t.2.1 ∧ t.2.1 ≤ t.2.2 ∧ t.2.2 ≤ b ∧ t.2.2 - t.2.1 ≤ t.1 ∧ bs T t.1 t.2.1 t.2.2 = s) (fun t => t.1) (b - m, m, b) ⟨Nat.le_refl _, by dsimp only; omega, Nat.le_refl _, Nat.le_refl _, hse⟩ ?_ (fun t ht => ?_)
  · refine Wk.mkL [] rfl rfl rfl rfl rfl ?_ ?_
    · repeat (first | exact trivial | refine ⟨⟨_, rfl, by first | exact LeA.c (LeC.fn _ 0 _ _ (fun i hi => absurd hi (Nat.not_lt_zero _)) (fun i hi => absurd hi (Nat.not_lt_zero _))) | exact LeA.c (LeC.owB 1000 rfl) | exact LeA.c (LeC.refl _ rfl) | exact LeA.c (LeC.ow _ _ rfl) | exact LeA.c (LeC.pt _ _ _ _ _ rfl) | exact LeA.c (LeC.nil _ rfl) | exact LeA.c (LeC.nils _ _) | (refine LeA.int ?_; omega) | (refine LeA.int ?_; dsimp only; omega) | exact LeA.c (LeC.fz rfl rfl (by first | rfl | omega) (fun i _ j _ => ⟨rfl, by first | rfl | exact rowN_imm (fun _ => rfl) _ i j | exact rowF_imm (fun _ => rfl) _ i j⟩))⟩, ?_⟩)
    · exact ⟨HeapOk.lentRow rfl rfl (fun i _ j _ => ⟨rfl, rowF_imm mo_imm _ i j⟩), trivial⟩
  · obtain ⟨g, i, j⟩ := t
    obtain ⟨q1, q2, q3, q4, q5⟩ := ht
    dsimp only at q1 q2 q3 q4 q5
    dsimp only
    by_cases hij : i < j
    · obtain ⟨g, rfl⟩ : ∃ k, g = k + 1 := ⟨g - 1, by omega⟩
      have hu := half_u (i := i) (j := j) (by omega)
      have hi := half_i (i := i) (j := j) (by omega)
      obtain ⟨h, hh⟩ : ∃ h, (i + j) / 2 = h := ⟨_, rfl⟩
      rw [hh] at hi
      have hhb : i ≤ h ∧ h < j := by omega
      have hcm := cmp_A (L.getD h moZ) (L.getD a moZ) (hL _) (hL _)
      have q5' : (if T h = true then bs T g (h + 1) j else bs T g i h) = s := by
        rw [← q5, ← hh]
        show _ = if i < j then (if T ((i + j) / 2) = true then bs T g ((i + j) / 2 + 1) j else bs T g i ((i + j) / 2)) else i
        rw [if_pos hij]
      by_cases hl : mvLt (L.getD h moZ) (L.getD a moZ) = true
      · have hl' := mvCmp_lt.1 hl
        rw [if_pos (by rw [hT]; exact hl)] at q5'
        repeat (first
          | refine AWp.seq ?_
          | refine thenA_n ?_
          | refine AWp.block ?_
          | refine AWp.skip ?_
          | refine inBlk_n ?_
          | refine AWp.condT rfl (by first | rfl | assumption | exact cmT) ?_
          | (refine AWp.region (id := 3) ?_; refine AList.move rfl rfl rfl ?_; refine AList.move rfl rfl rfl ?_; refine AList.cmpT rfl rfl rfl rfl rfl cmT ?_; refine AList.nil ?_)
          | (refine AWp.region (id := 4) ?_; refine AList.move rfl rfl rfl ?_; refine AList.move rfl rfl rfl ?_; refine AList.add rfl rfl rfl rfl (by omega) (by omega) ?_; refine AList.convI (hu) (by kernel_rfl) Try.underlying134 rfl rfl rfl ?_; refine AList.shr1 rfl rfl rfl rfl ?_; refine AList.convI (hi) (by kernel_rfl) Try.underlying3 rfl rfl rfl ?_; refine AList.assign rfl rfl rfl ?_; refine AList.nil ?_)
          | (refine AWp.draw (id := 5) mixed ?_; refine AList.move rfl rfl rfl ?_; refine AList.move rfl rfl rfl ?_; refine AList.move rfl rfl rfl ?_; refine AList.idxOw (k := h) tyOk rfl rfl rfl rfl rfl rfl rfl rfl rfl rfl (by first | rfl | omega) oM ?_; refine AList.loadA tyOk rfl rfl rfl rfl rfl rfl rfl oM oM ?_; refine AList.move rfl rfl rfl ?_; refine AList.move rfl rfl rfl ?_; refine AList.idxOw (k := a) tyOk rfl rfl rfl rfl rfl rfl rfl rfl rfl rfl (by first | rfl | omega) oM ?_; refine AList.loadA tyOk rfl rfl rfl rfl rfl rfl rfl oM oM ?_; refine AList.call0 rfl rfl rfl rfl rfl Try.func39 rfl (by kernel_rfl) (hcm) ?_; refine AList.cmpT rfl rfl rfl rfl rfl cmT ?_; refine AList.nil ⟨by kernel_rfl, ?_⟩)
          | (refine AWp.region (id := 6) ?_; refine AList.move rfl rfl rfl ?_; refine AList.add rfl rfl rfl rfl (by omega) (by omega) ?_; refine AList.assign rfl rfl rfl ?_; refine AList.nil ?_))
        refine ⟨(g, h + 1, j), ⟨by dsimp only; omega, by dsimp only; omega, q3, by dsimp only; omega, q5'⟩, Wk.mkL [] rfl rfl rfl rfl rfl ?_ ?_, by dsimp only; omega⟩
        · repeat (first | exact trivial | refine ⟨⟨_, rfl, by first | exact LeA.c (LeC.fn _ 0 _ _ (fun i hi => absurd hi (Nat.not_lt_zero _)) (fun i hi => absurd hi (Nat.not_lt_zero _))) | exact LeA.c (LeC.owB 1000 rfl) | exact LeA.c (LeC.refl _ rfl) | exact LeA.c (LeC.ow _ _ rfl) | exact LeA.c (LeC.pt _ _ _ _ _ rfl) | exact LeA.c (LeC.nil _ rfl) | exact LeA.c (LeC.nils _ _) | (refine LeA.int ?_; omega) | (refine LeA.int ?_; dsimp only; omega) | exact LeA.c (LeC.fz rfl rfl (by first | rfl | omega) (fun i _ j _ => ⟨rfl, by first | rfl | exact rowN_imm (fun _ => rfl) _ i j | exact rowF_imm (fun _ => rfl) _ i j⟩))⟩, ?_⟩)
        · exact ⟨HeapOk.lentRow rfl rfl (fun i _ j _ => ⟨rfl, rowF_imm mo_imm _ i j⟩), trivial⟩
      · have hl' : ¬ mvCmp (L.getD h moZ) (L.getD a moZ) < 0 := fun h => hl (mvCmp_lt.2 h)
        rw [if_neg (by rw [hT]; exact hl)] at q5'
        repeat (first
          | refine AWp.seq ?_
          | refine thenA_n ?_
          | refine AWp.block ?_
          | refine AWp.skip ?_
          | refine inBlk_n ?_
          | refine AWp.condT rfl (by first | rfl | assumption | exact cmT) ?_
          | refine AWp.condF rfl (by first | rfl | assumption | exact cmF) ?_
          | (refine AWp.region (id := 3) ?_; refine AList.move rfl rfl rfl ?_; refine AList.move rfl rfl rfl ?_; refine AList.cmpT rfl rfl rfl rfl rfl cmT ?_; refine AList.nil ?_)
          | (refine AWp.region (id := 4) ?_; refine AList.move rfl rfl rfl ?_; refine AList.move rfl rfl rfl ?_; refine AList.add rfl rfl rfl rfl (by omega) (by omega) ?_; refine AList.convI (hu) (by kernel_rfl) Try.underlying134 rfl rfl rfl ?_; refine AList.shr1 rfl rfl rfl rfl ?_; refine AList.convI (hi) (by kernel_rfl) Try.underlying3 rfl rfl rfl ?_; refine AList.assign rfl rfl rfl ?_; refine AList.nil ?_)
          | (refine AWp.draw (id := 5) mixed ?_; refine AList.move rfl rfl rfl ?_; refine AList.move rfl rfl rfl ?_; refine AList.move rfl rfl rfl ?_; refine AList.idxOw (k := h) tyOk rfl rfl rfl rfl rfl rfl rfl rfl rfl rfl (by first | rfl | omega) oM ?_; refine AList.loadA tyOk rfl rfl rfl rfl rfl rfl rfl oM oM ?_; refine AList.move rfl rfl rfl ?_; refine AList.move rfl rfl rfl ?_; refine AList.idxOw (k := a) tyOk rfl rfl rfl rfl rfl rfl rfl rfl rfl rfl (by first | rfl | omega) oM ?_; refine AList.loadA tyOk rfl rfl rfl rfl rfl rfl rfl oM oM ?_; refine AList.call0 rfl rfl rfl rfl rfl Try.func39 rfl (by kernel_rfl) (hcm) ?_; refine AList.cmpF rfl rfl rfl rfl rfl cmF ?_; refine AList.nil ⟨by kernel_rfl, ?_⟩)
          | (refine AWp.region (id := 7) ?_; refine AList.move rfl rfl rfl ?_; refine AList.assign rfl rfl rfl ?_; refine AList.nil ?_))
        refine ⟨(g, i, h), ⟨q1, by dsimp only; omega, by dsimp only; omega, by dsimp only; omega, q5'⟩, Wk.mkL [] rfl rfl rfl rfl rfl ?_ ?_, by dsimp only; omega⟩
        · repeat (first | exact trivial | refine ⟨⟨_, rfl, by first | exact LeA.c (LeC.fn _ 0 _ _ (fun i hi => absurd hi (Nat.not_lt_zero _)) (fun i hi => absurd hi (Nat.not_lt_zero _))) | exact LeA.c (LeC.owB 1000 rfl) | exact LeA.c (LeC.refl _ rfl) | exact LeA.c (LeC.ow _ _ rfl) | exact LeA.c (LeC.pt _ _ _ _ _ rfl) | exact LeA.c (LeC.nil _ rfl) | exact LeA.c (LeC.nils _ _) | (refine LeA.int ?_; omega) | (refine LeA.int ?_; dsimp only; omega) | exact LeA.c (LeC.fz rfl rfl (by first | rfl | omega) (fun i _ j _ => ⟨rfl, by first | rfl | exact rowN_imm (fun _ => rfl) _ i j | exact rowF_imm (fun _ => rfl) _ i j⟩))⟩, ?_⟩)
        · exact ⟨HeapOk.lentRow rfl rfl (fun i _ j _ => ⟨rfl, rowF_imm mo_imm _ i j⟩), trivial⟩
    · obtain rfl : i = s := by rw [← q5]; exact (bs_stop hij).symm
      have hcm := cmp_A moZ moZ mvOkZ mvOkZ
      repeat (first
        | refine AWp.seq ?_
        | refine thenA_n ?_
        | refine AWp.block ?_
        | refine AWp.exit ?_
        | refine AWp.condF rfl (by first | rfl | assumption | exact cmF) ?_
        | (refine AWp.region (id := 3) ?_; refine AList.move rfl rfl rfl ?_; refine AList.move rfl rfl rfl ?_; refine AList.cmpF rfl rfl rfl rfl rfl cmF ?_; refine AList.nil ?_)
        | (refine AWp.region (id := 8) ?_; refine AList.move rfl rfl rfl ?_; refine AList.assign rfl rfl rfl ?_; refine AList.nil ?_))
      refine AWp.round (fun k : Nat => mkL 220 1 (sySl a m b C ++ [(10, .c (iC i)), (13, .c (iC ((a : Int) + k)))]) [(1000, mvB (upK moZ a k L))] [])
        (fun k => k ≤ i - 1 - a) (fun k => i - 1 - a - k) 0 (Nat.zero_le _) ?_ (fun k hk => ?_)
      · refine Wk.mkL [] rfl rfl rfl rfl rfl ?_ ?_
        · repeat (first | exact trivial | refine ⟨⟨_, rfl, by first | exact LeA.c (LeC.fn _ 0 _ _ (fun i hi => absurd hi (Nat.not_lt_zero _)) (fun i hi => absurd hi (Nat.not_lt_zero _))) | exact LeA.c (LeC.owB 1000 rfl) | exact LeA.c (LeC.refl _ rfl) | exact LeA.c (LeC.ow _ _ rfl) | exact LeA.c (LeC.pt _ _ _ _ _ rfl) | exact LeA.c (LeC.nil _ rfl) | exact LeA.c (LeC.nils _ _) | (refine LeA.int ?_; omega) | (refine LeA.int ?_; dsimp only; omega) | exact LeA.c (LeC.fz rfl rfl (by first | rfl | omega) (fun i _ j _ => ⟨rfl, by first | rfl | exact rowN_imm (fun _ => rfl) _ i j | exact rowF_imm (fun _ => rfl) _ i j⟩))⟩, ?_⟩)
        · exact ⟨HeapOk.lentRow rfl rfl (fun i _ j _ => ⟨rfl, rowF_imm mo_imm _ i j⟩), trivial⟩
      · by_cases hlt : k < i - 1 - a
        · obtain ⟨M, hM⟩ : ∃ M, upK moZ a k L = M := ⟨_, rfl⟩
          have hml : M.length = L.length := by rw [← hM]; exact upK_len a L k
          have hnext : upK moZ a (k + 1) L = swp moZ M (a + k) (a + k + 1) := by rw [← hM]; rfl
          rw [hM]
          repeat (first
            | refine AWp.seq ?_
            | refine thenA_n ?_
            | refine AWp.block ?_
            | refine AWp.skip ?_
            | refine inBlk_n ?_
            | refine AWp.condT rfl (by first | rfl | assumption | exact cmT) ?_
            | (refine AWp.region (id := 9) ?_; refine AList.move rfl rfl rfl ?_; refine AList.move rfl rfl rfl ?_; refine AList.sub rfl rfl rfl rfl (by omega) (by omega) ?_; refine AList.cmpT rfl rfl rfl rfl rfl cmT ?_; refine AList.nil ?_)
            | (refine AWp.region (id := 10) ?_; refine AList.move rfl rfl rfl ?_; refine AList.add rfl rfl rfl rfl (by omega) (by omega) ?_; refine AList.assign rfl rfl rfl ?_; refine AList.nil ?_)
            | (refine AWp.draw (id := 11) mixed ?_; refine AList.move rfl rfl rfl ?_; refine AList.move rfl rfl rfl ?_; refine AList.move rfl rfl rfl ?_; refine AList.move rfl rfl rfl ?_; refine AList.add rfl rfl rfl rfl (by omega) (by omega) ?_; refine AList.move rfl rfl rfl ?_; refine AList.move rfl rfl rfl ?_; refine AList.add rfl rfl rfl rfl (by omega) (by omega) ?_; refine AList.idxOw (k := a + k + 1) tyOk rfl rfl rfl rfl rfl rfl rfl rfl rfl rfl (by first | rfl | omega) oM ?_; refine AList.loadA tyOk rfl rfl rfl rfl rfl rfl rfl oM oM ?_; refine AList.move rfl rfl rfl ?_; refine AList.move rfl rfl rfl ?_; refine AList.idxOw (k := a + k) tyOk rfl rfl rfl rfl rfl rfl rfl rfl rfl rfl (by first | rfl | omega) oM ?_; refine AList.loadA tyOk rfl rfl rfl rfl rfl rfl rfl oM oM ?_; refine AList.idxOw (k := a + k) tyOk rfl rfl rfl rfl rfl rfl rfl rfl rfl rfl (by first | rfl | omega) oM ?_; refine AList.store tyOk rfl rfl rfl rfl rfl rfl rfl rfl oM oM ?_; refine AList.idxOw (k := a + k + 1) tyOk rfl rfl rfl rfl rfl rfl rfl rfl rfl rfl (by first | rfl | omega) oM ?_; refine AList.store tyOk rfl rfl rfl rfl rfl rfl rfl rfl oM oM ?_; refine AList.nil ⟨by kernel_rfl, ?_⟩))
          refine ⟨k + 1, by omega, ?_, by omega⟩
          rw [hnext]
          refine Wk.mkL [] rfl rfl rfl rfl rfl ?_ ?_
          · repeat (first | exact trivial | refine ⟨⟨_, rfl, by first | exact LeA.c (LeC.fn _ 0 _ _ (fun i hi => absurd hi (Nat.not_lt_zero _)) (fun i hi => absurd hi (Nat.not_lt_zero _))) | exact LeA.c (LeC.owB 1000 rfl) | exact LeA.c (LeC.refl _ rfl) | exact LeA.c (LeC.ow _ _ rfl) | exact LeA.c (LeC.pt _ _ _ _ _ rfl) | exact LeA.c (LeC.nil _ rfl) | exact LeA.c (LeC.nils _ _) | (refine LeA.int ?_; omega) | (refine LeA.int ?_; dsimp only; omega) | exact LeA.c (LeC.fz rfl rfl (by first | rfl | omega) (fun i _ j _ => ⟨rfl, by first | rfl | exact rowN_imm (fun _ => rfl) _ i j | exact rowF_imm (fun _ => rfl) _ i j⟩))⟩, ?_⟩)
          · exact ⟨HeapOk.row' rfl (swp_len moZ) (row_swp (by omega) (by omega)), trivial⟩
        · obtain rfl : k = i - 1 - a := by omega
          repeat (first
            | refine AWp.seq ?_
            | refine thenA_n ?_
            | refine AWp.exit ?_
            | refine AWp.ret ?_
            | refine thenA_r ?_
            | refine AWp.condF rfl (by first | rfl | assumption | exact cmF) ?_
            | (refine AWp.region (id := 9) ?_; refine AList.move rfl rfl rfl ?_; refine AList.move rfl rfl rfl ?_; refine AList.sub rfl rfl rfl rfl (by omega) (by omega) ?_; refine AList.cmpF rfl rfl rfl rfl rfl cmF ?_; refine AList.nil ?_))
          refine ⟨mkL 220 1 [] [(1000, mvB (upK moZ a (i - 1 - a) L))] [], [], Wk.mkL [] rfl rfl rfl rfl rfl trivial ?_, rfl, rfl, ARets.no⟩
          exact ⟨HeapOk.lentRow rfl rfl (fun i _ j _ => ⟨rfl, rowF_imm mo_imm _ i j⟩), trivial⟩
end Go.Proofs.Ytijaioiojclooaa
end

section
namespace Go.Proofs.Ytijaioiojclooaa
open Go.RowKit Go.Flow Go.AV Go.AV.Srt
set_option maxHeartbeats 4000000 in
set_option maxRecDepth 100000 in
theorem sym_two (f : Nat) (L : List (Int × Int)) (a m b : Nat) (C : Nat → CV) (h1 : a < m) (h2 : m < b) (hb : b ≤ L.length) (hn : L.length ≤ 1000) (hL : Oks L) (hc0 : ¬ m - a = 1) (hc : b - m = 1) :
    HCalls Try.prog 88 [.c (.ow 1000), .c (iC a), .c (iC m), .c (iC b), .c (cmpC C)] [(1000, mvB L)] (.tu []) [(1000, mvB (sym moZ mvLt (f + 1) a m b L))] := by
  refine hcalls_at Try.func88 rfl rfl Try.ntmps88 rfl rfl (fun p hp => by cases hp with | head => exact fun k j _ _ => rowF_imm mo_imm _ k j | tail _ h => cases h) ?_
  obtain ⟨T, hT⟩ : ∃ T : Nat → Bool, T = fun h => !(mvLt (L.getD m moZ) (L.getD h moZ)) := ⟨_, rfl⟩
  have hs : sym moZ mvLt (f + 1) a m b L = dnK moZ m (m - bs T (m - a) a m) L := by unfold sym; rw [if_neg hc0, if_pos hc, hT]
  obtain ⟨s, hse⟩ : ∃ s, bs T (m - a) a m = s := ⟨_, rfl⟩
  have hsb := bs_bd T (m - a) a m (by omega)
  rw [hs, hse]
  rw [hse] at hsb
  repeat (first
    | refine AWp.seq ?_
    | refine thenA_n ?_
    | refine AWp.block ?_
    | refine AWp.skip ?_
    | refine AWp.condT rfl (by first | rfl | assumption | exact cmT) ?_
    | refine AWp.condF rfl (by first | rfl | assumption | exact cmF) ?_
    | (refine AWp.region (id := 0) ?_; refine AList.move rfl rfl rfl ?_; refine AList.move rfl rfl rfl ?_; refine AList.sub rfl rfl rfl rfl (by omega) (by omega) ?_; refine AList.cmpF rfl rfl rfl rfl rfl cmF ?_; refine AList.nil ?_)
    | (refine AWp.region (id := 12) ?_; refine AList.move rfl rfl rfl ?_; refine AList.move rfl rfl rfl ?_; refine AList.sub rfl rfl rfl rfl (by omega) (by omega) ?_; refine AList.cmpT rfl rfl rfl rfl rfl cmT ?_; refine AList.nil ?_)
    | (refine AWp.region (id := 13) ?_; refine AList.move rfl rfl rfl ?_; refine AList.assign rfl rfl rfl ?_; refine AList.nil ?_)
    | (refine AWp.region (id := 14) ?_; refine AList.move rfl rfl rfl ?_; refine AList.assign rfl rfl rfl ?_; refine AList.nil ?_))
  refine AWp.round (fun t : Nat × Nat × Nat => mkL 220 1 (sySl a m b C ++ [(14, .c (iC t.2.1)), (15, .c (iC t.2.2))]) [(1000, mvB L)] [])
    (fun t => a ≤ t.2.1 ∧ t.2.1 ≤ t.2.2 ∧ t.2.2 ≤ m ∧ t.2.2 - t.2.1 ≤ t.1 ∧ bs T t.1 t.2.1 t.2.2 = s) (fun t => t.1) (m - a, a, m) ⟨Nat.le_refl _, by dsimp only; omega, Nat.le_refl _, Nat.le_refl _, hse⟩ ?_ (fun t ht => ?_)
  · refine Wk.mkL [] rfl rfl rfl rfl rfl ?_ ?_
    · repeat (first | exact trivial | refine ⟨⟨_, rfl, by first | exact LeA.c (LeC.fn _ 0 _ _ (fun i hi => absurd hi (Nat.not_lt_zero _)) (fun i hi => absurd hi (Nat.not_lt_zero _))) | exact LeA.c (LeC.owB 1000 rfl) | exact LeA.c (LeC.refl _ rfl) | exact LeA.c (LeC.ow _ _ rfl) | exact LeA.c (LeC.pt _ _ _ _ _ rfl) | exact LeA.c (LeC.nil _ rfl) | exact LeA.c (LeC.nils _ _) | (refine LeA.int ?_; omega) | (refine LeA.int ?_; dsimp only; omega) | exact LeA.c (LeC.fz rfl rfl (by first | rfl | omega) (fun i _ j _ => ⟨rfl, by first | rfl | exact rowN_imm (fun _ => rfl) _ i j | exact rowF_imm (fun _ => rfl) _ i j⟩))⟩, ?_⟩)
    · exact ⟨HeapOk.lentRow rfl rfl (fun i _ j _ => ⟨rfl, rowF_imm mo_imm _ i j⟩), trivial⟩
  · obtain ⟨g, i, j⟩ := t
    obtain ⟨q1, q2, q3, q4, q5⟩ := ht
    dsimp only at q1 q2 q3 q4 q5
    dsimp only
    by_cases hij : i < j
    · obtain ⟨g, rfl⟩ : ∃ k, g = k + 1 := ⟨g - 1, by omega⟩
      have hu := half_u (i := i) (j := j) (by omega)
      have hi := half_i (i := i) (j := j) (by omega)
      obtain ⟨h, hh⟩ : ∃ h, (i + j) / 2 = h := ⟨_, rfl⟩
      rw [hh] at hi
      have hhb : i ≤ h ∧ h < j := by omega
      have hcm := cmp_A (L.getD m moZ) (L.getD h moZ) (hL _) (hL _)
      have q5' : (if T h = true then bs T g (h + 1) j else bs T g i h) = s := by
        rw [← q5, ← hh]
        show _ = if i < j then (if T ((i + j) / 2) = true then bs T g ((i + j) / 2 + 1) j else bs T g i ((i + j) / 2)) else i
        rw [if_pos hij]
      by_cases hl : mvLt (L.getD m moZ) (L.getD h moZ) = true
      · have hl' := mvCmp_lt.1 hl
        rw [if_neg (by rw [hT]; simp only [hl]; decide)] at q5'
        repeat (first
          | refine AWp.seq ?_
          | refine thenA_n ?_
          | refine AWp.block ?_
          | refine AWp.skip ?_
          | refine inBlk_n ?_
          | refine AWp.condT rfl (by first | rfl | assumption | exact cmT) ?_
          | refine AWp.condF rfl (by first | rfl | assumption | exact cmF) ?_
          | (refine AWp.region (id := 15) ?_; refine AList.move rfl rfl rfl ?_; refine AList.move rfl rfl rfl ?_; refine AList.cmpT rfl rfl rfl rfl rfl cmT ?_; refine AList.nil ?_)
          | (refine AWp.region (id := 16) ?_; refine AList.move rfl rfl rfl ?_; refine AList.move rfl rfl rfl ?_; refine AList.add rfl rfl rfl rfl (by omega) (by omega) ?_; refine AList.convI (hu) (by kernel_rfl) Try.underlying134 rfl rfl rfl ?_; refine AList.shr1 rfl rfl rfl rfl ?_; refine AList.convI (hi) (by kernel_rfl) Try.underlying3 rfl rfl rfl ?_; refine AList.assign rfl rfl rfl ?_; refine AList.nil ?_)
          | (refine AWp.draw (id := 17) mixed ?_; refine AList.move rfl rfl rfl ?_; refine AList.move rfl rfl rfl ?_; refine AList.move rfl rfl rfl ?_; refine AList.idxOw (k := m) tyOk rfl rfl rfl rfl rfl rfl rfl rfl rfl rfl (by first | rfl | omega) oM ?_; refine AList.loadA tyOk rfl rfl rfl rfl rfl rfl rfl oM oM ?_; refine AList.move rfl rfl rfl ?_; refine AList.move rfl rfl rfl ?_; refine AList.idxOw (k := h) tyOk rfl rfl rfl rfl rfl rfl rfl rfl rfl rfl (by first | rfl | omega) oM ?_; refine AList.loadA tyOk rfl rfl rfl rfl rfl rfl rfl oM oM ?_; refine AList.call0 rfl rfl rfl rfl rfl Try.func39 rfl (by kernel_rfl) (hcm) ?_; refine AList.cmpT rfl rfl rfl rfl rfl cmT ?_; refine AList.notB rfl rfl rfl ?_; refine AList.nil ⟨by kernel_rfl, ?_⟩)
          | (refine AWp.region (id := 19) ?_; refine AList.move rfl rfl rfl ?_; refine AList.assign rfl rfl rfl ?_; refine AList.nil ?_))
        refine ⟨(g, i, h), ⟨q1, by dsimp only; omega, by dsimp only; omega, by dsimp only; omega, q5'⟩, Wk.mkL [] rfl rfl rfl rfl rfl ?_ ?_, by dsimp only; omega⟩
        · repeat (first | exact trivial | refine ⟨⟨_, rfl, by first | exact LeA.c (LeC.fn _ 0 _ _ (fun i hi => absurd hi (Nat.not_lt_zero _)) (fun i hi => absurd hi (Nat.not_lt_zero _))) | exact LeA.c (LeC.owB 1000 rfl) | exact LeA.c (LeC.refl _ rfl) | exact LeA.c (LeC.ow _ _ rfl) | exact LeA.c (LeC.pt _ _ _ _ _ rfl) | exact LeA.c (LeC.nil _ rfl) | exact LeA.c (LeC.nils _ _) | (refine LeA.int ?_; omega) | (refine LeA.int ?_; dsimp only; omega) | exact LeA.c (LeC.fz rfl rfl (by first | rfl | omega) (fun i _ j _ => ⟨rfl, by first | rfl | exact rowN_imm (fun _ => rfl) _ i j | exact rowF_imm (fun _ => rfl) _ i j⟩))⟩, ?_⟩)
        · exact ⟨HeapOk.lentRow rfl rfl (fun i _ j _ => ⟨rfl, rowF_imm mo_imm _ i j⟩), trivial⟩
      · have hl' : ¬ mvCmp (L.getD m moZ) (L.getD h moZ) < 0 := fun h => hl (mvCmp_lt.2 h)
        rw [if_pos (by rw [hT]; simp only [Bool.eq_false_iff.2 hl]; decide)] at q5'
        repeat (first
          | refine AWp.seq ?_
          | refine thenA_n ?_
          | refine AWp.block ?_
          | refine AWp.skip ?_
          | refine inBlk_n ?_
          | refine AWp.condT rfl (by first | rfl | assumption | exact cmT) ?_
          | (refine AWp.region (id := 15) ?_; refine AList.move rfl rfl rfl ?_; refine AList.move rfl rfl rfl ?_; refine AList.cmpT rfl rfl rfl rfl rfl cmT ?_; refine AList.nil ?_)
          | (refine AWp.region (id := 16) ?_; refine AList.move rfl rfl rfl ?_; refine AList.move rfl rfl rfl ?_; refine AList.add rfl rfl rfl rfl (by omega) (by omega) ?_; refine AList.convI (hu) (by kernel_rfl) Try.underlying134 rfl rfl rfl ?_; refine AList.shr1 rfl rfl rfl rfl ?_; refine AList.convI (hi) (by kernel_rfl) Try.underlying3 rfl rfl rfl ?_; refine AList.assign rfl rfl rfl ?_; refine AList.nil ?_)
          | (refine AWp.draw (id := 17) mixed ?_; refine AList.move rfl rfl rfl ?_; refine AList.move rfl rfl rfl ?_; refine AList.move rfl rfl rfl ?_; refine AList.idxOw (k := m) tyOk rfl rfl rfl rfl rfl rfl rfl rfl rfl rfl (by first | rfl | omega) oM ?_; refine AList.loadA tyOk rfl rfl rfl rfl rfl rfl rfl oM oM ?_; refine AList.move rfl rfl rfl ?_; refine AList.move rfl rfl rfl ?_; refine AList.idxOw (k := h) tyOk rfl rfl rfl rfl rfl rfl rfl rfl rfl rfl (by first | rfl | omega) oM ?_; refine AList.loadA tyOk rfl rfl rfl rfl rfl rfl rfl oM oM ?_; refine AList.call0 rfl rfl rfl rfl rfl Try.func39 rfl (by kernel_rfl) (hcm) ?_; refine AList.cmpF rfl rfl rfl rfl rfl cmF ?_; refine AList.notB rfl rfl rfl ?_; refine AList.nil ⟨by kernel_rfl, ?_⟩)
          | (refine AWp.region (id := 18) ?_; refine AList.move rfl rfl rfl ?_; refine AList.add rfl rfl rfl rfl (by omega) (by omega) ?_; refine AList.assign rfl rfl rfl ?_; refine AList.nil ?_))
        refine ⟨(g, h + 1, j), ⟨by dsimp only; omega, by dsimp only; omega, q3, by dsimp only; omega, q5'⟩, Wk.mkL [] rfl rfl rfl rfl rfl ?_ ?_, by dsimp only; omega⟩
        · repeat (first | exact trivial | refine ⟨⟨_, rfl, by first | exact LeA.c (LeC.fn _ 0 _ _ (fun i hi => absurd hi (Nat.not_lt_zero _)) (fun i hi => absurd hi (Nat.not_lt_zero _))) | exact LeA.c (LeC.owB 1000 rfl) | exact LeA.c (LeC.refl _ rfl) | exact LeA.c (LeC.ow _ _ rfl) | exact LeA.c (LeC.pt _ _ _ _ _ rfl) | exact LeA.c (LeC.nil _ rfl) | exact LeA.c (LeC.nils _ _) | (refine LeA.int ?_; omega) | (refine LeA.int ?_; dsimp only; omega) | exact LeA.c (LeC.fz rfl rfl (by first | rfl | omega) (fun i _ j _ => ⟨rfl, by first | rfl | exact rowN_imm (fun _ => rfl) _ i j | exact rowF_imm (fun _ => rfl) _ i j⟩))⟩, ?_⟩)
        · exact ⟨HeapOk.lentRow rfl rfl (fun i _ j _ => ⟨rfl, rowF_imm mo_imm _ i j⟩), trivial⟩
    · obtain rfl : i = s := by rw [← q5]; exact (bs_stop hij).symm
      have hcm := cmp_A moZ moZ mvOkZ mvOkZ
      repeat (first
        | refine AWp.seq ?_
        | refine thenA_n ?_
        | refine AWp.block ?_
        | refine AWp.exit ?_
        | refine AWp.condF rfl (by first | rfl | assumption | exact cmF) ?_
        | (refine AWp.region (id := 15) ?_; refine AList.move rfl rfl rfl ?_; refine AList.move rfl rfl rfl ?_; refine AList.cmpF rfl rfl rfl rfl rfl cmF ?_; refine AList.nil ?_)
        | (refine AWp.region (id := 20) ?_; refine AList.move rfl rfl rfl ?_; refine AList.assign rfl rfl rfl ?_; refine AList.nil ?_))
      refine AWp.round (fun k : Nat => mkL 220 1 (sySl a m b C ++ [(14, .c (iC i)), (17, .c (iC ((m : Int) - k)))]) [(1000, mvB (dnK moZ m k L))] [])
        (fun k => k ≤ m - i) (fun k => m - i - k) 0 (Nat.zero_le _) ?_ (fun k hk => ?_)
      · refine Wk.mkL [] rfl rfl rfl rfl rfl ?_ ?_
        · repeat (first | exact trivial | refine ⟨⟨_, rfl, by first | exact LeA.c (LeC.fn _ 0 _ _ (fun i hi => absurd hi (Nat.not_lt_zero _)) (fun i hi => absurd hi (Nat.not_lt_zero _))) | exact LeA.c (LeC.owB 1000 rfl) | exact LeA.c (LeC.refl _ rfl) | exact LeA.c (LeC.ow _ _ rfl) | exact LeA.c (LeC.pt _ _ _ _ _ rfl) | exact LeA.c (LeC.nil _ rfl) | exact LeA.c (LeC.nils _ _) | (refine LeA.int ?_; omega) | (refine LeA.int ?_; dsimp only; omega) | exact LeA.c (LeC.fz rfl rfl (by first | rfl | omega) (fun i _ j _ => ⟨rfl, by first | rfl | exact rowN_imm (fun _ => rfl) _ i j | exact rowF_imm (fun _ => rfl) _ i j⟩))⟩, ?_⟩)
        · exact ⟨HeapOk.lentRow rfl rfl (fun i _ j _ => ⟨rfl, rowF_imm mo_imm _ i j⟩), trivial⟩
      · by_cases hlt : k < m - i
        · obtain ⟨M, hM⟩ : ∃ M, dnK moZ m k L = M := ⟨_, rfl⟩
          have hml : M.length = L.length := by rw [← hM]; exact dnK_len m L k
          have hnext : dnK moZ m (k + 1) L = swp moZ M (m - k) (m - k - 1) := by rw [← hM]; rfl
          rw [hM]
          repeat (first
            | refine AWp.seq ?_
            | refine thenA_n ?_
            | refine AWp.block ?_
            | refine AWp.skip ?_
            | refine inBlk_n ?_
            | refine AWp.condT rfl (by first | rfl | assumption | exact cmT) ?_
            | (refine AWp.region (id := 21) ?_; refine AList.move rfl rfl rfl ?_; refine AList.move rfl rfl rfl ?_; refine AList.cmpT rfl rfl rfl rfl rfl cmT ?_; refine AList.nil ?_)
            | (refine AWp.region (id := 22) ?_; refine AList.move rfl rfl rfl ?_; refine AList.sub rfl rfl rfl rfl (by omega) (by omega) ?_; refine AList.assign rfl rfl rfl ?_; refine AList.nil ?_)
            | (refine AWp.draw (id := 23) mixed ?_; refine AList.move rfl rfl rfl ?_; refine AList.move rfl rfl rfl ?_; refine AList.move rfl rfl rfl ?_; refine AList.move rfl rfl rfl ?_; refine AList.sub rfl rfl rfl rfl (by omega) (by omega) ?_; refine AList.move rfl rfl rfl ?_; refine AList.move rfl rfl rfl ?_; refine AList.sub rfl rfl rfl rfl (by omega) (by omega) ?_; refine AList.idxOw (k := m - k - 1) tyOk rfl rfl rfl rfl rfl rfl rfl rfl rfl rfl (by first | rfl | omega) oM ?_; refine AList.loadA tyOk rfl rfl rfl rfl rfl rfl rfl oM oM ?_; refine AList.move rfl rfl rfl ?_; refine AList.move rfl rfl rfl ?_; refine AList.idxOw (k := m - k) tyOk rfl rfl rfl rfl rfl rfl rfl rfl rfl rfl (by first | rfl | omega) oM ?_; refine AList.loadA tyOk rfl rfl rfl rfl rfl rfl rfl oM oM ?_; refine AList.idxOw (k := m - k) tyOk rfl rfl rfl rfl rfl rfl rfl rfl rfl rfl (by first | rfl | omega) oM ?_; refine AList.store tyOk rfl rfl rfl rfl rfl rfl rfl rfl oM oM ?_; refine AList.idxOw (k := m - k - 1) tyOk rfl rfl rfl rfl rfl rfl rfl rfl rfl rfl (by first | rfl | omega) oM ?_; refine AList.store tyOk rfl rfl rfl rfl rfl rfl rfl rfl oM oM ?_; refine AList.nil ⟨by kernel_rfl, ?_⟩))
          refine ⟨k + 1, by omega, ?_, by omega⟩
          rw [hnext]
          refine Wk.mkL [] rfl rfl rfl rfl rfl ?_ ?_
          · repeat (first | exact trivial | refine ⟨⟨_, rfl, by first | exact LeA.c (LeC.fn _ 0 _ _ (fun i hi => absurd hi (Nat.not_lt_zero _)) (fun i hi => absurd hi (Nat.not_lt_zero _))) | exact LeA.c (LeC.owB 1000 rfl) | exact LeA.c (LeC.refl _ rfl) | exact LeA.c (LeC.ow _ _ rfl) | exact LeA.c (LeC.pt _ _ _ _ _ rfl) | exact LeA.c (LeC.nil _ rfl) | exact LeA.c (LeC.nils _ _) | (refine LeA.int ?_; omega) | (refine LeA.int ?_; dsimp only; omega) | exact LeA.c (LeC.fz rfl rfl (by first | rfl | omega) (fun i _ j _ => ⟨rfl, by first | rfl | exact rowN_imm (fun _ => rfl) _ i j | exact rowF_imm (fun _ => rfl) _ i j⟩))⟩, ?_⟩)
          · exact ⟨HeapOk.row' rfl (swp_len moZ) (row_swp (by omega) (by omega)), trivial⟩
        · obtain rfl : k = m - i := by omega
          repeat (first
            | refine AWp.seq ?_
            | refine thenA_n ?_
            | refine AWp.exit ?_
            | refine AWp.ret ?_
            | refine thenA_r ?_
            | refine AWp.condF rfl (by first | rfl | assumption | exact cmF) ?_
            | (refine AWp.region (id := 21) ?_; refine AList.move rfl rfl rfl ?_; refine AList.move rfl rfl rfl ?_; refine AList.cmpF rfl rfl rfl rfl rfl cmF ?_; refine AList.nil ?_))
          refine ⟨mkL 220 1 [] [(1000, mvB (dnK moZ m (m - i) L))] [], [], Wk.mkL [] rfl rfl rfl rfl rfl trivial ?_, rfl, rfl, ARets.no⟩
          exact ⟨HeapOk.lentRow rfl rfl (fun i _ j _ => ⟨rfl, rowF_imm mo_imm _ i j⟩), trivial⟩
end Go.Proofs.Ytijaioiojclooaa
end
