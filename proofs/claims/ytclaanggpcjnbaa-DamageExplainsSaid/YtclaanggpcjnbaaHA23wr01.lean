/- Parts of the proof: A23w. -/
import Derived.Test.YtclaanggpcjnbaaG34
set_option linter.unusedSimpArgs false
set_option linter.unusedVariables false
section
/- Chapter 23: the law DamageExplains over plain values. -/
namespace Go.Proofs.Ytclaanggpcjnbaa
open Go.RowKit Go.Flow Go.AV Go.Plain
set_option maxHeartbeats 4000000 in
set_option maxRecDepth 100000 in
theorem DamageExplains_A (N : Nat) (f : Nat → Int) (M : Nat) (g : Nat → Int) (L : Nat) (l : Nat → Int) (B : Nat) (u : Nat → Int) (raw : Bg) (hN : N ≤ 4611686018427387904) (hM : M ≤ 4611686018427387904) (hL : L ≤ 4611686018427387904) (hB : B ≤ 4611686018427387904) :
    ECalls Try.prog 4 [.c (.ls N 1 (iF f)), .c (.ls M 1 (iF g)), .c (.ls L 1 (iF l)), .c (.ls B 1 (iF u)), .ag (bgC raw)] (fun v => v = .c (bC true)) := by
  have hC1 := cutL_A N f 60 hN (by omega)
  have hC2 := cutL_A M g 60 hM (by omega)
  have hC3 := cutL_A L l 12 hL (by omega)
  have hC4 := cutL_A B u 4 hB (by omega)
  have hBud := Budget_A (min B 4) u (by omega)
  have hxb := bgN_bd (min B 4) u
  obtain ⟨x, hx⟩ : ∃ x, bgN (min B 4) u = x := ⟨_, rfl⟩
  rw [hx] at hBud hxb
  obtain ⟨x1, x2, x3, x4⟩ := hxb
  obtain ⟨s, hs⟩ : ∃ s : Bg, s = ⟨max 0 (x.lo - 1), x.bl, x.sh, x.st⟩ := ⟨_, rfl⟩
  refine ecalls_at Try.func4 rfl rfl Try.ntmps4 rfl ?_
  repeat (first
    | refine AWp.seq ?_
    | (refine AWp.region (id := 0) ?_
       refine AList.box rfl rfl rfl rfl rfl ?_
       refine AList.assign rfl rfl rfl ?_
       refine AList.nil ?_)
    | (refine AWp.region (id := 1) ?_
       refine AList.call rfl rfl rfl rfl Try.func9 rfl (by kernel_rfl) (sanity_A) ?_
       refine AList.assign rfl rfl rfl ?_
       refine AList.nil ?_))
  refine AWp.text ?_
  refine AText.split 2 ?_
  refine AList.move rfl rfl rfl ?_
  refine AList.call rfl rfl rfl rfl Try.func11 rfl (by kernel_rfl) (hC1) ?_
  refine AList.nil ?_
  refine AText.callE rfl rfl rfl rfl Try.func16 rfl (by kernel_rfl) (Made_B (min N 60) f (by omega)) ?_
  rintro _ ⟨a, ha, rfl⟩
  refine AText.split 2 ?_
  refine AList.move rfl rfl rfl ?_
  refine AList.call rfl rfl rfl rfl Try.func11 rfl (by kernel_rfl) (hC2) ?_
  refine AList.nil ?_
  refine AText.callE rfl rfl rfl rfl Try.func16 rfl (by kernel_rfl) (Made_B (min M 60) g (by omega)) ?_
  rintro _ ⟨b, hb, rfl⟩
  refine AText.all ?_
  refine AList.alloc tyOk rfl rfl rfl rfl rfl ?_
  refine AList.alloc tyOk rfl rfl rfl rfl rfl ?_
  refine AList.store tyOk rfl rfl rfl rfl rfl rfl rfl rfl oM oM ?_
  refine AList.store tyOk rfl rfl rfl rfl rfl rfl rfl rfl oM oM ?_
  refine AList.nil ?_
  obtain ⟨hH, hHN, hHM, hHw⟩ := Hit_A (min L 12) l a x (by omega) ha.1
  obtain ⟨h, hh⟩ : ∃ h, hitV (min L 12) l a x = h := ⟨_, rfl⟩
  rw [hh] at hH hHN hHM hHw
  have hA := rApply_A a h (by omega) (by omega)
  rw [apV, apI, if_pos (wi_ok hHw)] at hA
  obtain ⟨y, hy⟩ : ∃ y, apP a h = y := ⟨_, rfl⟩
  have hyn : y.n ≤ 4611686018427387904 := by
    rw [← hy]
    have := ha.n_le
    show bpm a ≤ _
    omega
  have hA' : ACalls Try.prog 18 [.ag (bpC a), .ag (htC h)] (.tu [.ag (ipC y), .c (iC (apE a h))]) := by rw [← hy]; exact hA
  repeat (first
    | refine AWp.seq ?_
    | refine thenA_n ?_
    | refine AWp.block ?_
    | (refine AWp.region (id := 3) ?_
       refine AList.move rfl rfl rfl ?_
       refine AList.call rfl rfl rfl rfl Try.func11 rfl (by kernel_rfl) (hC4) ?_
       refine AList.call rfl rfl rfl rfl Try.func17 rfl (by kernel_rfl) (hBud) ?_
       refine AList.alloc tyOk rfl rfl rfl rfl rfl ?_
       refine AList.store tyOk rfl rfl rfl rfl rfl rfl rfl rfl oM oM ?_
       refine AList.nil ?_)
    | (refine AWp.draw (id := 4) mixed ?_
       refine AList.loadA tyOk rfl rfl rfl rfl rfl rfl rfl oM oM ?_
       refine AList.move rfl rfl rfl ?_
       refine AList.call rfl rfl rfl rfl Try.func11 rfl (by kernel_rfl) (hC3) ?_
       refine AList.loadA tyOk rfl rfl rfl rfl rfl rfl rfl oM oM ?_
       refine AList.loadA tyOk rfl rfl rfl rfl rfl rfl rfl oM oM ?_
       refine AList.call rfl rfl rfl rfl Try.func19 rfl (by kernel_rfl) (hH) ?_
       refine AList.call rfl rfl rfl rfl Try.func18 rfl (by kernel_rfl) (hA') ?_
       refine AList.move rfl rfl rfl ?_
       refine AList.extract rfl rfl rfl rfl ?_
       refine AList.extract rfl rfl rfl rfl ?_
       refine AList.alloc tyOk rfl rfl rfl rfl rfl ?_
       refine AList.store tyOk rfl rfl rfl rfl rfl rfl rfl rfl oM oM ?_
       refine AList.assign rfl rfl rfl ?_
       refine AList.nil ⟨by kernel_rfl, ?_⟩)
    | (refine AWp.region (id := 5) ?_
       refine AList.loadA tyOk rfl rfl rfl rfl rfl rfl rfl oM oM ?_
       refine AList.alloc tyOk rfl rfl rfl rfl rfl ?_
       refine AList.store tyOk rfl rfl rfl rfl rfl rfl rfl rfl oM oM ?_
       refine AList.nil ?_)
    | (refine AWp.region (id := 6) ?_
       refine AList.fieldPt tyOk rfl rfl rfl rfl rfl rfl rfl ?_
       refine AList.load1 tyOk rfl rfl rfl rfl rfl rfl rfl oM oM ?_
       refine AList.sub rfl rfl rfl rfl (by omega) (by omega) ?_
       refine AList.maxI rfl rfl rfl rfl ?_
       refine AList.fieldPt tyOk rfl rfl rfl rfl rfl rfl rfl ?_
       refine AList.store tyOk rfl rfl rfl rfl rfl rfl rfl rfl oM oM ?_
       refine AList.nil ?_)
    | (refine AWp.region (id := 7) ?_
       refine AList.loadA tyOk rfl rfl rfl rfl rfl rfl rfl oM oM ?_
       refine AList.loadA tyOk rfl rfl rfl rfl rfl rfl rfl oM oM ?_
       refine AList.buildSt tyOk rfl rfl rfl rfl rfl rfl rfl rfl ?_
       refine AList.litSl tyOk rfl rfl rfl rfl rfl rfl rfl rfl rfl rfl rfl ?_
       refine AList.lenLs tyOk rfl rfl rfl rfl rfl ?_
       refine AList.move rfl rfl rfl ?_
       refine AList.nil ?_))
  refine AWp.round (fun k : Nat => mkSt 96 [(9, .c (.pt 9 4 0 0)), (11, .c (bC true)), (12, .c (.pt 12 3 0 0)), (13, .c (.pt 13 3 0 0)), (14, .c (.pt 14 4 0 0)), (15, .c (.pt 15 3 0 0)), (17, .c (.pt 17 4 0 0)), (55, .c (.ls 3 3 (sF (bpC a ++ bpC b ++ bZC) 3))), (56, .c (iC 3)), (57, .c (iC k))]
    [(9, ⟨false, 1, 4, 24, lF (bgC raw)⟩), (12, ⟨false, 1, 3, 39, lF (bpC a)⟩), (13, ⟨false, 1, 3, 39, lF (bpC b)⟩), (14, ⟨false, 1, 4, 24, lF (bgC x)⟩), (15, ⟨false, 1, 3, 43, lF (ipC y)⟩), (17, ⟨false, 1, 4, 24, lF (bgC s)⟩)] [9, 12, 13, 14, 15, 17])
    (fun k => k ≤ 3) (fun k => 3 - k) 0 (Nat.zero_le _) ?_ (fun k hk => ?_)
  · subst hs
    refine Wk.mk [(12, some 12), (13, some 13), (14, some 14), (15, some 15), (17, some 17), (9, some 9)] rfl rfl rfl ?_ ?_
    · repeat (first | exact trivial | refine ⟨⟨_, rfl, by first | exact LeA.c (LeC.refl _ rfl) | exact LeA.c (LeC.ow _ _ rfl) | exact LeA.c (LeC.pt _ _ _ _ _ rfl) | exact LeA.c (LeC.nil _ rfl) | exact LeA.c (LeC.nils _ _) | (refine LeA.int ?_; omega) | (refine LeA.int ?_; dsimp only; omega) | exact LeA.c (LeC.fz rfl rfl (by first | rfl | omega) (fun i _ j _ => ⟨rfl, by first | rfl | exact rowN_imm (fun _ => rfl) _ i j | exact rowF_imm (fun _ => rfl) _ i j⟩))⟩, ?_⟩)
    · repeat (first | exact trivial | refine ⟨by first | exact HeapOk.same rfl rfl rfl rfl | exact HeapOk.lent rfl rfl rfl rfl | exact HeapOk.nil rfl rfl | exact HeapOk.row rfl rfl (by first | rfl | omega) (fun i _ j _ => ⟨rfl, by first | rfl | exact rowN_imm (fun _ => rfl) _ i j | exact rowF_imm (fun _ => rfl) _ i j⟩) | exact HeapOk.box rfl rfl (by repeat (first | exact trivial | refine ⟨by first | exact LeC.refl _ rfl | exact LeC.ow _ _ rfl | exact LeC.nil _ rfl | exact LeC.nils _ _ | exact LeC.fz rfl rfl (by first | rfl | omega) (fun i _ j _ => ⟨rfl, by first | rfl | exact rowN_imm (fun _ => rfl) _ i j | exact rowF_imm (fun _ => rfl) _ i j⟩) | exact LeC.int (by omega), ?_⟩)) rfl, ?_⟩)
  · obtain rfl | rfl | rfl | rfl : k = 0 ∨ k = 1 ∨ k = 2 ∨ k = 3 := by omega
    · repeat (first
        | refine AWp.seq ?_
        | refine thenA_n ?_
        | refine AWp.block ?_
        | refine AWp.skip ?_
        | refine AWp.condT rfl (by first | rfl | assumption | exact cmT) ?_
        | (refine AWp.region (id := 8) ?_
           refine AList.cmpT rfl rfl rfl rfl rfl cmT ?_
           refine AList.nil ?_)
        | (refine AWp.region (id := 9) ?_
           refine AList.idx (k := 0) tyOk rfl rfl rfl rfl rfl rfl rfl rfl (by first | rfl | omega) oM oM ?_
           refine AList.loadAl tyOk rfl rfl rfl rfl rfl oM ?_
           refine AList.alloc tyOk rfl rfl rfl rfl rfl ?_
           refine AList.store tyOk rfl rfl rfl rfl rfl rfl rfl rfl oM oM ?_
           refine AList.nil ?_)
        | (refine AWp.region (id := 10) ?_
           refine AList.loadA tyOk rfl rfl rfl rfl rfl rfl rfl oM oM ?_
           refine AList.loadA tyOk rfl rfl rfl rfl rfl rfl rfl oM oM ?_
           refine AList.loadA tyOk rfl rfl rfl rfl rfl rfl rfl oM oM ?_
           refine AList.buildSt tyOk rfl rfl rfl rfl rfl rfl rfl rfl ?_
           refine AList.litSl tyOk rfl rfl rfl rfl rfl rfl rfl rfl rfl rfl rfl ?_
           refine AList.lenLs tyOk rfl rfl rfl rfl rfl ?_
           refine AList.move rfl rfl rfl ?_
           refine AList.nil ?_))
      refine AWp.round (fun j : Nat => mkSt 96 [(9, .c (.pt 9 4 0 0)), (11, .c (bC true)), (12, .c (.pt 12 3 0 0)), (13, .c (.pt 13 3 0 0)), (14, .c (.pt 14 4 0 0)), (15, .c (.pt 15 3 0 0)), (17, .c (.pt 17 4 0 0)), (19, .c (.pt 19 3 0 0)), (55, .c (.ls 3 3 (sF (bpC a ++ bpC b ++ bZC) 3))), (56, .c (iC 3)), (57, .c (iC 0)), (65, .c (.ls 4 4 (sF (bs4 x s raw) 4))), (66, .c (iC 4)), (67, .c (iC j))]
        [(9, ⟨false, 1, 4, 24, lF (bgC raw)⟩), (12, ⟨false, 1, 3, 39, lF (bpC a)⟩), (13, ⟨false, 1, 3, 39, lF (bpC b)⟩), (14, ⟨false, 1, 4, 24, lF (bgC x)⟩), (15, ⟨false, 1, 3, 43, lF (ipC y)⟩), (17, ⟨false, 1, 4, 24, lF (bgC s)⟩), (19, ⟨false, 1, 3, 39, lF (bpC a)⟩)] [9, 12, 13, 14, 15, 17, 19])
        (fun j => j ≤ 4) (fun j => 4 - j) 0 (Nat.zero_le _) ?_ (fun j hj => ?_)
      · refine Wk.mk [(12, some 12), (13, some 13), (14, some 14), (15, some 15), (17, some 17), (9, some 9), (19, some 19)] rfl rfl rfl ?_ ?_
        · repeat (first | exact trivial | refine ⟨⟨_, rfl, by first | exact LeA.c (LeC.refl _ rfl) | exact LeA.c (LeC.ow _ _ rfl) | exact LeA.c (LeC.pt _ _ _ _ _ rfl) | exact LeA.c (LeC.nil _ rfl) | exact LeA.c (LeC.nils _ _) | (refine LeA.int ?_; omega) | (refine LeA.int ?_; dsimp only; omega) | exact LeA.c (LeC.fz rfl rfl (by first | rfl | omega) (fun i _ j _ => ⟨rfl, by first | rfl | exact rowN_imm (fun _ => rfl) _ i j | exact rowF_imm (fun _ => rfl) _ i j⟩))⟩, ?_⟩)
        · repeat (first | exact trivial | refine ⟨by first | exact HeapOk.same rfl rfl rfl rfl | exact HeapOk.lent rfl rfl rfl rfl | exact HeapOk.nil rfl rfl | exact HeapOk.row rfl rfl (by first | rfl | omega) (fun i _ j _ => ⟨rfl, by first | rfl | exact rowN_imm (fun _ => rfl) _ i j | exact rowF_imm (fun _ => rfl) _ i j⟩) | exact HeapOk.box rfl rfl (by repeat (first | exact trivial | refine ⟨by first | exact LeC.refl _ rfl | exact LeC.ow _ _ rfl | exact LeC.nil _ rfl | exact LeC.nils _ _ | exact LeC.fz rfl rfl (by first | rfl | omega) (fun i _ j _ => ⟨rfl, by first | rfl | exact rowN_imm (fun _ => rfl) _ i j | exact rowF_imm (fun _ => rfl) _ i j⟩) | exact LeC.int (by omega), ?_⟩)) rfl, ?_⟩)
      · obtain rfl | rfl | rfl | rfl | rfl : j = 0 ∨ j = 1 ∨ j = 2 ∨ j = 3 ∨ j = 4 := by omega
        · have hP := (pExplains_A y a x hyn).cv (args' := [.ag (ipC y), .ag (bpC a), .ag (bgC x)]) ⟨.ag ⟨Cv.refl _, Cv.refl _, Cv.refl _, trivial⟩, .ag (bp_cv a), .ag ⟨Cv.refl _, Cv.refl _, Cv.refl _, Cv.refl _, trivial⟩, trivial⟩
          have hR := (rExplains_A y a x hyn).cv (args' := [.ag (ipC y), .ag (bpC a), .ag (bgC x)]) ⟨.ag ⟨Cv.refl _, Cv.refl _, Cv.refl _, trivial⟩, .ag (bp_cv a), .ag ⟨Cv.refl _, Cv.refl _, Cv.refl _, Cv.refl _, trivial⟩, trivial⟩
          obtain ⟨V, hV⟩ : ∃ V, exV y a x = V := ⟨_, rfl⟩
          rw [hV] at hP hR
          obtain ⟨vm, vo⟩ := V
          cases vo
          all_goals
            repeat (first
              | refine AWp.seq ?_
              | refine thenA_n ?_
              | refine AWp.block ?_
              | refine AWp.skip ?_
              | refine inBlk_n ?_
              | refine AWp.condT rfl (by first | rfl | assumption | exact cmT) ?_
              | refine AWp.condF rfl (by first | rfl | assumption | exact cmF) ?_
              | (refine AWp.region (id := 11) ?_
                 refine AList.cmpT rfl rfl rfl rfl rfl cmT ?_
                 refine AList.nil ?_)
              | (refine AWp.region (id := 12) ?_
                 refine AList.idx (k := 0) tyOk rfl rfl rfl rfl rfl rfl rfl rfl (by first | rfl | omega) oM oM ?_
                 refine AList.loadAl tyOk rfl rfl rfl rfl rfl oM ?_
                 refine AList.alloc tyOk rfl rfl rfl rfl rfl ?_
                 refine AList.store tyOk rfl rfl rfl rfl rfl rfl rfl rfl oM oM ?_
                 refine AList.nil ?_)
              | (refine AWp.region (id := 13) ?_
                 refine AList.loadA tyOk rfl rfl rfl rfl rfl rfl rfl oM oM ?_
                 refine AList.loadA tyOk rfl rfl rfl rfl rfl rfl rfl oM oM ?_
                 refine AList.loadA tyOk rfl rfl rfl rfl rfl rfl rfl oM oM ?_
                 refine AList.call rfl rfl rfl rfl Try.func20 rfl (by kernel_rfl) (hP) ?_
                 refine AList.move rfl rfl rfl ?_
                 refine AList.extract rfl rfl rfl rfl ?_
                 refine AList.extract rfl rfl rfl rfl ?_
                 refine AList.alloc tyOk rfl rfl rfl rfl rfl ?_
                 refine AList.store tyOk rfl rfl rfl rfl rfl rfl rfl rfl oM oM ?_
                 refine AList.assign rfl rfl rfl ?_
                 refine AList.nil ?_)
              | (refine AWp.region (id := 14) ?_
                 refine AList.loadA tyOk rfl rfl rfl rfl rfl rfl rfl oM oM ?_
                 refine AList.loadA tyOk rfl rfl rfl rfl rfl rfl rfl oM oM ?_
                 refine AList.loadA tyOk rfl rfl rfl rfl rfl rfl rfl oM oM ?_
                 refine AList.call rfl rfl rfl rfl Try.func21 rfl (by kernel_rfl) (hR) ?_
                 refine AList.move rfl rfl rfl ?_
                 refine AList.extract rfl rfl rfl rfl ?_
                 refine AList.extract rfl rfl rfl rfl ?_
                 refine AList.alloc tyOk rfl rfl rfl rfl rfl ?_
                 refine AList.store tyOk rfl rfl rfl rfl rfl rfl rfl rfl oM oM ?_
                 refine AList.assign rfl rfl rfl ?_
                 refine AList.nil ?_)
              | (refine AWp.region (id := 15) ?_
                 refine AList.move rfl rfl rfl ?_
                 refine AList.move rfl rfl rfl ?_
                 refine AList.neB rfl rfl rfl rfl (by kernel_rfl) ?_
                 refine AList.move rfl rfl rfl ?_
                 refine AList.loadA tyOk rfl rfl rfl rfl rfl rfl rfl oM oM ?_
                 refine AList.loadA tyOk rfl rfl rfl rfl rfl rfl rfl oM oM ?_
                 refine AList.binAg rfl rfl rfl rfl rfl rfl (by kernel_rfl) (mc_neS vm) ?_
                 refine AList.pickF rfl rfl rfl rfl ?_
                 refine AList.nil ?_)
              | (refine AWp.region (id := 17) ?_
                 refine AList.add rfl rfl rfl rfl (by omega) (by omega) ?_
                 refine AList.move rfl rfl rfl ?_
                 refine AList.nil ?_))
            refine ⟨0 + 1, by omega, Wk.mk [(12, some 12), (13, some 13), (14, some 14), (15, some 15), (17, some 17), (9, some 9), (19, some 19)] rfl rfl rfl ?_ ?_, by omega⟩
            · repeat (first | exact trivial | refine ⟨⟨_, rfl, by first | exact LeA.c (LeC.refl _ rfl) | exact LeA.c (LeC.ow _ _ rfl) | exact LeA.c (LeC.pt _ _ _ _ _ rfl) | exact LeA.c (LeC.nil _ rfl) | exact LeA.c (LeC.nils _ _) | (refine LeA.int ?_; omega) | (refine LeA.int ?_; dsimp only; omega) | exact LeA.c (LeC.fz rfl rfl (by first | rfl | omega) (fun i _ j _ => ⟨rfl, by first | rfl | exact rowN_imm (fun _ => rfl) _ i j | exact rowF_imm (fun _ => rfl) _ i j⟩))⟩, ?_⟩)
            · repeat (first | exact trivial | refine ⟨by first | exact HeapOk.same rfl rfl rfl rfl | exact HeapOk.lent rfl rfl rfl rfl | exact HeapOk.nil rfl rfl | exact HeapOk.row rfl rfl (by first | rfl | omega) (fun i _ j _ => ⟨rfl, by first | rfl | exact rowN_imm (fun _ => rfl) _ i j | exact rowF_imm (fun _ => rfl) _ i j⟩) | exact HeapOk.box rfl rfl (by repeat (first | exact trivial | refine ⟨by first | exact LeC.refl _ rfl | exact LeC.ow _ _ rfl | exact LeC.nil _ rfl | exact LeC.nils _ _ | exact LeC.fz rfl rfl (by first | rfl | omega) (fun i _ j _ => ⟨rfl, by first | rfl | exact rowN_imm (fun _ => rfl) _ i j | exact rowF_imm (fun _ => rfl) _ i j⟩) | exact LeC.int (by omega), ?_⟩)) rfl, ?_⟩)
        · have hP := (pExplains_A y a s hyn).cv (args' := [.ag (ipC y), .ag (bpC a), .ag (bgC s)]) ⟨.ag ⟨Cv.refl _, Cv.refl _, Cv.refl _, trivial⟩, .ag (bp_cv a), .ag ⟨Cv.refl _, Cv.refl _, Cv.refl _, Cv.refl _, trivial⟩, trivial⟩
          have hR := (rExplains_A y a s hyn).cv (args' := [.ag (ipC y), .ag (bpC a), .ag (bgC s)]) ⟨.ag ⟨Cv.refl _, Cv.refl _, Cv.refl _, trivial⟩, .ag (bp_cv a), .ag ⟨Cv.refl _, Cv.refl _, Cv.refl _, Cv.refl _, trivial⟩, trivial⟩
          obtain ⟨V, hV⟩ : ∃ V, exV y a s = V := ⟨_, rfl⟩
          rw [hV] at hP hR
          obtain ⟨vm, vo⟩ := V
          cases vo
          all_goals
            repeat (first
              | refine AWp.seq ?_
              | refine thenA_n ?_
              | refine AWp.block ?_
              | refine AWp.skip ?_
              | refine inBlk_n ?_
              | refine AWp.condT rfl (by first | rfl | assumption | exact cmT) ?_
              | refine AWp.condF rfl (by first | rfl | assumption | exact cmF) ?_
              | (refine AWp.region (id := 11) ?_
                 refine AList.cmpT rfl rfl rfl rfl rfl cmT ?_
                 refine AList.nil ?_)
              | (refine AWp.region (id := 12) ?_
                 refine AList.idx (k := 1) tyOk rfl rfl rfl rfl rfl rfl rfl rfl (by first | rfl | omega) oM oM ?_
                 refine AList.loadAl tyOk rfl rfl rfl rfl rfl oM ?_
                 refine AList.alloc tyOk rfl rfl rfl rfl rfl ?_
                 refine AList.store tyOk rfl rfl rfl rfl rfl rfl rfl rfl oM oM ?_
                 refine AList.nil ?_)
              | (refine AWp.region (id := 13) ?_
                 refine AList.loadA tyOk rfl rfl rfl rfl rfl rfl rfl oM oM ?_
                 refine AList.loadA tyOk rfl rfl rfl rfl rfl rfl rfl oM oM ?_
                 refine AList.loadA tyOk rfl rfl rfl rfl rfl rfl rfl oM oM ?_
                 refine AList.call rfl rfl rfl rfl Try.func20 rfl (by kernel_rfl) (hP) ?_
                 refine AList.move rfl rfl rfl ?_
                 refine AList.extract rfl rfl rfl rfl ?_
                 refine AList.extract rfl rfl rfl rfl ?_
                 refine AList.alloc tyOk rfl rfl rfl rfl rfl ?_
                 refine AList.store tyOk rfl rfl rfl rfl rfl rfl rfl rfl oM oM ?_
                 refine AList.assign rfl rfl rfl ?_
                 refine AList.nil ?_)
              | (refine AWp.region (id := 14) ?_
                 refine AList.loadA tyOk rfl rfl rfl rfl rfl rfl rfl oM oM ?_
                 refine AList.loadA tyOk rfl rfl rfl rfl rfl rfl rfl oM oM ?_
                 refine AList.loadA tyOk rfl rfl rfl rfl rfl rfl rfl oM oM ?_
                 refine AList.call rfl rfl rfl rfl Try.func21 rfl (by kernel_rfl) (hR) ?_
                 refine AList.move rfl rfl rfl ?_
                 refine AList.extract rfl rfl rfl rfl ?_
                 refine AList.extract rfl rfl rfl rfl ?_
                 refine AList.alloc tyOk rfl rfl rfl rfl rfl ?_
                 refine AList.store tyOk rfl rfl rfl rfl rfl rfl rfl rfl oM oM ?_
                 refine AList.assign rfl rfl rfl ?_
                 refine AList.nil ?_)
              | (refine AWp.region (id := 15) ?_
                 refine AList.move rfl rfl rfl ?_
                 refine AList.move rfl rfl rfl ?_
                 refine AList.neB rfl rfl rfl rfl (by kernel_rfl) ?_
                 refine AList.move rfl rfl rfl ?_
                 refine AList.loadA tyOk rfl rfl rfl rfl rfl rfl rfl oM oM ?_
                 refine AList.loadA tyOk rfl rfl rfl rfl rfl rfl rfl oM oM ?_
                 refine AList.binAg rfl rfl rfl rfl rfl rfl (by kernel_rfl) (mc_neS vm) ?_
                 refine AList.pickF rfl rfl rfl rfl ?_
                 refine AList.nil ?_)
              | (refine AWp.region (id := 17) ?_
                 refine AList.add rfl rfl rfl rfl (by omega) (by omega) ?_
                 refine AList.move rfl rfl rfl ?_
                 refine AList.nil ?_))
            refine ⟨1 + 1, by omega, Wk.mk [(12, some 12), (13, some 13), (14, some 14), (15, some 15), (17, some 17), (9, some 9), (19, some 19)] rfl rfl rfl ?_ ?_, by omega⟩
            · repeat (first | exact trivial | refine ⟨⟨_, rfl, by first | exact LeA.c (LeC.refl _ rfl) | exact LeA.c (LeC.ow _ _ rfl) | exact LeA.c (LeC.pt _ _ _ _ _ rfl) | exact LeA.c (LeC.nil _ rfl) | exact LeA.c (LeC.nils _ _) | (refine LeA.int ?_; omega) | (refine LeA.int ?_; dsimp only; omega) | exact LeA.c (LeC.fz rfl rfl (by first | rfl | omega) (fun i _ j _ => ⟨rfl, by first | rfl | exact rowN_imm (fun _ => rfl) _ i j | exact rowF_imm (fun _ => rfl) _ i j⟩))⟩, ?_⟩)
            · repeat (first | exact trivial | refine ⟨by first | exact HeapOk.same rfl rfl rfl rfl | exact HeapOk.lent rfl rfl rfl rfl | exact HeapOk.nil rfl rfl | exact HeapOk.row rfl rfl (by first | rfl | omega) (fun i _ j _ => ⟨rfl, by first | rfl | exact rowN_imm (fun _ => rfl) _ i j | exact rowF_imm (fun _ => rfl) _ i j⟩) | exact HeapOk.box rfl rfl (by repeat (first | exact trivial | refine ⟨by first | exact LeC.refl _ rfl | exact LeC.ow _ _ rfl | exact LeC.nil _ rfl | exact LeC.nils _ _ | exact LeC.fz rfl rfl (by first | rfl | omega) (fun i _ j _ => ⟨rfl, by first | rfl | exact rowN_imm (fun _ => rfl) _ i j | exact rowF_imm (fun _ => rfl) _ i j⟩) | exact LeC.int (by omega), ?_⟩)) rfl, ?_⟩)
        · have hP := (pExplains_A y a raw hyn).cv (args' := [.ag (ipC y), .ag (bpC a), .ag (bgC raw)]) ⟨.ag ⟨Cv.refl _, Cv.refl _, Cv.refl _, trivial⟩, .ag (bp_cv a), .ag ⟨Cv.refl _, Cv.refl _, Cv.refl _, Cv.refl _, trivial⟩, trivial⟩
          have hR := (rExplains_A y a raw hyn).cv (args' := [.ag (ipC y), .ag (bpC a), .ag (bgC raw)]) ⟨.ag ⟨Cv.refl _, Cv.refl _, Cv.refl _, trivial⟩, .ag (bp_cv a), .ag ⟨Cv.refl _, Cv.refl _, Cv.refl _, Cv.refl _, trivial⟩, trivial⟩
          obtain ⟨V, hV⟩ : ∃ V, exV y a raw = V := ⟨_, rfl⟩
          rw [hV] at hP hR
          obtain ⟨vm, vo⟩ := V
          cases vo
          all_goals
            repeat (first
              | refine AWp.seq ?_
              | refine thenA_n ?_
              | refine AWp.block ?_
              | refine AWp.skip ?_
              | refine inBlk_n ?_
              | refine AWp.condT rfl (by first | rfl | assumption | exact cmT) ?_
              | refine AWp.condF rfl (by first | rfl | assumption | exact cmF) ?_
              | (refine AWp.region (id := 11) ?_
                 refine AList.cmpT rfl rfl rfl rfl rfl cmT ?_
                 refine AList.nil ?_)
              | (refine AWp.region (id := 12) ?_
                 refine AList.idx (k := 2) tyOk rfl rfl rfl rfl rfl rfl rfl rfl (by first | rfl | omega) oM oM ?_
                 refine AList.loadAl tyOk rfl rfl rfl rfl rfl oM ?_
                 refine AList.alloc tyOk rfl rfl rfl rfl rfl ?_
                 refine AList.store tyOk rfl rfl rfl rfl rfl rfl rfl rfl oM oM ?_
                 refine AList.nil ?_)
              | (refine AWp.region (id := 13) ?_
                 refine AList.loadA tyOk rfl rfl rfl rfl rfl rfl rfl oM oM ?_
                 refine AList.loadA tyOk rfl rfl rfl rfl rfl rfl rfl oM oM ?_
                 refine AList.loadA tyOk rfl rfl rfl rfl rfl rfl rfl oM oM ?_
                 refine AList.call rfl rfl rfl rfl Try.func20 rfl (by kernel_rfl) (hP) ?_
                 refine AList.move rfl rfl rfl ?_
                 refine AList.extract rfl rfl rfl rfl ?_
                 refine AList.extract rfl rfl rfl rfl ?_
                 refine AList.alloc tyOk rfl rfl rfl rfl rfl ?_
                 refine AList.store tyOk rfl rfl rfl rfl rfl rfl rfl rfl oM oM ?_
                 refine AList.assign rfl rfl rfl ?_
                 refine AList.nil ?_)
              | (refine AWp.region (id := 14) ?_
                 refine AList.loadA tyOk rfl rfl rfl rfl rfl rfl rfl oM oM ?_
                 refine AList.loadA tyOk rfl rfl rfl rfl rfl rfl rfl oM oM ?_
                 refine AList.loadA tyOk rfl rfl rfl rfl rfl rfl rfl oM oM ?_
                 refine AList.call rfl rfl rfl rfl Try.func21 rfl (by kernel_rfl) (hR) ?_
                 refine AList.move rfl rfl rfl ?_
                 refine AList.extract rfl rfl rfl rfl ?_
                 refine AList.extract rfl rfl rfl rfl ?_
                 refine AList.alloc tyOk rfl rfl rfl rfl rfl ?_
                 refine AList.store tyOk rfl rfl rfl rfl rfl rfl rfl rfl oM oM ?_
                 refine AList.assign rfl rfl rfl ?_
                 refine AList.nil ?_)
              | (refine AWp.region (id := 15) ?_
                 refine AList.move rfl rfl rfl ?_
                 refine AList.move rfl rfl rfl ?_
                 refine AList.neB rfl rfl rfl rfl (by kernel_rfl) ?_
                 refine AList.move rfl rfl rfl ?_
                 refine AList.loadA tyOk rfl rfl rfl rfl rfl rfl rfl oM oM ?_
                 refine AList.loadA tyOk rfl rfl rfl rfl rfl rfl rfl oM oM ?_
                 refine AList.binAg rfl rfl rfl rfl rfl rfl (by kernel_rfl) (mc_neS vm) ?_
                 refine AList.pickF rfl rfl rfl rfl ?_
                 refine AList.nil ?_)
              | (refine AWp.region (id := 17) ?_
                 refine AList.add rfl rfl rfl rfl (by omega) (by omega) ?_
                 refine AList.move rfl rfl rfl ?_
                 refine AList.nil ?_))
            refine ⟨2 + 1, by omega, Wk.mk [(12, some 12), (13, some 13), (14, some 14), (15, some 15), (17, some 17), (9, some 9), (19, some 19)] rfl rfl rfl ?_ ?_, by omega⟩
            · repeat (first | exact trivial | refine ⟨⟨_, rfl, by first | exact LeA.c (LeC.refl _ rfl) | exact LeA.c (LeC.ow _ _ rfl) | exact LeA.c (LeC.pt _ _ _ _ _ rfl) | exact LeA.c (LeC.nil _ rfl) | exact LeA.c (LeC.nils _ _) | (refine LeA.int ?_; omega) | (refine LeA.int ?_; dsimp only; omega) | exact LeA.c (LeC.fz rfl rfl (by first | rfl | omega) (fun i _ j _ => ⟨rfl, by first | rfl | exact rowN_imm (fun _ => rfl) _ i j | exact rowF_imm (fun _ => rfl) _ i j⟩))⟩, ?_⟩)
            · repeat (first | exact trivial | refine ⟨by first | exact HeapOk.same rfl rfl rfl rfl | exact HeapOk.lent rfl rfl rfl rfl | exact HeapOk.nil rfl rfl | exact HeapOk.row rfl rfl (by first | rfl | omega) (fun i _ j _ => ⟨rfl, by first | rfl | exact rowN_imm (fun _ => rfl) _ i j | exact rowF_imm (fun _ => rfl) _ i j⟩) | exact HeapOk.box rfl rfl (by repeat (first | exact trivial | refine ⟨by first | exact LeC.refl _ rfl | exact LeC.ow _ _ rfl | exact LeC.nil _ rfl | exact LeC.nils _ _ | exact LeC.fz rfl rfl (by first | rfl | omega) (fun i _ j _ => ⟨rfl, by first | rfl | exact rowN_imm (fun _ => rfl) _ i j | exact rowF_imm (fun _ => rfl) _ i j⟩) | exact LeC.int (by omega), ?_⟩)) rfl, ?_⟩)
        · have hP := (pExplains_A y a bgZ hyn).cv (args' := [.ag (ipC y), .ag (bpC a), .ag (bgC bgZ)]) ⟨.ag ⟨Cv.refl _, Cv.refl _, Cv.refl _, trivial⟩, .ag (bp_cv a), .ag ⟨Cv.refl _, Cv.refl _, Cv.refl _, Cv.refl _, trivial⟩, trivial⟩
          have hR := (rExplains_A y a bgZ hyn).cv (args' := [.ag (ipC y), .ag (bpC a), .ag (bgC bgZ)]) ⟨.ag ⟨Cv.refl _, Cv.refl _, Cv.refl _, trivial⟩, .ag (bp_cv a), .ag ⟨Cv.refl _, Cv.refl _, Cv.refl _, Cv.refl _, trivial⟩, trivial⟩
          obtain ⟨V, hV⟩ : ∃ V, exV y a bgZ = V := ⟨_, rfl⟩
          rw [hV] at hP hR
          obtain ⟨vm, vo⟩ := V
          cases vo
          all_goals
            repeat (first
              | refine AWp.seq ?_
              | refine thenA_n ?_
              | refine AWp.block ?_
              | refine AWp.skip ?_
              | refine inBlk_n ?_
              | refine AWp.condT rfl (by first | rfl | assumption | exact cmT) ?_
              | refine AWp.condF rfl (by first | rfl | assumption | exact cmF) ?_
              | (refine AWp.region (id := 11) ?_
                 refine AList.cmpT rfl rfl rfl rfl rfl cmT ?_
                 refine AList.nil ?_)
              | (refine AWp.region (id := 12) ?_
                 refine AList.idx (k := 3) tyOk rfl rfl rfl rfl rfl rfl rfl rfl (by first | rfl | omega) oM oM ?_
                 refine AList.loadAl tyOk rfl rfl rfl rfl rfl oM ?_
                 refine AList.alloc tyOk rfl rfl rfl rfl rfl ?_
                 refine AList.store tyOk rfl rfl rfl rfl rfl rfl rfl rfl oM oM ?_
                 refine AList.nil ?_)
              | (refine AWp.region (id := 13) ?_
                 refine AList.loadA tyOk rfl rfl rfl rfl rfl rfl rfl oM oM ?_
                 refine AList.loadA tyOk rfl rfl rfl rfl rfl rfl rfl oM oM ?_
                 refine AList.loadA tyOk rfl rfl rfl rfl rfl rfl rfl oM oM ?_
                 refine AList.call rfl rfl rfl rfl Try.func20 rfl (by kernel_rfl) (hP) ?_
                 refine AList.move rfl rfl rfl ?_
                 refine AList.extract rfl rfl rfl rfl ?_
                 refine AList.extract rfl rfl rfl rfl ?_
                 refine AList.alloc tyOk rfl rfl rfl rfl rfl ?_
                 refine AList.store tyOk rfl rfl rfl rfl rfl rfl rfl rfl oM oM ?_
                 refine AList.assign rfl rfl rfl ?_
                 refine AList.nil ?_)
              | (refine AWp.region (id := 14) ?_
                 refine AList.loadA tyOk rfl rfl rfl rfl rfl rfl rfl oM oM ?_
                 refine AList.loadA tyOk rfl rfl rfl rfl rfl rfl rfl oM oM ?_
                 refine AList.loadA tyOk rfl rfl rfl rfl rfl rfl rfl oM oM ?_
                 refine AList.call rfl rfl rfl rfl Try.func21 rfl (by kernel_rfl) (hR) ?_
                 refine AList.move rfl rfl rfl ?_
                 refine AList.extract rfl rfl rfl rfl ?_
                 refine AList.extract rfl rfl rfl rfl ?_
                 refine AList.alloc tyOk rfl rfl rfl rfl rfl ?_
                 refine AList.store tyOk rfl rfl rfl rfl rfl rfl rfl rfl oM oM ?_
                 refine AList.assign rfl rfl rfl ?_
                 refine AList.nil ?_)
              | (refine AWp.region (id := 15) ?_
                 refine AList.move rfl rfl rfl ?_
                 refine AList.move rfl rfl rfl ?_
                 refine AList.neB rfl rfl rfl rfl (by kernel_rfl) ?_
                 refine AList.move rfl rfl rfl ?_
                 refine AList.loadA tyOk rfl rfl rfl rfl rfl rfl rfl oM oM ?_
                 refine AList.loadA tyOk rfl rfl rfl rfl rfl rfl rfl oM oM ?_
                 refine AList.binAg rfl rfl rfl rfl rfl rfl (by kernel_rfl) (mc_neS vm) ?_
                 refine AList.pickF rfl rfl rfl rfl ?_
                 refine AList.nil ?_)
              | (refine AWp.region (id := 17) ?_
                 refine AList.add rfl rfl rfl rfl (by omega) (by omega) ?_
                 refine AList.move rfl rfl rfl ?_
                 refine AList.nil ?_))
            refine ⟨3 + 1, by omega, Wk.mk [(12, some 12), (13, some 13), (14, some 14), (15, some 15), (17, some 17), (9, some 9), (19, some 19)] rfl rfl rfl ?_ ?_, by omega⟩
            · repeat (first | exact trivial | refine ⟨⟨_, rfl, by first | exact LeA.c (LeC.refl _ rfl) | exact LeA.c (LeC.ow _ _ rfl) | exact LeA.c (LeC.pt _ _ _ _ _ rfl) | exact LeA.c (LeC.nil _ rfl) | exact LeA.c (LeC.nils _ _) | (refine LeA.int ?_; omega) | (refine LeA.int ?_; dsimp only; omega) | exact LeA.c (LeC.fz rfl rfl (by first | rfl | omega) (fun i _ j _ => ⟨rfl, by first | rfl | exact rowN_imm (fun _ => rfl) _ i j | exact rowF_imm (fun _ => rfl) _ i j⟩))⟩, ?_⟩)
            · repeat (first | exact trivial | refine ⟨by first | exact HeapOk.same rfl rfl rfl rfl | exact HeapOk.lent rfl rfl rfl rfl | exact HeapOk.nil rfl rfl | exact HeapOk.row rfl rfl (by first | rfl | omega) (fun i _ j _ => ⟨rfl, by first | rfl | exact rowN_imm (fun _ => rfl) _ i j | exact rowF_imm (fun _ => rfl) _ i j⟩) | exact HeapOk.box rfl rfl (by repeat (first | exact trivial | refine ⟨by first | exact LeC.refl _ rfl | exact LeC.ow _ _ rfl | exact LeC.nil _ rfl | exact LeC.nils _ _ | exact LeC.fz rfl rfl (by first | rfl | omega) (fun i _ j _ => ⟨rfl, by first | rfl | exact rowN_imm (fun _ => rfl) _ i j | exact rowF_imm (fun _ => rfl) _ i j⟩) | exact LeC.int (by omega), ?_⟩)) rfl, ?_⟩)
        · repeat (first
            | refine AWp.seq ?_
            | refine thenA_n ?_
            | refine AWp.exit ?_
            | refine thenA_e ?_
            | refine inBlk_n ?_
            | refine inBlk_hit ?_
            | refine AWp.condF rfl (by first | rfl | assumption | exact cmF) ?_
            | (refine AWp.region (id := 11) ?_
               refine AList.cmpF rfl rfl rfl rfl rfl cmF ?_
               refine AList.nil ?_)
            | (refine AWp.region (id := 18) ?_
               refine AList.add rfl rfl rfl rfl (by omega) (by omega) ?_
               refine AList.move rfl rfl rfl ?_
               refine AList.nil ?_))
          refine ⟨0 + 1, by omega, Wk.mk [(12, some 12), (13, some 13), (14, some 14), (15, some 15), (17, some 17), (9, some 9)] rfl rfl rfl ?_ ?_, by omega⟩
          · repeat (first | exact trivial | refine ⟨⟨_, rfl, by first | exact LeA.c (LeC.refl _ rfl) | exact LeA.c (LeC.ow _ _ rfl) | exact LeA.c (LeC.pt _ _ _ _ _ rfl) | exact LeA.c (LeC.nil _ rfl) | exact LeA.c (LeC.nils _ _) | (refine LeA.int ?_; omega) | (refine LeA.int ?_; dsimp only; omega) | exact LeA.c (LeC.fz rfl rfl (by first | rfl | omega) (fun i _ j _ => ⟨rfl, by first | rfl | exact rowN_imm (fun _ => rfl) _ i j | exact rowF_imm (fun _ => rfl) _ i j⟩))⟩, ?_⟩)
          · repeat (first | exact trivial | refine ⟨by first | exact HeapOk.same rfl rfl rfl rfl | exact HeapOk.lent rfl rfl rfl rfl | exact HeapOk.nil rfl rfl | exact HeapOk.row rfl rfl (by first | rfl | omega) (fun i _ j _ => ⟨rfl, by first | rfl | exact rowN_imm (fun _ => rfl) _ i j | exact rowF_imm (fun _ => rfl) _ i j⟩) | exact HeapOk.box rfl rfl (by repeat (first | exact trivial | refine ⟨by first | exact LeC.refl _ rfl | exact LeC.ow _ _ rfl | exact LeC.nil _ rfl | exact LeC.nils _ _ | exact LeC.fz rfl rfl (by first | rfl | omega) (fun i _ j _ => ⟨rfl, by first | rfl | exact rowN_imm (fun _ => rfl) _ i j | exact rowF_imm (fun _ => rfl) _ i j⟩) | exact LeC.int (by omega), ?_⟩)) rfl, ?_⟩)
    · repeat (first
        | refine AWp.seq ?_
        | refine thenA_n ?_
        | refine AWp.block ?_
        | refine AWp.skip ?_
        | refine AWp.condT rfl (by first | rfl | assumption | exact cmT) ?_
        | (refine AWp.region (id := 8) ?_
           refine AList.cmpT rfl rfl rfl rfl rfl cmT ?_
           refine AList.nil ?_)
        | (refine AWp.region (id := 9) ?_
           refine AList.idx (k := 1) tyOk rfl rfl rfl rfl rfl rfl rfl rfl (by first | rfl | omega) oM oM ?_
           refine AList.loadAl tyOk rfl rfl rfl rfl rfl oM ?_
           refine AList.alloc tyOk rfl rfl rfl rfl rfl ?_
           refine AList.store tyOk rfl rfl rfl rfl rfl rfl rfl rfl oM oM ?_
           refine AList.nil ?_)
        | (refine AWp.region (id := 10) ?_
           refine AList.loadA tyOk rfl rfl rfl rfl rfl rfl rfl oM oM ?_
           refine AList.loadA tyOk rfl rfl rfl rfl rfl rfl rfl oM oM ?_
           refine AList.loadA tyOk rfl rfl rfl rfl rfl rfl rfl oM oM ?_
           refine AList.buildSt tyOk rfl rfl rfl rfl rfl rfl rfl rfl ?_
           refine AList.litSl tyOk rfl rfl rfl rfl rfl rfl rfl rfl rfl rfl rfl ?_
           refine AList.lenLs tyOk rfl rfl rfl rfl rfl ?_
           refine AList.move rfl rfl rfl ?_
           refine AList.nil ?_))
      refine AWp.round (fun j : Nat => mkSt 96 [(9, .c (.pt 9 4 0 0)), (11, .c (bC true)), (12, .c (.pt 12 3 0 0)), (13, .c (.pt 13 3 0 0)), (14, .c (.pt 14 4 0 0)), (15, .c (.pt 15 3 0 0)), (17, .c (.pt 17 4 0 0)), (19, .c (.pt 19 3 0 0)), (55, .c (.ls 3 3 (sF (bpC a ++ bpC b ++ bZC) 3))), (56, .c (iC 3)), (57, .c (iC 1)), (65, .c (.ls 4 4 (sF (bs4 x s raw) 4))), (66, .c (iC 4)), (67, .c (iC j))]
        [(9, ⟨false, 1, 4, 24, lF (bgC raw)⟩), (12, ⟨false, 1, 3, 39, lF (bpC a)⟩), (13, ⟨false, 1, 3, 39, lF (bpC b)⟩), (14, ⟨false, 1, 4, 24, lF (bgC x)⟩), (15, ⟨false, 1, 3, 43, lF (ipC y)⟩), (17, ⟨false, 1, 4, 24, lF (bgC s)⟩), (19, ⟨false, 1, 3, 39, lF (bpC b)⟩)] [9, 12, 13, 14, 15, 17, 19])
        (fun j => j ≤ 4) (fun j => 4 - j) 0 (Nat.zero_le _) ?_ (fun j hj => ?_)
      · refine Wk.mk [(12, some 12), (13, some 13), (14, some 14), (15, some 15), (17, some 17), (9, some 9), (19, some 19)] rfl rfl rfl ?_ ?_
        · repeat (first | exact trivial | refine ⟨⟨_, rfl, by first | exact LeA.c (LeC.refl _ rfl) | exact LeA.c (LeC.ow _ _ rfl) | exact LeA.c (LeC.pt _ _ _ _ _ rfl) | exact LeA.c (LeC.nil _ rfl) | exact LeA.c (LeC.nils _ _) | (refine LeA.int ?_; omega) | (refine LeA.int ?_; dsimp only; omega) | exact LeA.c (LeC.fz rfl rfl (by first | rfl | omega) (fun i _ j _ => ⟨rfl, by first | rfl | exact rowN_imm (fun _ => rfl) _ i j | exact rowF_imm (fun _ => rfl) _ i j⟩))⟩, ?_⟩)
        · repeat (first | exact trivial | refine ⟨by first | exact HeapOk.same rfl rfl rfl rfl | exact HeapOk.lent rfl rfl rfl rfl | exact HeapOk.nil rfl rfl | exact HeapOk.row rfl rfl (by first | rfl | omega) (fun i _ j _ => ⟨rfl, by first | rfl | exact rowN_imm (fun _ => rfl) _ i j | exact rowF_imm (fun _ => rfl) _ i j⟩) | exact HeapOk.box rfl rfl (by repeat (first | exact trivial | refine ⟨by first | exact LeC.refl _ rfl | exact LeC.ow _ _ rfl | exact LeC.nil _ rfl | exact LeC.nils _ _ | exact LeC.fz rfl rfl (by first | rfl | omega) (fun i _ j _ => ⟨rfl, by first | rfl | exact rowN_imm (fun _ => rfl) _ i j | exact rowF_imm (fun _ => rfl) _ i j⟩) | exact LeC.int (by omega), ?_⟩)) rfl, ?_⟩)
      · obtain rfl | rfl | rfl | rfl | rfl : j = 0 ∨ j = 1 ∨ j = 2 ∨ j = 3 ∨ j = 4 := by omega
        · have hP := (pExplains_A y b x hyn).cv (args' := [.ag (ipC y), .ag (bpC b), .ag (bgC x)]) ⟨.ag ⟨Cv.refl _, Cv.refl _, Cv.refl _, trivial⟩, .ag (bp_cv b), .ag ⟨Cv.refl _, Cv.refl _, Cv.refl _, Cv.refl _, trivial⟩, trivial⟩
          have hR := (rExplains_A y b x hyn).cv (args' := [.ag (ipC y), .ag (bpC b), .ag (bgC x)]) ⟨.ag ⟨Cv.refl _, Cv.refl _, Cv.refl _, trivial⟩, .ag (bp_cv b), .ag ⟨Cv.refl _, Cv.refl _, Cv.refl _, Cv.refl _, trivial⟩, trivial⟩
          obtain ⟨V, hV⟩ : ∃ V, exV y b x = V := ⟨_, rfl⟩
          rw [hV] at hP hR
          obtain ⟨vm, vo⟩ := V
          cases vo
          all_goals
            repeat (first
              | refine AWp.seq ?_
              | refine thenA_n ?_
              | refine AWp.block ?_
              | refine AWp.skip ?_
              | refine inBlk_n ?_
              | refine AWp.condT rfl (by first | rfl | assumption | exact cmT) ?_
              | refine AWp.condF rfl (by first | rfl | assumption | exact cmF) ?_
              | (refine AWp.region (id := 11) ?_
                 refine AList.cmpT rfl rfl rfl rfl rfl cmT ?_
                 refine AList.nil ?_)
              | (refine AWp.region (id := 12) ?_
                 refine AList.idx (k := 0) tyOk rfl rfl rfl rfl rfl rfl rfl rfl (by first | rfl | omega) oM oM ?_
                 refine AList.loadAl tyOk rfl rfl rfl rfl rfl oM ?_
                 refine AList.alloc tyOk rfl rfl rfl rfl rfl ?_
                 refine AList.store tyOk rfl rfl rfl rfl rfl rfl rfl rfl oM oM ?_
                 refine AList.nil ?_)
              | (refine AWp.region (id := 13) ?_
                 refine AList.loadA tyOk rfl rfl rfl rfl rfl rfl rfl oM oM ?_
                 refine AList.loadA tyOk rfl rfl rfl rfl rfl rfl rfl oM oM ?_
                 refine AList.loadA tyOk rfl rfl rfl rfl rfl rfl rfl oM oM ?_
                 refine AList.call rfl rfl rfl rfl Try.func20 rfl (by kernel_rfl) (hP) ?_
                 refine AList.move rfl rfl rfl ?_
                 refine AList.extract rfl rfl rfl rfl ?_
                 refine AList.extract rfl rfl rfl rfl ?_
                 refine AList.alloc tyOk rfl rfl rfl rfl rfl ?_
                 refine AList.store tyOk rfl rfl rfl rfl rfl rfl rfl rfl oM oM ?_
                 refine AList.assign rfl rfl rfl ?_
                 refine AList.nil ?_)
              | (refine AWp.region (id := 14) ?_
                 refine AList.loadA tyOk rfl rfl rfl rfl rfl rfl rfl oM oM ?_
                 refine AList.loadA tyOk rfl rfl rfl rfl rfl rfl rfl oM oM ?_
                 refine AList.loadA tyOk rfl rfl rfl rfl rfl rfl rfl oM oM ?_
                 refine AList.call rfl rfl rfl rfl Try.func21 rfl (by kernel_rfl) (hR) ?_
                 refine AList.move rfl rfl rfl ?_
                 refine AList.extract rfl rfl rfl rfl ?_
                 refine AList.extract rfl rfl rfl rfl ?_
                 refine AList.alloc tyOk rfl rfl rfl rfl rfl ?_
                 refine AList.store tyOk rfl rfl rfl rfl rfl rfl rfl rfl oM oM ?_
                 refine AList.assign rfl rfl rfl ?_
                 refine AList.nil ?_)
              | (refine AWp.region (id := 15) ?_
                 refine AList.move rfl rfl rfl ?_
                 refine AList.move rfl rfl rfl ?_
                 refine AList.neB rfl rfl rfl rfl (by kernel_rfl) ?_
                 refine AList.move rfl rfl rfl ?_
                 refine AList.loadA tyOk rfl rfl rfl rfl rfl rfl rfl oM oM ?_
                 refine AList.loadA tyOk rfl rfl rfl rfl rfl rfl rfl oM oM ?_
                 refine AList.binAg rfl rfl rfl rfl rfl rfl (by kernel_rfl) (mc_neS vm) ?_
                 refine AList.pickF rfl rfl rfl rfl ?_
                 refine AList.nil ?_)
              | (refine AWp.region (id := 17) ?_
                 refine AList.add rfl rfl rfl rfl (by omega) (by omega) ?_
                 refine AList.move rfl rfl rfl ?_
                 refine AList.nil ?_))
            refine ⟨0 + 1, by omega, Wk.mk [(12, some 12), (13, some 13), (14, some 14), (15, some 15), (17, some 17), (9, some 9), (19, some 19)] rfl rfl rfl ?_ ?_, by omega⟩
            · repeat (first | exact trivial | refine ⟨⟨_, rfl, by first | exact LeA.c (LeC.refl _ rfl) | exact LeA.c (LeC.ow _ _ rfl) | exact LeA.c (LeC.pt _ _ _ _ _ rfl) | exact LeA.c (LeC.nil _ rfl) | exact LeA.c (LeC.nils _ _) | (refine LeA.int ?_; omega) | (refine LeA.int ?_; dsimp only; omega) | exact LeA.c (LeC.fz rfl rfl (by first | rfl | omega) (fun i _ j _ => ⟨rfl, by first | rfl | exact rowN_imm (fun _ => rfl) _ i j | exact rowF_imm (fun _ => rfl) _ i j⟩))⟩, ?_⟩)
            · repeat (first | exact trivial | refine ⟨by first | exact HeapOk.same rfl rfl rfl rfl | exact HeapOk.lent rfl rfl rfl rfl | exact HeapOk.nil rfl rfl | exact HeapOk.row rfl rfl (by first | rfl | omega) (fun i _ j _ => ⟨rfl, by first | rfl | exact rowN_imm (fun _ => rfl) _ i j | exact rowF_imm (fun _ => rfl) _ i j⟩) | exact HeapOk.box rfl rfl (by repeat (first | exact trivial | refine ⟨by first | exact LeC.refl _ rfl | exact LeC.ow _ _ rfl | exact LeC.nil _ rfl | exact LeC.nils _ _ | exact LeC.fz rfl rfl (by first | rfl | omega) (fun i _ j _ => ⟨rfl, by first | rfl | exact rowN_imm (fun _ => rfl) _ i j | exact rowF_imm (fun _ => rfl) _ i j⟩) | exact LeC.int (by omega), ?_⟩)) rfl, ?_⟩)
        · have hP := (pExplains_A y b s hyn).cv (args' := [.ag (ipC y), .ag (bpC b), .ag (bgC s)]) ⟨.ag ⟨Cv.refl _, Cv.refl _, Cv.refl _, trivial⟩, .ag (bp_cv b), .ag ⟨Cv.refl _, Cv.refl _, Cv.refl _, Cv.refl _, trivial⟩, trivial⟩
          have hR := (rExplains_A y b s hyn).cv (args' := [.ag (ipC y), .ag (bpC b), .ag (bgC s)]) ⟨.ag ⟨Cv.refl _, Cv.refl _, Cv.refl _, trivial⟩, .ag (bp_cv b), .ag ⟨Cv.refl _, Cv.refl _, Cv.refl _, Cv.refl _, trivial⟩, trivial⟩
          obtain ⟨V, hV⟩ : ∃ V, exV y b s = V := ⟨_, rfl⟩
          rw [hV] at hP hR
          obtain ⟨vm, vo⟩ := V
          cases vo
          all_goals
            repeat (first
              | refine AWp.seq ?_
              | refine thenA_n ?_
              | refine AWp.block ?_
              | refine AWp.skip ?_
              | refine inBlk_n ?_
              | refine AWp.condT rfl (by first | rfl | assumption | exact cmT) ?_
              | refine AWp.condF rfl (by first | rfl | assumption | exact cmF) ?_
              | (refine AWp.region (id := 11) ?_
                 refine AList.cmpT rfl rfl rfl rfl rfl cmT ?_
                 refine AList.nil ?_)
              | (refine AWp.region (id := 12) ?_
                 refine AList.idx (k := 1) tyOk rfl rfl rfl rfl rfl rfl rfl rfl (by first | rfl | omega) oM oM ?_
                 refine AList.loadAl tyOk rfl rfl rfl rfl rfl oM ?_
                 refine AList.alloc tyOk rfl rfl rfl rfl rfl ?_
                 refine AList.store tyOk rfl rfl rfl rfl rfl rfl rfl rfl oM oM ?_
                 refine AList.nil ?_)
              | (refine AWp.region (id := 13) ?_
                 refine AList.loadA tyOk rfl rfl rfl rfl rfl rfl rfl oM oM ?_
                 refine AList.loadA tyOk rfl rfl rfl rfl rfl rfl rfl oM oM ?_
                 refine AList.loadA tyOk rfl rfl rfl rfl rfl rfl rfl oM oM ?_
                 refine AList.call rfl rfl rfl rfl Try.func20 rfl (by kernel_rfl) (hP) ?_
                 refine AList.move rfl rfl rfl ?_
                 refine AList.extract rfl rfl rfl rfl ?_
                 refine AList.extract rfl rfl rfl rfl ?_
                 refine AList.alloc tyOk rfl rfl rfl rfl rfl ?_
                 refine AList.store tyOk rfl rfl rfl rfl rfl rfl rfl rfl oM oM ?_
                 refine AList.assign rfl rfl rfl ?_
                 refine AList.nil ?_)
              | (refine AWp.region (id := 14) ?_
                 refine AList.loadA tyOk rfl rfl rfl rfl rfl rfl rfl oM oM ?_
                 refine AList.loadA tyOk rfl rfl rfl rfl rfl rfl rfl oM oM ?_
                 refine AList.loadA tyOk rfl rfl rfl rfl rfl rfl rfl oM oM ?_
                 refine AList.call rfl rfl rfl rfl Try.func21 rfl (by kernel_rfl) (hR) ?_
                 refine AList.move rfl rfl rfl ?_
                 refine AList.extract rfl rfl rfl rfl ?_
                 refine AList.extract rfl rfl rfl rfl ?_
                 refine AList.alloc tyOk rfl rfl rfl rfl rfl ?_
                 refine AList.store tyOk rfl rfl rfl rfl rfl rfl rfl rfl oM oM ?_
                 refine AList.assign rfl rfl rfl ?_
                 refine AList.nil ?_)
              | (refine AWp.region (id := 15) ?_
                 refine AList.move rfl rfl rfl ?_
                 refine AList.move rfl rfl rfl ?_
                 refine AList.neB rfl rfl rfl rfl (by kernel_rfl) ?_
                 refine AList.move rfl rfl rfl ?_
                 refine AList.loadA tyOk rfl rfl rfl rfl rfl rfl rfl oM oM ?_
                 refine AList.loadA tyOk rfl rfl rfl rfl rfl rfl rfl oM oM ?_
                 refine AList.binAg rfl rfl rfl rfl rfl rfl (by kernel_rfl) (mc_neS vm) ?_
                 refine AList.pickF rfl rfl rfl rfl ?_
                 refine AList.nil ?_)
              | (refine AWp.region (id := 17) ?_
                 refine AList.add rfl rfl rfl rfl (by omega) (by omega) ?_
                 refine AList.move rfl rfl rfl ?_
                 refine AList.nil ?_))
            refine ⟨1 + 1, by omega, Wk.mk [(12, some 12), (13, some 13), (14, some 14), (15, some 15), (17, some 17), (9, some 9), (19, some 19)] rfl rfl rfl ?_ ?_, by omega⟩
            · repeat (first | exact trivial | refine ⟨⟨_, rfl, by first | exact LeA.c (LeC.refl _ rfl) | exact LeA.c (LeC.ow _ _ rfl) | exact LeA.c (LeC.pt _ _ _ _ _ rfl) | exact LeA.c (LeC.nil _ rfl) | exact LeA.c (LeC.nils _ _) | (refine LeA.int ?_; omega) | (refine LeA.int ?_; dsimp only; omega) | exact LeA.c (LeC.fz rfl rfl (by first | rfl | omega) (fun i _ j _ => ⟨rfl, by first | rfl | exact rowN_imm (fun _ => rfl) _ i j | exact rowF_imm (fun _ => rfl) _ i j⟩))⟩, ?_⟩)
            · repeat (first | exact trivial | refine ⟨by first | exact HeapOk.same rfl rfl rfl rfl | exact HeapOk.lent rfl rfl rfl rfl | exact HeapOk.nil rfl rfl | exact HeapOk.row rfl rfl (by first | rfl | omega) (fun i _ j _ => ⟨rfl, by first | rfl | exact rowN_imm (fun _ => rfl) _ i j | exact rowF_imm (fun _ => rfl) _ i j⟩) | exact HeapOk.box rfl rfl (by repeat (first | exact trivial | refine ⟨by first | exact LeC.refl _ rfl | exact LeC.ow _ _ rfl | exact LeC.nil _ rfl | exact LeC.nils _ _ | exact LeC.fz rfl rfl (by first | rfl | omega) (fun i _ j _ => ⟨rfl, by first | rfl | exact rowN_imm (fun _ => rfl) _ i j | exact rowF_imm (fun _ => rfl) _ i j⟩) | exact LeC.int (by omega), ?_⟩)) rfl, ?_⟩)
        · have hP := (pExplains_A y b raw hyn).cv (args' := [.ag (ipC y), .ag (bpC b), .ag (bgC raw)]) ⟨.ag ⟨Cv.refl _, Cv.refl _, Cv.refl _, trivial⟩, .ag (bp_cv b), .ag ⟨Cv.refl _, Cv.refl _, Cv.refl _, Cv.refl _, trivial⟩, trivial⟩
          have hR := (rExplains_A y b raw hyn).cv (args' := [.ag (ipC y), .ag (bpC b), .ag (bgC raw)]) ⟨.ag ⟨Cv.refl _, Cv.refl _, Cv.refl _, trivial⟩, .ag (bp_cv b), .ag ⟨Cv.refl _, Cv.refl _, Cv.refl _, Cv.refl _, trivial⟩, trivial⟩
          obtain ⟨V, hV⟩ : ∃ V, exV y b raw = V := ⟨_, rfl⟩
          rw [hV] at hP hR
          obtain ⟨vm, vo⟩ := V
          cases vo
          all_goals
            repeat (first
              | refine AWp.seq ?_
              | refine thenA_n ?_
              | refine AWp.block ?_
              | refine AWp.skip ?_
              | refine inBlk_n ?_
              | refine AWp.condT rfl (by first | rfl | assumption | exact cmT) ?_
              | refine AWp.condF rfl (by first | rfl | assumption | exact cmF) ?_
              | (refine AWp.region (id := 11) ?_
                 refine AList.cmpT rfl rfl rfl rfl rfl cmT ?_
                 refine AList.nil ?_)
              | (refine AWp.region (id := 12) ?_
                 refine AList.idx (k := 2) tyOk rfl rfl rfl rfl rfl rfl rfl rfl (by first | rfl | omega) oM oM ?_
                 refine AList.loadAl tyOk rfl rfl rfl rfl rfl oM ?_
                 refine AList.alloc tyOk rfl rfl rfl rfl rfl ?_
                 refine AList.store tyOk rfl rfl rfl rfl rfl rfl rfl rfl oM oM ?_
                 refine AList.nil ?_)
              | (refine AWp.region (id := 13) ?_
                 refine AList.loadA tyOk rfl rfl rfl rfl rfl rfl rfl oM oM ?_
                 refine AList.loadA tyOk rfl rfl rfl rfl rfl rfl rfl oM oM ?_
                 refine AList.loadA tyOk rfl rfl rfl rfl rfl rfl rfl oM oM ?_
                 refine AList.call rfl rfl rfl rfl Try.func20 rfl (by kernel_rfl) (hP) ?_
                 refine AList.move rfl rfl rfl ?_
                 refine AList.extract rfl rfl rfl rfl ?_
                 refine AList.extract rfl rfl rfl rfl ?_
                 refine AList.alloc tyOk rfl rfl rfl rfl rfl ?_
                 refine AList.store tyOk rfl rfl rfl rfl rfl rfl rfl rfl oM oM ?_
                 refine AList.assign rfl rfl rfl ?_
                 refine AList.nil ?_)
              | (refine AWp.region (id := 14) ?_
                 refine AList.loadA tyOk rfl rfl rfl rfl rfl rfl rfl oM oM ?_
                 refine AList.loadA tyOk rfl rfl rfl rfl rfl rfl rfl oM oM ?_
                 refine AList.loadA tyOk rfl rfl rfl rfl rfl rfl rfl oM oM ?_
                 refine AList.call rfl rfl rfl rfl Try.func21 rfl (by kernel_rfl) (hR) ?_
                 refine AList.move rfl rfl rfl ?_
                 refine AList.extract rfl rfl rfl rfl ?_
                 refine AList.extract rfl rfl rfl rfl ?_
                 refine AList.alloc tyOk rfl rfl rfl rfl rfl ?_
                 refine AList.store tyOk rfl rfl rfl rfl rfl rfl rfl rfl oM oM ?_
                 refine AList.assign rfl rfl rfl ?_
                 refine AList.nil ?_)
              | (refine AWp.region (id := 15) ?_
                 refine AList.move rfl rfl rfl ?_
                 refine AList.move rfl rfl rfl ?_
                 refine AList.neB rfl rfl rfl rfl (by kernel_rfl) ?_
                 refine AList.move rfl rfl rfl ?_
                 refine AList.loadA tyOk rfl rfl rfl rfl rfl rfl rfl oM oM ?_
                 refine AList.loadA tyOk rfl rfl rfl rfl rfl rfl rfl oM oM ?_
                 refine AList.binAg rfl rfl rfl rfl rfl rfl (by kernel_rfl) (mc_neS vm) ?_
                 refine AList.pickF rfl rfl rfl rfl ?_
                 refine AList.nil ?_)
              | (refine AWp.region (id := 17) ?_
                 refine AList.add rfl rfl rfl rfl (by omega) (by omega) ?_
                 refine AList.move rfl rfl rfl ?_
                 refine AList.nil ?_))
            refine ⟨2 + 1, by omega, Wk.mk [(12, some 12), (13, some 13), (14, some 14), (15, some 15), (17, some 17), (9, some 9), (19, some 19)] rfl rfl rfl ?_ ?_, by omega⟩
            · repeat (first | exact trivial | refine ⟨⟨_, rfl, by first | exact LeA.c (LeC.refl _ rfl) | exact LeA.c (LeC.ow _ _ rfl) | exact LeA.c (LeC.pt _ _ _ _ _ rfl) | exact LeA.c (LeC.nil _ rfl) | exact LeA.c (LeC.nils _ _) | (refine LeA.int ?_; omega) | (refine LeA.int ?_; dsimp only; omega) | exact LeA.c (LeC.fz rfl rfl (by first | rfl | omega) (fun i _ j _ => ⟨rfl, by first | rfl | exact rowN_imm (fun _ => rfl) _ i j | exact rowF_imm (fun _ => rfl) _ i j⟩))⟩, ?_⟩)
            · repeat (first | exact trivial | refine ⟨by first | exact HeapOk.same rfl rfl rfl rfl | exact HeapOk.lent rfl rfl rfl rfl | exact HeapOk.nil rfl rfl | exact HeapOk.row rfl rfl (by first | rfl | omega) (fun i _ j _ => ⟨rfl, by first | rfl | exact rowN_imm (fun _ => rfl) _ i j | exact rowF_imm (fun _ => rfl) _ i j⟩) | exact HeapOk.box rfl rfl (by repeat (first | exact trivial | refine ⟨by first | exact LeC.refl _ rfl | exact LeC.ow _ _ rfl | exact LeC.nil _ rfl | exact LeC.nils _ _ | exact LeC.fz rfl rfl (by first | rfl | omega) (fun i _ j _ => ⟨rfl, by first | rfl | exact rowN_imm (fun _ => rfl) _ i j | exact rowF_imm (fun _ => rfl) _ i j⟩) | exact LeC.int (by omega), ?_⟩)) rfl, ?_⟩)
        · have hP := (pExplains_A y b bgZ hyn).cv (args' := [.ag (ipC y), .ag (bpC b), .ag (bgC bgZ)]) ⟨.ag ⟨Cv.refl _, Cv.refl _, Cv.refl _, trivial⟩, .ag (bp_cv b), .ag ⟨Cv.refl _, Cv.refl _, Cv.refl _, Cv.refl _, trivial⟩, trivial⟩
          have hR := (rExplains_A y b bgZ hyn).cv (args' := [.ag (ipC y), .ag (bpC b), .ag (bgC bgZ)]) ⟨.ag ⟨Cv.refl _, Cv.refl _, Cv.refl _, trivial⟩, .ag (bp_cv b), .ag ⟨Cv.refl _, Cv.refl _, Cv.refl _, Cv.refl _, trivial⟩, trivial⟩
          obtain ⟨V, hV⟩ : ∃ V, exV y b bgZ = V := ⟨_, rfl⟩
          rw [hV] at hP hR
          obtain ⟨vm, vo⟩ := V
          cases vo
          all_goals
            repeat (first
              | refine AWp.seq ?_
              | refine thenA_n ?_
              | refine AWp.block ?_
              | refine AWp.skip ?_
              | refine inBlk_n ?_
              | refine AWp.condT rfl (by first | rfl | assumption | exact cmT) ?_
              | refine AWp.condF rfl (by first | rfl | assumption | exact cmF) ?_
              | (refine AWp.region (id := 11) ?_
                 refine AList.cmpT rfl rfl rfl rfl rfl cmT ?_
                 refine AList.nil ?_)
              | (refine AWp.region (id := 12) ?_
                 refine AList.idx (k := 3) tyOk rfl rfl rfl rfl rfl rfl rfl rfl (by first | rfl | omega) oM oM ?_
                 refine AList.loadAl tyOk rfl rfl rfl rfl rfl oM ?_
                 refine AList.alloc tyOk rfl rfl rfl rfl rfl ?_
                 refine AList.store tyOk rfl rfl rfl rfl rfl rfl rfl rfl oM oM ?_
                 refine AList.nil ?_)
              | (refine AWp.region (id := 13) ?_
                 refine AList.loadA tyOk rfl rfl rfl rfl rfl rfl rfl oM oM ?_
                 refine AList.loadA tyOk rfl rfl rfl rfl rfl rfl rfl oM oM ?_
                 refine AList.loadA tyOk rfl rfl rfl rfl rfl rfl rfl oM oM ?_
                 refine AList.call rfl rfl rfl rfl Try.func20 rfl (by kernel_rfl) (hP) ?_
                 refine AList.move rfl rfl rfl ?_
                 refine AList.extract rfl rfl rfl rfl ?_
                 refine AList.extract rfl rfl rfl rfl ?_
                 refine AList.alloc tyOk rfl rfl rfl rfl rfl ?_
                 refine AList.store tyOk rfl rfl rfl rfl rfl rfl rfl rfl oM oM ?_
                 refine AList.assign rfl rfl rfl ?_
                 refine AList.nil ?_)
              | (refine AWp.region (id := 14) ?_
                 refine AList.loadA tyOk rfl rfl rfl rfl rfl rfl rfl oM oM ?_
                 refine AList.loadA tyOk rfl rfl rfl rfl rfl rfl rfl oM oM ?_
                 refine AList.loadA tyOk rfl rfl rfl rfl rfl rfl rfl oM oM ?_
                 refine AList.call rfl rfl rfl rfl Try.func21 rfl (by kernel_rfl) (hR) ?_
                 refine AList.move rfl rfl rfl ?_
                 refine AList.extract rfl rfl rfl rfl ?_
                 refine AList.extract rfl rfl rfl rfl ?_
                 refine AList.alloc tyOk rfl rfl rfl rfl rfl ?_
                 refine AList.store tyOk rfl rfl rfl rfl rfl rfl rfl rfl oM oM ?_
                 refine AList.assign rfl rfl rfl ?_
                 refine AList.nil ?_)
              | (refine AWp.region (id := 15) ?_
                 refine AList.move rfl rfl rfl ?_
                 refine AList.move rfl rfl rfl ?_
                 refine AList.neB rfl rfl rfl rfl (by kernel_rfl) ?_
                 refine AList.move rfl rfl rfl ?_
                 refine AList.loadA tyOk rfl rfl rfl rfl rfl rfl rfl oM oM ?_
                 refine AList.loadA tyOk rfl rfl rfl rfl rfl rfl rfl oM oM ?_
                 refine AList.binAg rfl rfl rfl rfl rfl rfl (by kernel_rfl) (mc_neS vm) ?_
                 refine AList.pickF rfl rfl rfl rfl ?_
                 refine AList.nil ?_)
              | (refine AWp.region (id := 17) ?_
                 refine AList.add rfl rfl rfl rfl (by omega) (by omega) ?_
                 refine AList.move rfl rfl rfl ?_
                 refine AList.nil ?_))
            refine ⟨3 + 1, by omega, Wk.mk [(12, some 12), (13, some 13), (14, some 14), (15, some 15), (17, some 17), (9, some 9), (19, some 19)] rfl rfl rfl ?_ ?_, by omega⟩
            · repeat (first | exact trivial | refine ⟨⟨_, rfl, by first | exact LeA.c (LeC.refl _ rfl) | exact LeA.c (LeC.ow _ _ rfl) | exact LeA.c (LeC.pt _ _ _ _ _ rfl) | exact LeA.c (LeC.nil _ rfl) | exact LeA.c (LeC.nils _ _) | (refine LeA.int ?_; omega) | (refine LeA.int ?_; dsimp only; omega) | exact LeA.c (LeC.fz rfl rfl (by first | rfl | omega) (fun i _ j _ => ⟨rfl, by first | rfl | exact rowN_imm (fun _ => rfl) _ i j | exact rowF_imm (fun _ => rfl) _ i j⟩))⟩, ?_⟩)
            · repeat (first | exact trivial | refine ⟨by first | exact HeapOk.same rfl rfl rfl rfl | exact HeapOk.lent rfl rfl rfl rfl | exact HeapOk.nil rfl rfl | exact HeapOk.row rfl rfl (by first | rfl | omega) (fun i _ j _ => ⟨rfl, by first | rfl | exact rowN_imm (fun _ => rfl) _ i j | exact rowF_imm (fun _ => rfl) _ i j⟩) | exact HeapOk.box rfl rfl (by repeat (first | exact trivial | refine ⟨by first | exact LeC.refl _ rfl | exact LeC.ow _ _ rfl | exact LeC.nil _ rfl | exact LeC.nils _ _ | exact LeC.fz rfl rfl (by first | rfl | omega) (fun i _ j _ => ⟨rfl, by first | rfl | exact rowN_imm (fun _ => rfl) _ i j | exact rowF_imm (fun _ => rfl) _ i j⟩) | exact LeC.int (by omega), ?_⟩)) rfl, ?_⟩)
        · repeat (first
            | refine AWp.seq ?_
            | refine thenA_n ?_
            | refine AWp.exit ?_
            | refine thenA_e ?_
            | refine inBlk_n ?_
            | refine inBlk_hit ?_
            | refine AWp.condF rfl (by first | rfl | assumption | exact cmF) ?_
            | (refine AWp.region (id := 11) ?_
               refine AList.cmpF rfl rfl rfl rfl rfl cmF ?_
               refine AList.nil ?_)
            | (refine AWp.region (id := 18) ?_
               refine AList.add rfl rfl rfl rfl (by omega) (by omega) ?_
               refine AList.move rfl rfl rfl ?_
               refine AList.nil ?_))
          refine ⟨1 + 1, by omega, Wk.mk [(12, some 12), (13, some 13), (14, some 14), (15, some 15), (17, some 17), (9, some 9)] rfl rfl rfl ?_ ?_, by omega⟩
          · repeat (first | exact trivial | refine ⟨⟨_, rfl, by first | exact LeA.c (LeC.refl _ rfl) | exact LeA.c (LeC.ow _ _ rfl) | exact LeA.c (LeC.pt _ _ _ _ _ rfl) | exact LeA.c (LeC.nil _ rfl) | exact LeA.c (LeC.nils _ _) | (refine LeA.int ?_; omega) | (refine LeA.int ?_; dsimp only; omega) | exact LeA.c (LeC.fz rfl rfl (by first | rfl | omega) (fun i _ j _ => ⟨rfl, by first | rfl | exact rowN_imm (fun _ => rfl) _ i j | exact rowF_imm (fun _ => rfl) _ i j⟩))⟩, ?_⟩)
          · repeat (first | exact trivial | refine ⟨by first | exact HeapOk.same rfl rfl rfl rfl | exact HeapOk.lent rfl rfl rfl rfl | exact HeapOk.nil rfl rfl | exact HeapOk.row rfl rfl (by first | rfl | omega) (fun i _ j _ => ⟨rfl, by first | rfl | exact rowN_imm (fun _ => rfl) _ i j | exact rowF_imm (fun _ => rfl) _ i j⟩) | exact HeapOk.box rfl rfl (by repeat (first | exact trivial | refine ⟨by first | exact LeC.refl _ rfl | exact LeC.ow _ _ rfl | exact LeC.nil _ rfl | exact LeC.nils _ _ | exact LeC.fz rfl rfl (by first | rfl | omega) (fun i _ j _ => ⟨rfl, by first | rfl | exact rowN_imm (fun _ => rfl) _ i j | exact rowF_imm (fun _ => rfl) _ i j⟩) | exact LeC.int (by omega), ?_⟩)) rfl, ?_⟩)
    · repeat (first
        | refine AWp.seq ?_
        | refine thenA_n ?_
        | refine AWp.block ?_
        | refine AWp.skip ?_
        | refine AWp.condT rfl (by first | rfl | assumption | exact cmT) ?_
        | (refine AWp.region (id := 8) ?_
           refine AList.cmpT rfl rfl rfl rfl rfl cmT ?_
           refine AList.nil ?_)
        | (refine AWp.region (id := 9) ?_
           refine AList.idx (k := 2) tyOk rfl rfl rfl rfl rfl rfl rfl rfl (by first | rfl | omega) oM oM ?_
           refine AList.loadAl tyOk rfl rfl rfl rfl rfl oM ?_
           refine AList.alloc tyOk rfl rfl rfl rfl rfl ?_
           refine AList.store tyOk rfl rfl rfl rfl rfl rfl rfl rfl oM oM ?_
           refine AList.nil ?_)
        | (refine AWp.region (id := 10) ?_
           refine AList.loadA tyOk rfl rfl rfl rfl rfl rfl rfl oM oM ?_
           refine AList.loadA tyOk rfl rfl rfl rfl rfl rfl rfl oM oM ?_
           refine AList.loadA tyOk rfl rfl rfl rfl rfl rfl rfl oM oM ?_
           refine AList.buildSt tyOk rfl rfl rfl rfl rfl rfl rfl rfl ?_
           refine AList.litSl tyOk rfl rfl rfl rfl rfl rfl rfl rfl rfl rfl rfl ?_
           refine AList.lenLs tyOk rfl rfl rfl rfl rfl ?_
           refine AList.move rfl rfl rfl ?_
           refine AList.nil ?_))
      refine AWp.round (fun j : Nat => mkSt 96 [(9, .c (.pt 9 4 0 0)), (11, .c (bC true)), (12, .c (.pt 12 3 0 0)), (13, .c (.pt 13 3 0 0)), (14, .c (.pt 14 4 0 0)), (15, .c (.pt 15 3 0 0)), (17, .c (.pt 17 4 0 0)), (19, .c (.pt 19 3 0 0)), (55, .c (.ls 3 3 (sF (bpC a ++ bpC b ++ bZC) 3))), (56, .c (iC 3)), (57, .c (iC 2)), (65, .c (.ls 4 4 (sF (bs4 x s raw) 4))), (66, .c (iC 4)), (67, .c (iC j))]
        [(9, ⟨false, 1, 4, 24, lF (bgC raw)⟩), (12, ⟨false, 1, 3, 39, lF (bpC a)⟩), (13, ⟨false, 1, 3, 39, lF (bpC b)⟩), (14, ⟨false, 1, 4, 24, lF (bgC x)⟩), (15, ⟨false, 1, 3, 43, lF (ipC y)⟩), (17, ⟨false, 1, 4, 24, lF (bgC s)⟩), (19, ⟨false, 1, 3, 39, lF bZC⟩)] [9, 12, 13, 14, 15, 17, 19])
        (fun j => j ≤ 4) (fun j => 4 - j) 0 (Nat.zero_le _) ?_ (fun j hj => ?_)
      · refine Wk.mk [(12, some 12), (13, some 13), (14, some 14), (15, some 15), (17, some 17), (9, some 9), (19, some 19)] rfl rfl rfl ?_ ?_
        · repeat (first | exact trivial | refine ⟨⟨_, rfl, by first | exact LeA.c (LeC.refl _ rfl) | exact LeA.c (LeC.ow _ _ rfl) | exact LeA.c (LeC.pt _ _ _ _ _ rfl) | exact LeA.c (LeC.nil _ rfl) | exact LeA.c (LeC.nils _ _) | (refine LeA.int ?_; omega) | (refine LeA.int ?_; dsimp only; omega) | exact LeA.c (LeC.fz rfl rfl (by first | rfl | omega) (fun i _ j _ => ⟨rfl, by first | rfl | exact rowN_imm (fun _ => rfl) _ i j | exact rowF_imm (fun _ => rfl) _ i j⟩))⟩, ?_⟩)
        · repeat (first | exact trivial | refine ⟨by first | exact HeapOk.same rfl rfl rfl rfl | exact HeapOk.lent rfl rfl rfl rfl | exact HeapOk.nil rfl rfl | exact HeapOk.row rfl rfl (by first | rfl | omega) (fun i _ j _ => ⟨rfl, by first | rfl | exact rowN_imm (fun _ => rfl) _ i j | exact rowF_imm (fun _ => rfl) _ i j⟩) | exact HeapOk.box rfl rfl (by repeat (first | exact trivial | refine ⟨by first | exact LeC.refl _ rfl | exact LeC.ow _ _ rfl | exact LeC.nil _ rfl | exact LeC.nils _ _ | exact LeC.fz rfl rfl (by first | rfl | omega) (fun i _ j _ => ⟨rfl, by first | rfl | exact rowN_imm (fun _ => rfl) _ i j | exact rowF_imm (fun _ => rfl) _ i j⟩) | exact LeC.int (by omega), ?_⟩)) rfl, ?_⟩)
      · obtain rfl | rfl | rfl | rfl | rfl : j = 0 ∨ j = 1 ∨ j = 2 ∨ j = 3 ∨ j = 4 := by omega
        · have hP := (pExplains_A y bZ x hyn).cv (args' := [.ag (ipC y), .ag bZC, .ag (bgC x)]) ⟨.ag ⟨Cv.refl _, Cv.refl _, Cv.refl _, trivial⟩, .ag bZ_cv, .ag ⟨Cv.refl _, Cv.refl _, Cv.refl _, Cv.refl _, trivial⟩, trivial⟩
          have hR := (rExplains_A y bZ x hyn).cv (args' := [.ag (ipC y), .ag bZC, .ag (bgC x)]) ⟨.ag ⟨Cv.refl _, Cv.refl _, Cv.refl _, trivial⟩, .ag bZ_cv, .ag ⟨Cv.refl _, Cv.refl _, Cv.refl _, Cv.refl _, trivial⟩, trivial⟩
          obtain ⟨V, hV⟩ : ∃ V, exV y bZ x = V := ⟨_, rfl⟩
          rw [hV] at hP hR
          obtain ⟨vm, vo⟩ := V
          cases vo
          all_goals
            repeat (first
              | refine AWp.seq ?_
              | refine thenA_n ?_
              | refine AWp.block ?_
              | refine AWp.skip ?_
              | refine inBlk_n ?_
              | refine AWp.condT rfl (by first | rfl | assumption | exact cmT) ?_
              | refine AWp.condF rfl (by first | rfl | assumption | exact cmF) ?_
              | (refine AWp.region (id := 11) ?_
                 refine AList.cmpT rfl rfl rfl rfl rfl cmT ?_
                 refine AList.nil ?_)
              | (refine AWp.region (id := 12) ?_
                 refine AList.idx (k := 0) tyOk rfl rfl rfl rfl rfl rfl rfl rfl (by first | rfl | omega) oM oM ?_
                 refine AList.loadAl tyOk rfl rfl rfl rfl rfl oM ?_
                 refine AList.alloc tyOk rfl rfl rfl rfl rfl ?_
                 refine AList.store tyOk rfl rfl rfl rfl rfl rfl rfl rfl oM oM ?_
                 refine AList.nil ?_)
              | (refine AWp.region (id := 13) ?_
                 refine AList.loadA tyOk rfl rfl rfl rfl rfl rfl rfl oM oM ?_
                 refine AList.loadA tyOk rfl rfl rfl rfl rfl rfl rfl oM oM ?_
                 refine AList.loadA tyOk rfl rfl rfl rfl rfl rfl rfl oM oM ?_
                 refine AList.call rfl rfl rfl rfl Try.func20 rfl (by kernel_rfl) (hP) ?_
                 refine AList.move rfl rfl rfl ?_
                 refine AList.extract rfl rfl rfl rfl ?_
                 refine AList.extract rfl rfl rfl rfl ?_
                 refine AList.alloc tyOk rfl rfl rfl rfl rfl ?_
                 refine AList.store tyOk rfl rfl rfl rfl rfl rfl rfl rfl oM oM ?_
                 refine AList.assign rfl rfl rfl ?_
                 refine AList.nil ?_)
              | (refine AWp.region (id := 14) ?_
                 refine AList.loadA tyOk rfl rfl rfl rfl rfl rfl rfl oM oM ?_
                 refine AList.loadA tyOk rfl rfl rfl rfl rfl rfl rfl oM oM ?_
                 refine AList.loadA tyOk rfl rfl rfl rfl rfl rfl rfl oM oM ?_
                 refine AList.call rfl rfl rfl rfl Try.func21 rfl (by kernel_rfl) (hR) ?_
                 refine AList.move rfl rfl rfl ?_
                 refine AList.extract rfl rfl rfl rfl ?_
                 refine AList.extract rfl rfl rfl rfl ?_
                 refine AList.alloc tyOk rfl rfl rfl rfl rfl ?_
                 refine AList.store tyOk rfl rfl rfl rfl rfl rfl rfl rfl oM oM ?_
                 refine AList.assign rfl rfl rfl ?_
                 refine AList.nil ?_)
              | (refine AWp.region (id := 15) ?_
                 refine AList.move rfl rfl rfl ?_
                 refine AList.move rfl rfl rfl ?_
                 refine AList.neB rfl rfl rfl rfl (by kernel_rfl) ?_
                 refine AList.move rfl rfl rfl ?_
                 refine AList.loadA tyOk rfl rfl rfl rfl rfl rfl rfl oM oM ?_
                 refine AList.loadA tyOk rfl rfl rfl rfl rfl rfl rfl oM oM ?_
                 refine AList.binAg rfl rfl rfl rfl rfl rfl (by kernel_rfl) (mc_neS vm) ?_
                 refine AList.pickF rfl rfl rfl rfl ?_
                 refine AList.nil ?_)
              | (refine AWp.region (id := 17) ?_
                 refine AList.add rfl rfl rfl rfl (by omega) (by omega) ?_
                 refine AList.move rfl rfl rfl ?_
                 refine AList.nil ?_))
            refine ⟨0 + 1, by omega, Wk.mk [(12, some 12), (13, some 13), (14, some 14), (15, some 15), (17, some 17), (9, some 9), (19, some 19)] rfl rfl rfl ?_ ?_, by omega⟩
            · repeat (first | exact trivial | refine ⟨⟨_, rfl, by first | exact LeA.c (LeC.refl _ rfl) | exact LeA.c (LeC.ow _ _ rfl) | exact LeA.c (LeC.pt _ _ _ _ _ rfl) | exact LeA.c (LeC.nil _ rfl) | exact LeA.c (LeC.nils _ _) | (refine LeA.int ?_; omega) | (refine LeA.int ?_; dsimp only; omega) | exact LeA.c (LeC.fz rfl rfl (by first | rfl | omega) (fun i _ j _ => ⟨rfl, by first | rfl | exact rowN_imm (fun _ => rfl) _ i j | exact rowF_imm (fun _ => rfl) _ i j⟩))⟩, ?_⟩)
            · repeat (first | exact trivial | refine ⟨by first | exact HeapOk.same rfl rfl rfl rfl | exact HeapOk.lent rfl rfl rfl rfl | exact HeapOk.nil rfl rfl | exact HeapOk.row rfl rfl (by first | rfl | omega) (fun i _ j _ => ⟨rfl, by first | rfl | exact rowN_imm (fun _ => rfl) _ i j | exact rowF_imm (fun _ => rfl) _ i j⟩) | exact HeapOk.box rfl rfl (by repeat (first | exact trivial | refine ⟨by first | exact LeC.refl _ rfl | exact LeC.ow _ _ rfl | exact LeC.nil _ rfl | exact LeC.nils _ _ | exact LeC.fz rfl rfl (by first | rfl | omega) (fun i _ j _ => ⟨rfl, by first | rfl | exact rowN_imm (fun _ => rfl) _ i j | exact rowF_imm (fun _ => rfl) _ i j⟩) | exact LeC.int (by omega), ?_⟩)) rfl, ?_⟩)
        · have hP := (pExplains_A y bZ s hyn).cv (args' := [.ag (ipC y), .ag bZC, .ag (bgC s)]) ⟨.ag ⟨Cv.refl _, Cv.refl _, Cv.refl _, trivial⟩, .ag bZ_cv, .ag ⟨Cv.refl _, Cv.refl _, Cv.refl _, Cv.refl _, trivial⟩, trivial⟩
          have hR := (rExplains_A y bZ s hyn).cv (args' := [.ag (ipC y), .ag bZC, .ag (bgC s)]) ⟨.ag ⟨Cv.refl _, Cv.refl _, Cv.refl _, trivial⟩, .ag bZ_cv, .ag ⟨Cv.refl _, Cv.refl _, Cv.refl _, Cv.refl _, trivial⟩, trivial⟩
          obtain ⟨V, hV⟩ : ∃ V, exV y bZ s = V := ⟨_, rfl⟩
          rw [hV] at hP hR
          obtain ⟨vm, vo⟩ := V
          cases vo
          all_goals
            repeat (first
              | refine AWp.seq ?_
              | refine thenA_n ?_
              | refine AWp.block ?_
              | refine AWp.skip ?_
              | refine inBlk_n ?_
              | refine AWp.condT rfl (by first | rfl | assumption | exact cmT) ?_
              | refine AWp.condF rfl (by first | rfl | assumption | exact cmF) ?_
              | (refine AWp.region (id := 11) ?_
                 refine AList.cmpT rfl rfl rfl rfl rfl cmT ?_
                 refine AList.nil ?_)
              | (refine AWp.region (id := 12) ?_
                 refine AList.idx (k := 1) tyOk rfl rfl rfl rfl rfl rfl rfl rfl (by first | rfl | omega) oM oM ?_
                 refine AList.loadAl tyOk rfl rfl rfl rfl rfl oM ?_
                 refine AList.alloc tyOk rfl rfl rfl rfl rfl ?_
                 refine AList.store tyOk rfl rfl rfl rfl rfl rfl rfl rfl oM oM ?_
                 refine AList.nil ?_)
              | (refine AWp.region (id := 13) ?_
                 refine AList.loadA tyOk rfl rfl rfl rfl rfl rfl rfl oM oM ?_
                 refine AList.loadA tyOk rfl rfl rfl rfl rfl rfl rfl oM oM ?_
                 refine AList.loadA tyOk rfl rfl rfl rfl rfl rfl rfl oM oM ?_
                 refine AList.call rfl rfl rfl rfl Try.func20 rfl (by kernel_rfl) (hP) ?_
                 refine AList.move rfl rfl rfl ?_
                 refine AList.extract rfl rfl rfl rfl ?_
                 refine AList.extract rfl rfl rfl rfl ?_
                 refine AList.alloc tyOk rfl rfl rfl rfl rfl ?_
                 refine AList.store tyOk rfl rfl rfl rfl rfl rfl rfl rfl oM oM ?_
                 refine AList.assign rfl rfl rfl ?_
                 refine AList.nil ?_)
              | (refine AWp.region (id := 14) ?_
                 refine AList.loadA tyOk rfl rfl rfl rfl rfl rfl rfl oM oM ?_
                 refine AList.loadA tyOk rfl rfl rfl rfl rfl rfl rfl oM oM ?_
                 refine AList.loadA tyOk rfl rfl rfl rfl rfl rfl rfl oM oM ?_
                 refine AList.call rfl rfl rfl rfl Try.func21 rfl (by kernel_rfl) (hR) ?_
                 refine AList.move rfl rfl rfl ?_
                 refine AList.extract rfl rfl rfl rfl ?_
                 refine AList.extract rfl rfl rfl rfl ?_
                 refine AList.alloc tyOk rfl rfl rfl rfl rfl ?_
                 refine AList.store tyOk rfl rfl rfl rfl rfl rfl rfl rfl oM oM ?_
                 refine AList.assign rfl rfl rfl ?_
                 refine AList.nil ?_)
              | (refine AWp.region (id := 15) ?_
                 refine AList.move rfl rfl rfl ?_
                 refine AList.move rfl rfl rfl ?_
                 refine AList.neB rfl rfl rfl rfl (by kernel_rfl) ?_
                 refine AList.move rfl rfl rfl ?_
                 refine AList.loadA tyOk rfl rfl rfl rfl rfl rfl rfl oM oM ?_
                 refine AList.loadA tyOk rfl rfl rfl rfl rfl rfl rfl oM oM ?_
                 refine AList.binAg rfl rfl rfl rfl rfl rfl (by kernel_rfl) (mc_neS vm) ?_
                 refine AList.pickF rfl rfl rfl rfl ?_
                 refine AList.nil ?_)
              | (refine AWp.region (id := 17) ?_
                 refine AList.add rfl rfl rfl rfl (by omega) (by omega) ?_
                 refine AList.move rfl rfl rfl ?_
                 refine AList.nil ?_))
            refine ⟨1 + 1, by omega, Wk.mk [(12, some 12), (13, some 13), (14, some 14), (15, some 15), (17, some 17), (9, some 9), (19, some 19)] rfl rfl rfl ?_ ?_, by omega⟩
            · repeat (first | exact trivial | refine ⟨⟨_, rfl, by first | exact LeA.c (LeC.refl _ rfl) | exact LeA.c (LeC.ow _ _ rfl) | exact LeA.c (LeC.pt _ _ _ _ _ rfl) | exact LeA.c (LeC.nil _ rfl) | exact LeA.c (LeC.nils _ _) | (refine LeA.int ?_; omega) | (refine LeA.int ?_; dsimp only; omega) | exact LeA.c (LeC.fz rfl rfl (by first | rfl | omega) (fun i _ j _ => ⟨rfl, by first | rfl | exact rowN_imm (fun _ => rfl) _ i j | exact rowF_imm (fun _ => rfl) _ i j⟩))⟩, ?_⟩)
            · repeat (first | exact trivial | refine ⟨by first | exact HeapOk.same rfl rfl rfl rfl | exact HeapOk.lent rfl rfl rfl rfl | exact HeapOk.nil rfl rfl | exact HeapOk.row rfl rfl (by first | rfl | omega) (fun i _ j _ => ⟨rfl, by first | rfl | exact rowN_imm (fun _ => rfl) _ i j | exact rowF_imm (fun _ => rfl) _ i j⟩) | exact HeapOk.box rfl rfl (by repeat (first | exact trivial | refine ⟨by first | exact LeC.refl _ rfl | exact LeC.ow _ _ rfl | exact LeC.nil _ rfl | exact LeC.nils _ _ | exact LeC.fz rfl rfl (by first | rfl | omega) (fun i _ j _ => ⟨rfl, by first | rfl | exact rowN_imm (fun _ => rfl) _ i j | exact rowF_imm (fun _ => rfl) _ i j⟩) | exact LeC.int (by omega), ?_⟩)) rfl, ?_⟩)
        · have hP := (pExplains_A y bZ raw hyn).cv (args' := [.ag (ipC y), .ag bZC, .ag (bgC raw)]) ⟨.ag ⟨Cv.refl _, Cv.refl _, Cv.refl _, trivial⟩, .ag bZ_cv, .ag ⟨Cv.refl _, Cv.refl _, Cv.refl _, Cv.refl _, trivial⟩, trivial⟩
          have hR := (rExplains_A y bZ raw hyn).cv (args' := [.ag (ipC y), .ag bZC, .ag (bgC raw)]) ⟨.ag ⟨Cv.refl _, Cv.refl _, Cv.refl _, trivial⟩, .ag bZ_cv, .ag ⟨Cv.refl _, Cv.refl _, Cv.refl _, Cv.refl _, trivial⟩, trivial⟩
          obtain ⟨V, hV⟩ : ∃ V, exV y bZ raw = V := ⟨_, rfl⟩
          rw [hV] at hP hR
          obtain ⟨vm, vo⟩ := V
          cases vo
          all_goals
            repeat (first
              | refine AWp.seq ?_
              | refine thenA_n ?_
              | refine AWp.block ?_
              | refine AWp.skip ?_
              | refine inBlk_n ?_
              | refine AWp.condT rfl (by first | rfl | assumption | exact cmT) ?_
              | refine AWp.condF rfl (by first | rfl | assumption | exact cmF) ?_
              | (refine AWp.region (id := 11) ?_
                 refine AList.cmpT rfl rfl rfl rfl rfl cmT ?_
                 refine AList.nil ?_)
              | (refine AWp.region (id := 12) ?_
                 refine AList.idx (k := 2) tyOk rfl rfl rfl rfl rfl rfl rfl rfl (by first | rfl | omega) oM oM ?_
                 refine AList.loadAl tyOk rfl rfl rfl rfl rfl oM ?_
                 refine AList.alloc tyOk rfl rfl rfl rfl rfl ?_
                 refine AList.store tyOk rfl rfl rfl rfl rfl rfl rfl rfl oM oM ?_
                 refine AList.nil ?_)
              | (refine AWp.region (id := 13) ?_
                 refine AList.loadA tyOk rfl rfl rfl rfl rfl rfl rfl oM oM ?_
                 refine AList.loadA tyOk rfl rfl rfl rfl rfl rfl rfl oM oM ?_
                 refine AList.loadA tyOk rfl rfl rfl rfl rfl rfl rfl oM oM ?_
                 refine AList.call rfl rfl rfl rfl Try.func20 rfl (by kernel_rfl) (hP) ?_
                 refine AList.move rfl rfl rfl ?_
                 refine AList.extract rfl rfl rfl rfl ?_
                 refine AList.extract rfl rfl rfl rfl ?_
                 refine AList.alloc tyOk rfl rfl rfl rfl rfl ?_
                 refine AList.store tyOk rfl rfl rfl rfl rfl rfl rfl rfl oM oM ?_
                 refine AList.assign rfl rfl rfl ?_
                 refine AList.nil ?_)
              | (refine AWp.region (id := 14) ?_
                 refine AList.loadA tyOk rfl rfl rfl rfl rfl rfl rfl oM oM ?_
                 refine AList.loadA tyOk rfl rfl rfl rfl rfl rfl rfl oM oM ?_
                 refine AList.loadA tyOk rfl rfl rfl rfl rfl rfl rfl oM oM ?_
                 refine AList.call rfl rfl rfl rfl Try.func21 rfl (by kernel_rfl) (hR) ?_
                 refine AList.move rfl rfl rfl ?_
                 refine AList.extract rfl rfl rfl rfl ?_
                 refine AList.extract rfl rfl rfl rfl ?_
                 refine AList.alloc tyOk rfl rfl rfl rfl rfl ?_
                 refine AList.store tyOk rfl rfl rfl rfl rfl rfl rfl rfl oM oM ?_
                 refine AList.assign rfl rfl rfl ?_
                 refine AList.nil ?_)
              | (refine AWp.region (id := 15) ?_
                 refine AList.move rfl rfl rfl ?_
                 refine AList.move rfl rfl rfl ?_
                 refine AList.neB rfl rfl rfl rfl (by kernel_rfl) ?_
                 refine AList.move rfl rfl rfl ?_
                 refine AList.loadA tyOk rfl rfl rfl rfl rfl rfl rfl oM oM ?_
                 refine AList.loadA tyOk rfl rfl rfl rfl rfl rfl rfl oM oM ?_
                 refine AList.binAg rfl rfl rfl rfl rfl rfl (by kernel_rfl) (mc_neS vm) ?_
                 refine AList.pickF rfl rfl rfl rfl ?_
                 refine AList.nil ?_)
              | (refine AWp.region (id := 17) ?_
                 refine AList.add rfl rfl rfl rfl (by omega) (by omega) ?_
                 refine AList.move rfl rfl rfl ?_
                 refine AList.nil ?_))
            refine ⟨2 + 1, by omega, Wk.mk [(12, some 12), (13, some 13), (14, some 14), (15, some 15), (17, some 17), (9, some 9), (19, some 19)] rfl rfl rfl ?_ ?_, by omega⟩
            · repeat (first | exact trivial | refine ⟨⟨_, rfl, by first | exact LeA.c (LeC.refl _ rfl) | exact LeA.c (LeC.ow _ _ rfl) | exact LeA.c (LeC.pt _ _ _ _ _ rfl) | exact LeA.c (LeC.nil _ rfl) | exact LeA.c (LeC.nils _ _) | (refine LeA.int ?_; omega) | (refine LeA.int ?_; dsimp only; omega) | exact LeA.c (LeC.fz rfl rfl (by first | rfl | omega) (fun i _ j _ => ⟨rfl, by first | rfl | exact rowN_imm (fun _ => rfl) _ i j | exact rowF_imm (fun _ => rfl) _ i j⟩))⟩, ?_⟩)
            · repeat (first | exact trivial | refine ⟨by first | exact HeapOk.same rfl rfl rfl rfl | exact HeapOk.lent rfl rfl rfl rfl | exact HeapOk.nil rfl rfl | exact HeapOk.row rfl rfl (by first | rfl | omega) (fun i _ j _ => ⟨rfl, by first | rfl | exact rowN_imm (fun _ => rfl) _ i j | exact rowF_imm (fun _ => rfl) _ i j⟩) | exact HeapOk.box rfl rfl (by repeat (first | exact trivial | refine ⟨by first | exact LeC.refl _ rfl | exact LeC.ow _ _ rfl | exact LeC.nil _ rfl | exact LeC.nils _ _ | exact LeC.fz rfl rfl (by first | rfl | omega) (fun i _ j _ => ⟨rfl, by first | rfl | exact rowN_imm (fun _ => rfl) _ i j | exact rowF_imm (fun _ => rfl) _ i j⟩) | exact LeC.int (by omega), ?_⟩)) rfl, ?_⟩)
        · have hP := (pExplains_A y bZ bgZ hyn).cv (args' := [.ag (ipC y), .ag bZC, .ag (bgC bgZ)]) ⟨.ag ⟨Cv.refl _, Cv.refl _, Cv.refl _, trivial⟩, .ag bZ_cv, .ag ⟨Cv.refl _, Cv.refl _, Cv.refl _, Cv.refl _, trivial⟩, trivial⟩
          have hR := (rExplains_A y bZ bgZ hyn).cv (args' := [.ag (ipC y), .ag bZC, .ag (bgC bgZ)]) ⟨.ag ⟨Cv.refl _, Cv.refl _, Cv.refl _, trivial⟩, .ag bZ_cv, .ag ⟨Cv.refl _, Cv.refl _, Cv.refl _, Cv.refl _, trivial⟩, trivial⟩
          obtain ⟨V, hV⟩ : ∃ V, exV y bZ bgZ = V := ⟨_, rfl⟩
          rw [hV] at hP hR
          obtain ⟨vm, vo⟩ := V
          cases vo
          all_goals
            repeat (first
              | refine AWp.seq ?_
              | refine thenA_n ?_
              | refine AWp.block ?_
              | refine AWp.skip ?_
              | refine inBlk_n ?_
              | refine AWp.condT rfl (by first | rfl | assumption | exact cmT) ?_
              | refine AWp.condF rfl (by first | rfl | assumption | exact cmF) ?_
              | (refine AWp.region (id := 11) ?_
                 refine AList.cmpT rfl rfl rfl rfl rfl cmT ?_
                 refine AList.nil ?_)
              | (refine AWp.region (id := 12) ?_
                 refine AList.idx (k := 3) tyOk rfl rfl rfl rfl rfl rfl rfl rfl (by first | rfl | omega) oM oM ?_
                 refine AList.loadAl tyOk rfl rfl rfl rfl rfl oM ?_
                 refine AList.alloc tyOk rfl rfl rfl rfl rfl ?_
                 refine AList.store tyOk rfl rfl rfl rfl rfl rfl rfl rfl oM oM ?_
                 refine AList.nil ?_)
              | (refine AWp.region (id := 13) ?_
                 refine AList.loadA tyOk rfl rfl rfl rfl rfl rfl rfl oM oM ?_
                 refine AList.loadA tyOk rfl rfl rfl rfl rfl rfl rfl oM oM ?_
                 refine AList.loadA tyOk rfl rfl rfl rfl rfl rfl rfl oM oM ?_
                 refine AList.call rfl rfl rfl rfl Try.func20 rfl (by kernel_rfl) (hP) ?_
                 refine AList.move rfl rfl rfl ?_
                 refine AList.extract rfl rfl rfl rfl ?_
                 refine AList.extract rfl rfl rfl rfl ?_
                 refine AList.alloc tyOk rfl rfl rfl rfl rfl ?_
                 refine AList.store tyOk rfl rfl rfl rfl rfl rfl rfl rfl oM oM ?_
                 refine AList.assign rfl rfl rfl ?_
                 refine AList.nil ?_)
              | (refine AWp.region (id := 14) ?_
                 refine AList.loadA tyOk rfl rfl rfl rfl rfl rfl rfl oM oM ?_
                 refine AList.loadA tyOk rfl rfl rfl rfl rfl rfl rfl oM oM ?_
                 refine AList.loadA tyOk rfl rfl rfl rfl rfl rfl rfl oM oM ?_
                 refine AList.call rfl rfl rfl rfl Try.func21 rfl (by kernel_rfl) (hR) ?_
                 refine AList.move rfl rfl rfl ?_
                 refine AList.extract rfl rfl rfl rfl ?_
                 refine AList.extract rfl rfl rfl rfl ?_
                 refine AList.alloc tyOk rfl rfl rfl rfl rfl ?_
                 refine AList.store tyOk rfl rfl rfl rfl rfl rfl rfl rfl oM oM ?_
                 refine AList.assign rfl rfl rfl ?_
                 refine AList.nil ?_)
              | (refine AWp.region (id := 15) ?_
                 refine AList.move rfl rfl rfl ?_
                 refine AList.move rfl rfl rfl ?_
                 refine AList.neB rfl rfl rfl rfl (by kernel_rfl) ?_
                 refine AList.move rfl rfl rfl ?_
                 refine AList.loadA tyOk rfl rfl rfl rfl rfl rfl rfl oM oM ?_
                 refine AList.loadA tyOk rfl rfl rfl rfl rfl rfl rfl oM oM ?_
                 refine AList.binAg rfl rfl rfl rfl rfl rfl (by kernel_rfl) (mc_neS vm) ?_
                 refine AList.pickF rfl rfl rfl rfl ?_
                 refine AList.nil ?_)
              | (refine AWp.region (id := 17) ?_
                 refine AList.add rfl rfl rfl rfl (by omega) (by omega) ?_
                 refine AList.move rfl rfl rfl ?_
                 refine AList.nil ?_))
            refine ⟨3 + 1, by omega, Wk.mk [(12, some 12), (13, some 13), (14, some 14), (15, some 15), (17, some 17), (9, some 9), (19, some 19)] rfl rfl rfl ?_ ?_, by omega⟩
            · repeat (first | exact trivial | refine ⟨⟨_, rfl, by first | exact LeA.c (LeC.refl _ rfl) | exact LeA.c (LeC.ow _ _ rfl) | exact LeA.c (LeC.pt _ _ _ _ _ rfl) | exact LeA.c (LeC.nil _ rfl) | exact LeA.c (LeC.nils _ _) | (refine LeA.int ?_; omega) | (refine LeA.int ?_; dsimp only; omega) | exact LeA.c (LeC.fz rfl rfl (by first | rfl | omega) (fun i _ j _ => ⟨rfl, by first | rfl | exact rowN_imm (fun _ => rfl) _ i j | exact rowF_imm (fun _ => rfl) _ i j⟩))⟩, ?_⟩)
            · repeat (first | exact trivial | refine ⟨by first | exact HeapOk.same rfl rfl rfl rfl | exact HeapOk.lent rfl rfl rfl rfl | exact HeapOk.nil rfl rfl | exact HeapOk.row rfl rfl (by first | rfl | omega) (fun i _ j _ => ⟨rfl, by first | rfl | exact rowN_imm (fun _ => rfl) _ i j | exact rowF_imm (fun _ => rfl) _ i j⟩) | exact HeapOk.box rfl rfl (by repeat (first | exact trivial | refine ⟨by first | exact LeC.refl _ rfl | exact LeC.ow _ _ rfl | exact LeC.nil _ rfl | exact LeC.nils _ _ | exact LeC.fz rfl rfl (by first | rfl | omega) (fun i _ j _ => ⟨rfl, by first | rfl | exact rowN_imm (fun _ => rfl) _ i j | exact rowF_imm (fun _ => rfl) _ i j⟩) | exact LeC.int (by omega), ?_⟩)) rfl, ?_⟩)
        · repeat (first
            | refine AWp.seq ?_
            | refine thenA_n ?_
            | refine AWp.exit ?_
            | refine thenA_e ?_
            | refine inBlk_n ?_
            | refine inBlk_hit ?_
            | refine AWp.condF rfl (by first | rfl | assumption | exact cmF) ?_
            | (refine AWp.region (id := 11) ?_
               refine AList.cmpF rfl rfl rfl rfl rfl cmF ?_
               refine AList.nil ?_)
            | (refine AWp.region (id := 18) ?_
               refine AList.add rfl rfl rfl rfl (by omega) (by omega) ?_
               refine AList.move rfl rfl rfl ?_
               refine AList.nil ?_))
          refine ⟨2 + 1, by omega, Wk.mk [(12, some 12), (13, some 13), (14, some 14), (15, some 15), (17, some 17), (9, some 9)] rfl rfl rfl ?_ ?_, by omega⟩
          · repeat (first | exact trivial | refine ⟨⟨_, rfl, by first | exact LeA.c (LeC.refl _ rfl) | exact LeA.c (LeC.ow _ _ rfl) | exact LeA.c (LeC.pt _ _ _ _ _ rfl) | exact LeA.c (LeC.nil _ rfl) | exact LeA.c (LeC.nils _ _) | (refine LeA.int ?_; omega) | (refine LeA.int ?_; dsimp only; omega) | exact LeA.c (LeC.fz rfl rfl (by first | rfl | omega) (fun i _ j _ => ⟨rfl, by first | rfl | exact rowN_imm (fun _ => rfl) _ i j | exact rowF_imm (fun _ => rfl) _ i j⟩))⟩, ?_⟩)
          · repeat (first | exact trivial | refine ⟨by first | exact HeapOk.same rfl rfl rfl rfl | exact HeapOk.lent rfl rfl rfl rfl | exact HeapOk.nil rfl rfl | exact HeapOk.row rfl rfl (by first | rfl | omega) (fun i _ j _ => ⟨rfl, by first | rfl | exact rowN_imm (fun _ => rfl) _ i j | exact rowF_imm (fun _ => rfl) _ i j⟩) | exact HeapOk.box rfl rfl (by repeat (first | exact trivial | refine ⟨by first | exact LeC.refl _ rfl | exact LeC.ow _ _ rfl | exact LeC.nil _ rfl | exact LeC.nils _ _ | exact LeC.fz rfl rfl (by first | rfl | omega) (fun i _ j _ => ⟨rfl, by first | rfl | exact rowN_imm (fun _ => rfl) _ i j | exact rowF_imm (fun _ => rfl) _ i j⟩) | exact LeC.int (by omega), ?_⟩)) rfl, ?_⟩)
    · repeat (first
        | refine AWp.seq ?_
        | refine thenA_n ?_
        | refine AWp.exit ?_
        | refine AWp.ret ?_
        | refine AWp.condF rfl (by first | rfl | assumption | exact cmF) ?_
        | (refine AWp.region (id := 8) ?_
           refine AList.cmpF rfl rfl rfl rfl rfl cmF ?_
           refine AList.nil ?_)
        | (refine AWp.region (id := 19) ?_
           refine AList.move rfl rfl rfl ?_
           refine AList.assign rfl rfl rfl ?_
           refine AList.nil ?_))
      refine ⟨_, rfl, mkSt 96 [(10, .c (bC true))] [] [], [], Wk.mk [] rfl rfl rfl ?_ trivial, rfl, rfl, ARets.one (x := .c _) (ARes.tmp rfl rfl)⟩
      repeat (first | exact trivial | refine ⟨⟨_, rfl, by first | exact LeA.c (LeC.refl _ rfl) | exact LeA.c (LeC.ow _ _ rfl) | exact LeA.c (LeC.pt _ _ _ _ _ rfl) | exact LeA.c (LeC.nil _ rfl) | exact LeA.c (LeC.nils _ _) | (refine LeA.int ?_; omega) | (refine LeA.int ?_; dsimp only; omega) | exact LeA.c (LeC.fz rfl rfl (by first | rfl | omega) (fun i _ j _ => ⟨rfl, by first | rfl | exact rowN_imm (fun _ => rfl) _ i j | exact rowF_imm (fun _ => rfl) _ i j⟩))⟩, ?_⟩)
end Go.Proofs.Ytclaanggpcjnbaa
end
