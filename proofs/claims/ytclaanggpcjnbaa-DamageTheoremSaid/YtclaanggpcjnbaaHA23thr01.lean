/- Parts of the proof: A23th. -/
import Derived.Test.YtclaanggpcjnbaaG34
set_option linter.unusedSimpArgs false
set_option linter.unusedVariables false
section
/- Chapter 23: the law DamageTheorem over plain values. -/
namespace Go.Proofs.Ytclaanggpcjnbaa
open Go.RowKit Go.Flow Go.AV Go.Plain
/-- The image that Apply returns. -/
def apJ (b : Bp) (h : Ht) : Ip := if apE b h = 0 then apP b h else ⟨0, 0, 0, fun _ => 0⟩
theorem apJ_c (b : Bp) (h : Ht) : apI b h = ipC (apJ b h) := by
  unfold apI apJ
  split <;> rfl
theorem apJ_n {b : Bp} (hb : b.ok) (h : Ht) : (apJ b h).n ≤ 4611686018427387904 := by
  have := hb.n_le
  unfold apJ
  split
  · show bpm b ≤ _
    omega
  · exact Nat.zero_le _
abbrev ht0 (fr ti : Int) : Ht := ⟨0, 0, 0, fun _ => 0, 0, fun _ => 0, fr, ti⟩
abbrev ht0C (fr ti : Int) : List CV := [iC 0, iC 0, nilC, nilC, iC fr, iC ti]
theorem ht0_cv (fr ti : Int) : LeL Cv (ht0C fr ti) (htC (ht0 fr ti)) := ⟨Cv.refl _, Cv.refl _, Cv.nil, Cv.nil, Cv.refl _, Cv.refl _, trivial⟩
theorem bgZ_cv : LeL Cv (bgC bgZ) (bgC bgZ) := ⟨Cv.refl _, Cv.refl _, Cv.refl _, Cv.refl _, trivial⟩
set_option maxHeartbeats 4000000 in
set_option maxRecDepth 100000 in
theorem DamageTheorem_A (N : Nat) (f : Nat → Int) (L : Nat) (l : Nat → Int) (B : Nat) (u : Nat → Int) (raw : Ht) (hN : N ≤ 4611686018427387904) (hL : L ≤ 4611686018427387904) (hB : B ≤ 4611686018427387904) (hr1 : raw.N ≤ 4611686018427387904) (hr2 : raw.M ≤ 4611686018427387904) :
    ECalls Try.prog 8 [.c (.ls N 1 (iF f)), .c (.ls L 1 (iF l)), .c (.ls B 1 (iF u)), .ag (htC raw)] (fun v => v = .c (bC true)) := by
  have hC1 := cutL_A N f 60 hN (by omega)
  have hC3 := cutL_A L l 12 hL (by omega)
  have hC4 := cutL_A B u 4 hB (by omega)
  have hC5 := cutL_A raw.N raw.lo 6 hr1 (by omega)
  have hC6 := cutL_A raw.M raw.bl 6 hr2 (by omega)
  have hBud := Budget_A (min B 4) u (by omega)
  obtain ⟨x, hx⟩ : ∃ x, bgN (min B 4) u = x := ⟨_, rfl⟩
  rw [hx] at hBud
  obtain ⟨r, hr⟩ : ∃ r : Ht, r = ⟨raw.dx, raw.dy, min raw.N 6, raw.lo, min raw.M 6, raw.bl, raw.fr, raw.ti⟩ := ⟨_, rfl⟩
  have hrN : r.N ≤ 6 := by rw [hr]; show min raw.N 6 ≤ 6; omega
  have hrM : r.M ≤ 6 := by rw [hr]; show min raw.M 6 ≤ 6; omega
  refine ecalls_at Try.func8 rfl rfl Try.ntmps8 rfl ?_
  repeat (first
    | refine AWp.seq ?_
    | (refine AWp.region (id := 0) ?_
       refine AList.box rfl rfl rfl rfl rfl ?_
       refine AList.assign rfl rfl rfl ?_
       refine AList.nil ?_)
    | (refine AWp.region (id := 1) ?_
       refine AList.call rfl rfl rfl rfl Try.func9 rfl (by kernel_rfl) (sanity_A) ?_
       refine AList.assign rfl rfl rfl ?_
       refine AList.nil ?_))
  refine AWp.text ?_
  refine AText.split 2 ?_
  refine AList.move rfl rfl rfl ?_
  refine AList.call rfl rfl rfl rfl Try.func11 rfl (by kernel_rfl) (hC1) ?_
  refine AList.nil ?_
  refine AText.callE rfl rfl rfl rfl Try.func16 rfl (by kernel_rfl) (Made_B (min N 60) f (by omega)) ?_
  rintro _ ⟨b, hb, rfl⟩
  refine AText.all ?_
  refine AList.move rfl rfl rfl ?_
  refine AList.call rfl rfl rfl rfl Try.func11 rfl (by kernel_rfl) (hC4) ?_
  refine AList.call rfl rfl rfl rfl Try.func17 rfl (by kernel_rfl) (hBud) ?_
  refine AList.alloc tyOk rfl rfl rfl rfl rfl ?_
  refine AList.alloc tyOk rfl rfl rfl rfl rfl ?_
  refine AList.store tyOk rfl rfl rfl rfl rfl rfl rfl rfl oM oM ?_
  refine AList.store tyOk rfl rfl rfl rfl rfl rfl rfl rfl oM oM ?_
  refine AList.nil ?_
  obtain ⟨hH, hHN, hHM, hHw⟩ := Hit_A (min L 12) l b x (by omega) hb.1
  obtain ⟨h, hh⟩ : ∃ h, hitV (min L 12) l b x = h := ⟨_, rfl⟩
  rw [hh] at hH hHN hHM hHw
  repeat (first
    | refine AWp.seq ?_
    | (refine AWp.draw (id := 3) mixed ?_
       refine AList.fieldPt tyOk rfl rfl rfl rfl rfl rfl rfl ?_
       refine AList.load1 tyOk rfl rfl rfl rfl rfl rfl rfl oM oM ?_
       refine AList.call rfl rfl rfl rfl Try.func11 rfl (by kernel_rfl) (hC5) ?_
       refine AList.fieldPt tyOk rfl rfl rfl rfl rfl rfl rfl ?_
       refine AList.load1 tyOk rfl rfl rfl rfl rfl rfl rfl oM oM ?_
       refine AList.call rfl rfl rfl rfl Try.func11 rfl (by kernel_rfl) (hC6) ?_
       refine AList.fieldPt tyOk rfl rfl rfl rfl rfl rfl rfl ?_
       refine AList.store tyOk rfl rfl rfl rfl rfl rfl rfl rfl oM oM ?_
       refine AList.fieldPt tyOk rfl rfl rfl rfl rfl rfl rfl ?_
       refine AList.store tyOk rfl rfl rfl rfl rfl rfl rfl rfl oM oM ?_
       refine AList.nil ⟨by kernel_rfl, ?_⟩))
  refine AWp.weak (S' := mkSt 102 [(1, .c (.ls L 1 (iF l))), (7, .c (.pt 7 6 0 0)), (9, .c (bC true)), (10, .c (.pt 10 3 0 0)), (11, .c (.pt 11 4 0 0))]
    [(7, ⟨false, 1, 6, 47, lF (htC r)⟩), (10, ⟨false, 1, 3, 39, lF (bpC b)⟩), (11, ⟨false, 1, 4, 24, lF (bgC x)⟩)] [7, 10, 11]) (Wk.mk [(7, some 7), (10, some 10), (11, some 11)] rfl rfl rfl ?_ ?_) ?_
  · repeat (first | exact trivial | refine ⟨⟨_, rfl, by first | exact LeA.c (LeC.refl _ rfl) | exact LeA.c (LeC.ow _ _ rfl) | exact LeA.c (LeC.pt _ _ _ _ _ rfl) | exact LeA.c (LeC.nil _ rfl) | exact LeA.c (LeC.nils _ _) | (refine LeA.int ?_; omega) | (refine LeA.int ?_; dsimp only; omega) | exact LeA.c (LeC.fz rfl rfl (by first | rfl | omega) (fun i _ j _ => ⟨rfl, by first | rfl | exact rowN_imm (fun _ => rfl) _ i j | exact rowF_imm (fun _ => rfl) _ i j⟩))⟩, ?_⟩)
  · subst hr
    repeat (first | exact trivial | refine ⟨by first | exact HeapOk.same rfl rfl rfl rfl | exact HeapOk.lent rfl rfl rfl rfl | exact HeapOk.nil rfl rfl | exact HeapOk.row rfl rfl (by first | rfl | omega) (fun i _ j _ => ⟨rfl, by first | rfl | exact rowN_imm (fun _ => rfl) _ i j | exact rowF_imm (fun _ => rfl) _ i j⟩) | exact HeapOk.box rfl rfl (by repeat (first | exact trivial | refine ⟨by first | exact LeC.refl _ rfl | exact LeC.ow _ _ rfl | exact LeC.nil _ rfl | exact LeC.nils _ _ | exact LeC.fz rfl rfl (by first | rfl | omega) (fun i _ j _ => ⟨rfl, by first | rfl | exact rowN_imm (fun _ => rfl) _ i j | exact rowF_imm (fun _ => rfl) _ i j⟩) | exact LeC.int (by omega), ?_⟩)) rfl, ?_⟩)
  repeat (first
    | refine thenA_n ?_
    | refine AWp.block ?_
    | (refine AWp.draw (id := 4) mixed ?_
       refine AList.move rfl rfl rfl ?_
       refine AList.call rfl rfl rfl rfl Try.func11 rfl (by kernel_rfl) (hC3) ?_
       refine AList.loadA tyOk rfl rfl rfl rfl rfl rfl rfl oM oM ?_
       refine AList.loadA tyOk rfl rfl rfl rfl rfl rfl rfl oM oM ?_
       refine AList.call rfl rfl rfl rfl Try.func19 rfl (by kernel_rfl) (hH) ?_
       refine AList.loadA tyOk rfl rfl rfl rfl rfl rfl rfl oM oM ?_
       refine AList.litSl tyOk rfl rfl rfl rfl rfl rfl rfl rfl rfl rfl rfl ?_
       refine AList.lenLs tyOk rfl rfl rfl rfl rfl ?_
       refine AList.move rfl rfl rfl ?_
       refine AList.nil ⟨by kernel_rfl, ?_⟩))
  refine AWp.round (fun k : Nat => mkSt 102 [(9, .c (bC true)), (10, .c (.pt 10 3 0 0)), (11, .c (.pt 11 4 0 0)), (43, .c (.ls 2 6 (sF (htC h ++ htC r) 6))), (44, .c (iC 2)), (45, .c (iC k))]
                                       [(10, ⟨false, 1, 3, 39, lF (bpC b)⟩), (11, ⟨false, 1, 4, 24, lF (bgC x)⟩)] [10, 11]
    ) (fun k => k ≤ 2) (fun k => 2 - k) 0 (Nat.zero_le _) ?_ (fun k hk => ?_)
  · refine Wk.mk [(10, some 10), (11, some 11)] rfl rfl rfl ?_ ?_
    · repeat (first | exact trivial | refine ⟨⟨_, rfl, by first | exact LeA.c (LeC.refl _ rfl) | exact LeA.c (LeC.ow _ _ rfl) | exact LeA.c (LeC.pt _ _ _ _ _ rfl) | exact LeA.c (LeC.nil _ rfl) | exact LeA.c (LeC.nils _ _) | (refine LeA.int ?_; omega) | (refine LeA.int ?_; dsimp only; omega) | exact LeA.c (LeC.fz rfl rfl (by first | rfl | omega) (fun i _ j _ => ⟨rfl, by first | rfl | exact rowN_imm (fun _ => rfl) _ i j | exact rowF_imm (fun _ => rfl) _ i j⟩))⟩, ?_⟩)
    · repeat (first | exact trivial | refine ⟨by first | exact HeapOk.same rfl rfl rfl rfl | exact HeapOk.lent rfl rfl rfl rfl | exact HeapOk.nil rfl rfl | exact HeapOk.row rfl rfl (by first | rfl | omega) (fun i _ j _ => ⟨rfl, by first | rfl | exact rowN_imm (fun _ => rfl) _ i j | exact rowF_imm (fun _ => rfl) _ i j⟩) | exact HeapOk.box rfl rfl (by repeat (first | exact trivial | refine ⟨by first | exact LeC.refl _ rfl | exact LeC.ow _ _ rfl | exact LeC.nil _ rfl | exact LeC.nils _ _ | exact LeC.fz rfl rfl (by first | rfl | omega) (fun i _ j _ => ⟨rfl, by first | rfl | exact rowN_imm (fun _ => rfl) _ i j | exact rowF_imm (fun _ => rfl) _ i j⟩) | exact LeC.int (by omega), ?_⟩)) rfl, ?_⟩)
  · obtain rfl | rfl | rfl : k = 0 ∨ k = 1 ∨ k = 2 := by omega
    · have hP := pApply_A b h (by omega) (by omega)
      rw [apV, apJ_c] at hP
      have hE := pExplains_A (apJ b h) b x (apJ_n hb _)
      have hW := pWithin_A b h x (by omega) (by omega)
      have hQ := (pApply_A b (ht0 h.fr h.ti) (Nat.zero_le _) (Nat.zero_le _)).cv (args' := [.ag (bpC b), .ag (ht0C h.fr h.ti)]) ⟨.ag (bp_cv b), .ag (ht0_cv _ _), trivial⟩
      rw [apV, apJ_c] at hQ
      have hT := pExplains_A (apJ b (ht0 h.fr h.ti)) b bgZ (apJ_n hb _)
      have hwt : wiB b h x = true → apE b h = 0 ∧ (exV (apJ b h) b x).2 = true := fun hw => ⟨wi_ok hw, by unfold apJ; rw [if_pos (wi_ok hw)]; exact wi_explains hw⟩
      have htt : apE b (ht0 h.fr h.ti) = 0 → exV (apJ b (ht0 h.fr h.ti)) b bgZ = (⟨0, 0, 0, 0⟩, true) := fun he => by unfold apJ; rw [if_pos he]; exact torn_explains he
      obtain ⟨V, hV⟩ : ∃ V, exV (apJ b h) b x = V := ⟨_, rfl⟩
      rw [hV] at hE hwt
      obtain ⟨vm, vo⟩ := V
      obtain ⟨wi, hwi⟩ : ∃ wi, wiB b h x = wi := ⟨_, rfl⟩
      rw [hwi] at hW hwt
      by_cases he2 : apE b (ht0 h.fr h.ti) = 0
      · rw [htt he2] at hT
        rw [he2] at hQ
        cases wi
        · repeat (first
            | refine AWp.seq ?_
            | refine thenA_n ?_
            | refine AWp.block ?_
            | refine AWp.skip ?_
            | refine inBlk_n ?_
            | refine AWp.condT rfl (by first | rfl | assumption | exact cmT) ?_
            | refine AWp.condF rfl (by first | rfl | assumption | exact cmF) ?_
            | (refine AWp.region (id := 5) ?_
               refine AList.cmpT rfl rfl rfl rfl rfl cmT ?_
               refine AList.nil ?_)
            | (refine AWp.region (id := 6) ?_
               refine AList.idx (k := 0) tyOk rfl rfl rfl rfl rfl rfl rfl rfl (by first | rfl | omega) oM oM ?_
               refine AList.loadAl tyOk rfl rfl rfl rfl rfl oM ?_
               refine AList.alloc tyOk rfl rfl rfl rfl rfl ?_
               refine AList.store tyOk rfl rfl rfl rfl rfl rfl rfl rfl oM oM ?_
               refine AList.nil ?_)
            | (refine AWp.region (id := 7) ?_
               refine AList.loadA tyOk rfl rfl rfl rfl rfl rfl rfl oM oM ?_
               refine AList.loadA tyOk rfl rfl rfl rfl rfl rfl rfl oM oM ?_
               refine AList.call rfl rfl rfl rfl Try.func24 rfl (by kernel_rfl) (hP) ?_
               refine AList.move rfl rfl rfl ?_
               refine AList.extract rfl rfl rfl rfl ?_
               refine AList.extract rfl rfl rfl rfl ?_
               refine AList.alloc tyOk rfl rfl rfl rfl rfl ?_
               refine AList.store tyOk rfl rfl rfl rfl rfl rfl rfl rfl oM oM ?_
               refine AList.assign rfl rfl rfl ?_
               refine AList.nil ?_)
            | (refine AWp.region (id := 8) ?_
               refine AList.loadA tyOk rfl rfl rfl rfl rfl rfl rfl oM oM ?_
               refine AList.loadA tyOk rfl rfl rfl rfl rfl rfl rfl oM oM ?_
               refine AList.loadA tyOk rfl rfl rfl rfl rfl rfl rfl oM oM ?_
               refine AList.call rfl rfl rfl rfl Try.func20 rfl (by kernel_rfl) (hE) ?_
               refine AList.move rfl rfl rfl ?_
               refine AList.extract rfl rfl rfl rfl ?_
               refine AList.extract rfl rfl rfl rfl ?_
               refine AList.alloc tyOk rfl rfl rfl rfl rfl ?_
               refine AList.store tyOk rfl rfl rfl rfl rfl rfl rfl rfl oM oM ?_
               refine AList.assign rfl rfl rfl ?_
               refine AList.nil ?_)
            | (refine AWp.region (id := 9) ?_
               refine AList.loadA tyOk rfl rfl rfl rfl rfl rfl rfl oM oM ?_
               refine AList.loadA tyOk rfl rfl rfl rfl rfl rfl rfl oM oM ?_
               refine AList.loadA tyOk rfl rfl rfl rfl rfl rfl rfl oM oM ?_
               refine AList.call rfl rfl rfl rfl Try.func26 rfl (by kernel_rfl) (hW) ?_
               refine AList.move rfl rfl rfl ?_
               refine AList.skip rfl rfl ?_
               refine AList.skip rfl rfl ?_
               refine AList.skip rfl rfl ?_
               refine AList.skip rfl rfl ?_
               refine AList.skip rfl rfl ?_
               refine AList.skip rfl rfl ?_
               refine AList.pickF rfl rfl rfl rfl ?_
               refine AList.nil ?_)
            | (refine AWp.region (id := 11) ?_
               refine AList.loadA tyOk rfl rfl rfl rfl rfl rfl rfl oM oM ?_
               refine AList.fieldPt tyOk rfl rfl rfl rfl rfl rfl rfl ?_
               refine AList.load1 tyOk rfl rfl rfl rfl rfl rfl rfl oM oM ?_
               refine AList.fieldPt tyOk rfl rfl rfl rfl rfl rfl rfl ?_
               refine AList.load1 tyOk rfl rfl rfl rfl rfl rfl rfl oM oM ?_
               refine AList.buildSt tyOk rfl rfl rfl rfl rfl rfl rfl rfl ?_
               refine AList.call rfl rfl rfl rfl Try.func24 rfl (by kernel_rfl) (hQ) ?_
               refine AList.move rfl rfl rfl ?_
               refine AList.extract rfl rfl rfl rfl ?_
               refine AList.extract rfl rfl rfl rfl ?_
               refine AList.alloc tyOk rfl rfl rfl rfl rfl ?_
               refine AList.store tyOk rfl rfl rfl rfl rfl rfl rfl rfl oM oM ?_
               refine AList.assign rfl rfl rfl ?_
               refine AList.nil ?_)
            | (refine AWp.region (id := 12) ?_
               refine AList.move rfl rfl rfl ?_
               refine AList.cmp rfl rfl rfl rfl rfl ?_
               refine AList.nil ?_)
            | (refine AWp.region (id := 13) ?_
               refine AList.loadA tyOk rfl rfl rfl rfl rfl rfl rfl oM oM ?_
               refine AList.loadA tyOk rfl rfl rfl rfl rfl rfl rfl oM oM ?_
               refine AList.buildSt tyOk rfl rfl rfl rfl rfl rfl rfl rfl ?_
               refine AList.call rfl rfl rfl rfl Try.func20 rfl (by kernel_rfl) (hT) ?_
               refine AList.move rfl rfl rfl ?_
               refine AList.extract rfl rfl rfl rfl ?_
               refine AList.extract rfl rfl rfl rfl ?_
               refine AList.alloc tyOk rfl rfl rfl rfl rfl ?_
               refine AList.store tyOk rfl rfl rfl rfl rfl rfl rfl rfl oM oM ?_
               refine AList.assign rfl rfl rfl ?_
               refine AList.nil ?_)
            | (refine AWp.region (id := 14) ?_
               refine AList.move rfl rfl rfl ?_
               refine AList.notB rfl rfl rfl ?_
               refine AList.move rfl rfl rfl ?_
               refine AList.loadA tyOk rfl rfl rfl rfl rfl rfl rfl oM oM ?_
               refine AList.buildSt tyOk rfl rfl rfl rfl rfl rfl rfl rfl ?_
               refine AList.binAg rfl rfl rfl rfl rfl rfl (by kernel_rfl) (mc_neS ⟨0, 0, 0, 0⟩) ?_
               refine AList.pickF rfl rfl rfl rfl ?_
               refine AList.nil ?_)
            | (refine AWp.region (id := 16) ?_
               refine AList.add rfl rfl rfl rfl (by omega) (by omega) ?_
               refine AList.move rfl rfl rfl ?_
               refine AList.nil ?_))
          refine ⟨0 + 1, by omega, Wk.mk [(10, some 10), (11, some 11)] rfl rfl rfl ?_ ?_, by omega⟩
          · repeat (first | exact trivial | refine ⟨⟨_, rfl, by first | exact LeA.c (LeC.refl _ rfl) | exact LeA.c (LeC.ow _ _ rfl) | exact LeA.c (LeC.pt _ _ _ _ _ rfl) | exact LeA.c (LeC.nil _ rfl) | exact LeA.c (LeC.nils _ _) | (refine LeA.int ?_; omega) | (refine LeA.int ?_; dsimp only; omega) | exact LeA.c (LeC.fz rfl rfl (by first | rfl | omega) (fun i _ j _ => ⟨rfl, by first | rfl | exact rowN_imm (fun _ => rfl) _ i j | exact rowF_imm (fun _ => rfl) _ i j⟩))⟩, ?_⟩)
          · repeat (first | exact trivial | refine ⟨by first | exact HeapOk.same rfl rfl rfl rfl | exact HeapOk.lent rfl rfl rfl rfl | exact HeapOk.nil rfl rfl | exact HeapOk.row rfl rfl (by first | rfl | omega) (fun i _ j _ => ⟨rfl, by first | rfl | exact rowN_imm (fun _ => rfl) _ i j | exact rowF_imm (fun _ => rfl) _ i j⟩) | exact HeapOk.box rfl rfl (by repeat (first | exact trivial | refine ⟨by first | exact LeC.refl _ rfl | exact LeC.ow _ _ rfl | exact LeC.nil _ rfl | exact LeC.nils _ _ | exact LeC.fz rfl rfl (by first | rfl | omega) (fun i _ j _ => ⟨rfl, by first | rfl | exact rowN_imm (fun _ => rfl) _ i j | exact rowF_imm (fun _ => rfl) _ i j⟩) | exact LeC.int (by omega), ?_⟩)) rfl, ?_⟩)
        · obtain ⟨he1, hvo⟩ := hwt rfl
          rw [he1] at hP
          dsimp only at hvo
          subst hvo
          repeat (first
            | refine AWp.seq ?_
            | refine thenA_n ?_
            | refine AWp.block ?_
            | refine AWp.skip ?_
            | refine inBlk_n ?_
            | refine AWp.condT rfl (by first | rfl | assumption | exact cmT) ?_
            | refine AWp.condF rfl (by first | rfl | assumption | exact cmF) ?_
            | (refine AWp.region (id := 5) ?_
               refine AList.cmpT rfl rfl rfl rfl rfl cmT ?_
               refine AList.nil ?_)
            | (refine AWp.region (id := 6) ?_
               refine AList.idx (k := 0) tyOk rfl rfl rfl rfl rfl rfl rfl rfl (by first | rfl | omega) oM oM ?_
               refine AList.loadAl tyOk rfl rfl rfl rfl rfl oM ?_
               refine AList.alloc tyOk rfl rfl rfl rfl rfl ?_
               refine AList.store tyOk rfl rfl rfl rfl rfl rfl rfl rfl oM oM ?_
               refine AList.nil ?_)
            | (refine AWp.region (id := 7) ?_
               refine AList.loadA tyOk rfl rfl rfl rfl rfl rfl rfl oM oM ?_
               refine AList.loadA tyOk rfl rfl rfl rfl rfl rfl rfl oM oM ?_
               refine AList.call rfl rfl rfl rfl Try.func24 rfl (by kernel_rfl) (hP) ?_
               refine AList.move rfl rfl rfl ?_
               refine AList.extract rfl rfl rfl rfl ?_
               refine AList.extract rfl rfl rfl rfl ?_
               refine AList.alloc tyOk rfl rfl rfl rfl rfl ?_
               refine AList.store tyOk rfl rfl rfl rfl rfl rfl rfl rfl oM oM ?_
               refine AList.assign rfl rfl rfl ?_
               refine AList.nil ?_)
            | (refine AWp.region (id := 8) ?_
               refine AList.loadA tyOk rfl rfl rfl rfl rfl rfl rfl oM oM ?_
               refine AList.loadA tyOk rfl rfl rfl rfl rfl rfl rfl oM oM ?_
               refine AList.loadA tyOk rfl rfl rfl rfl rfl rfl rfl oM oM ?_
               refine AList.call rfl rfl rfl rfl Try.func20 rfl (by kernel_rfl) (hE) ?_
               refine AList.move rfl rfl rfl ?_
               refine AList.extract rfl rfl rfl rfl ?_
               refine AList.extract rfl rfl rfl rfl ?_
               refine AList.alloc tyOk rfl rfl rfl rfl rfl ?_
               refine AList.store tyOk rfl rfl rfl rfl rfl rfl rfl rfl oM oM ?_
               refine AList.assign rfl rfl rfl ?_
               refine AList.nil ?_)
            | (refine AWp.region (id := 9) ?_
               refine AList.loadA tyOk rfl rfl rfl rfl rfl rfl rfl oM oM ?_
               refine AList.loadA tyOk rfl rfl rfl rfl rfl rfl rfl oM oM ?_
               refine AList.loadA tyOk rfl rfl rfl rfl rfl rfl rfl oM oM ?_
               refine AList.call rfl rfl rfl rfl Try.func26 rfl (by kernel_rfl) (hW) ?_
               refine AList.move rfl rfl rfl ?_
               refine AList.move rfl rfl rfl ?_
               refine AList.cmp rfl rfl rfl rfl rfl ?_
               refine AList.move rfl rfl rfl ?_
               refine AList.move rfl rfl rfl ?_
               refine AList.notB rfl rfl rfl ?_
               refine AList.pickF rfl rfl rfl rfl ?_
               refine AList.pickT rfl rfl rfl rfl ?_
               refine AList.nil ?_)
            | (refine AWp.region (id := 11) ?_
               refine AList.loadA tyOk rfl rfl rfl rfl rfl rfl rfl oM oM ?_
               refine AList.fieldPt tyOk rfl rfl rfl rfl rfl rfl rfl ?_
               refine AList.load1 tyOk rfl rfl rfl rfl rfl rfl rfl oM oM ?_
               refine AList.fieldPt tyOk rfl rfl rfl rfl rfl rfl rfl ?_
               refine AList.load1 tyOk rfl rfl rfl rfl rfl rfl rfl oM oM ?_
               refine AList.buildSt tyOk rfl rfl rfl rfl rfl rfl rfl rfl ?_
               refine AList.call rfl rfl rfl rfl Try.func24 rfl (by kernel_rfl) (hQ) ?_
               refine AList.move rfl rfl rfl ?_
               refine AList.extract rfl rfl rfl rfl ?_
               refine AList.extract rfl rfl rfl rfl ?_
               refine AList.alloc tyOk rfl rfl rfl rfl rfl ?_
               refine AList.store tyOk rfl rfl rfl rfl rfl rfl rfl rfl oM oM ?_
               refine AList.assign rfl rfl rfl ?_
               refine AList.nil ?_)
            | (refine AWp.region (id := 12) ?_
               refine AList.move rfl rfl rfl ?_
               refine AList.cmp rfl rfl rfl rfl rfl ?_
               refine AList.nil ?_)
            | (refine AWp.region (id := 13) ?_
               refine AList.loadA tyOk rfl rfl rfl rfl rfl rfl rfl oM oM ?_
               refine AList.loadA tyOk rfl rfl rfl rfl rfl rfl rfl oM oM ?_
               refine AList.buildSt tyOk rfl rfl rfl rfl rfl rfl rfl rfl ?_
               refine AList.call rfl rfl rfl rfl Try.func20 rfl (by kernel_rfl) (hT) ?_
               refine AList.move rfl rfl rfl ?_
               refine AList.extract rfl rfl rfl rfl ?_
               refine AList.extract rfl rfl rfl rfl ?_
               refine AList.alloc tyOk rfl rfl rfl rfl rfl ?_
               refine AList.store tyOk rfl rfl rfl rfl rfl rfl rfl rfl oM oM ?_
               refine AList.assign rfl rfl rfl ?_
               refine AList.nil ?_)
            | (refine AWp.region (id := 14) ?_
               refine AList.move rfl rfl rfl ?_
               refine AList.notB rfl rfl rfl ?_
               refine AList.move rfl rfl rfl ?_
               refine AList.loadA tyOk rfl rfl rfl rfl rfl rfl rfl oM oM ?_
               refine AList.buildSt tyOk rfl rfl rfl rfl rfl rfl rfl rfl ?_
               refine AList.binAg rfl rfl rfl rfl rfl rfl (by kernel_rfl) (mc_neS ⟨0, 0, 0, 0⟩) ?_
               refine AList.pickF rfl rfl rfl rfl ?_
               refine AList.nil ?_)
            | (refine AWp.region (id := 16) ?_
               refine AList.add rfl rfl rfl rfl (by omega) (by omega) ?_
               refine AList.move rfl rfl rfl ?_
               refine AList.nil ?_))
          refine ⟨0 + 1, by omega, Wk.mk [(10, some 10), (11, some 11)] rfl rfl rfl ?_ ?_, by omega⟩
          · repeat (first | exact trivial | refine ⟨⟨_, rfl, by first | exact LeA.c (LeC.refl _ rfl) | exact LeA.c (LeC.ow _ _ rfl) | exact LeA.c (LeC.pt _ _ _ _ _ rfl) | exact LeA.c (LeC.nil _ rfl) | exact LeA.c (LeC.nils _ _) | (refine LeA.int ?_; omega) | (refine LeA.int ?_; dsimp only; omega) | exact LeA.c (LeC.fz rfl rfl (by first | rfl | omega) (fun i _ j _ => ⟨rfl, by first | rfl | exact rowN_imm (fun _ => rfl) _ i j | exact rowF_imm (fun _ => rfl) _ i j⟩))⟩, ?_⟩)
          · repeat (first | exact trivial | refine ⟨by first | exact HeapOk.same rfl rfl rfl rfl | exact HeapOk.lent rfl rfl rfl rfl | exact HeapOk.nil rfl rfl | exact HeapOk.row rfl rfl (by first | rfl | omega) (fun i _ j _ => ⟨rfl, by first | rfl | exact rowN_imm (fun _ => rfl) _ i j | exact rowF_imm (fun _ => rfl) _ i j⟩) | exact HeapOk.box rfl rfl (by repeat (first | exact trivial | refine ⟨by first | exact LeC.refl _ rfl | exact LeC.ow _ _ rfl | exact LeC.nil _ rfl | exact LeC.nils _ _ | exact LeC.fz rfl rfl (by first | rfl | omega) (fun i _ j _ => ⟨rfl, by first | rfl | exact rowN_imm (fun _ => rfl) _ i j | exact rowF_imm (fun _ => rfl) _ i j⟩) | exact LeC.int (by omega), ?_⟩)) rfl, ?_⟩)
      · obtain ⟨e2, hee⟩ : ∃ e2, apE b (ht0 h.fr h.ti) = e2 := ⟨_, rfl⟩
        rw [hee] at hQ he2
        cases wi
        · repeat (first
            | refine AWp.seq ?_
            | refine thenA_n ?_
            | refine AWp.block ?_
            | refine AWp.skip ?_
            | refine AWp.exit ?_
            | refine thenA_e ?_
            | refine inBlk_hit ?_
            | refine AWp.condT rfl (by first | rfl | assumption | exact cmT) ?_
            | refine AWp.condF rfl (by first | rfl | assumption | exact cmF) ?_
            | (refine AWp.region (id := 5) ?_
               refine AList.cmpT rfl rfl rfl rfl rfl cmT ?_
               refine AList.nil ?_)
            | (refine AWp.region (id := 6) ?_
               refine AList.idx (k := 0) tyOk rfl rfl rfl rfl rfl rfl rfl rfl (by first | rfl | omega) oM oM ?_
               refine AList.loadAl tyOk rfl rfl rfl rfl rfl oM ?_
               refine AList.alloc tyOk rfl rfl rfl rfl rfl ?_
               refine AList.store tyOk rfl rfl rfl rfl rfl rfl rfl rfl oM oM ?_
               refine AList.nil ?_)
            | (refine AWp.region (id := 7) ?_
               refine AList.loadA tyOk rfl rfl rfl rfl rfl rfl rfl oM oM ?_
               refine AList.loadA tyOk rfl rfl rfl rfl rfl rfl rfl oM oM ?_
               refine AList.call rfl rfl rfl rfl Try.func24 rfl (by kernel_rfl) (hP) ?_
               refine AList.move rfl rfl rfl ?_
               refine AList.extract rfl rfl rfl rfl ?_
               refine AList.extract rfl rfl rfl rfl ?_
               refine AList.alloc tyOk rfl rfl rfl rfl rfl ?_
               refine AList.store tyOk rfl rfl rfl rfl rfl rfl rfl rfl oM oM ?_
               refine AList.assign rfl rfl rfl ?_
               refine AList.nil ?_)
            | (refine AWp.region (id := 8) ?_
               refine AList.loadA tyOk rfl rfl rfl rfl rfl rfl rfl oM oM ?_
               refine AList.loadA tyOk rfl rfl rfl rfl rfl rfl rfl oM oM ?_
               refine AList.loadA tyOk rfl rfl rfl rfl rfl rfl rfl oM oM ?_
               refine AList.call rfl rfl rfl rfl Try.func20 rfl (by kernel_rfl) (hE) ?_
               refine AList.move rfl rfl rfl ?_
               refine AList.extract rfl rfl rfl rfl ?_
               refine AList.extract rfl rfl rfl rfl ?_
               refine AList.alloc tyOk rfl rfl rfl rfl rfl ?_
               refine AList.store tyOk rfl rfl rfl rfl rfl rfl rfl rfl oM oM ?_
               refine AList.assign rfl rfl rfl ?_
               refine AList.nil ?_)
            | (refine AWp.region (id := 9) ?_
               refine AList.loadA tyOk rfl rfl rfl rfl rfl rfl rfl oM oM ?_
               refine AList.loadA tyOk rfl rfl rfl rfl rfl rfl rfl oM oM ?_
               refine AList.loadA tyOk rfl rfl rfl rfl rfl rfl rfl oM oM ?_
               refine AList.call rfl rfl rfl rfl Try.func26 rfl (by kernel_rfl) (hW) ?_
               refine AList.move rfl rfl rfl ?_
               refine AList.skip rfl rfl ?_
               refine AList.skip rfl rfl ?_
               refine AList.skip rfl rfl ?_
               refine AList.skip rfl rfl ?_
               refine AList.skip rfl rfl ?_
               refine AList.skip rfl rfl ?_
               refine AList.pickF rfl rfl rfl rfl ?_
               refine AList.nil ?_)
            | (refine AWp.region (id := 11) ?_
               refine AList.loadA tyOk rfl rfl rfl rfl rfl rfl rfl oM oM ?_
               refine AList.fieldPt tyOk rfl rfl rfl rfl rfl rfl rfl ?_
               refine AList.load1 tyOk rfl rfl rfl rfl rfl rfl rfl oM oM ?_
               refine AList.fieldPt tyOk rfl rfl rfl rfl rfl rfl rfl ?_
               refine AList.load1 tyOk rfl rfl rfl rfl rfl rfl rfl oM oM ?_
               refine AList.buildSt tyOk rfl rfl rfl rfl rfl rfl rfl rfl ?_
               refine AList.call rfl rfl rfl rfl Try.func24 rfl (by kernel_rfl) (hQ) ?_
               refine AList.move rfl rfl rfl ?_
               refine AList.extract rfl rfl rfl rfl ?_
               refine AList.extract rfl rfl rfl rfl ?_
               refine AList.alloc tyOk rfl rfl rfl rfl rfl ?_
               refine AList.store tyOk rfl rfl rfl rfl rfl rfl rfl rfl oM oM ?_
               refine AList.assign rfl rfl rfl ?_
               refine AList.nil ?_)
            | (refine AWp.region (id := 12) ?_
               refine AList.move rfl rfl rfl ?_
               refine AList.cmpT rfl rfl rfl rfl rfl cmT ?_
               refine AList.nil ?_)
            | (refine AWp.region (id := 16) ?_
               refine AList.add rfl rfl rfl rfl (by omega) (by omega) ?_
               refine AList.move rfl rfl rfl ?_
               refine AList.nil ?_))
          refine ⟨0 + 1, by omega, Wk.mk [(10, some 10), (11, some 11)] rfl rfl rfl ?_ ?_, by omega⟩
          · repeat (first | exact trivial | refine ⟨⟨_, rfl, by first | exact LeA.c (LeC.refl _ rfl) | exact LeA.c (LeC.ow _ _ rfl) | exact LeA.c (LeC.pt _ _ _ _ _ rfl) | exact LeA.c (LeC.nil _ rfl) | exact LeA.c (LeC.nils _ _) | (refine LeA.int ?_; omega) | (refine LeA.int ?_; dsimp only; omega) | exact LeA.c (LeC.fz rfl rfl (by first | rfl | omega) (fun i _ j _ => ⟨rfl, by first | rfl | exact rowN_imm (fun _ => rfl) _ i j | exact rowF_imm (fun _ => rfl) _ i j⟩))⟩, ?_⟩)
          · repeat (first | exact trivial | refine ⟨by first | exact HeapOk.same rfl rfl rfl rfl | exact HeapOk.lent rfl rfl rfl rfl | exact HeapOk.nil rfl rfl | exact HeapOk.row rfl rfl (by first | rfl | omega) (fun i _ j _ => ⟨rfl, by first | rfl | exact rowN_imm (fun _ => rfl) _ i j | exact rowF_imm (fun _ => rfl) _ i j⟩) | exact HeapOk.box rfl rfl (by repeat (first | exact trivial | refine ⟨by first | exact LeC.refl _ rfl | exact LeC.ow _ _ rfl | exact LeC.nil _ rfl | exact LeC.nils _ _ | exact LeC.fz rfl rfl (by first | rfl | omega) (fun i _ j _ => ⟨rfl, by first | rfl | exact rowN_imm (fun _ => rfl) _ i j | exact rowF_imm (fun _ => rfl) _ i j⟩) | exact LeC.int (by omega), ?_⟩)) rfl, ?_⟩)
        · obtain ⟨he1, hvo⟩ := hwt rfl
          rw [he1] at hP
          dsimp only at hvo
          subst hvo
          repeat (first
            | refine AWp.seq ?_
            | refine thenA_n ?_
            | refine AWp.block ?_
            | refine AWp.skip ?_
            | refine AWp.exit ?_
            | refine thenA_e ?_
            | refine inBlk_hit ?_
            | refine AWp.condT rfl (by first | rfl | assumption | exact cmT) ?_
            | refine AWp.condF rfl (by first | rfl | assumption | exact cmF) ?_
            | (refine AWp.region (id := 5) ?_
               refine AList.cmpT rfl rfl rfl rfl rfl cmT ?_
               refine AList.nil ?_)
            | (refine AWp.region (id := 6) ?_
               refine AList.idx (k := 0) tyOk rfl rfl rfl rfl rfl rfl rfl rfl (by first | rfl | omega) oM oM ?_
               refine AList.loadAl tyOk rfl rfl rfl rfl rfl oM ?_
               refine AList.alloc tyOk rfl rfl rfl rfl rfl ?_
               refine AList.store tyOk rfl rfl rfl rfl rfl rfl rfl rfl oM oM ?_
               refine AList.nil ?_)
            | (refine AWp.region (id := 7) ?_
               refine AList.loadA tyOk rfl rfl rfl rfl rfl rfl rfl oM oM ?_
               refine AList.loadA tyOk rfl rfl rfl rfl rfl rfl rfl oM oM ?_
               refine AList.call rfl rfl rfl rfl Try.func24 rfl (by kernel_rfl) (hP) ?_
               refine AList.move rfl rfl rfl ?_
               refine AList.extract rfl rfl rfl rfl ?_
               refine AList.extract rfl rfl rfl rfl ?_
               refine AList.alloc tyOk rfl rfl rfl rfl rfl ?_
               refine AList.store tyOk rfl rfl rfl rfl rfl rfl rfl rfl oM oM ?_
               refine AList.assign rfl rfl rfl ?_
               refine AList.nil ?_)
            | (refine AWp.region (id := 8) ?_
               refine AList.loadA tyOk rfl rfl rfl rfl rfl rfl rfl oM oM ?_
               refine AList.loadA tyOk rfl rfl rfl rfl rfl rfl rfl oM oM ?_
               refine AList.loadA tyOk rfl rfl rfl rfl rfl rfl rfl oM oM ?_
               refine AList.call rfl rfl rfl rfl Try.func20 rfl (by kernel_rfl) (hE) ?_
               refine AList.move rfl rfl rfl ?_
               refine AList.extract rfl rfl rfl rfl ?_
               refine AList.extract rfl rfl rfl rfl ?_
               refine AList.alloc tyOk rfl rfl rfl rfl rfl ?_
               refine AList.store tyOk rfl rfl rfl rfl rfl rfl rfl rfl oM oM ?_
               refine AList.assign rfl rfl rfl ?_
               refine AList.nil ?_)
            | (refine AWp.region (id := 9) ?_
               refine AList.loadA tyOk rfl rfl rfl rfl rfl rfl rfl oM oM ?_
               refine AList.loadA tyOk rfl rfl rfl rfl rfl rfl rfl oM oM ?_
               refine AList.loadA tyOk rfl rfl rfl rfl rfl rfl rfl oM oM ?_
               refine AList.call rfl rfl rfl rfl Try.func26 rfl (by kernel_rfl) (hW) ?_
               refine AList.move rfl rfl rfl ?_
               refine AList.move rfl rfl rfl ?_
               refine AList.cmp rfl rfl rfl rfl rfl ?_
               refine AList.move rfl rfl rfl ?_
               refine AList.move rfl rfl rfl ?_
               refine AList.notB rfl rfl rfl ?_
               refine AList.pickF rfl rfl rfl rfl ?_
               refine AList.pickT rfl rfl rfl rfl ?_
               refine AList.nil ?_)
            | (refine AWp.region (id := 11) ?_
               refine AList.loadA tyOk rfl rfl rfl rfl rfl rfl rfl oM oM ?_
               refine AList.fieldPt tyOk rfl rfl rfl rfl rfl rfl rfl ?_
               refine AList.load1 tyOk rfl rfl rfl rfl rfl rfl rfl oM oM ?_
               refine AList.fieldPt tyOk rfl rfl rfl rfl rfl rfl rfl ?_
               refine AList.load1 tyOk rfl rfl rfl rfl rfl rfl rfl oM oM ?_
               refine AList.buildSt tyOk rfl rfl rfl rfl rfl rfl rfl rfl ?_
               refine AList.call rfl rfl rfl rfl Try.func24 rfl (by kernel_rfl) (hQ) ?_
               refine AList.move rfl rfl rfl ?_
               refine AList.extract rfl rfl rfl rfl ?_
               refine AList.extract rfl rfl rfl rfl ?_
               refine AList.alloc tyOk rfl rfl rfl rfl rfl ?_
               refine AList.store tyOk rfl rfl rfl rfl rfl rfl rfl rfl oM oM ?_
               refine AList.assign rfl rfl rfl ?_
               refine AList.nil ?_)
            | (refine AWp.region (id := 12) ?_
               refine AList.move rfl rfl rfl ?_
               refine AList.cmpT rfl rfl rfl rfl rfl cmT ?_
               refine AList.nil ?_)
            | (refine AWp.region (id := 16) ?_
               refine AList.add rfl rfl rfl rfl (by omega) (by omega) ?_
               refine AList.move rfl rfl rfl ?_
               refine AList.nil ?_))
          refine ⟨0 + 1, by omega, Wk.mk [(10, some 10), (11, some 11)] rfl rfl rfl ?_ ?_, by omega⟩
          · repeat (first | exact trivial | refine ⟨⟨_, rfl, by first | exact LeA.c (LeC.refl _ rfl) | exact LeA.c (LeC.ow _ _ rfl) | exact LeA.c (LeC.pt _ _ _ _ _ rfl) | exact LeA.c (LeC.nil _ rfl) | exact LeA.c (LeC.nils _ _) | (refine LeA.int ?_; omega) | (refine LeA.int ?_; dsimp only; omega) | exact LeA.c (LeC.fz rfl rfl (by first | rfl | omega) (fun i _ j _ => ⟨rfl, by first | rfl | exact rowN_imm (fun _ => rfl) _ i j | exact rowF_imm (fun _ => rfl) _ i j⟩))⟩, ?_⟩)
          · repeat (first | exact trivial | refine ⟨by first | exact HeapOk.same rfl rfl rfl rfl | exact HeapOk.lent rfl rfl rfl rfl | exact HeapOk.nil rfl rfl | exact HeapOk.row rfl rfl (by first | rfl | omega) (fun i _ j _ => ⟨rfl, by first | rfl | exact rowN_imm (fun _ => rfl) _ i j | exact rowF_imm (fun _ => rfl) _ i j⟩) | exact HeapOk.box rfl rfl (by repeat (first | exact trivial | refine ⟨by first | exact LeC.refl _ rfl | exact LeC.ow _ _ rfl | exact LeC.nil _ rfl | exact LeC.nils _ _ | exact LeC.fz rfl rfl (by first | rfl | omega) (fun i _ j _ => ⟨rfl, by first | rfl | exact rowN_imm (fun _ => rfl) _ i j | exact rowF_imm (fun _ => rfl) _ i j⟩) | exact LeC.int (by omega), ?_⟩)) rfl, ?_⟩)
    · have hP := pApply_A b r (by omega) (by omega)
      rw [apV, apJ_c] at hP
      have hE := pExplains_A (apJ b r) b x (apJ_n hb _)
      have hW := pWithin_A b r x (by omega) (by omega)
      have hQ := (pApply_A b (ht0 r.fr r.ti) (Nat.zero_le _) (Nat.zero_le _)).cv (args' := [.ag (bpC b), .ag (ht0C r.fr r.ti)]) ⟨.ag (bp_cv b), .ag (ht0_cv _ _), trivial⟩
      rw [apV, apJ_c] at hQ
      have hT := pExplains_A (apJ b (ht0 r.fr r.ti)) b bgZ (apJ_n hb _)
      have hwt : wiB b r x = true → apE b r = 0 ∧ (exV (apJ b r) b x).2 = true := fun hw => ⟨wi_ok hw, by unfold apJ; rw [if_pos (wi_ok hw)]; exact wi_explains hw⟩
      have htt : apE b (ht0 r.fr r.ti) = 0 → exV (apJ b (ht0 r.fr r.ti)) b bgZ = (⟨0, 0, 0, 0⟩, true) := fun he => by unfold apJ; rw [if_pos he]; exact torn_explains he
      obtain ⟨V, hV⟩ : ∃ V, exV (apJ b r) b x = V := ⟨_, rfl⟩
      rw [hV] at hE hwt
      obtain ⟨vm, vo⟩ := V
      obtain ⟨wi, hwi⟩ : ∃ wi, wiB b r x = wi := ⟨_, rfl⟩
      rw [hwi] at hW hwt
      by_cases he2 : apE b (ht0 r.fr r.ti) = 0
      · rw [htt he2] at hT
        rw [he2] at hQ
        cases wi
        · repeat (first
            | refine AWp.seq ?_
            | refine thenA_n ?_
            | refine AWp.block ?_
            | refine AWp.skip ?_
            | refine inBlk_n ?_
            | refine AWp.condT rfl (by first | rfl | assumption | exact cmT) ?_
            | refine AWp.condF rfl (by first | rfl | assumption | exact cmF) ?_
            | (refine AWp.region (id := 5) ?_
               refine AList.cmpT rfl rfl rfl rfl rfl cmT ?_
               refine AList.nil ?_)
            | (refine AWp.region (id := 6) ?_
               refine AList.idx (k := 1) tyOk rfl rfl rfl rfl rfl rfl rfl rfl (by first | rfl | omega) oM oM ?_
               refine AList.loadAl tyOk rfl rfl rfl rfl rfl oM ?_
               refine AList.alloc tyOk rfl rfl rfl rfl rfl ?_
               refine AList.store tyOk rfl rfl rfl rfl rfl rfl rfl rfl oM oM ?_
               refine AList.nil ?_)
            | (refine AWp.region (id := 7) ?_
               refine AList.loadA tyOk rfl rfl rfl rfl rfl rfl rfl oM oM ?_
               refine AList.loadA tyOk rfl rfl rfl rfl rfl rfl rfl oM oM ?_
               refine AList.call rfl rfl rfl rfl Try.func24 rfl (by kernel_rfl) (hP) ?_
               refine AList.move rfl rfl rfl ?_
               refine AList.extract rfl rfl rfl rfl ?_
               refine AList.extract rfl rfl rfl rfl ?_
               refine AList.alloc tyOk rfl rfl rfl rfl rfl ?_
               refine AList.store tyOk rfl rfl rfl rfl rfl rfl rfl rfl oM oM ?_
               refine AList.assign rfl rfl rfl ?_
               refine AList.nil ?_)
            | (refine AWp.region (id := 8) ?_
               refine AList.loadA tyOk rfl rfl rfl rfl rfl rfl rfl oM oM ?_
               refine AList.loadA tyOk rfl rfl rfl rfl rfl rfl rfl oM oM ?_
               refine AList.loadA tyOk rfl rfl rfl rfl rfl rfl rfl oM oM ?_
               refine AList.call rfl rfl rfl rfl Try.func20 rfl (by kernel_rfl) (hE) ?_
               refine AList.move rfl rfl rfl ?_
               refine AList.extract rfl rfl rfl rfl ?_
               refine AList.extract rfl rfl rfl rfl ?_
               refine AList.alloc tyOk rfl rfl rfl rfl rfl ?_
               refine AList.store tyOk rfl rfl rfl rfl rfl rfl rfl rfl oM oM ?_
               refine AList.assign rfl rfl rfl ?_
               refine AList.nil ?_)
            | (refine AWp.region (id := 9) ?_
               refine AList.loadA tyOk rfl rfl rfl rfl rfl rfl rfl oM oM ?_
               refine AList.loadA tyOk rfl rfl rfl rfl rfl rfl rfl oM oM ?_
               refine AList.loadA tyOk rfl rfl rfl rfl rfl rfl rfl oM oM ?_
               refine AList.call rfl rfl rfl rfl Try.func26 rfl (by kernel_rfl) (hW) ?_
               refine AList.move rfl rfl rfl ?_
               refine AList.skip rfl rfl ?_
               refine AList.skip rfl rfl ?_
               refine AList.skip rfl rfl ?_
               refine AList.skip rfl rfl ?_
               refine AList.skip rfl rfl ?_
               refine AList.skip rfl rfl ?_
               refine AList.pickF rfl rfl rfl rfl ?_
               refine AList.nil ?_)
            | (refine AWp.region (id := 11) ?_
               refine AList.loadA tyOk rfl rfl rfl rfl rfl rfl rfl oM oM ?_
               refine AList.fieldPt tyOk rfl rfl rfl rfl rfl rfl rfl ?_
               refine AList.load1 tyOk rfl rfl rfl rfl rfl rfl rfl oM oM ?_
               refine AList.fieldPt tyOk rfl rfl rfl rfl rfl rfl rfl ?_
               refine AList.load1 tyOk rfl rfl rfl rfl rfl rfl rfl oM oM ?_
               refine AList.buildSt tyOk rfl rfl rfl rfl rfl rfl rfl rfl ?_
               refine AList.call rfl rfl rfl rfl Try.func24 rfl (by kernel_rfl) (hQ) ?_
               refine AList.move rfl rfl rfl ?_
               refine AList.extract rfl rfl rfl rfl ?_
               refine AList.extract rfl rfl rfl rfl ?_
               refine AList.alloc tyOk rfl rfl rfl rfl rfl ?_
               refine AList.store tyOk rfl rfl rfl rfl rfl rfl rfl rfl oM oM ?_
               refine AList.assign rfl rfl rfl ?_
               refine AList.nil ?_)
            | (refine AWp.region (id := 12) ?_
               refine AList.move rfl rfl rfl ?_
               refine AList.cmp rfl rfl rfl rfl rfl ?_
               refine AList.nil ?_)
            | (refine AWp.region (id := 13) ?_
               refine AList.loadA tyOk rfl rfl rfl rfl rfl rfl rfl oM oM ?_
               refine AList.loadA tyOk rfl rfl rfl rfl rfl rfl rfl oM oM ?_
               refine AList.buildSt tyOk rfl rfl rfl rfl rfl rfl rfl rfl ?_
               refine AList.call rfl rfl rfl rfl Try.func20 rfl (by kernel_rfl) (hT) ?_
               refine AList.move rfl rfl rfl ?_
               refine AList.extract rfl rfl rfl rfl ?_
               refine AList.extract rfl rfl rfl rfl ?_
               refine AList.alloc tyOk rfl rfl rfl rfl rfl ?_
               refine AList.store tyOk rfl rfl rfl rfl rfl rfl rfl rfl oM oM ?_
               refine AList.assign rfl rfl rfl ?_
               refine AList.nil ?_)
            | (refine AWp.region (id := 14) ?_
               refine AList.move rfl rfl rfl ?_
               refine AList.notB rfl rfl rfl ?_
               refine AList.move rfl rfl rfl ?_
               refine AList.loadA tyOk rfl rfl rfl rfl rfl rfl rfl oM oM ?_
               refine AList.buildSt tyOk rfl rfl rfl rfl rfl rfl rfl rfl ?_
               refine AList.binAg rfl rfl rfl rfl rfl rfl (by kernel_rfl) (mc_neS ⟨0, 0, 0, 0⟩) ?_
               refine AList.pickF rfl rfl rfl rfl ?_
               refine AList.nil ?_)
            | (refine AWp.region (id := 16) ?_
               refine AList.add rfl rfl rfl rfl (by omega) (by omega) ?_
               refine AList.move rfl rfl rfl ?_
               refine AList.nil ?_))
          refine ⟨1 + 1, by omega, Wk.mk [(10, some 10), (11, some 11)] rfl rfl rfl ?_ ?_, by omega⟩
          · repeat (first | exact trivial | refine ⟨⟨_, rfl, by first | exact LeA.c (LeC.refl _ rfl) | exact LeA.c (LeC.ow _ _ rfl) | exact LeA.c (LeC.pt _ _ _ _ _ rfl) | exact LeA.c (LeC.nil _ rfl) | exact LeA.c (LeC.nils _ _) | (refine LeA.int ?_; omega) | (refine LeA.int ?_; dsimp only; omega) | exact LeA.c (LeC.fz rfl rfl (by first | rfl | omega) (fun i _ j _ => ⟨rfl, by first | rfl | exact rowN_imm (fun _ => rfl) _ i j | exact rowF_imm (fun _ => rfl) _ i j⟩))⟩, ?_⟩)
          · repeat (first | exact trivial | refine ⟨by first | exact HeapOk.same rfl rfl rfl rfl | exact HeapOk.lent rfl rfl rfl rfl | exact HeapOk.nil rfl rfl | exact HeapOk.row rfl rfl (by first | rfl | omega) (fun i _ j _ => ⟨rfl, by first | rfl | exact rowN_imm (fun _ => rfl) _ i j | exact rowF_imm (fun _ => rfl) _ i j⟩) | exact HeapOk.box rfl rfl (by repeat (first | exact trivial | refine ⟨by first | exact LeC.refl _ rfl | exact LeC.ow _ _ rfl | exact LeC.nil _ rfl | exact LeC.nils _ _ | exact LeC.fz rfl rfl (by first | rfl | omega) (fun i _ j _ => ⟨rfl, by first | rfl | exact rowN_imm (fun _ => rfl) _ i j | exact rowF_imm (fun _ => rfl) _ i j⟩) | exact LeC.int (by omega), ?_⟩)) rfl, ?_⟩)
        · obtain ⟨he1, hvo⟩ := hwt rfl
          rw [he1] at hP
          dsimp only at hvo
          subst hvo
          repeat (first
            | refine AWp.seq ?_
            | refine thenA_n ?_
            | refine AWp.block ?_
            | refine AWp.skip ?_
            | refine inBlk_n ?_
            | refine AWp.condT rfl (by first | rfl | assumption | exact cmT) ?_
            | refine AWp.condF rfl (by first | rfl | assumption | exact cmF) ?_
            | (refine AWp.region (id := 5) ?_
               refine AList.cmpT rfl rfl rfl rfl rfl cmT ?_
               refine AList.nil ?_)
            | (refine AWp.region (id := 6) ?_
               refine AList.idx (k := 1) tyOk rfl rfl rfl rfl rfl rfl rfl rfl (by first | rfl | omega) oM oM ?_
               refine AList.loadAl tyOk rfl rfl rfl rfl rfl oM ?_
               refine AList.alloc tyOk rfl rfl rfl rfl rfl ?_
               refine AList.store tyOk rfl rfl rfl rfl rfl rfl rfl rfl oM oM ?_
               refine AList.nil ?_)
            | (refine AWp.region (id := 7) ?_
               refine AList.loadA tyOk rfl rfl rfl rfl rfl rfl rfl oM oM ?_
               refine AList.loadA tyOk rfl rfl rfl rfl rfl rfl rfl oM oM ?_
               refine AList.call rfl rfl rfl rfl Try.func24 rfl (by kernel_rfl) (hP) ?_
               refine AList.move rfl rfl rfl ?_
               refine AList.extract rfl rfl rfl rfl ?_
               refine AList.extract rfl rfl rfl rfl ?_
               refine AList.alloc tyOk rfl rfl rfl rfl rfl ?_
               refine AList.store tyOk rfl rfl rfl rfl rfl rfl rfl rfl oM oM ?_
               refine AList.assign rfl rfl rfl ?_
               refine AList.nil ?_)
            | (refine AWp.region (id := 8) ?_
               refine AList.loadA tyOk rfl rfl rfl rfl rfl rfl rfl oM oM ?_
               refine AList.loadA tyOk rfl rfl rfl rfl rfl rfl rfl oM oM ?_
               refine AList.loadA tyOk rfl rfl rfl rfl rfl rfl rfl oM oM ?_
               refine AList.call rfl rfl rfl rfl Try.func20 rfl (by kernel_rfl) (hE) ?_
               refine AList.move rfl rfl rfl ?_
               refine AList.extract rfl rfl rfl rfl ?_
               refine AList.extract rfl rfl rfl rfl ?_
               refine AList.alloc tyOk rfl rfl rfl rfl rfl ?_
               refine AList.store tyOk rfl rfl rfl rfl rfl rfl rfl rfl oM oM ?_
               refine AList.assign rfl rfl rfl ?_
               refine AList.nil ?_)
            | (refine AWp.region (id := 9) ?_
               refine AList.loadA tyOk rfl rfl rfl rfl rfl rfl rfl oM oM ?_
               refine AList.loadA tyOk rfl rfl rfl rfl rfl rfl rfl oM oM ?_
               refine AList.loadA tyOk rfl rfl rfl rfl rfl rfl rfl oM oM ?_
               refine AList.call rfl rfl rfl rfl Try.func26 rfl (by kernel_rfl) (hW) ?_
               refine AList.move rfl rfl rfl ?_
               refine AList.move rfl rfl rfl ?_
               refine AList.cmp rfl rfl rfl rfl rfl ?_
               refine AList.move rfl rfl rfl ?_
               refine AList.move rfl rfl rfl ?_
               refine AList.notB rfl rfl rfl ?_
               refine AList.pickF rfl rfl rfl rfl ?_
               refine AList.pickT rfl rfl rfl rfl ?_
               refine AList.nil ?_)
            | (refine AWp.region (id := 11) ?_
               refine AList.loadA tyOk rfl rfl rfl rfl rfl rfl rfl oM oM ?_
               refine AList.fieldPt tyOk rfl rfl rfl rfl rfl rfl rfl ?_
               refine AList.load1 tyOk rfl rfl rfl rfl rfl rfl rfl oM oM ?_
               refine AList.fieldPt tyOk rfl rfl rfl rfl rfl rfl rfl ?_
               refine AList.load1 tyOk rfl rfl rfl rfl rfl rfl rfl oM oM ?_
               refine AList.buildSt tyOk rfl rfl rfl rfl rfl rfl rfl rfl ?_
               refine AList.call rfl rfl rfl rfl Try.func24 rfl (by kernel_rfl) (hQ) ?_
               refine AList.move rfl rfl rfl ?_
               refine AList.extract rfl rfl rfl rfl ?_
               refine AList.extract rfl rfl rfl rfl ?_
               refine AList.alloc tyOk rfl rfl rfl rfl rfl ?_
               refine AList.store tyOk rfl rfl rfl rfl rfl rfl rfl rfl oM oM ?_
               refine AList.assign rfl rfl rfl ?_
               refine AList.nil ?_)
            | (refine AWp.region (id := 12) ?_
               refine AList.move rfl rfl rfl ?_
               refine AList.cmp rfl rfl rfl rfl rfl ?_
               refine AList.nil ?_)
            | (refine AWp.region (id := 13) ?_
               refine AList.loadA tyOk rfl rfl rfl rfl rfl rfl rfl oM oM ?_
               refine AList.loadA tyOk rfl rfl rfl rfl rfl rfl rfl oM oM ?_
               refine AList.buildSt tyOk rfl rfl rfl rfl rfl rfl rfl rfl ?_
               refine AList.call rfl rfl rfl rfl Try.func20 rfl (by kernel_rfl) (hT) ?_
               refine AList.move rfl rfl rfl ?_
               refine AList.extract rfl rfl rfl rfl ?_
               refine AList.extract rfl rfl rfl rfl ?_
               refine AList.alloc tyOk rfl rfl rfl rfl rfl ?_
               refine AList.store tyOk rfl rfl rfl rfl rfl rfl rfl rfl oM oM ?_
               refine AList.assign rfl rfl rfl ?_
               refine AList.nil ?_)
            | (refine AWp.region (id := 14) ?_
               refine AList.move rfl rfl rfl ?_
               refine AList.notB rfl rfl rfl ?_
               refine AList.move rfl rfl rfl ?_
               refine AList.loadA tyOk rfl rfl rfl rfl rfl rfl rfl oM oM ?_
               refine AList.buildSt tyOk rfl rfl rfl rfl rfl rfl rfl rfl ?_
               refine AList.binAg rfl rfl rfl rfl rfl rfl (by kernel_rfl) (mc_neS ⟨0, 0, 0, 0⟩) ?_
               refine AList.pickF rfl rfl rfl rfl ?_
               refine AList.nil ?_)
            | (refine AWp.region (id := 16) ?_
               refine AList.add rfl rfl rfl rfl (by omega) (by omega) ?_
               refine AList.move rfl rfl rfl ?_
               refine AList.nil ?_))
          refine ⟨1 + 1, by omega, Wk.mk [(10, some 10), (11, some 11)] rfl rfl rfl ?_ ?_, by omega⟩
          · repeat (first | exact trivial | refine ⟨⟨_, rfl, by first | exact LeA.c (LeC.refl _ rfl) | exact LeA.c (LeC.ow _ _ rfl) | exact LeA.c (LeC.pt _ _ _ _ _ rfl) | exact LeA.c (LeC.nil _ rfl) | exact LeA.c (LeC.nils _ _) | (refine LeA.int ?_; omega) | (refine LeA.int ?_; dsimp only; omega) | exact LeA.c (LeC.fz rfl rfl (by first | rfl | omega) (fun i _ j _ => ⟨rfl, by first | rfl | exact rowN_imm (fun _ => rfl) _ i j | exact rowF_imm (fun _ => rfl) _ i j⟩))⟩, ?_⟩)
          · repeat (first | exact trivial | refine ⟨by first | exact HeapOk.same rfl rfl rfl rfl | exact HeapOk.lent rfl rfl rfl rfl | exact HeapOk.nil rfl rfl | exact HeapOk.row rfl rfl (by first | rfl | omega) (fun i _ j _ => ⟨rfl, by first | rfl | exact rowN_imm (fun _ => rfl) _ i j | exact rowF_imm (fun _ => rfl) _ i j⟩) | exact HeapOk.box rfl rfl (by repeat (first | exact trivial | refine ⟨by first | exact LeC.refl _ rfl | exact LeC.ow _ _ rfl | exact LeC.nil _ rfl | exact LeC.nils _ _ | exact LeC.fz rfl rfl (by first | rfl | omega) (fun i _ j _ => ⟨rfl, by first | rfl | exact rowN_imm (fun _ => rfl) _ i j | exact rowF_imm (fun _ => rfl) _ i j⟩) | exact LeC.int (by omega), ?_⟩)) rfl, ?_⟩)
      · obtain ⟨e2, hee⟩ : ∃ e2, apE b (ht0 r.fr r.ti) = e2 := ⟨_, rfl⟩
        rw [hee] at hQ he2
        cases wi
        · repeat (first
            | refine AWp.seq ?_
            | refine thenA_n ?_
            | refine AWp.block ?_
            | refine AWp.skip ?_
            | refine AWp.exit ?_
            | refine thenA_e ?_
            | refine inBlk_hit ?_
            | refine AWp.condT rfl (by first | rfl | assumption | exact cmT) ?_
            | refine AWp.condF rfl (by first | rfl | assumption | exact cmF) ?_
            | (refine AWp.region (id := 5) ?_
               refine AList.cmpT rfl rfl rfl rfl rfl cmT ?_
               refine AList.nil ?_)
            | (refine AWp.region (id := 6) ?_
               refine AList.idx (k := 1) tyOk rfl rfl rfl rfl rfl rfl rfl rfl (by first | rfl | omega) oM oM ?_
               refine AList.loadAl tyOk rfl rfl rfl rfl rfl oM ?_
               refine AList.alloc tyOk rfl rfl rfl rfl rfl ?_
               refine AList.store tyOk rfl rfl rfl rfl rfl rfl rfl rfl oM oM ?_
               refine AList.nil ?_)
            | (refine AWp.region (id := 7) ?_
               refine AList.loadA tyOk rfl rfl rfl rfl rfl rfl rfl oM oM ?_
               refine AList.loadA tyOk rfl rfl rfl rfl rfl rfl rfl oM oM ?_
               refine AList.call rfl rfl rfl rfl Try.func24 rfl (by kernel_rfl) (hP) ?_
               refine AList.move rfl rfl rfl ?_
               refine AList.extract rfl rfl rfl rfl ?_
               refine AList.extract rfl rfl rfl rfl ?_
               refine AList.alloc tyOk rfl rfl rfl rfl rfl ?_
               refine AList.store tyOk rfl rfl rfl rfl rfl rfl rfl rfl oM oM ?_
               refine AList.assign rfl rfl rfl ?_
               refine AList.nil ?_)
            | (refine AWp.region (id := 8) ?_
               refine AList.loadA tyOk rfl rfl rfl rfl rfl rfl rfl oM oM ?_
               refine AList.loadA tyOk rfl rfl rfl rfl rfl rfl rfl oM oM ?_
               refine AList.loadA tyOk rfl rfl rfl rfl rfl rfl rfl oM oM ?_
               refine AList.call rfl rfl rfl rfl Try.func20 rfl (by kernel_rfl) (hE) ?_
               refine AList.move rfl rfl rfl ?_
               refine AList.extract rfl rfl rfl rfl ?_
               refine AList.extract rfl rfl rfl rfl ?_
               refine AList.alloc tyOk rfl rfl rfl rfl rfl ?_
               refine AList.store tyOk rfl rfl rfl rfl rfl rfl rfl rfl oM oM ?_
               refine AList.assign rfl rfl rfl ?_
               refine AList.nil ?_)
            | (refine AWp.region (id := 9) ?_
               refine AList.loadA tyOk rfl rfl rfl rfl rfl rfl rfl oM oM ?_
               refine AList.loadA tyOk rfl rfl rfl rfl rfl rfl rfl oM oM ?_
               refine AList.loadA tyOk rfl rfl rfl rfl rfl rfl rfl oM oM ?_
               refine AList.call rfl rfl rfl rfl Try.func26 rfl (by kernel_rfl) (hW) ?_
               refine AList.move rfl rfl rfl ?_
               refine AList.skip rfl rfl ?_
               refine AList.skip rfl rfl ?_
               refine AList.skip rfl rfl ?_
               refine AList.skip rfl rfl ?_
               refine AList.skip rfl rfl ?_
               refine AList.skip rfl rfl ?_
               refine AList.pickF rfl rfl rfl rfl ?_
               refine AList.nil ?_)
            | (refine AWp.region (id := 11) ?_
               refine AList.loadA tyOk rfl rfl rfl rfl rfl rfl rfl oM oM ?_
               refine AList.fieldPt tyOk rfl rfl rfl rfl rfl rfl rfl ?_
               refine AList.load1 tyOk rfl rfl rfl rfl rfl rfl rfl oM oM ?_
               refine AList.fieldPt tyOk rfl rfl rfl rfl rfl rfl rfl ?_
               refine AList.load1 tyOk rfl rfl rfl rfl rfl rfl rfl oM oM ?_
               refine AList.buildSt tyOk rfl rfl rfl rfl rfl rfl rfl rfl ?_
               refine AList.call rfl rfl rfl rfl Try.func24 rfl (by kernel_rfl) (hQ) ?_
               refine AList.move rfl rfl rfl ?_
               refine AList.extract rfl rfl rfl rfl ?_
               refine AList.extract rfl rfl rfl rfl ?_
               refine AList.alloc tyOk rfl rfl rfl rfl rfl ?_
               refine AList.store tyOk rfl rfl rfl rfl rfl rfl rfl rfl oM oM ?_
               refine AList.assign rfl rfl rfl ?_
               refine AList.nil ?_)
            | (refine AWp.region (id := 12) ?_
               refine AList.move rfl rfl rfl ?_
               refine AList.cmpT rfl rfl rfl rfl rfl cmT ?_
               refine AList.nil ?_)
            | (refine AWp.region (id := 16) ?_
               refine AList.add rfl rfl rfl rfl (by omega) (by omega) ?_
               refine AList.move rfl rfl rfl ?_
               refine AList.nil ?_))
          refine ⟨1 + 1, by omega, Wk.mk [(10, some 10), (11, some 11)] rfl rfl rfl ?_ ?_, by omega⟩
          · repeat (first | exact trivial | refine ⟨⟨_, rfl, by first | exact LeA.c (LeC.refl _ rfl) | exact LeA.c (LeC.ow _ _ rfl) | exact LeA.c (LeC.pt _ _ _ _ _ rfl) | exact LeA.c (LeC.nil _ rfl) | exact LeA.c (LeC.nils _ _) | (refine LeA.int ?_; omega) | (refine LeA.int ?_; dsimp only; omega) | exact LeA.c (LeC.fz rfl rfl (by first | rfl | omega) (fun i _ j _ => ⟨rfl, by first | rfl | exact rowN_imm (fun _ => rfl) _ i j | exact rowF_imm (fun _ => rfl) _ i j⟩))⟩, ?_⟩)
          · repeat (first | exact trivial | refine ⟨by first | exact HeapOk.same rfl rfl rfl rfl | exact HeapOk.lent rfl rfl rfl rfl | exact HeapOk.nil rfl rfl | exact HeapOk.row rfl rfl (by first | rfl | omega) (fun i _ j _ => ⟨rfl, by first | rfl | exact rowN_imm (fun _ => rfl) _ i j | exact rowF_imm (fun _ => rfl) _ i j⟩) | exact HeapOk.box rfl rfl (by repeat (first | exact trivial | refine ⟨by first | exact LeC.refl _ rfl | exact LeC.ow _ _ rfl | exact LeC.nil _ rfl | exact LeC.nils _ _ | exact LeC.fz rfl rfl (by first | rfl | omega) (fun i _ j _ => ⟨rfl, by first | rfl | exact rowN_imm (fun _ => rfl) _ i j | exact rowF_imm (fun _ => rfl) _ i j⟩) | exact LeC.int (by omega), ?_⟩)) rfl, ?_⟩)
        · obtain ⟨he1, hvo⟩ := hwt rfl
          rw [he1] at hP
          dsimp only at hvo
          subst hvo
          repeat (first
            | refine AWp.seq ?_
            | refine thenA_n ?_
            | refine AWp.block ?_
            | refine AWp.skip ?_
            | refine AWp.exit ?_
            | refine thenA_e ?_
            | refine inBlk_hit ?_
            | refine AWp.condT rfl (by first | rfl | assumption | exact cmT) ?_
            | refine AWp.condF rfl (by first | rfl | assumption | exact cmF) ?_
            | (refine AWp.region (id := 5) ?_
               refine AList.cmpT rfl rfl rfl rfl rfl cmT ?_
               refine AList.nil ?_)
            | (refine AWp.region (id := 6) ?_
               refine AList.idx (k := 1) tyOk rfl rfl rfl rfl rfl rfl rfl rfl (by first | rfl | omega) oM oM ?_
               refine AList.loadAl tyOk rfl rfl rfl rfl rfl oM ?_
               refine AList.alloc tyOk rfl rfl rfl rfl rfl ?_
               refine AList.store tyOk rfl rfl rfl rfl rfl rfl rfl rfl oM oM ?_
               refine AList.nil ?_)
            | (refine AWp.region (id := 7) ?_
               refine AList.loadA tyOk rfl rfl rfl rfl rfl rfl rfl oM oM ?_
               refine AList.loadA tyOk rfl rfl rfl rfl rfl rfl rfl oM oM ?_
               refine AList.call rfl rfl rfl rfl Try.func24 rfl (by kernel_rfl) (hP) ?_
               refine AList.move rfl rfl rfl ?_
               refine AList.extract rfl rfl rfl rfl ?_
               refine AList.extract rfl rfl rfl rfl ?_
               refine AList.alloc tyOk rfl rfl rfl rfl rfl ?_
               refine AList.store tyOk rfl rfl rfl rfl rfl rfl rfl rfl oM oM ?_
               refine AList.assign rfl rfl rfl ?_
               refine AList.nil ?_)
            | (refine AWp.region (id := 8) ?_
               refine AList.loadA tyOk rfl rfl rfl rfl rfl rfl rfl oM oM ?_
               refine AList.loadA tyOk rfl rfl rfl rfl rfl rfl rfl oM oM ?_
               refine AList.loadA tyOk rfl rfl rfl rfl rfl rfl rfl oM oM ?_
               refine AList.call rfl rfl rfl rfl Try.func20 rfl (by kernel_rfl) (hE) ?_
               refine AList.move rfl rfl rfl ?_
               refine AList.extract rfl rfl rfl rfl ?_
               refine AList.extract rfl rfl rfl rfl ?_
               refine AList.alloc tyOk rfl rfl rfl rfl rfl ?_
               refine AList.store tyOk rfl rfl rfl rfl rfl rfl rfl rfl oM oM ?_
               refine AList.assign rfl rfl rfl ?_
               refine AList.nil ?_)
            | (refine AWp.region (id := 9) ?_
               refine AList.loadA tyOk rfl rfl rfl rfl rfl rfl rfl oM oM ?_
               refine AList.loadA tyOk rfl rfl rfl rfl rfl rfl rfl oM oM ?_
               refine AList.loadA tyOk rfl rfl rfl rfl rfl rfl rfl oM oM ?_
               refine AList.call rfl rfl rfl rfl Try.func26 rfl (by kernel_rfl) (hW) ?_
               refine AList.move rfl rfl rfl ?_
               refine AList.move rfl rfl rfl ?_
               refine AList.cmp rfl rfl rfl rfl rfl ?_
               refine AList.move rfl rfl rfl ?_
               refine AList.move rfl rfl rfl ?_
               refine AList.notB rfl rfl rfl ?_
               refine AList.pickF rfl rfl rfl rfl ?_
               refine AList.pickT rfl rfl rfl rfl ?_
               refine AList.nil ?_)
            | (refine AWp.region (id := 11) ?_
               refine AList.loadA tyOk rfl rfl rfl rfl rfl rfl rfl oM oM ?_
               refine AList.fieldPt tyOk rfl rfl rfl rfl rfl rfl rfl ?_
               refine AList.load1 tyOk rfl rfl rfl rfl rfl rfl rfl oM oM ?_
               refine AList.fieldPt tyOk rfl rfl rfl rfl rfl rfl rfl ?_
               refine AList.load1 tyOk rfl rfl rfl rfl rfl rfl rfl oM oM ?_
               refine AList.buildSt tyOk rfl rfl rfl rfl rfl rfl rfl rfl ?_
               refine AList.call rfl rfl rfl rfl Try.func24 rfl (by kernel_rfl) (hQ) ?_
               refine AList.move rfl rfl rfl ?_
               refine AList.extract rfl rfl rfl rfl ?_
               refine AList.extract rfl rfl rfl rfl ?_
               refine AList.alloc tyOk rfl rfl rfl rfl rfl ?_
               refine AList.store tyOk rfl rfl rfl rfl rfl rfl rfl rfl oM oM ?_
               refine AList.assign rfl rfl rfl ?_
               refine AList.nil ?_)
            | (refine AWp.region (id := 12) ?_
               refine AList.move rfl rfl rfl ?_
               refine AList.cmpT rfl rfl rfl rfl rfl cmT ?_
               refine AList.nil ?_)
            | (refine AWp.region (id := 16) ?_
               refine AList.add rfl rfl rfl rfl (by omega) (by omega) ?_
               refine AList.move rfl rfl rfl ?_
               refine AList.nil ?_))
          refine ⟨1 + 1, by omega, Wk.mk [(10, some 10), (11, some 11)] rfl rfl rfl ?_ ?_, by omega⟩
          · repeat (first | exact trivial | refine ⟨⟨_, rfl, by first | exact LeA.c (LeC.refl _ rfl) | exact LeA.c (LeC.ow _ _ rfl) | exact LeA.c (LeC.pt _ _ _ _ _ rfl) | exact LeA.c (LeC.nil _ rfl) | exact LeA.c (LeC.nils _ _) | (refine LeA.int ?_; omega) | (refine LeA.int ?_; dsimp only; omega) | exact LeA.c (LeC.fz rfl rfl (by first | rfl | omega) (fun i _ j _ => ⟨rfl, by first | rfl | exact rowN_imm (fun _ => rfl) _ i j | exact rowF_imm (fun _ => rfl) _ i j⟩))⟩, ?_⟩)
          · repeat (first | exact trivial | refine ⟨by first | exact HeapOk.same rfl rfl rfl rfl | exact HeapOk.lent rfl rfl rfl rfl | exact HeapOk.nil rfl rfl | exact HeapOk.row rfl rfl (by first | rfl | omega) (fun i _ j _ => ⟨rfl, by first | rfl | exact rowN_imm (fun _ => rfl) _ i j | exact rowF_imm (fun _ => rfl) _ i j⟩) | exact HeapOk.box rfl rfl (by repeat (first | exact trivial | refine ⟨by first | exact LeC.refl _ rfl | exact LeC.ow _ _ rfl | exact LeC.nil _ rfl | exact LeC.nils _ _ | exact LeC.fz rfl rfl (by first | rfl | omega) (fun i _ j _ => ⟨rfl, by first | rfl | exact rowN_imm (fun _ => rfl) _ i j | exact rowF_imm (fun _ => rfl) _ i j⟩) | exact LeC.int (by omega), ?_⟩)) rfl, ?_⟩)
    · repeat (first
        | refine AWp.seq ?_
        | refine thenA_n ?_
        | refine AWp.exit ?_
        | refine AWp.ret ?_
        | refine AWp.condF rfl (by first | rfl | assumption | exact cmF) ?_
        | (refine AWp.region (id := 5) ?_
           refine AList.cmpF rfl rfl rfl rfl rfl cmF ?_
           refine AList.nil ?_)
        | (refine AWp.region (id := 17) ?_
           refine AList.move rfl rfl rfl ?_
           refine AList.assign rfl rfl rfl ?_
           refine AList.nil ?_))
      refine ⟨_, rfl, mkSt 102 [(8, .c (bC true))] [] [], [], Wk.mk [] rfl rfl rfl ?_ trivial, rfl, rfl, ARets.one (x := .c _) (ARes.tmp rfl rfl)⟩
      repeat (first | exact trivial | refine ⟨⟨_, rfl, by first | exact LeA.c (LeC.refl _ rfl) | exact LeA.c (LeC.ow _ _ rfl) | exact LeA.c (LeC.pt _ _ _ _ _ rfl) | exact LeA.c (LeC.nil _ rfl) | exact LeA.c (LeC.nils _ _) | (refine LeA.int ?_; omega) | (refine LeA.int ?_; dsimp only; omega) | exact LeA.c (LeC.fz rfl rfl (by first | rfl | omega) (fun i _ j _ => ⟨rfl, by first | rfl | exact rowN_imm (fun _ => rfl) _ i j | exact rowF_imm (fun _ => rfl) _ i j⟩))⟩, ?_⟩)
end Go.Proofs.Ytclaanggpcjnbaa
end
