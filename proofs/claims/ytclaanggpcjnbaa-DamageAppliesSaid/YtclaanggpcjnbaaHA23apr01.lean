/- DamageApplies: the statement. No condition. -/
import Derived.Test.YtclaanggpcjnbaaG34
import Derived.Test.YtclaanggpcjnbaaRows
import Derived.Test.YtclaanggpcjnbaaG27
set_option linter.unusedSimpArgs false
set_option linter.unusedVariables false
section
/- Chapter 23: the law DamageApplies over plain values. -/
namespace Go.Proofs.Ytclaanggpcjnbaa
open Go.RowKit Go.Flow Go.AV Go.Plain
/-- One number more, behind or ahead. -/
def snocF (N : Nat) (l : Nat → Int) (q : Int) (k : Nat) : Int := if k < N then l k else q
def consF (l : Nat → Int) (q : Int) (k : Nat) : Int := match k with | 0 => q | k + 1 => l k
theorem snoc_fz (N : Nat) (l : Nat → Int) (q : Int) : ∀ k, k < N + 1 → ∀ j, j < 1 → appF (iF l) N (sF [iC q] 1) k j = iF (snocF N l q) k j ∧ immC (appF (iF l) N (sF [iC q] 1) k j) = true := fun k hk j hj => by
  obtain rfl : j = 0 := by omega
  have e : appF (iF l) N (sF [iC q] 1) k 0 = iF (snocF N l q) k 0 := by
    unfold appF
    show _ = CV.p (.int .i64 (snocF N l q k))
    unfold snocF
    by_cases h : k < N
    · rw [Nat.blt_eq.mpr h, if_pos h]; rfl
    · obtain rfl : k = N := by omega
      rw [show Nat.blt k k = false from Bool.eq_false_iff.2 fun h => by have := Nat.blt_eq.mp h; omega, if_neg h, Nat.sub_self]; rfl
  exact ⟨e, by rw [e]; rfl⟩
theorem cons_fz (M : Nat) (l : Nat → Int) (q : Int) : ∀ k, k < 1 + M → ∀ j, j < 1 → appF (sF [iC q] 1) 1 (iF l) k j = iF (consF l q) k j ∧ immC (appF (sF [iC q] 1) 1 (iF l) k j) = true := fun k hk j hj => by
  obtain rfl : j = 0 := by omega
  have e : appF (sF [iC q] 1) 1 (iF l) k 0 = iF (consF l q) k 0 := by
    cases k with
    | zero => rfl
    | succ k =>
      unfold appF
      rw [show Nat.blt (k + 1) 1 = false from Bool.eq_false_iff.2 fun h => by have := Nat.blt_eq.mp h; omega, Nat.add_sub_cancel]; rfl
  exact ⟨e, by rw [e]; rfl⟩
theorem samePx_self (n : Nat) (f : Nat → Int) : samePx n n f f = true := by
  unfold samePx
  simp
abbrev hts5 (h m s p r : Ht) : List CV := htC h ++ htC m ++ htC s ++ htC p ++ htC r
def apJ' (b : Bp) (h : Ht) : Ip := if apE b h = 0 then apP b h else ⟨0, 0, 0, fun _ => 0⟩
theorem hpi (b : Bp) (h : Ht) : apI b h = ipC (apJ' b h) := by
  unfold apI apJ'
  split <;> rfl
theorem apJ_n' {b : Bp} (hb : b.ok) (h : Ht) : (apJ' b h).n ≤ 4611686018427387904 := by
  have := hb.n_le
  unfold apJ'
  split
  · show bpm b ≤ _
    omega
  · exact Nat.zero_le _
set_option maxHeartbeats 4000000 in
set_option maxRecDepth 100000 in
theorem DamageApplies_A (N : Nat) (f : Nat → Int) (L : Nat) (l : Nat → Int) (B : Nat) (u : Nat → Int) (q : Int) (raw : Ht) (hN : N ≤ 4611686018427387904) (hL : L ≤ 4611686018427387904) (hB : B ≤ 4611686018427387904) (hr1 : raw.N ≤ 4611686018427387904) (hr2 : raw.M ≤ 4611686018427387904) :
    ECalls Try.prog 7 [.c (.ls N 1 (iF f)), .c (.ls L 1 (iF l)), .c (.ls B 1 (iF u)), .c (iC q), .ag (htC raw)] (fun v => v = .c (bC true)) := by
  have hC1 := cutL_A N f 60 hN (by omega)
  have hC3 := cutL_A L l 12 hL (by omega)
  have hC4 := cutL_A B u 4 hB (by omega)
  have hC5 := cutL_A raw.N raw.lo 6 hr1 (by omega)
  have hC6 := cutL_A raw.M raw.bl 6 hr2 (by omega)
  have hBud := Budget_A (min B 4) u (by omega)
  obtain ⟨x, hx⟩ : ∃ x, bgN (min B 4) u = x := ⟨_, rfl⟩
  rw [hx] at hBud
  obtain ⟨r, hr⟩ : ∃ r : Ht, r = ⟨raw.dx, raw.dy, min raw.N 6, raw.lo, min raw.M 6, raw.bl, raw.fr, raw.ti⟩ := ⟨_, rfl⟩
  have hrN : r.N ≤ 6 := by rw [hr]; show min raw.N 6 ≤ 6; omega
  have hrM : r.M ≤ 6 := by rw [hr]; show min raw.M 6 ≤ 6; omega
  refine ecalls_at Try.func7 rfl rfl Try.ntmps7 rfl ?_
  repeat (first
    | refine AWp.seq ?_
    | (refine AWp.region (id := 0) ?_
       refine AList.box rfl rfl rfl rfl rfl ?_
       refine AList.assign rfl rfl rfl ?_
       refine AList.nil ?_)
    | (refine AWp.region (id := 1) ?_
       refine AList.call rfl rfl rfl rfl Try.func9 rfl (by kernel_rfl) (sanity_A) ?_
       refine AList.assign rfl rfl rfl ?_
       refine AList.nil ?_))
  refine AWp.text ?_
  refine AText.split 2 ?_
  refine AList.move rfl rfl rfl ?_
  refine AList.call rfl rfl rfl rfl Try.func11 rfl (by kernel_rfl) (hC1) ?_
  refine AList.nil ?_
  refine AText.callE rfl rfl rfl rfl Try.func16 rfl (by kernel_rfl) (Made_B (min N 60) f (by omega)) ?_
  rintro _ ⟨b, hb, rfl⟩
  refine AText.all ?_
  refine AList.move rfl rfl rfl ?_
  refine AList.call rfl rfl rfl rfl Try.func11 rfl (by kernel_rfl) (hC4) ?_
  refine AList.call rfl rfl rfl rfl Try.func17 rfl (by kernel_rfl) (hBud) ?_
  refine AList.alloc tyOk rfl rfl rfl rfl rfl ?_
  refine AList.alloc tyOk rfl rfl rfl rfl rfl ?_
  refine AList.store tyOk rfl rfl rfl rfl rfl rfl rfl rfl oM oM ?_
  refine AList.store tyOk rfl rfl rfl rfl rfl rfl rfl rfl oM oM ?_
  refine AList.nil ?_
  obtain ⟨hH, hHN, hHM, hHw⟩ := Hit_A (min L 12) l b x (by omega) hb.1
  obtain ⟨h, hh⟩ : ∃ h, hitV (min L 12) l b x = h := ⟨_, rfl⟩
  rw [hh] at hH hHN hHM hHw
  have hWh := pWithin_A b h x (by omega) (by omega)
  rw [hHw] at hWh
  obtain ⟨m, hm⟩ : ∃ m : Ht, m = ⟨h.dx, h.dy, h.N + 1, snocF h.N h.lo q, h.M, h.bl, h.fr, h.ti⟩ := ⟨_, rfl⟩
  obtain ⟨s, hs⟩ : ∃ s : Ht, s = ⟨h.dx, h.dy, h.N, h.lo, h.M, h.bl, h.fr, q⟩ := ⟨_, rfl⟩
  obtain ⟨p, hp⟩ : ∃ p : Ht, p = ⟨h.dx, h.dy, h.N, h.lo, h.M + 1, consF h.bl q, h.fr, h.ti⟩ := ⟨_, rfl⟩
  have hmN : m.N ≤ 1000001 ∧ m.M ≤ 1000001 := by rw [hm]; exact ⟨by show h.N + 1 ≤ _; omega, by show h.M ≤ _; omega⟩
  have hsN : s.N ≤ 1000001 ∧ s.M ≤ 1000001 := by rw [hs]; exact ⟨by show h.N ≤ _; omega, by show h.M ≤ _; omega⟩
  have hpN : p.N ≤ 1000001 ∧ p.M ≤ 1000001 := by rw [hp]; exact ⟨by show h.N ≤ _; omega, by show h.M + 1 ≤ _; omega⟩
  repeat (first
    | refine AWp.seq ?_
    | (refine AWp.draw (id := 3) mixed ?_
       refine AList.move rfl rfl rfl ?_
       refine AList.call rfl rfl rfl rfl Try.func11 rfl (by kernel_rfl) (hC3) ?_
       refine AList.loadA tyOk rfl rfl rfl rfl rfl rfl rfl oM oM ?_
       refine AList.loadA tyOk rfl rfl rfl rfl rfl rfl rfl oM oM ?_
       refine AList.call rfl rfl rfl rfl Try.func19 rfl (by kernel_rfl) (hH) ?_
       refine AList.alloc tyOk rfl rfl rfl rfl rfl ?_
       refine AList.store tyOk rfl rfl rfl rfl rfl rfl rfl rfl oM oM ?_
       refine AList.nil ⟨by kernel_rfl, ?_⟩)
    | (refine AWp.draw (id := 4) mixed ?_
       refine AList.loadA tyOk rfl rfl rfl rfl rfl rfl rfl oM oM ?_
       refine AList.loadA tyOk rfl rfl rfl rfl rfl rfl rfl oM oM ?_
       refine AList.alloc tyOk rfl rfl rfl rfl rfl ?_
       refine AList.alloc tyOk rfl rfl rfl rfl rfl ?_
       refine AList.store tyOk rfl rfl rfl rfl rfl rfl rfl rfl oM oM ?_
       refine AList.store tyOk rfl rfl rfl rfl rfl rfl rfl rfl oM oM ?_
       refine AList.nil ⟨by kernel_rfl, ?_⟩)
    | (refine AWp.region (id := 5) ?_
       refine AList.emptySl tyOk rfl rfl rfl rfl rfl rfl rfl ?_
       refine AList.fieldPt tyOk rfl rfl rfl rfl rfl rfl rfl ?_
       refine AList.load1 tyOk rfl rfl rfl rfl rfl rfl rfl oM oM ?_
       refine AList.appL0 tyOk rfl rfl rfl rfl rfl rfl rfl rfl rfl rfl oM oM ?_
       refine AList.move rfl rfl rfl ?_
       refine AList.litSl tyOk rfl rfl rfl rfl rfl rfl rfl rfl rfl rfl rfl ?_
       refine AList.appL tyOk rfl rfl rfl rfl rfl rfl rfl rfl rfl rfl oM oM ?_
       refine AList.fieldPt tyOk rfl rfl rfl rfl rfl rfl rfl ?_
       refine AList.store tyOk rfl rfl rfl rfl rfl rfl rfl rfl oM oM ?_
       refine AList.nil ?_)
    | (refine AWp.region (id := 6) ?_
       refine AList.move rfl rfl rfl ?_
       refine AList.fieldPt tyOk rfl rfl rfl rfl rfl rfl rfl ?_
       refine AList.store tyOk rfl rfl rfl rfl rfl rfl rfl rfl oM oM ?_
       refine AList.nil ?_)
    | (refine AWp.draw (id := 7) mixed ?_
       refine AList.fieldPt tyOk rfl rfl rfl rfl rfl rfl rfl ?_
       refine AList.load1 tyOk rfl rfl rfl rfl rfl rfl rfl oM oM ?_
       refine AList.call rfl rfl rfl rfl Try.func11 rfl (by kernel_rfl) (hC5) ?_
       refine AList.fieldPt tyOk rfl rfl rfl rfl rfl rfl rfl ?_
       refine AList.load1 tyOk rfl rfl rfl rfl rfl rfl rfl oM oM ?_
       refine AList.call rfl rfl rfl rfl Try.func11 rfl (by kernel_rfl) (hC6) ?_
       refine AList.fieldPt tyOk rfl rfl rfl rfl rfl rfl rfl ?_
       refine AList.store tyOk rfl rfl rfl rfl rfl rfl rfl rfl oM oM ?_
       refine AList.fieldPt tyOk rfl rfl rfl rfl rfl rfl rfl ?_
       refine AList.store tyOk rfl rfl rfl rfl rfl rfl rfl rfl oM oM ?_
       refine AList.nil ⟨by kernel_rfl, ?_⟩)
    | (refine AWp.region (id := 8) ?_
       refine AList.loadA tyOk rfl rfl rfl rfl rfl rfl rfl oM oM ?_
       refine AList.alloc tyOk rfl rfl rfl rfl rfl ?_
       refine AList.store tyOk rfl rfl rfl rfl rfl rfl rfl rfl oM oM ?_
       refine AList.nil ?_)
    | (refine AWp.region (id := 9) ?_
       refine AList.move rfl rfl rfl ?_
       refine AList.litOw tyOk rfl rfl rfl rfl rfl rfl rfl rfl rfl rfl rfl ?_
       refine AList.fieldPt tyOk rfl rfl rfl rfl rfl rfl rfl ?_
       refine AList.load1 tyOk rfl rfl rfl rfl rfl rfl rfl oM oM ?_
       refine AList.appL tyOk rfl rfl rfl rfl rfl rfl rfl rfl rfl rfl oM oM ?_
       refine AList.fieldPt tyOk rfl rfl rfl rfl rfl rfl rfl ?_
       refine AList.store tyOk rfl rfl rfl rfl rfl rfl rfl rfl oM oM ?_
       refine AList.nil ?_))
  refine AWp.weak (S' := mkSt 114 [(9, .c (.pt 9 6 0 0)), (11, .c (bC true)), (12, .c (.pt 12 3 0 0)), (13, .c (.pt 13 4 0 0)), (14, .c (.pt 14 6 0 0)), (15, .c (.pt 15 6 0 0)), (16, .c (.pt 16 6 0 0)), (17, .c (.pt 17 6 0 0))]
    [(12, ⟨false, 1, 3, 39, lF (bpC b)⟩), (13, ⟨false, 1, 4, 24, lF (bgC x)⟩), (14, ⟨false, 1, 6, 47, lF (htC h)⟩), (15, ⟨false, 1, 6, 47, lF (htC m)⟩), (16, ⟨false, 1, 6, 47, lF (htC s)⟩), (17, ⟨false, 1, 6, 47, lF (htC p)⟩), (9, ⟨false, 1, 6, 47, lF (htC r)⟩)] [9, 12, 13, 14, 15, 16, 17]) (Wk.mk [(9, some 9), (12, some 12), (13, some 13), (14, some 14), (15, some 15), (16, some 16), (17, some 17)] rfl rfl rfl ?_ ?_) ?_
  · repeat (first | exact trivial | refine ⟨⟨_, rfl, by first | exact LeA.c (LeC.refl _ rfl) | exact LeA.c (LeC.ow _ _ rfl) | exact LeA.c (LeC.pt _ _ _ _ _ rfl) | exact LeA.c (LeC.nil _ rfl) | exact LeA.c (LeC.nils _ _) | (refine LeA.int ?_; omega) | (refine LeA.int ?_; dsimp only; omega) | exact LeA.c (LeC.fz rfl rfl (by first | rfl | omega) (fun i _ j _ => ⟨rfl, by first | rfl | exact rowN_imm (fun _ => rfl) _ i j | exact rowF_imm (fun _ => rfl) _ i j⟩))⟩, ?_⟩)
  · subst hm hs hp hr
    repeat (first | exact trivial | refine ⟨by first | exact HeapOk.box rfl rfl ⟨LeC.refl _ rfl, LeC.refl _ rfl, LeC.fz rfl rfl rfl (snoc_fz _ _ _), LeC.refl _ rfl, LeC.refl _ rfl, LeC.refl _ rfl, trivial⟩ rfl | exact HeapOk.box rfl rfl ⟨LeC.refl _ rfl, LeC.refl _ rfl, LeC.refl _ rfl, LeC.fz rfl rfl (Nat.add_comm _ _) (cons_fz _ _ _), LeC.refl _ rfl, LeC.refl _ rfl, trivial⟩ rfl | exact HeapOk.same rfl rfl rfl rfl | exact HeapOk.lent rfl rfl rfl rfl | exact HeapOk.nil rfl rfl | exact HeapOk.row rfl rfl (by first | rfl | omega) (fun i _ j _ => ⟨rfl, by first | rfl | exact rowN_imm (fun _ => rfl) _ i j | exact rowF_imm (fun _ => rfl) _ i j⟩) | exact HeapOk.box rfl rfl (by repeat (first | exact trivial | refine ⟨by first | exact LeC.refl _ rfl | exact LeC.ow _ _ rfl | exact LeC.nil _ rfl | exact LeC.nils _ _ | exact LeC.fz rfl rfl (by first | rfl | omega) (fun i _ j _ => ⟨rfl, by first | rfl | exact rowN_imm (fun _ => rfl) _ i j | exact rowF_imm (fun _ => rfl) _ i j⟩) | exact LeC.int (by omega), ?_⟩)) rfl, ?_⟩)
  repeat (first
    | refine thenA_n ?_
    | refine AWp.block ?_
    | (refine AWp.region (id := 10) ?_
       refine AList.loadA tyOk rfl rfl rfl rfl rfl rfl rfl oM oM ?_
       refine AList.loadA tyOk rfl rfl rfl rfl rfl rfl rfl oM oM ?_
       refine AList.loadA tyOk rfl rfl rfl rfl rfl rfl rfl oM oM ?_
       refine AList.loadA tyOk rfl rfl rfl rfl rfl rfl rfl oM oM ?_
       refine AList.loadA tyOk rfl rfl rfl rfl rfl rfl rfl oM oM ?_
       refine AList.litSl tyOk rfl rfl rfl rfl rfl rfl rfl rfl rfl rfl rfl ?_
       refine AList.lenLs tyOk rfl rfl rfl rfl rfl ?_
       refine AList.move rfl rfl rfl ?_
       refine AList.nil ?_))
  refine AWp.round (fun k : Nat => mkSt 114 [(11, .c (bC true)), (12, .c (.pt 12 3 0 0)), (13, .c (.pt 13 4 0 0)), (14, .c (.pt 14 6 0 0)), (68, .c (.ls 5 6 (sF (hts5 h m s p r) 6))), (69, .c (iC 5)), (70, .c (iC k))]
                                       [(12, ⟨false, 1, 3, 39, lF (bpC b)⟩), (13, ⟨false, 1, 4, 24, lF (bgC x)⟩), (14, ⟨false, 1, 6, 47, lF (htC h)⟩)] [12, 13, 14]
    ) (fun k => k ≤ 5) (fun k => 5 - k) 0 (Nat.zero_le _) ?_ (fun k hk => ?_)
  · refine Wk.mk [(12, some 12), (13, some 13), (14, some 14)] rfl rfl rfl ?_ ?_
    · repeat (first | exact trivial | refine ⟨⟨_, rfl, by first | exact LeA.c (LeC.refl _ rfl) | exact LeA.c (LeC.ow _ _ rfl) | exact LeA.c (LeC.pt _ _ _ _ _ rfl) | exact LeA.c (LeC.nil _ rfl) | exact LeA.c (LeC.nils _ _) | (refine LeA.int ?_; omega) | (refine LeA.int ?_; dsimp only; omega) | exact LeA.c (LeC.fz rfl rfl (by first | rfl | omega) (fun i _ j _ => ⟨rfl, by first | rfl | exact rowN_imm (fun _ => rfl) _ i j | exact rowF_imm (fun _ => rfl) _ i j⟩))⟩, ?_⟩)
    · repeat (first | exact trivial | refine ⟨by first | exact HeapOk.same rfl rfl rfl rfl | exact HeapOk.lent rfl rfl rfl rfl | exact HeapOk.nil rfl rfl | exact HeapOk.row rfl rfl (by first | rfl | omega) (fun i _ j _ => ⟨rfl, by first | rfl | exact rowN_imm (fun _ => rfl) _ i j | exact rowF_imm (fun _ => rfl) _ i j⟩) | exact HeapOk.box rfl rfl (by repeat (first | exact trivial | refine ⟨by first | exact LeC.refl _ rfl | exact LeC.ow _ _ rfl | exact LeC.nil _ rfl | exact LeC.nils _ _ | exact LeC.fz rfl rfl (by first | rfl | omega) (fun i _ j _ => ⟨rfl, by first | rfl | exact rowN_imm (fun _ => rfl) _ i j | exact rowF_imm (fun _ => rfl) _ i j⟩) | exact LeC.int (by omega), ?_⟩)) rfl, ?_⟩)
  · obtain rfl | rfl | rfl | rfl | rfl | rfl : k = 0 ∨ k = 1 ∨ k = 2 ∨ k = 3 ∨ k = 4 ∨ k = 5 := by omega
    · have hP := pApply_A b h (by omega) (by omega)
      have hR := rApply_A b h (by omega) (by omega)
      have hW1 := pWithin_A b h x (by omega) (by omega)
      have hW2 := rWithin_A b h x (by omega) (by omega)
      rw [apV, hpi] at hP hR
      obtain ⟨y, hy⟩ : ∃ y, apJ' b h = y := ⟨_, rfl⟩
      have hyn := apJ_n' hb h
      rw [hy] at hP hR hyn
      have hS := Same_A y.W y.H y.W y.H y.n y.n y.f y.f hyn
      rw [decide_eq_true rfl, decide_eq_true rfl, samePx_self] at hS
      obtain ⟨wv, hwv⟩ : ∃ wv, wiB b h x = wv := ⟨_, rfl⟩
      rw [hwv] at hW1 hW2
      cases wv
      all_goals
        repeat (first
          | refine AWp.seq ?_
          | refine thenA_n ?_
          | refine AWp.block ?_
          | refine AWp.skip ?_
          | refine inBlk_n ?_
          | refine AWp.condT rfl (by first | rfl | assumption | exact cmT) ?_
          | refine AWp.condF rfl (by first | rfl | assumption | exact cmF) ?_
          | (refine AWp.region (id := 11) ?_
             refine AList.cmpT rfl rfl rfl rfl rfl cmT ?_
             refine AList.nil ?_)
          | (refine AWp.region (id := 12) ?_
             refine AList.idx (k := 0) tyOk rfl rfl rfl rfl rfl rfl rfl rfl (by first | rfl | omega) oM oM ?_
             refine AList.loadAl tyOk rfl rfl rfl rfl rfl oM ?_
             refine AList.alloc tyOk rfl rfl rfl rfl rfl ?_
             refine AList.store tyOk rfl rfl rfl rfl rfl rfl rfl rfl oM oM ?_
             refine AList.nil ?_)
          | (refine AWp.region (id := 13) ?_
             refine AList.loadA tyOk rfl rfl rfl rfl rfl rfl rfl oM oM ?_
             refine AList.loadA tyOk rfl rfl rfl rfl rfl rfl rfl oM oM ?_
             refine AList.call rfl rfl rfl rfl Try.func24 rfl (by kernel_rfl) (hP) ?_
             refine AList.move rfl rfl rfl ?_
             refine AList.extract rfl rfl rfl rfl ?_
             refine AList.extract rfl rfl rfl rfl ?_
             refine AList.alloc tyOk rfl rfl rfl rfl rfl ?_
             refine AList.store tyOk rfl rfl rfl rfl rfl rfl rfl rfl oM oM ?_
             refine AList.assign rfl rfl rfl ?_
             refine AList.nil ?_)
          | (refine AWp.region (id := 14) ?_
             refine AList.loadA tyOk rfl rfl rfl rfl rfl rfl rfl oM oM ?_
             refine AList.loadA tyOk rfl rfl rfl rfl rfl rfl rfl oM oM ?_
             refine AList.call rfl rfl rfl rfl Try.func18 rfl (by kernel_rfl) (hR) ?_
             refine AList.move rfl rfl rfl ?_
             refine AList.extract rfl rfl rfl rfl ?_
             refine AList.extract rfl rfl rfl rfl ?_
             refine AList.alloc tyOk rfl rfl rfl rfl rfl ?_
             refine AList.store tyOk rfl rfl rfl rfl rfl rfl rfl rfl oM oM ?_
             refine AList.assign rfl rfl rfl ?_
             refine AList.nil ?_)
          | (refine AWp.draw (id := 15) mixed ?_
             refine AList.move rfl rfl rfl ?_
             refine AList.move rfl rfl rfl ?_
             refine AList.cmpF rfl rfl rfl rfl rfl (by simp only [cmpP, eq_self, decide_true, Bool.not_true]) ?_
             refine AList.move rfl rfl rfl ?_
             refine AList.loadA tyOk rfl rfl rfl rfl rfl rfl rfl oM oM ?_
             refine AList.loadA tyOk rfl rfl rfl rfl rfl rfl rfl oM oM ?_
             refine AList.call rfl rfl rfl rfl Try.func25 rfl (by kernel_rfl) (hS) ?_
             refine AList.notB rfl rfl rfl ?_
             refine AList.pickF rfl rfl rfl rfl ?_
             refine AList.move rfl rfl rfl ?_
             refine AList.loadA tyOk rfl rfl rfl rfl rfl rfl rfl oM oM ?_
             refine AList.loadA tyOk rfl rfl rfl rfl rfl rfl rfl oM oM ?_
             refine AList.loadA tyOk rfl rfl rfl rfl rfl rfl rfl oM oM ?_
             refine AList.call rfl rfl rfl rfl Try.func26 rfl (by kernel_rfl) (hW1) ?_
             refine AList.loadA tyOk rfl rfl rfl rfl rfl rfl rfl oM oM ?_
             refine AList.loadA tyOk rfl rfl rfl rfl rfl rfl rfl oM oM ?_
             refine AList.loadA tyOk rfl rfl rfl rfl rfl rfl rfl oM oM ?_
             refine AList.call rfl rfl rfl rfl Try.func27 rfl (by kernel_rfl) (hW2) ?_
             refine AList.neB rfl rfl rfl rfl (by kernel_rfl) ?_
             refine AList.pickF rfl rfl rfl rfl ?_
             refine AList.nil ⟨by kernel_rfl, ?_⟩)
          | (refine AWp.region (id := 17) ?_
             refine AList.add rfl rfl rfl rfl (by omega) (by omega) ?_
             refine AList.move rfl rfl rfl ?_
             refine AList.nil ?_))
        refine ⟨0 + 1, by omega, Wk.mk [(12, some 12), (13, some 13), (14, some 14)] rfl rfl rfl ?_ ?_, by omega⟩
        · repeat (first | exact trivial | refine ⟨⟨_, rfl, by first | exact LeA.c (LeC.refl _ rfl) | exact LeA.c (LeC.ow _ _ rfl) | exact LeA.c (LeC.pt _ _ _ _ _ rfl) | exact LeA.c (LeC.nil _ rfl) | exact LeA.c (LeC.nils _ _) | (refine LeA.int ?_; omega) | (refine LeA.int ?_; dsimp only; omega) | exact LeA.c (LeC.fz rfl rfl (by first | rfl | omega) (fun i _ j _ => ⟨rfl, by first | rfl | exact rowN_imm (fun _ => rfl) _ i j | exact rowF_imm (fun _ => rfl) _ i j⟩))⟩, ?_⟩)
        · repeat (first | exact trivial | refine ⟨by first | exact HeapOk.same rfl rfl rfl rfl | exact HeapOk.lent rfl rfl rfl rfl | exact HeapOk.nil rfl rfl | exact HeapOk.row rfl rfl (by first | rfl | omega) (fun i _ j _ => ⟨rfl, by first | rfl | exact rowN_imm (fun _ => rfl) _ i j | exact rowF_imm (fun _ => rfl) _ i j⟩) | exact HeapOk.box rfl rfl (by repeat (first | exact trivial | refine ⟨by first | exact LeC.refl _ rfl | exact LeC.ow _ _ rfl | exact LeC.nil _ rfl | exact LeC.nils _ _ | exact LeC.fz rfl rfl (by first | rfl | omega) (fun i _ j _ => ⟨rfl, by first | rfl | exact rowN_imm (fun _ => rfl) _ i j | exact rowF_imm (fun _ => rfl) _ i j⟩) | exact LeC.int (by omega), ?_⟩)) rfl, ?_⟩)
    · have hP := pApply_A b m (by omega) (by omega)
      have hR := rApply_A b m (by omega) (by omega)
      have hW1 := pWithin_A b m x (by omega) (by omega)
      have hW2 := rWithin_A b m x (by omega) (by omega)
      rw [apV, hpi] at hP hR
      obtain ⟨y, hy⟩ : ∃ y, apJ' b m = y := ⟨_, rfl⟩
      have hyn := apJ_n' hb m
      rw [hy] at hP hR hyn
      have hS := Same_A y.W y.H y.W y.H y.n y.n y.f y.f hyn
      rw [decide_eq_true rfl, decide_eq_true rfl, samePx_self] at hS
      obtain ⟨wv, hwv⟩ : ∃ wv, wiB b m x = wv := ⟨_, rfl⟩
      rw [hwv] at hW1 hW2
      cases wv
      all_goals
        repeat (first
          | refine AWp.seq ?_
          | refine thenA_n ?_
          | refine AWp.block ?_
          | refine AWp.skip ?_
          | refine inBlk_n ?_
          | refine AWp.condT rfl (by first | rfl | assumption | exact cmT) ?_
          | refine AWp.condF rfl (by first | rfl | assumption | exact cmF) ?_
          | (refine AWp.region (id := 11) ?_
             refine AList.cmpT rfl rfl rfl rfl rfl cmT ?_
             refine AList.nil ?_)
          | (refine AWp.region (id := 12) ?_
             refine AList.idx (k := 1) tyOk rfl rfl rfl rfl rfl rfl rfl rfl (by first | rfl | omega) oM oM ?_
             refine AList.loadAl tyOk rfl rfl rfl rfl rfl oM ?_
             refine AList.alloc tyOk rfl rfl rfl rfl rfl ?_
             refine AList.store tyOk rfl rfl rfl rfl rfl rfl rfl rfl oM oM ?_
             refine AList.nil ?_)
          | (refine AWp.region (id := 13) ?_
             refine AList.loadA tyOk rfl rfl rfl rfl rfl rfl rfl oM oM ?_
             refine AList.loadA tyOk rfl rfl rfl rfl rfl rfl rfl oM oM ?_
             refine AList.call rfl rfl rfl rfl Try.func24 rfl (by kernel_rfl) (hP) ?_
             refine AList.move rfl rfl rfl ?_
             refine AList.extract rfl rfl rfl rfl ?_
             refine AList.extract rfl rfl rfl rfl ?_
             refine AList.alloc tyOk rfl rfl rfl rfl rfl ?_
             refine AList.store tyOk rfl rfl rfl rfl rfl rfl rfl rfl oM oM ?_
             refine AList.assign rfl rfl rfl ?_
             refine AList.nil ?_)
          | (refine AWp.region (id := 14) ?_
             refine AList.loadA tyOk rfl rfl rfl rfl rfl rfl rfl oM oM ?_
             refine AList.loadA tyOk rfl rfl rfl rfl rfl rfl rfl oM oM ?_
             refine AList.call rfl rfl rfl rfl Try.func18 rfl (by kernel_rfl) (hR) ?_
             refine AList.move rfl rfl rfl ?_
             refine AList.extract rfl rfl rfl rfl ?_
             refine AList.extract rfl rfl rfl rfl ?_
             refine AList.alloc tyOk rfl rfl rfl rfl rfl ?_
             refine AList.store tyOk rfl rfl rfl rfl rfl rfl rfl rfl oM oM ?_
             refine AList.assign rfl rfl rfl ?_
             refine AList.nil ?_)
          | (refine AWp.draw (id := 15) mixed ?_
             refine AList.move rfl rfl rfl ?_
             refine AList.move rfl rfl rfl ?_
             refine AList.cmpF rfl rfl rfl rfl rfl (by simp only [cmpP, eq_self, decide_true, Bool.not_true]) ?_
             refine AList.move rfl rfl rfl ?_
             refine AList.loadA tyOk rfl rfl rfl rfl rfl rfl rfl oM oM ?_
             refine AList.loadA tyOk rfl rfl rfl rfl rfl rfl rfl oM oM ?_
             refine AList.call rfl rfl rfl rfl Try.func25 rfl (by kernel_rfl) (hS) ?_
             refine AList.notB rfl rfl rfl ?_
             refine AList.pickF rfl rfl rfl rfl ?_
             refine AList.move rfl rfl rfl ?_
             refine AList.loadA tyOk rfl rfl rfl rfl rfl rfl rfl oM oM ?_
             refine AList.loadA tyOk rfl rfl rfl rfl rfl rfl rfl oM oM ?_
             refine AList.loadA tyOk rfl rfl rfl rfl rfl rfl rfl oM oM ?_
             refine AList.call rfl rfl rfl rfl Try.func26 rfl (by kernel_rfl) (hW1) ?_
             refine AList.loadA tyOk rfl rfl rfl rfl rfl rfl rfl oM oM ?_
             refine AList.loadA tyOk rfl rfl rfl rfl rfl rfl rfl oM oM ?_
             refine AList.loadA tyOk rfl rfl rfl rfl rfl rfl rfl oM oM ?_
             refine AList.call rfl rfl rfl rfl Try.func27 rfl (by kernel_rfl) (hW2) ?_
             refine AList.neB rfl rfl rfl rfl (by kernel_rfl) ?_
             refine AList.pickF rfl rfl rfl rfl ?_
             refine AList.nil ⟨by kernel_rfl, ?_⟩)
          | (refine AWp.region (id := 17) ?_
             refine AList.add rfl rfl rfl rfl (by omega) (by omega) ?_
             refine AList.move rfl rfl rfl ?_
             refine AList.nil ?_))
        refine ⟨1 + 1, by omega, Wk.mk [(12, some 12), (13, some 13), (14, some 14)] rfl rfl rfl ?_ ?_, by omega⟩
        · repeat (first | exact trivial | refine ⟨⟨_, rfl, by first | exact LeA.c (LeC.refl _ rfl) | exact LeA.c (LeC.ow _ _ rfl) | exact LeA.c (LeC.pt _ _ _ _ _ rfl) | exact LeA.c (LeC.nil _ rfl) | exact LeA.c (LeC.nils _ _) | (refine LeA.int ?_; omega) | (refine LeA.int ?_; dsimp only; omega) | exact LeA.c (LeC.fz rfl rfl (by first | rfl | omega) (fun i _ j _ => ⟨rfl, by first | rfl | exact rowN_imm (fun _ => rfl) _ i j | exact rowF_imm (fun _ => rfl) _ i j⟩))⟩, ?_⟩)
        · repeat (first | exact trivial | refine ⟨by first | exact HeapOk.same rfl rfl rfl rfl | exact HeapOk.lent rfl rfl rfl rfl | exact HeapOk.nil rfl rfl | exact HeapOk.row rfl rfl (by first | rfl | omega) (fun i _ j _ => ⟨rfl, by first | rfl | exact rowN_imm (fun _ => rfl) _ i j | exact rowF_imm (fun _ => rfl) _ i j⟩) | exact HeapOk.box rfl rfl (by repeat (first | exact trivial | refine ⟨by first | exact LeC.refl _ rfl | exact LeC.ow _ _ rfl | exact LeC.nil _ rfl | exact LeC.nils _ _ | exact LeC.fz rfl rfl (by first | rfl | omega) (fun i _ j _ => ⟨rfl, by first | rfl | exact rowN_imm (fun _ => rfl) _ i j | exact rowF_imm (fun _ => rfl) _ i j⟩) | exact LeC.int (by omega), ?_⟩)) rfl, ?_⟩)
    · have hP := pApply_A b s (by omega) (by omega)
      have hR := rApply_A b s (by omega) (by omega)
      have hW1 := pWithin_A b s x (by omega) (by omega)
      have hW2 := rWithin_A b s x (by omega) (by omega)
      rw [apV, hpi] at hP hR
      obtain ⟨y, hy⟩ : ∃ y, apJ' b s = y := ⟨_, rfl⟩
      have hyn := apJ_n' hb s
      rw [hy] at hP hR hyn
      have hS := Same_A y.W y.H y.W y.H y.n y.n y.f y.f hyn
      rw [decide_eq_true rfl, decide_eq_true rfl, samePx_self] at hS
      obtain ⟨wv, hwv⟩ : ∃ wv, wiB b s x = wv := ⟨_, rfl⟩
      rw [hwv] at hW1 hW2
      cases wv
      all_goals
        repeat (first
          | refine AWp.seq ?_
          | refine thenA_n ?_
          | refine AWp.block ?_
          | refine AWp.skip ?_
          | refine inBlk_n ?_
          | refine AWp.condT rfl (by first | rfl | assumption | exact cmT) ?_
          | refine AWp.condF rfl (by first | rfl | assumption | exact cmF) ?_
          | (refine AWp.region (id := 11) ?_
             refine AList.cmpT rfl rfl rfl rfl rfl cmT ?_
             refine AList.nil ?_)
          | (refine AWp.region (id := 12) ?_
             refine AList.idx (k := 2) tyOk rfl rfl rfl rfl rfl rfl rfl rfl (by first | rfl | omega) oM oM ?_
             refine AList.loadAl tyOk rfl rfl rfl rfl rfl oM ?_
             refine AList.alloc tyOk rfl rfl rfl rfl rfl ?_
             refine AList.store tyOk rfl rfl rfl rfl rfl rfl rfl rfl oM oM ?_
             refine AList.nil ?_)
          | (refine AWp.region (id := 13) ?_
             refine AList.loadA tyOk rfl rfl rfl rfl rfl rfl rfl oM oM ?_
             refine AList.loadA tyOk rfl rfl rfl rfl rfl rfl rfl oM oM ?_
             refine AList.call rfl rfl rfl rfl Try.func24 rfl (by kernel_rfl) (hP) ?_
             refine AList.move rfl rfl rfl ?_
             refine AList.extract rfl rfl rfl rfl ?_
             refine AList.extract rfl rfl rfl rfl ?_
             refine AList.alloc tyOk rfl rfl rfl rfl rfl ?_
             refine AList.store tyOk rfl rfl rfl rfl rfl rfl rfl rfl oM oM ?_
             refine AList.assign rfl rfl rfl ?_
             refine AList.nil ?_)
          | (refine AWp.region (id := 14) ?_
             refine AList.loadA tyOk rfl rfl rfl rfl rfl rfl rfl oM oM ?_
             refine AList.loadA tyOk rfl rfl rfl rfl rfl rfl rfl oM oM ?_
             refine AList.call rfl rfl rfl rfl Try.func18 rfl (by kernel_rfl) (hR) ?_
             refine AList.move rfl rfl rfl ?_
             refine AList.extract rfl rfl rfl rfl ?_
             refine AList.extract rfl rfl rfl rfl ?_
             refine AList.alloc tyOk rfl rfl rfl rfl rfl ?_
             refine AList.store tyOk rfl rfl rfl rfl rfl rfl rfl rfl oM oM ?_
             refine AList.assign rfl rfl rfl ?_
             refine AList.nil ?_)
          | (refine AWp.draw (id := 15) mixed ?_
             refine AList.move rfl rfl rfl ?_
             refine AList.move rfl rfl rfl ?_
             refine AList.cmpF rfl rfl rfl rfl rfl (by simp only [cmpP, eq_self, decide_true, Bool.not_true]) ?_
             refine AList.move rfl rfl rfl ?_
             refine AList.loadA tyOk rfl rfl rfl rfl rfl rfl rfl oM oM ?_
             refine AList.loadA tyOk rfl rfl rfl rfl rfl rfl rfl oM oM ?_
             refine AList.call rfl rfl rfl rfl Try.func25 rfl (by kernel_rfl) (hS) ?_
             refine AList.notB rfl rfl rfl ?_
             refine AList.pickF rfl rfl rfl rfl ?_
             refine AList.move rfl rfl rfl ?_
             refine AList.loadA tyOk rfl rfl rfl rfl rfl rfl rfl oM oM ?_
             refine AList.loadA tyOk rfl rfl rfl rfl rfl rfl rfl oM oM ?_
             refine AList.loadA tyOk rfl rfl rfl rfl rfl rfl rfl oM oM ?_
             refine AList.call rfl rfl rfl rfl Try.func26 rfl (by kernel_rfl) (hW1) ?_
             refine AList.loadA tyOk rfl rfl rfl rfl rfl rfl rfl oM oM ?_
             refine AList.loadA tyOk rfl rfl rfl rfl rfl rfl rfl oM oM ?_
             refine AList.loadA tyOk rfl rfl rfl rfl rfl rfl rfl oM oM ?_
             refine AList.call rfl rfl rfl rfl Try.func27 rfl (by kernel_rfl) (hW2) ?_
             refine AList.neB rfl rfl rfl rfl (by kernel_rfl) ?_
             refine AList.pickF rfl rfl rfl rfl ?_
             refine AList.nil ⟨by kernel_rfl, ?_⟩)
          | (refine AWp.region (id := 17) ?_
             refine AList.add rfl rfl rfl rfl (by omega) (by omega) ?_
             refine AList.move rfl rfl rfl ?_
             refine AList.nil ?_))
        refine ⟨2 + 1, by omega, Wk.mk [(12, some 12), (13, some 13), (14, some 14)] rfl rfl rfl ?_ ?_, by omega⟩
        · repeat (first | exact trivial | refine ⟨⟨_, rfl, by first | exact LeA.c (LeC.refl _ rfl) | exact LeA.c (LeC.ow _ _ rfl) | exact LeA.c (LeC.pt _ _ _ _ _ rfl) | exact LeA.c (LeC.nil _ rfl) | exact LeA.c (LeC.nils _ _) | (refine LeA.int ?_; omega) | (refine LeA.int ?_; dsimp only; omega) | exact LeA.c (LeC.fz rfl rfl (by first | rfl | omega) (fun i _ j _ => ⟨rfl, by first | rfl | exact rowN_imm (fun _ => rfl) _ i j | exact rowF_imm (fun _ => rfl) _ i j⟩))⟩, ?_⟩)
        · repeat (first | exact trivial | refine ⟨by first | exact HeapOk.same rfl rfl rfl rfl | exact HeapOk.lent rfl rfl rfl rfl | exact HeapOk.nil rfl rfl | exact HeapOk.row rfl rfl (by first | rfl | omega) (fun i _ j _ => ⟨rfl, by first | rfl | exact rowN_imm (fun _ => rfl) _ i j | exact rowF_imm (fun _ => rfl) _ i j⟩) | exact HeapOk.box rfl rfl (by repeat (first | exact trivial | refine ⟨by first | exact LeC.refl _ rfl | exact LeC.ow _ _ rfl | exact LeC.nil _ rfl | exact LeC.nils _ _ | exact LeC.fz rfl rfl (by first | rfl | omega) (fun i _ j _ => ⟨rfl, by first | rfl | exact rowN_imm (fun _ => rfl) _ i j | exact rowF_imm (fun _ => rfl) _ i j⟩) | exact LeC.int (by omega), ?_⟩)) rfl, ?_⟩)
    · have hP := pApply_A b p (by omega) (by omega)
      have hR := rApply_A b p (by omega) (by omega)
      have hW1 := pWithin_A b p x (by omega) (by omega)
      have hW2 := rWithin_A b p x (by omega) (by omega)
      rw [apV, hpi] at hP hR
      obtain ⟨y, hy⟩ : ∃ y, apJ' b p = y := ⟨_, rfl⟩
      have hyn := apJ_n' hb p
      rw [hy] at hP hR hyn
      have hS := Same_A y.W y.H y.W y.H y.n y.n y.f y.f hyn
      rw [decide_eq_true rfl, decide_eq_true rfl, samePx_self] at hS
      obtain ⟨wv, hwv⟩ : ∃ wv, wiB b p x = wv := ⟨_, rfl⟩
      rw [hwv] at hW1 hW2
      cases wv
      all_goals
        repeat (first
          | refine AWp.seq ?_
          | refine thenA_n ?_
          | refine AWp.block ?_
          | refine AWp.skip ?_
          | refine inBlk_n ?_
          | refine AWp.condT rfl (by first | rfl | assumption | exact cmT) ?_
          | refine AWp.condF rfl (by first | rfl | assumption | exact cmF) ?_
          | (refine AWp.region (id := 11) ?_
             refine AList.cmpT rfl rfl rfl rfl rfl cmT ?_
             refine AList.nil ?_)
          | (refine AWp.region (id := 12) ?_
             refine AList.idx (k := 3) tyOk rfl rfl rfl rfl rfl rfl rfl rfl (by first | rfl | omega) oM oM ?_
             refine AList.loadAl tyOk rfl rfl rfl rfl rfl oM ?_
             refine AList.alloc tyOk rfl rfl rfl rfl rfl ?_
             refine AList.store tyOk rfl rfl rfl rfl rfl rfl rfl rfl oM oM ?_
             refine AList.nil ?_)
          | (refine AWp.region (id := 13) ?_
             refine AList.loadA tyOk rfl rfl rfl rfl rfl rfl rfl oM oM ?_
             refine AList.loadA tyOk rfl rfl rfl rfl rfl rfl rfl oM oM ?_
             refine AList.call rfl rfl rfl rfl Try.func24 rfl (by kernel_rfl) (hP) ?_
             refine AList.move rfl rfl rfl ?_
             refine AList.extract rfl rfl rfl rfl ?_
             refine AList.extract rfl rfl rfl rfl ?_
             refine AList.alloc tyOk rfl rfl rfl rfl rfl ?_
             refine AList.store tyOk rfl rfl rfl rfl rfl rfl rfl rfl oM oM ?_
             refine AList.assign rfl rfl rfl ?_
             refine AList.nil ?_)
          | (refine AWp.region (id := 14) ?_
             refine AList.loadA tyOk rfl rfl rfl rfl rfl rfl rfl oM oM ?_
             refine AList.loadA tyOk rfl rfl rfl rfl rfl rfl rfl oM oM ?_
             refine AList.call rfl rfl rfl rfl Try.func18 rfl (by kernel_rfl) (hR) ?_
             refine AList.move rfl rfl rfl ?_
             refine AList.extract rfl rfl rfl rfl ?_
             refine AList.extract rfl rfl rfl rfl ?_
             refine AList.alloc tyOk rfl rfl rfl rfl rfl ?_
             refine AList.store tyOk rfl rfl rfl rfl rfl rfl rfl rfl oM oM ?_
             refine AList.assign rfl rfl rfl ?_
             refine AList.nil ?_)
          | (refine AWp.draw (id := 15) mixed ?_
             refine AList.move rfl rfl rfl ?_
             refine AList.move rfl rfl rfl ?_
             refine AList.cmpF rfl rfl rfl rfl rfl (by simp only [cmpP, eq_self, decide_true, Bool.not_true]) ?_
             refine AList.move rfl rfl rfl ?_
             refine AList.loadA tyOk rfl rfl rfl rfl rfl rfl rfl oM oM ?_
             refine AList.loadA tyOk rfl rfl rfl rfl rfl rfl rfl oM oM ?_
             refine AList.call rfl rfl rfl rfl Try.func25 rfl (by kernel_rfl) (hS) ?_
             refine AList.notB rfl rfl rfl ?_
             refine AList.pickF rfl rfl rfl rfl ?_
             refine AList.move rfl rfl rfl ?_
             refine AList.loadA tyOk rfl rfl rfl rfl rfl rfl rfl oM oM ?_
             refine AList.loadA tyOk rfl rfl rfl rfl rfl rfl rfl oM oM ?_
             refine AList.loadA tyOk rfl rfl rfl rfl rfl rfl rfl oM oM ?_
             refine AList.call rfl rfl rfl rfl Try.func26 rfl (by kernel_rfl) (hW1) ?_
             refine AList.loadA tyOk rfl rfl rfl rfl rfl rfl rfl oM oM ?_
             refine AList.loadA tyOk rfl rfl rfl rfl rfl rfl rfl oM oM ?_
             refine AList.loadA tyOk rfl rfl rfl rfl rfl rfl rfl oM oM ?_
             refine AList.call rfl rfl rfl rfl Try.func27 rfl (by kernel_rfl) (hW2) ?_
             refine AList.neB rfl rfl rfl rfl (by kernel_rfl) ?_
             refine AList.pickF rfl rfl rfl rfl ?_
             refine AList.nil ⟨by kernel_rfl, ?_⟩)
          | (refine AWp.region (id := 17) ?_
             refine AList.add rfl rfl rfl rfl (by omega) (by omega) ?_
             refine AList.move rfl rfl rfl ?_
             refine AList.nil ?_))
        refine ⟨3 + 1, by omega, Wk.mk [(12, some 12), (13, some 13), (14, some 14)] rfl rfl rfl ?_ ?_, by omega⟩
        · repeat (first | exact trivial | refine ⟨⟨_, rfl, by first | exact LeA.c (LeC.refl _ rfl) | exact LeA.c (LeC.ow _ _ rfl) | exact LeA.c (LeC.pt _ _ _ _ _ rfl) | exact LeA.c (LeC.nil _ rfl) | exact LeA.c (LeC.nils _ _) | (refine LeA.int ?_; omega) | (refine LeA.int ?_; dsimp only; omega) | exact LeA.c (LeC.fz rfl rfl (by first | rfl | omega) (fun i _ j _ => ⟨rfl, by first | rfl | exact rowN_imm (fun _ => rfl) _ i j | exact rowF_imm (fun _ => rfl) _ i j⟩))⟩, ?_⟩)
        · repeat (first | exact trivial | refine ⟨by first | exact HeapOk.same rfl rfl rfl rfl | exact HeapOk.lent rfl rfl rfl rfl | exact HeapOk.nil rfl rfl | exact HeapOk.row rfl rfl (by first | rfl | omega) (fun i _ j _ => ⟨rfl, by first | rfl | exact rowN_imm (fun _ => rfl) _ i j | exact rowF_imm (fun _ => rfl) _ i j⟩) | exact HeapOk.box rfl rfl (by repeat (first | exact trivial | refine ⟨by first | exact LeC.refl _ rfl | exact LeC.ow _ _ rfl | exact LeC.nil _ rfl | exact LeC.nils _ _ | exact LeC.fz rfl rfl (by first | rfl | omega) (fun i _ j _ => ⟨rfl, by first | rfl | exact rowN_imm (fun _ => rfl) _ i j | exact rowF_imm (fun _ => rfl) _ i j⟩) | exact LeC.int (by omega), ?_⟩)) rfl, ?_⟩)
    · have hP := pApply_A b r (by omega) (by omega)
      have hR := rApply_A b r (by omega) (by omega)
      have hW1 := pWithin_A b r x (by omega) (by omega)
      have hW2 := rWithin_A b r x (by omega) (by omega)
      rw [apV, hpi] at hP hR
      obtain ⟨y, hy⟩ : ∃ y, apJ' b r = y := ⟨_, rfl⟩
      have hyn := apJ_n' hb r
      rw [hy] at hP hR hyn
      have hS := Same_A y.W y.H y.W y.H y.n y.n y.f y.f hyn
      rw [decide_eq_true rfl, decide_eq_true rfl, samePx_self] at hS
      obtain ⟨wv, hwv⟩ : ∃ wv, wiB b r x = wv := ⟨_, rfl⟩
      rw [hwv] at hW1 hW2
      cases wv
      all_goals
        repeat (first
          | refine AWp.seq ?_
          | refine thenA_n ?_
          | refine AWp.block ?_
          | refine AWp.skip ?_
          | refine inBlk_n ?_
          | refine AWp.condT rfl (by first | rfl | assumption | exact cmT) ?_
          | refine AWp.condF rfl (by first | rfl | assumption | exact cmF) ?_
          | (refine AWp.region (id := 11) ?_
             refine AList.cmpT rfl rfl rfl rfl rfl cmT ?_
             refine AList.nil ?_)
          | (refine AWp.region (id := 12) ?_
             refine AList.idx (k := 4) tyOk rfl rfl rfl rfl rfl rfl rfl rfl (by first | rfl | omega) oM oM ?_
             refine AList.loadAl tyOk rfl rfl rfl rfl rfl oM ?_
             refine AList.alloc tyOk rfl rfl rfl rfl rfl ?_
             refine AList.store tyOk rfl rfl rfl rfl rfl rfl rfl rfl oM oM ?_
             refine AList.nil ?_)
          | (refine AWp.region (id := 13) ?_
             refine AList.loadA tyOk rfl rfl rfl rfl rfl rfl rfl oM oM ?_
             refine AList.loadA tyOk rfl rfl rfl rfl rfl rfl rfl oM oM ?_
             refine AList.call rfl rfl rfl rfl Try.func24 rfl (by kernel_rfl) (hP) ?_
             refine AList.move rfl rfl rfl ?_
             refine AList.extract rfl rfl rfl rfl ?_
             refine AList.extract rfl rfl rfl rfl ?_
             refine AList.alloc tyOk rfl rfl rfl rfl rfl ?_
             refine AList.store tyOk rfl rfl rfl rfl rfl rfl rfl rfl oM oM ?_
             refine AList.assign rfl rfl rfl ?_
             refine AList.nil ?_)
          | (refine AWp.region (id := 14) ?_
             refine AList.loadA tyOk rfl rfl rfl rfl rfl rfl rfl oM oM ?_
             refine AList.loadA tyOk rfl rfl rfl rfl rfl rfl rfl oM oM ?_
             refine AList.call rfl rfl rfl rfl Try.func18 rfl (by kernel_rfl) (hR) ?_
             refine AList.move rfl rfl rfl ?_
             refine AList.extract rfl rfl rfl rfl ?_
             refine AList.extract rfl rfl rfl rfl ?_
             refine AList.alloc tyOk rfl rfl rfl rfl rfl ?_
             refine AList.store tyOk rfl rfl rfl rfl rfl rfl rfl rfl oM oM ?_
             refine AList.assign rfl rfl rfl ?_
             refine AList.nil ?_)
          | (refine AWp.draw (id := 15) mixed ?_
             refine AList.move rfl rfl rfl ?_
             refine AList.move rfl rfl rfl ?_
             refine AList.cmpF rfl rfl rfl rfl rfl (by simp only [cmpP, eq_self, decide_true, Bool.not_true]) ?_
             refine AList.move rfl rfl rfl ?_
             refine AList.loadA tyOk rfl rfl rfl rfl rfl rfl rfl oM oM ?_
             refine AList.loadA tyOk rfl rfl rfl rfl rfl rfl rfl oM oM ?_
             refine AList.call rfl rfl rfl rfl Try.func25 rfl (by kernel_rfl) (hS) ?_
             refine AList.notB rfl rfl rfl ?_
             refine AList.pickF rfl rfl rfl rfl ?_
             refine AList.move rfl rfl rfl ?_
             refine AList.loadA tyOk rfl rfl rfl rfl rfl rfl rfl oM oM ?_
             refine AList.loadA tyOk rfl rfl rfl rfl rfl rfl rfl oM oM ?_
             refine AList.loadA tyOk rfl rfl rfl rfl rfl rfl rfl oM oM ?_
             refine AList.call rfl rfl rfl rfl Try.func26 rfl (by kernel_rfl) (hW1) ?_
             refine AList.loadA tyOk rfl rfl rfl rfl rfl rfl rfl oM oM ?_
             refine AList.loadA tyOk rfl rfl rfl rfl rfl rfl rfl oM oM ?_
             refine AList.loadA tyOk rfl rfl rfl rfl rfl rfl rfl oM oM ?_
             refine AList.call rfl rfl rfl rfl Try.func27 rfl (by kernel_rfl) (hW2) ?_
             refine AList.neB rfl rfl rfl rfl (by kernel_rfl) ?_
             refine AList.pickF rfl rfl rfl rfl ?_
             refine AList.nil ⟨by kernel_rfl, ?_⟩)
          | (refine AWp.region (id := 17) ?_
             refine AList.add rfl rfl rfl rfl (by omega) (by omega) ?_
             refine AList.move rfl rfl rfl ?_
             refine AList.nil ?_))
        refine ⟨4 + 1, by omega, Wk.mk [(12, some 12), (13, some 13), (14, some 14)] rfl rfl rfl ?_ ?_, by omega⟩
        · repeat (first | exact trivial | refine ⟨⟨_, rfl, by first | exact LeA.c (LeC.refl _ rfl) | exact LeA.c (LeC.ow _ _ rfl) | exact LeA.c (LeC.pt _ _ _ _ _ rfl) | exact LeA.c (LeC.nil _ rfl) | exact LeA.c (LeC.nils _ _) | (refine LeA.int ?_; omega) | (refine LeA.int ?_; dsimp only; omega) | exact LeA.c (LeC.fz rfl rfl (by first | rfl | omega) (fun i _ j _ => ⟨rfl, by first | rfl | exact rowN_imm (fun _ => rfl) _ i j | exact rowF_imm (fun _ => rfl) _ i j⟩))⟩, ?_⟩)
        · repeat (first | exact trivial | refine ⟨by first | exact HeapOk.same rfl rfl rfl rfl | exact HeapOk.lent rfl rfl rfl rfl | exact HeapOk.nil rfl rfl | exact HeapOk.row rfl rfl (by first | rfl | omega) (fun i _ j _ => ⟨rfl, by first | rfl | exact rowN_imm (fun _ => rfl) _ i j | exact rowF_imm (fun _ => rfl) _ i j⟩) | exact HeapOk.box rfl rfl (by repeat (first | exact trivial | refine ⟨by first | exact LeC.refl _ rfl | exact LeC.ow _ _ rfl | exact LeC.nil _ rfl | exact LeC.nils _ _ | exact LeC.fz rfl rfl (by first | rfl | omega) (fun i _ j _ => ⟨rfl, by first | rfl | exact rowN_imm (fun _ => rfl) _ i j | exact rowF_imm (fun _ => rfl) _ i j⟩) | exact LeC.int (by omega), ?_⟩)) rfl, ?_⟩)
    · repeat (first
        | refine AWp.seq ?_
        | refine thenA_n ?_
        | refine AWp.exit ?_
        | refine AWp.ret ?_
        | refine AWp.condF rfl (by first | rfl | assumption | exact cmF) ?_
        | (refine AWp.region (id := 11) ?_
           refine AList.cmpF rfl rfl rfl rfl rfl cmF ?_
           refine AList.nil ?_)
        | (refine AWp.region (id := 18) ?_
           refine AList.move rfl rfl rfl ?_
           refine AList.move rfl rfl rfl ?_
           refine AList.loadA tyOk rfl rfl rfl rfl rfl rfl rfl oM oM ?_
           refine AList.loadA tyOk rfl rfl rfl rfl rfl rfl rfl oM oM ?_
           refine AList.loadA tyOk rfl rfl rfl rfl rfl rfl rfl oM oM ?_
           refine AList.call rfl rfl rfl rfl Try.func26 rfl (by kernel_rfl) (hWh) ?_
           refine AList.pickT rfl rfl rfl rfl ?_
           refine AList.assign rfl rfl rfl ?_
           refine AList.nil ?_))
      refine ⟨_, rfl, mkSt 114 [(10, .c (bC true))] [] [], [], Wk.mk [] rfl rfl rfl ?_ trivial, rfl, rfl, ARets.one (x := .c _) (ARes.tmp rfl rfl)⟩
      repeat (first | exact trivial | refine ⟨⟨_, rfl, by first | exact LeA.c (LeC.refl _ rfl) | exact LeA.c (LeC.ow _ _ rfl) | exact LeA.c (LeC.pt _ _ _ _ _ rfl) | exact LeA.c (LeC.nil _ rfl) | exact LeA.c (LeC.nils _ _) | (refine LeA.int ?_; omega) | (refine LeA.int ?_; dsimp only; omega) | exact LeA.c (LeC.fz rfl rfl (by first | rfl | omega) (fun i _ j _ => ⟨rfl, by first | rfl | exact rowN_imm (fun _ => rfl) _ i j | exact rowF_imm (fun _ => rfl) _ i j⟩))⟩, ?_⟩)
end Go.Proofs.Ytclaanggpcjnbaa
end

section
/- DamageApplies: the statement. No condition. -/
namespace Go.Proofs.Ytclaanggpcjnbaa.damageApplies
open Go.ChangeShapes Go.WideShapes Go.ChangeAt Go.RowKit Go.Flow Go.AV
theorem contract (H : Type) (enc : TypeId × Value → H) (W : World) (base : Nat) (args : Array Value) (ds gs : List (DataW H)) (before : List MemPlace)
    (hval : ∀ (j : Nat) t v, Try.f7.params[j]? = some t → args[j]? = some v → Value.okWide Try.prog W .any base t v)
    (hW : DataW.Whole enc Try.prog Try.f7.params.toList Rows.damageAppliesSpec.vars false W args.toList ds gs before)
    (hsz : (DataW.weightsEach Try.prog (Try.f7.params.toList ++ (OpenSpec.ofChange Rows.damageAppliesSpec).bare.plain.varTypes Try.prog) (ds ++ gs)).all (· ≤ reachBytes) = true) :
    Calls Try.prog 7 args W fun e W' => ∃ v, e = .returned v ∧ Rows.damageAppliesSpec.post enc Try.prog Try.f7 false true false false W args v W' := by
  have hW' := hW
  obtain ⟨p, q, hA0, hV, rfl, hfz, hnd⟩ := hW
  have hA : DataW.TrodAll enc Try.prog W 0 (fun _ => true) true Try.f7.params.toList args.toList ds p := hA0
  have hAk := hA0
  rw [Try.params7] at hA hval hsz
  obtain ⟨rfl, rfl⟩ := trodVars_none hV
  obtain ⟨v0, vs0, d0, ds0, p0, q0, hargs, rfl, rfl, h0, t0⟩ := trodAll_cons hA
  obtain ⟨v1, vs1, d1, ds1, p1, q1, rfl, rfl, rfl, h1, t1⟩ := trodAll_cons t0
  obtain ⟨v2, vs2, d2, ds2, p2, q2, rfl, rfl, rfl, h2, t2⟩ := trodAll_cons t1
  obtain ⟨v3, vs3, d3, ds3, p3, q3, rfl, rfl, rfl, h3, t3⟩ := trodAll_cons t2
  obtain ⟨v4, vs4, d4, ds4, p4, q4, rfl, rfl, rfl, h4, t4⟩ := trodAll_cons t3
  obtain ⟨rfl, rfl, rfl⟩ := trodAll_nil t4
  obtain rfl : args = #[v0, v1, v2, v3, v4] := by rw [← Array.toList_inj]; exact hargs
  have hlt := fun x hx => hW'.lt x hx
  simp only [List.append_nil] at hW'
  rw [List.append_nil] at hsz
  obtain ⟨a0, ok0, r0⟩ := opn_ints.argC (cells_slice Try.underlying22 (hval 0 22 v0 rfl rfl)) h0 (weigh hsz 0 (t := 22) (d := d0) rfl rfl)
  obtain ⟨a1, ok1, r1⟩ := opn_ints.argC (cells_slice Try.underlying22 (hval 1 22 v1 rfl rfl)) h1 (weigh hsz 1 (t := 22) (d := d1) rfl rfl)
  obtain ⟨a2, ok2, r2⟩ := opn_ints.argC (cells_slice Try.underlying22 (hval 2 22 v2 rfl rfl)) h2 (weigh hsz 2 (t := 22) (d := d2) rfl rfl)
  obtain ⟨a3, ok3, r3⟩ := opn_int.argC (cells_int Try.underlying3 (hval 3 3 v3 rfl rfl)) h3 (weigh hsz 3 (t := 3) (d := d3) rfl rfl)
  obtain ⟨a4, ok4, r4⟩ := opn_hit.argS Try.underlying47 (hval 4 47 v4 rfl rfl) h4 (weigh hsz 4 (t := 47) (d := d4) rfl rfl)
  refine ((DamageApplies_A a0.length (fun k => a0.getD k 0) a1.length (fun k => a1.getD k 0) a2.length (fun k => a2.getD k 0) a3 a4 ok0.1 ok1.1 ok2.1 ok4.1 ok4.2) O0 W [_, _, _, _, _] (fun b h => h.elim) ⟨r0, r1, r2, r3, r4, trivial⟩).mono fun e W' ⟨v, r, he, hr, hv, hE⟩ => ?_
  subst hr
  obtain rfl : v = .bool true := hv.2
  subst he
  exact ⟨_, rfl, post_below (pv := []) hW' (fun _ _ _ => trodAll_cons_mk (shut_bool Try.underlying4 _) trodAll_mk0)
    (fun sp hsp => trodAll_below laidOut hE (by rw [Try.params7]; intro t ht; simp only [List.mem_cons, List.not_mem_nil, or_false] at ht; rcases ht with rfl | rfl | rfl | rfl | rfl <;> exact ⟨by kernel_rfl, of_decide_eq_true (by kernel_rfl)⟩) hAk (fun x hx => hlt x (by rw [List.append_nil]; exact hx)) sp (fun x hx => hsp x (by simpa only [List.append_nil] using hx)))
    (fun _ _ => rfl) (by simp) hE (ok_one (by kernel_rfl) rfl (okWide_bool_mk Try.underlying4 _))⟩
theorem own : ownKnob Try.prog.godebug = none := by kernel_rfl
set_option maxRecDepth 100000 in
theorem lifted (os : Os) (started : os.Started) (H : Type) (enc : TypeId × Value → H) :
    ReturnsInHanded {} Try.checked os 7 .any (Rows.damageAppliesSpec.pre6 enc Try.prog Try.f7 Rows.damageAppliesRow.domain false) (Rows.damageAppliesSpec.post enc Try.prog Try.f7 false true false false) := by
  refine returnsInHanded_of_change_sized (C := Try.checked) own started (by kernel_rfl) Try.func7
    (ChangeSpec.witness6 (enc := enc) (C := Try.checked) false ⟨#[], #[.slice none 0 0, .slice none 0 0, .slice none 0 0, .int .i64 0, .agg #[.int .i64 0, .int .i64 0, .slice none 0 0, .slice none 0 0, .int .i64 0, .int .i64 0]], []⟩ 8 (by kernel_rfl) (by kernel_rfl) (by kernel_rfl) (by kernel_rfl)) ?_
  intro W base args ds gs before hval hW _ hsz _
  exact contract H enc W base args ds gs before hval hW hsz
theorem said : Rows.DamageAppliesSaid :=
  OpenClaim.holds_of_wide 7 Try.f7 rfl rfl rfl rfl rfl rfl rfl ⟨rfl, rfl, rfl, rfl, rfl⟩ rfl rfl rfl rfl rfl (by kernel_rfl) Try.func7 (by kernel_rfl)
    (of_decide_eq_true (by kernel_rfl)) (by unfold Func.isWrapper; first | (rw [if_pos (by decide +kernel)]; kernel_rfl) | (rw [if_neg (by decide +kernel)]; exact ⟨rfl, rfl⟩))
    (fun os started H enc _ => lifted os started H enc)
end Go.Proofs.Ytclaanggpcjnbaa.damageApplies
end
