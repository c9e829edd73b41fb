/- DamageGrows: the statement. No condition. -/
import Derived.Test.YtclaanggpcjnbaaG34
import Derived.Test.YtclaanggpcjnbaaHA23grr01
import Derived.Test.YtclaanggpcjnbaaRows
import Derived.Test.YtclaanggpcjnbaaG27
set_option linter.unusedSimpArgs false
set_option linter.unusedVariables false
section
/- Chapter 23: the law DamageGrows over plain values. -/
namespace Go.Proofs.Ytclaanggpcjnbaa
open Go.RowKit Go.Flow Go.AV Go.Plain
theorem lim1_mono {a b m : Int} (h : a ≤ b) : lim1 a m ≤ lim1 b m := by unfold lim1; omega
theorem at_mono {m : Mat} (hm : matE m = 0) {y z : Int} (h0 : 0 ≤ y) (h : y ≤ z) : (atB m y).lo ≤ (atB m z).lo ∧ (atB m y).bl ≤ (atB m z).bl ∧ (atB m y).sh ≤ (atB m z).sh ∧ (atB m y).st ≤ (atB m z).st := by
  obtain ⟨-, he, hb, hs⟩ := matE_ok hm
  obtain ⟨b1, b2, b3, b4⟩ := lim_bd hs
  have hq : y / m.every ≤ z / m.every := Int.ediv_le_ediv (by omega) h
  have hm : ∀ {a : Int}, 0 ≤ a → y / m.every * a ≤ z / m.every * a := fun ha => Int.mul_le_mul_of_nonneg_right hq ha
  have p1 := hm b1.1
  have p2 := hm b2.1
  have p3 := hm b3.1
  have p4 := hm b4.1
  refine ⟨lim1_mono ?_, lim1_mono ?_, lim1_mono ?_, lim1_mono ?_⟩
  all_goals (dsimp only; omega)
theorem atB_lim (m : Mat) (y : Int) : lim4 (atB m y) = atB m y := lim_idem _
theorem bg_eqZ (w : World) : (Go.binOp .eql 24 (.agg #[.int .i64 0, .int .i64 0, .int .i64 0, .int .i64 0]) (.agg #[.int .i64 0, .int .i64 0, .int .i64 0, .int .i64 0])).run Try.prog w = .ok (.bool true) w := by
  have hp : Try.prog.stoodInHeld 24 = false := by kernel_rfl
  go_simp
set_option maxHeartbeats 4000000 in
set_option maxRecDepth 100000 in
theorem DamageGrows_A (N : Nat) (f : Nat → Int) (p q : Int) (Nc : Nat) (fc : Nat → Int) (Nd : Nat) (fd : Nat → Int) (Nh : Nat) (fh : Nat → Int) (hN : N ≤ 4611686018427387904) (hp : 0 ≤ p ∧ p ≤ 255) (hq : 0 ≤ q ∧ q ≤ 255) (hNc : Nc ≤ 4611686018427387904) (hNd : Nd ≤ 4611686018427387904) (hNh : Nh ≤ 4611686018427387904) :
    ECalls Try.prog 5 [.c (.ls N 1 (iF f)), .ag [.p (.int .u8 p), .p (.int .u8 q)], .c (.ls Nc 1 (iF fc)), .c (.ls Nd 1 (iF fd)), .c (.ls Nh 1 (iF fh))] (fun v => v = .c (bC true)) := by
  have hC1 := cutL_A N f 12 hN (by omega)
  have hC2 := cutL_A Nc fc 60 hNc (by omega)
  have hC3 := cutL_A Nd fd 60 hNd (by omega)
  have hC4 := cutL_A Nh fh 12 hNh (by omega)
  have hMat := Material_A (min N 12) f (by omega)
  obtain ⟨x, hm⟩ : ∃ x, matN (min N 12) f = x := ⟨_, rfl⟩
  have hok := matN_ok (min N 12) f
  rw [hm] at hMat hok
  obtain ⟨y1, hy1⟩ : ∃ y, (min p q) % 60 = y := ⟨_, rfl⟩
  obtain ⟨y2, hy2⟩ : ∃ y, (max p q) % 60 = y := ⟨_, rfl⟩
  have hb1 : 0 ≤ y1 ∧ y1 < 60 := by omega
  have hb2 : 0 ≤ y2 ∧ y2 < 60 := by omega
  have hz1 : IntKind.i64.wrap ((min p q) % 60) = y1 := by rw [hy1, IntKind.wrap_i64]; omega
  have hz2 : IntKind.i64.wrap ((max p q) % 60) = y2 := by rw [hy2, IntKind.wrap_i64]; omega
  refine ecalls_at Try.func5 rfl rfl Try.ntmps5 rfl ?_
  repeat (first
    | refine AWp.seq ?_
    | (refine AWp.region (id := 0) ?_
       refine AList.box rfl rfl rfl rfl rfl ?_
       refine AList.assign rfl rfl rfl ?_
       refine AList.nil ?_)
    | (refine AWp.region (id := 1) ?_
       refine AList.call rfl rfl rfl rfl Try.func9 rfl (by kernel_rfl) (sanity_A) ?_
       refine AList.assign rfl rfl rfl ?_
       refine AList.nil ?_)
    | (refine AWp.region (id := 2) ?_
       refine AList.move rfl rfl rfl ?_
       refine AList.call rfl rfl rfl rfl Try.func11 rfl (by kernel_rfl) (hC1) ?_
       refine AList.call rfl rfl rfl rfl Try.func10 rfl (by kernel_rfl) (hMat) ?_
       refine AList.alloc tyOk rfl rfl rfl rfl rfl ?_
       refine AList.store tyOk rfl rfl rfl rfl rfl rfl rfl rfl oM oM ?_
       refine AList.nil ?_)
    | (refine AWp.draw (id := 3) mixed ?_
       refine AList.idxArr tyOk rfl rfl rfl rfl rfl rfl rfl rfl oM ?_
       refine AList.load1 tyOk rfl rfl rfl rfl rfl rfl rfl oM oM ?_
       refine AList.idxArr tyOk rfl rfl rfl rfl rfl rfl rfl rfl oM ?_
       refine AList.load1 tyOk rfl rfl rfl rfl rfl rfl rfl oM oM ?_
       refine AList.minI rfl rfl rfl rfl ?_
       refine AList.remK rfl rfl rfl rfl (by omega) (by omega) ?_
       refine AList.convI (hz1) (by kernel_rfl) Try.underlying3 rfl rfl rfl ?_
       refine AList.idxArr tyOk rfl rfl rfl rfl rfl rfl rfl rfl oM ?_
       refine AList.load1 tyOk rfl rfl rfl rfl rfl rfl rfl oM oM ?_
       refine AList.idxArr tyOk rfl rfl rfl rfl rfl rfl rfl rfl oM ?_
       refine AList.load1 tyOk rfl rfl rfl rfl rfl rfl rfl oM oM ?_
       refine AList.maxI rfl rfl rfl rfl ?_
       refine AList.remK rfl rfl rfl rfl (by omega) (by omega) ?_
       refine AList.convI (hz2) (by kernel_rfl) Try.underlying3 rfl rfl rfl ?_
       refine AList.assign rfl rfl rfl ?_
       refine AList.assign rfl rfl rfl ?_
       refine AList.nil ⟨by kernel_rfl, ?_⟩))
  by_cases hsw : y1 > y2
  · have hAF := pAt_A x y2
    have hAT := pAt_A x y1
    by_cases hT : y1 ≤ x.life
    · have hF : y2 ≤ x.life := by omega
      have eF : atV x y2 = (atB x y2, true) := if_pos ⟨hok, by omega, hF⟩
      have eT : atV x y1 = (atB x y1, true) := if_pos ⟨hok, by omega, hT⟩
      obtain ⟨m1, m2, m3, m4⟩ := at_mono (y := y2) (z := y1) hok (by omega) (by omega)
      have hmo := fun (y : Ip) (d : Bp) => ex_mono (x := y) (b := d) (y := atB x y2) (z := atB x y1) (by rw [atB_lim, atB_lim]; exact m1) (by rw [atB_lim, atB_lim]; exact m2) (by rw [atB_lim, atB_lim]; exact m3)
      rw [eF] at hAF
      rw [eT] at hAT
      generalize atB x y2 = A at *
      generalize atB x y1 = Z at *
      repeat (first
        | refine AWp.seq ?_
        | refine thenA_n ?_
        | refine AWp.skip ?_
        | refine AWp.condT rfl (by first | rfl | assumption | exact cmT) ?_
        | refine AWp.condF rfl (by first | rfl | assumption | exact cmF) ?_
        | (refine AWp.region (id := 4) ?_
           refine AList.move rfl rfl rfl ?_
           refine AList.move rfl rfl rfl ?_
           refine AList.cmpT rfl rfl rfl rfl rfl cmT ?_
           refine AList.nil ?_)
        | (refine AWp.region (id := 5) ?_
           refine AList.move rfl rfl rfl ?_
           refine AList.move rfl rfl rfl ?_
           refine AList.assign rfl rfl rfl ?_
           refine AList.assign rfl rfl rfl ?_
           refine AList.nil ?_)
        | (refine AWp.region (id := 6) ?_
           refine AList.loadA tyOk rfl rfl rfl rfl rfl rfl rfl oM oM ?_
           refine AList.move rfl rfl rfl ?_
           refine AList.call rfl rfl rfl rfl Try.func12 rfl (by kernel_rfl) (hAF) ?_
           refine AList.move rfl rfl rfl ?_
           refine AList.extract rfl rfl rfl rfl ?_
           refine AList.extract rfl rfl rfl rfl ?_
           refine AList.alloc tyOk rfl rfl rfl rfl rfl ?_
           refine AList.store tyOk rfl rfl rfl rfl rfl rfl rfl rfl oM oM ?_
           refine AList.assign rfl rfl rfl ?_
           refine AList.nil ?_)
        | (refine AWp.region (id := 7) ?_
           refine AList.loadA tyOk rfl rfl rfl rfl rfl rfl rfl oM oM ?_
           refine AList.move rfl rfl rfl ?_
           refine AList.call rfl rfl rfl rfl Try.func12 rfl (by kernel_rfl) (hAT) ?_
           refine AList.move rfl rfl rfl ?_
           refine AList.extract rfl rfl rfl rfl ?_
           refine AList.extract rfl rfl rfl rfl ?_
           refine AList.alloc tyOk rfl rfl rfl rfl rfl ?_
           refine AList.store tyOk rfl rfl rfl rfl rfl rfl rfl rfl oM oM ?_
           refine AList.assign rfl rfl rfl ?_
           refine AList.nil ?_)
        | (refine AWp.region (id := 8) ?_
           refine AList.move rfl rfl rfl ?_
           refine AList.move rfl rfl rfl ?_
           refine AList.fieldPt tyOk rfl rfl rfl rfl rfl rfl rfl ?_
           refine AList.load1 tyOk rfl rfl rfl rfl rfl rfl rfl oM oM ?_
           refine AList.cmpT rfl rfl rfl rfl rfl cmT ?_
           refine AList.neB rfl rfl rfl rfl (by kernel_rfl) ?_
           refine AList.move rfl rfl rfl ?_
           refine AList.move rfl rfl rfl ?_
           refine AList.move rfl rfl rfl ?_
           refine AList.fieldPt tyOk rfl rfl rfl rfl rfl rfl rfl ?_
           refine AList.load1 tyOk rfl rfl rfl rfl rfl rfl rfl oM oM ?_
           refine AList.cmpT rfl rfl rfl rfl rfl cmT ?_
           refine AList.neB rfl rfl rfl rfl (by kernel_rfl) ?_
           refine AList.pickF rfl rfl rfl rfl ?_
           refine AList.nil ?_)
        | (refine AWp.region (id := 10) ?_
           refine AList.move rfl rfl rfl ?_
           refine AList.notB rfl rfl rfl ?_
           refine AList.nil ?_)
        | (refine AWp.region (id := 12) ?_
           refine AList.fieldPt tyOk rfl rfl rfl rfl rfl rfl rfl ?_
           refine AList.load1 tyOk rfl rfl rfl rfl rfl rfl rfl oM oM ?_
           refine AList.fieldPt tyOk rfl rfl rfl rfl rfl rfl rfl ?_
           refine AList.load1 tyOk rfl rfl rfl rfl rfl rfl rfl oM oM ?_
           refine AList.cmpF rfl rfl rfl rfl rfl cmF ?_
           refine AList.move rfl rfl rfl ?_
           refine AList.fieldPt tyOk rfl rfl rfl rfl rfl rfl rfl ?_
           refine AList.load1 tyOk rfl rfl rfl rfl rfl rfl rfl oM oM ?_
           refine AList.fieldPt tyOk rfl rfl rfl rfl rfl rfl rfl ?_
           refine AList.load1 tyOk rfl rfl rfl rfl rfl rfl rfl oM oM ?_
           refine AList.cmpF rfl rfl rfl rfl rfl cmF ?_
           refine AList.pickF rfl rfl rfl rfl ?_
           refine AList.move rfl rfl rfl ?_
           refine AList.fieldPt tyOk rfl rfl rfl rfl rfl rfl rfl ?_
           refine AList.load1 tyOk rfl rfl rfl rfl rfl rfl rfl oM oM ?_
           refine AList.fieldPt tyOk rfl rfl rfl rfl rfl rfl rfl ?_
           refine AList.load1 tyOk rfl rfl rfl rfl rfl rfl rfl oM oM ?_
           refine AList.cmpF rfl rfl rfl rfl rfl cmF ?_
           refine AList.pickF rfl rfl rfl rfl ?_
           refine AList.move rfl rfl rfl ?_
           refine AList.fieldPt tyOk rfl rfl rfl rfl rfl rfl rfl ?_
           refine AList.load1 tyOk rfl rfl rfl rfl rfl rfl rfl oM oM ?_
           refine AList.fieldPt tyOk rfl rfl rfl rfl rfl rfl rfl ?_
           refine AList.load1 tyOk rfl rfl rfl rfl rfl rfl rfl oM oM ?_
           refine AList.cmpF rfl rfl rfl rfl rfl cmF ?_
           refine AList.pickF rfl rfl rfl rfl ?_
           refine AList.nil ?_))
      refine AWp.text ?_
      refine AText.split 2 ?_
      refine AList.move rfl rfl rfl ?_
      refine AList.call rfl rfl rfl rfl Try.func11 rfl (by kernel_rfl) (hC2) ?_
      refine AList.nil ?_
      refine AText.callE rfl rfl rfl rfl Try.func16 rfl (by kernel_rfl) (Made_B (min Nc 60) fc (by omega)) ?_
      rintro _ ⟨c, hc, rfl⟩
      refine AText.split 2 ?_
      refine AList.move rfl rfl rfl ?_
      refine AList.call rfl rfl rfl rfl Try.func11 rfl (by kernel_rfl) (hC3) ?_
      refine AList.nil ?_
      refine AText.callE rfl rfl rfl rfl Try.func16 rfl (by kernel_rfl) (Made_B (min Nd 60) fd (by omega)) ?_
      rintro _ ⟨d, hd, rfl⟩
      refine AText.all ?_
      refine AList.alloc tyOk rfl rfl rfl rfl rfl ?_
      refine AList.alloc tyOk rfl rfl rfl rfl rfl ?_
      refine AList.store tyOk rfl rfl rfl rfl rfl rfl rfl rfl oM oM ?_
      refine AList.store tyOk rfl rfl rfl rfl rfl rfl rfl rfl oM oM ?_
      refine AList.nil ?_
      obtain ⟨hH, hHN, hHM, hHw⟩ := Hit_A (min Nh 12) fh c Z (by omega) hc.1
      obtain ⟨h, hh⟩ : ∃ h, hitV (min Nh 12) fh c Z = h := ⟨_, rfl⟩
      rw [hh] at hH hHN hHM hHw
      have hA := rApply_A c h (by omega) (by omega)
      rw [apV, apI, if_pos (wi_ok hHw)] at hA
      obtain ⟨y, hy⟩ : ∃ y, apP c h = y := ⟨_, rfl⟩
      have hyn : y.n ≤ 4611686018427387904 := by
        rw [← hy]
        have := hc.n_le
        show bpm c ≤ _
        omega
      have hA' : ACalls Try.prog 18 [.ag (bpC c), .ag (htC h)] (.tu [.ag (ipC y), .c (iC (apE c h))]) := by rw [← hy]; exact hA
      have hE1 := pExplains_A y d A hyn
      have hE2 := pExplains_A y d Z hyn
      have hm := hmo y d
      obtain ⟨V1, hV1⟩ : ∃ V, exV y d A = V := ⟨_, rfl⟩
      obtain ⟨V2, hV2⟩ : ∃ V, exV y d Z = V := ⟨_, rfl⟩
      rw [hV1] at hE1 hm
      rw [hV2] at hE2 hm
      obtain ⟨v1, o1⟩ := V1
      obtain ⟨v2, o2⟩ := V2
      dsimp only at hm
      cases o1
      · repeat (first
          | refine AWp.seq ?_
          | refine thenA_n ?_
          | refine AWp.ret ?_
          | (refine AWp.draw (id := 15) mixed ?_
             refine AList.loadA tyOk rfl rfl rfl rfl rfl rfl rfl oM oM ?_
             refine AList.move rfl rfl rfl ?_
             refine AList.call rfl rfl rfl rfl Try.func11 rfl (by kernel_rfl) (hC4) ?_
             refine AList.loadA tyOk rfl rfl rfl rfl rfl rfl rfl oM oM ?_
             refine AList.loadA tyOk rfl rfl rfl rfl rfl rfl rfl oM oM ?_
             refine AList.call rfl rfl rfl rfl Try.func19 rfl (by kernel_rfl) (hH) ?_
             refine AList.call rfl rfl rfl rfl Try.func18 rfl (by kernel_rfl) (hA') ?_
             refine AList.move rfl rfl rfl ?_
             refine AList.extract rfl rfl rfl rfl ?_
             refine AList.extract rfl rfl rfl rfl ?_
             refine AList.alloc tyOk rfl rfl rfl rfl rfl ?_
             refine AList.store tyOk rfl rfl rfl rfl rfl rfl rfl rfl oM oM ?_
             refine AList.assign rfl rfl rfl ?_
             refine AList.nil ⟨by kernel_rfl, ?_⟩)
          | (refine AWp.region (id := 16) ?_
             refine AList.loadA tyOk rfl rfl rfl rfl rfl rfl rfl oM oM ?_
             refine AList.loadA tyOk rfl rfl rfl rfl rfl rfl rfl oM oM ?_
             refine AList.loadA tyOk rfl rfl rfl rfl rfl rfl rfl oM oM ?_
             refine AList.call rfl rfl rfl rfl Try.func20 rfl (by kernel_rfl) (hE1) ?_
             refine AList.move rfl rfl rfl ?_
             refine AList.extract rfl rfl rfl rfl ?_
             refine AList.extract rfl rfl rfl rfl ?_
             refine AList.alloc tyOk rfl rfl rfl rfl rfl ?_
             refine AList.store tyOk rfl rfl rfl rfl rfl rfl rfl rfl oM oM ?_
             refine AList.assign rfl rfl rfl ?_
             refine AList.nil ?_)
          | (refine AWp.region (id := 17) ?_
             refine AList.loadA tyOk rfl rfl rfl rfl rfl rfl rfl oM oM ?_
             refine AList.loadA tyOk rfl rfl rfl rfl rfl rfl rfl oM oM ?_
             refine AList.loadA tyOk rfl rfl rfl rfl rfl rfl rfl oM oM ?_
             refine AList.call rfl rfl rfl rfl Try.func20 rfl (by kernel_rfl) (hE2) ?_
             refine AList.move rfl rfl rfl ?_
             refine AList.extract rfl rfl rfl rfl ?_
             refine AList.extract rfl rfl rfl rfl ?_
             refine AList.alloc tyOk rfl rfl rfl rfl rfl ?_
             refine AList.store tyOk rfl rfl rfl rfl rfl rfl rfl rfl oM oM ?_
             refine AList.assign rfl rfl rfl ?_
             refine AList.nil ?_)
          | (refine AWp.region (id := 18) ?_
             refine AList.move rfl rfl rfl ?_
             refine AList.move rfl rfl rfl ?_
             refine AList.move rfl rfl rfl ?_
             refine AList.notB rfl rfl rfl ?_
             refine AList.move rfl rfl rfl ?_
             refine AList.skip rfl rfl ?_
             refine AList.pickT rfl rfl rfl rfl ?_
             refine AList.pickT rfl rfl rfl rfl ?_
             refine AList.assign rfl rfl rfl ?_
             refine AList.nil ?_))
        refine ⟨_, rfl, mkSt 148 [(10, .c (bC true))] [] [], [], Wk.mk [] rfl rfl rfl ?_ trivial, rfl, rfl, ARets.one (x := .c _) (ARes.tmp rfl rfl)⟩
        repeat (first | exact trivial | refine ⟨⟨_, rfl, by first | exact LeA.c (LeC.refl _ rfl) | exact LeA.c (LeC.ow _ _ rfl) | exact LeA.c (LeC.pt _ _ _ _ _ rfl) | exact LeA.c (LeC.nil _ rfl) | exact LeA.c (LeC.nils _ _) | (refine LeA.int ?_; omega) | (refine LeA.int ?_; dsimp only; omega) | exact LeA.c (LeC.fz rfl rfl (by first | rfl | omega) (fun i _ j _ => ⟨rfl, by first | rfl | exact rowN_imm (fun _ => rfl) _ i j | exact rowF_imm (fun _ => rfl) _ i j⟩))⟩, ?_⟩)
      · have := hm rfl
        subst this
        repeat (first
          | refine AWp.seq ?_
          | refine thenA_n ?_
          | refine AWp.ret ?_
          | (refine AWp.draw (id := 15) mixed ?_
             refine AList.loadA tyOk rfl rfl rfl rfl rfl rfl rfl oM oM ?_
             refine AList.move rfl rfl rfl ?_
             refine AList.call rfl rfl rfl rfl Try.func11 rfl (by kernel_rfl) (hC4) ?_
             refine AList.loadA tyOk rfl rfl rfl rfl rfl rfl rfl oM oM ?_
             refine AList.loadA tyOk rfl rfl rfl rfl rfl rfl rfl oM oM ?_
             refine AList.call rfl rfl rfl rfl Try.func19 rfl (by kernel_rfl) (hH) ?_
             refine AList.call rfl rfl rfl rfl Try.func18 rfl (by kernel_rfl) (hA') ?_
             refine AList.move rfl rfl rfl ?_
             refine AList.extract rfl rfl rfl rfl ?_
             refine AList.extract rfl rfl rfl rfl ?_
             refine AList.alloc tyOk rfl rfl rfl rfl rfl ?_
             refine AList.store tyOk rfl rfl rfl rfl rfl rfl rfl rfl oM oM ?_
             refine AList.assign rfl rfl rfl ?_
             refine AList.nil ⟨by kernel_rfl, ?_⟩)
          | (refine AWp.region (id := 16) ?_
             refine AList.loadA tyOk rfl rfl rfl rfl rfl rfl rfl oM oM ?_
             refine AList.loadA tyOk rfl rfl rfl rfl rfl rfl rfl oM oM ?_
             refine AList.loadA tyOk rfl rfl rfl rfl rfl rfl rfl oM oM ?_
             refine AList.call rfl rfl rfl rfl Try.func20 rfl (by kernel_rfl) (hE1) ?_
             refine AList.move rfl rfl rfl ?_
             refine AList.extract rfl rfl rfl rfl ?_
             refine AList.extract rfl rfl rfl rfl ?_
             refine AList.alloc tyOk rfl rfl rfl rfl rfl ?_
             refine AList.store tyOk rfl rfl rfl rfl rfl rfl rfl rfl oM oM ?_
             refine AList.assign rfl rfl rfl ?_
             refine AList.nil ?_)
          | (refine AWp.region (id := 17) ?_
             refine AList.loadA tyOk rfl rfl rfl rfl rfl rfl rfl oM oM ?_
             refine AList.loadA tyOk rfl rfl rfl rfl rfl rfl rfl oM oM ?_
             refine AList.loadA tyOk rfl rfl rfl rfl rfl rfl rfl oM oM ?_
             refine AList.call rfl rfl rfl rfl Try.func20 rfl (by kernel_rfl) (hE2) ?_
             refine AList.move rfl rfl rfl ?_
             refine AList.extract rfl rfl rfl rfl ?_
             refine AList.extract rfl rfl rfl rfl ?_
             refine AList.alloc tyOk rfl rfl rfl rfl rfl ?_
             refine AList.store tyOk rfl rfl rfl rfl rfl rfl rfl rfl oM oM ?_
             refine AList.assign rfl rfl rfl ?_
             refine AList.nil ?_)
          | (refine AWp.region (id := 18) ?_
             refine AList.move rfl rfl rfl ?_
             refine AList.move rfl rfl rfl ?_
             refine AList.move rfl rfl rfl ?_
             refine AList.notB rfl rfl rfl ?_
             refine AList.move rfl rfl rfl ?_
             refine AList.move rfl rfl rfl ?_
             refine AList.pickF rfl rfl rfl rfl ?_
             refine AList.pickT rfl rfl rfl rfl ?_
             refine AList.assign rfl rfl rfl ?_
             refine AList.nil ?_))
        refine ⟨_, rfl, mkSt 148 [(10, .c (bC true))] [] [], [], Wk.mk [] rfl rfl rfl ?_ trivial, rfl, rfl, ARets.one (x := .c _) (ARes.tmp rfl rfl)⟩
        repeat (first | exact trivial | refine ⟨⟨_, rfl, by first | exact LeA.c (LeC.refl _ rfl) | exact LeA.c (LeC.ow _ _ rfl) | exact LeA.c (LeC.pt _ _ _ _ _ rfl) | exact LeA.c (LeC.nil _ rfl) | exact LeA.c (LeC.nils _ _) | (refine LeA.int ?_; omega) | (refine LeA.int ?_; dsimp only; omega) | exact LeA.c (LeC.fz rfl rfl (by first | rfl | omega) (fun i _ j _ => ⟨rfl, by first | rfl | exact rowN_imm (fun _ => rfl) _ i j | exact rowF_imm (fun _ => rfl) _ i j⟩))⟩, ?_⟩)
    · have eT : atV x y1 = (bgZ, false) := if_neg fun h => hT h.2.2
      rw [eT] at hAT
      by_cases hF : y2 ≤ x.life
      · have eF : atV x y2 = (atB x y2, true) := if_pos ⟨hok, by omega, hF⟩
        rw [eF] at hAF
        generalize atB x y2 = A at *
        repeat (first
          | refine AWp.seq ?_
          | refine thenA_n ?_
          | refine AWp.skip ?_
          | refine AWp.ret ?_
          | refine thenA_r ?_
          | refine AWp.condT rfl (by first | rfl | assumption | exact cmT) ?_
          | refine AWp.condF rfl (by first | rfl | assumption | exact cmF) ?_
          | (refine AWp.region (id := 4) ?_
             refine AList.move rfl rfl rfl ?_
             refine AList.move rfl rfl rfl ?_
             refine AList.cmpT rfl rfl rfl rfl rfl cmT ?_
             refine AList.nil ?_)
          | (refine AWp.region (id := 5) ?_
             refine AList.move rfl rfl rfl ?_
             refine AList.move rfl rfl rfl ?_
             refine AList.assign rfl rfl rfl ?_
             refine AList.assign rfl rfl rfl ?_
             refine AList.nil ?_)
          | (refine AWp.region (id := 6) ?_
             refine AList.loadA tyOk rfl rfl rfl rfl rfl rfl rfl oM oM ?_
             refine AList.move rfl rfl rfl ?_
             refine AList.call rfl rfl rfl rfl Try.func12 rfl (by kernel_rfl) (hAF) ?_
             refine AList.move rfl rfl rfl ?_
             refine AList.extract rfl rfl rfl rfl ?_
             refine AList.extract rfl rfl rfl rfl ?_
             refine AList.alloc tyOk rfl rfl rfl rfl rfl ?_
             refine AList.store tyOk rfl rfl rfl rfl rfl rfl rfl rfl oM oM ?_
             refine AList.assign rfl rfl rfl ?_
             refine AList.nil ?_)
          | (refine AWp.region (id := 7) ?_
             refine AList.loadA tyOk rfl rfl rfl rfl rfl rfl rfl oM oM ?_
             refine AList.move rfl rfl rfl ?_
             refine AList.call rfl rfl rfl rfl Try.func12 rfl (by kernel_rfl) (hAT) ?_
             refine AList.move rfl rfl rfl ?_
             refine AList.extract rfl rfl rfl rfl ?_
             refine AList.extract rfl rfl rfl rfl ?_
             refine AList.alloc tyOk rfl rfl rfl rfl rfl ?_
             refine AList.store tyOk rfl rfl rfl rfl rfl rfl rfl rfl oM oM ?_
             refine AList.assign rfl rfl rfl ?_
             refine AList.nil ?_)
          | (refine AWp.region (id := 8) ?_
             refine AList.move rfl rfl rfl ?_
             refine AList.move rfl rfl rfl ?_
             refine AList.fieldPt tyOk rfl rfl rfl rfl rfl rfl rfl ?_
             refine AList.load1 tyOk rfl rfl rfl rfl rfl rfl rfl oM oM ?_
             refine AList.cmpT rfl rfl rfl rfl rfl cmT ?_
             refine AList.neB rfl rfl rfl rfl (by kernel_rfl) ?_
             refine AList.move rfl rfl rfl ?_
             refine AList.move rfl rfl rfl ?_
             refine AList.move rfl rfl rfl ?_
             refine AList.fieldPt tyOk rfl rfl rfl rfl rfl rfl rfl ?_
             refine AList.load1 tyOk rfl rfl rfl rfl rfl rfl rfl oM oM ?_
             refine AList.cmpF rfl rfl rfl rfl rfl cmF ?_
             refine AList.neB rfl rfl rfl rfl (by kernel_rfl) ?_
             refine AList.pickF rfl rfl rfl rfl ?_
             refine AList.nil ?_)
          | (refine AWp.region (id := 10) ?_
             refine AList.move rfl rfl rfl ?_
             refine AList.notB rfl rfl rfl ?_
             refine AList.nil ?_)
          | (refine AWp.region (id := 11) ?_
             refine AList.move rfl rfl rfl ?_
             refine AList.move rfl rfl rfl ?_
             refine AList.loadA tyOk rfl rfl rfl rfl rfl rfl rfl oM oM ?_
             refine AList.buildSt tyOk rfl rfl rfl rfl rfl rfl rfl rfl ?_
             refine AList.binAg rfl rfl rfl rfl rfl rfl (by kernel_rfl) (bg_eqZ) ?_
             refine AList.pickT rfl rfl rfl rfl ?_
             refine AList.assign rfl rfl rfl ?_
             refine AList.nil ?_))
        refine ⟨_, rfl, mkSt 148 [(10, .c (bC true))] [] [], [], Wk.mk [] rfl rfl rfl ?_ trivial, rfl, rfl, ARets.one (x := .c _) (ARes.tmp rfl rfl)⟩
        repeat (first | exact trivial | refine ⟨⟨_, rfl, by first | exact LeA.c (LeC.refl _ rfl) | exact LeA.c (LeC.ow _ _ rfl) | exact LeA.c (LeC.pt _ _ _ _ _ rfl) | exact LeA.c (LeC.nil _ rfl) | exact LeA.c (LeC.nils _ _) | (refine LeA.int ?_; omega) | (refine LeA.int ?_; dsimp only; omega) | exact LeA.c (LeC.fz rfl rfl (by first | rfl | omega) (fun i _ j _ => ⟨rfl, by first | rfl | exact rowN_imm (fun _ => rfl) _ i j | exact rowF_imm (fun _ => rfl) _ i j⟩))⟩, ?_⟩)
      · have eF : atV x y2 = (bgZ, false) := if_neg fun h => hF h.2.2
        rw [eF] at hAF
        repeat (first
          | refine AWp.seq ?_
          | refine thenA_n ?_
          | refine AWp.skip ?_
          | refine AWp.ret ?_
          | refine thenA_r ?_
          | refine AWp.condT rfl (by first | rfl | assumption | exact cmT) ?_
          | refine AWp.condF rfl (by first | rfl | assumption | exact cmF) ?_
          | (refine AWp.region (id := 4) ?_
             refine AList.move rfl rfl rfl ?_
             refine AList.move rfl rfl rfl ?_
             refine AList.cmpT rfl rfl rfl rfl rfl cmT ?_
             refine AList.nil ?_)
          | (refine AWp.region (id := 5) ?_
             refine AList.move rfl rfl rfl ?_
             refine AList.move rfl rfl rfl ?_
             refine AList.assign rfl rfl rfl ?_
             refine AList.assign rfl rfl rfl ?_
             refine AList.nil ?_)
          | (refine AWp.region (id := 6) ?_
             refine AList.loadA tyOk rfl rfl rfl rfl rfl rfl rfl oM oM ?_
             refine AList.move rfl rfl rfl ?_
             refine AList.call rfl rfl rfl rfl Try.func12 rfl (by kernel_rfl) (hAF) ?_
             refine AList.move rfl rfl rfl ?_
             refine AList.extract rfl rfl rfl rfl ?_
             refine AList.extract rfl rfl rfl rfl ?_
             refine AList.alloc tyOk rfl rfl rfl rfl rfl ?_
             refine AList.store tyOk rfl rfl rfl rfl rfl rfl rfl rfl oM oM ?_
             refine AList.assign rfl rfl rfl ?_
             refine AList.nil ?_)
          | (refine AWp.region (id := 7) ?_
             refine AList.loadA tyOk rfl rfl rfl rfl rfl rfl rfl oM oM ?_
             refine AList.move rfl rfl rfl ?_
             refine AList.call rfl rfl rfl rfl Try.func12 rfl (by kernel_rfl) (hAT) ?_
             refine AList.move rfl rfl rfl ?_
             refine AList.extract rfl rfl rfl rfl ?_
             refine AList.extract rfl rfl rfl rfl ?_
             refine AList.alloc tyOk rfl rfl rfl rfl rfl ?_
             refine AList.store tyOk rfl rfl rfl rfl rfl rfl rfl rfl oM oM ?_
             refine AList.assign rfl rfl rfl ?_
             refine AList.nil ?_)
          | (refine AWp.region (id := 8) ?_
             refine AList.move rfl rfl rfl ?_
             refine AList.move rfl rfl rfl ?_
             refine AList.fieldPt tyOk rfl rfl rfl rfl rfl rfl rfl ?_
             refine AList.load1 tyOk rfl rfl rfl rfl rfl rfl rfl oM oM ?_
             refine AList.cmpF rfl rfl rfl rfl rfl cmF ?_
             refine AList.neB rfl rfl rfl rfl (by kernel_rfl) ?_
             refine AList.move rfl rfl rfl ?_
             refine AList.move rfl rfl rfl ?_
             refine AList.move rfl rfl rfl ?_
             refine AList.fieldPt tyOk rfl rfl rfl rfl rfl rfl rfl ?_
             refine AList.load1 tyOk rfl rfl rfl rfl rfl rfl rfl oM oM ?_
             refine AList.cmpF rfl rfl rfl rfl rfl cmF ?_
             refine AList.neB rfl rfl rfl rfl (by kernel_rfl) ?_
             refine AList.pickF rfl rfl rfl rfl ?_
             refine AList.nil ?_)
          | (refine AWp.region (id := 10) ?_
             refine AList.move rfl rfl rfl ?_
             refine AList.notB rfl rfl rfl ?_
             refine AList.nil ?_)
          | (refine AWp.region (id := 11) ?_
             refine AList.move rfl rfl rfl ?_
             refine AList.move rfl rfl rfl ?_
             refine AList.loadA tyOk rfl rfl rfl rfl rfl rfl rfl oM oM ?_
             refine AList.buildSt tyOk rfl rfl rfl rfl rfl rfl rfl rfl ?_
             refine AList.binAg rfl rfl rfl rfl rfl rfl (by kernel_rfl) (bg_eqZ) ?_
             refine AList.pickT rfl rfl rfl rfl ?_
             refine AList.assign rfl rfl rfl ?_
             refine AList.nil ?_))
        refine ⟨_, rfl, mkSt 148 [(10, .c (bC true))] [] [], [], Wk.mk [] rfl rfl rfl ?_ trivial, rfl, rfl, ARets.one (x := .c _) (ARes.tmp rfl rfl)⟩
        repeat (first | exact trivial | refine ⟨⟨_, rfl, by first | exact LeA.c (LeC.refl _ rfl) | exact LeA.c (LeC.ow _ _ rfl) | exact LeA.c (LeC.pt _ _ _ _ _ rfl) | exact LeA.c (LeC.nil _ rfl) | exact LeA.c (LeC.nils _ _) | (refine LeA.int ?_; omega) | (refine LeA.int ?_; dsimp only; omega) | exact LeA.c (LeC.fz rfl rfl (by first | rfl | omega) (fun i _ j _ => ⟨rfl, by first | rfl | exact rowN_imm (fun _ => rfl) _ i j | exact rowF_imm (fun _ => rfl) _ i j⟩))⟩, ?_⟩)
  · have hAF := pAt_A x y1
    have hAT := pAt_A x y2
    by_cases hT : y2 ≤ x.life
    · have hF : y1 ≤ x.life := by omega
      have eF : atV x y1 = (atB x y1, true) := if_pos ⟨hok, by omega, hF⟩
      have eT : atV x y2 = (atB x y2, true) := if_pos ⟨hok, by omega, hT⟩
      obtain ⟨m1, m2, m3, m4⟩ := at_mono (y := y1) (z := y2) hok (by omega) (by omega)
      have hmo := fun (y : Ip) (d : Bp) => ex_mono (x := y) (b := d) (y := atB x y1) (z := atB x y2) (by rw [atB_lim, atB_lim]; exact m1) (by rw [atB_lim, atB_lim]; exact m2) (by rw [atB_lim, atB_lim]; exact m3)
      rw [eF] at hAF
      rw [eT] at hAT
      generalize atB x y1 = A at *
      generalize atB x y2 = Z at *
      repeat (first
        | refine AWp.seq ?_
        | refine thenA_n ?_
        | refine AWp.skip ?_
        | refine AWp.condF rfl (by first | rfl | assumption | exact cmF) ?_
        | (refine AWp.region (id := 4) ?_
           refine AList.move rfl rfl rfl ?_
           refine AList.move rfl rfl rfl ?_
           refine AList.cmpF rfl rfl rfl rfl rfl cmF ?_
           refine AList.nil ?_)
        | (refine AWp.region (id := 6) ?_
           refine AList.loadA tyOk rfl rfl rfl rfl rfl rfl rfl oM oM ?_
           refine AList.move rfl rfl rfl ?_
           refine AList.call rfl rfl rfl rfl Try.func12 rfl (by kernel_rfl) (hAF) ?_
           refine AList.move rfl rfl rfl ?_
           refine AList.extract rfl rfl rfl rfl ?_
           refine AList.extract rfl rfl rfl rfl ?_
           refine AList.alloc tyOk rfl rfl rfl rfl rfl ?_
           refine AList.store tyOk rfl rfl rfl rfl rfl rfl rfl rfl oM oM ?_
           refine AList.assign rfl rfl rfl ?_
           refine AList.nil ?_)
        | (refine AWp.region (id := 7) ?_
           refine AList.loadA tyOk rfl rfl rfl rfl rfl rfl rfl oM oM ?_
           refine AList.move rfl rfl rfl ?_
           refine AList.call rfl rfl rfl rfl Try.func12 rfl (by kernel_rfl) (hAT) ?_
           refine AList.move rfl rfl rfl ?_
           refine AList.extract rfl rfl rfl rfl ?_
           refine AList.extract rfl rfl rfl rfl ?_
           refine AList.alloc tyOk rfl rfl rfl rfl rfl ?_
           refine AList.store tyOk rfl rfl rfl rfl rfl rfl rfl rfl oM oM ?_
           refine AList.assign rfl rfl rfl ?_
           refine AList.nil ?_)
        | (refine AWp.region (id := 8) ?_
           refine AList.move rfl rfl rfl ?_
           refine AList.move rfl rfl rfl ?_
           refine AList.fieldPt tyOk rfl rfl rfl rfl rfl rfl rfl ?_
           refine AList.load1 tyOk rfl rfl rfl rfl rfl rfl rfl oM oM ?_
           refine AList.cmpT rfl rfl rfl rfl rfl cmT ?_
           refine AList.neB rfl rfl rfl rfl (by kernel_rfl) ?_
           refine AList.move rfl rfl rfl ?_
           refine AList.move rfl rfl rfl ?_
           refine AList.move rfl rfl rfl ?_
           refine AList.fieldPt tyOk rfl rfl rfl rfl rfl rfl rfl ?_
           refine AList.load1 tyOk rfl rfl rfl rfl rfl rfl rfl oM oM ?_
           refine AList.cmpT rfl rfl rfl rfl rfl cmT ?_
           refine AList.neB rfl rfl rfl rfl (by kernel_rfl) ?_
           refine AList.pickF rfl rfl rfl rfl ?_
           refine AList.nil ?_)
        | (refine AWp.region (id := 10) ?_
           refine AList.move rfl rfl rfl ?_
           refine AList.notB rfl rfl rfl ?_
           refine AList.nil ?_)
        | (refine AWp.region (id := 12) ?_
           refine AList.fieldPt tyOk rfl rfl rfl rfl rfl rfl rfl ?_
           refine AList.load1 tyOk rfl rfl rfl rfl rfl rfl rfl oM oM ?_
           refine AList.fieldPt tyOk rfl rfl rfl rfl rfl rfl rfl ?_
           refine AList.load1 tyOk rfl rfl rfl rfl rfl rfl rfl oM oM ?_
           refine AList.cmpF rfl rfl rfl rfl rfl cmF ?_
           refine AList.move rfl rfl rfl ?_
           refine AList.fieldPt tyOk rfl rfl rfl rfl rfl rfl rfl ?_
           refine AList.load1 tyOk rfl rfl rfl rfl rfl rfl rfl oM oM ?_
           refine AList.fieldPt tyOk rfl rfl rfl rfl rfl rfl rfl ?_
           refine AList.load1 tyOk rfl rfl rfl rfl rfl rfl rfl oM oM ?_
           refine AList.cmpF rfl rfl rfl rfl rfl cmF ?_
           refine AList.pickF rfl rfl rfl rfl ?_
           refine AList.move rfl rfl rfl ?_
           refine AList.fieldPt tyOk rfl rfl rfl rfl rfl rfl rfl ?_
           refine AList.load1 tyOk rfl rfl rfl rfl rfl rfl rfl oM oM ?_
           refine AList.fieldPt tyOk rfl rfl rfl rfl rfl rfl rfl ?_
           refine AList.load1 tyOk rfl rfl rfl rfl rfl rfl rfl oM oM ?_
           refine AList.cmpF rfl rfl rfl rfl rfl cmF ?_
           refine AList.pickF rfl rfl rfl rfl ?_
           refine AList.move rfl rfl rfl ?_
           refine AList.fieldPt tyOk rfl rfl rfl rfl rfl rfl rfl ?_
           refine AList.load1 tyOk rfl rfl rfl rfl rfl rfl rfl oM oM ?_
           refine AList.fieldPt tyOk rfl rfl rfl rfl rfl rfl rfl ?_
           refine AList.load1 tyOk rfl rfl rfl rfl rfl rfl rfl oM oM ?_
           refine AList.cmpF rfl rfl rfl rfl rfl cmF ?_
           refine AList.pickF rfl rfl rfl rfl ?_
           refine AList.nil ?_))
      refine AWp.text ?_
      refine AText.split 2 ?_
      refine AList.move rfl rfl rfl ?_
      refine AList.call rfl rfl rfl rfl Try.func11 rfl (by kernel_rfl) (hC2) ?_
      refine AList.nil ?_
      refine AText.callE rfl rfl rfl rfl Try.func16 rfl (by kernel_rfl) (Made_B (min Nc 60) fc (by omega)) ?_
      rintro _ ⟨c, hc, rfl⟩
      refine AText.split 2 ?_
      refine AList.move rfl rfl rfl ?_
      refine AList.call rfl rfl rfl rfl Try.func11 rfl (by kernel_rfl) (hC3) ?_
      refine AList.nil ?_
      refine AText.callE rfl rfl rfl rfl Try.func16 rfl (by kernel_rfl) (Made_B (min Nd 60) fd (by omega)) ?_
      rintro _ ⟨d, hd, rfl⟩
      refine AText.all ?_
      refine AList.alloc tyOk rfl rfl rfl rfl rfl ?_
      refine AList.alloc tyOk rfl rfl rfl rfl rfl ?_
      refine AList.store tyOk rfl rfl rfl rfl rfl rfl rfl rfl oM oM ?_
      refine AList.store tyOk rfl rfl rfl rfl rfl rfl rfl rfl oM oM ?_
      refine AList.nil ?_
      obtain ⟨hH, hHN, hHM, hHw⟩ := Hit_A (min Nh 12) fh c Z (by omega) hc.1
      obtain ⟨h, hh⟩ : ∃ h, hitV (min Nh 12) fh c Z = h := ⟨_, rfl⟩
      rw [hh] at hH hHN hHM hHw
      have hA := rApply_A c h (by omega) (by omega)
      rw [apV, apI, if_pos (wi_ok hHw)] at hA
      obtain ⟨y, hy⟩ : ∃ y, apP c h = y := ⟨_, rfl⟩
      have hyn : y.n ≤ 4611686018427387904 := by
        rw [← hy]
        have := hc.n_le
        show bpm c ≤ _
        omega
      have hA' : ACalls Try.prog 18 [.ag (bpC c), .ag (htC h)] (.tu [.ag (ipC y), .c (iC (apE c h))]) := by rw [← hy]; exact hA
      have hE1 := pExplains_A y d A hyn
      have hE2 := pExplains_A y d Z hyn
      have hm := hmo y d
      obtain ⟨V1, hV1⟩ : ∃ V, exV y d A = V := ⟨_, rfl⟩
      obtain ⟨V2, hV2⟩ : ∃ V, exV y d Z = V := ⟨_, rfl⟩
      rw [hV1] at hE1 hm
      rw [hV2] at hE2 hm
      obtain ⟨v1, o1⟩ := V1
      obtain ⟨v2, o2⟩ := V2
      dsimp only at hm
      cases o1
      · repeat (first
          | refine AWp.seq ?_
          | refine thenA_n ?_
          | refine AWp.ret ?_
          | (refine AWp.draw (id := 15) mixed ?_
             refine AList.loadA tyOk rfl rfl rfl rfl rfl rfl rfl oM oM ?_
             refine AList.move rfl rfl rfl ?_
             refine AList.call rfl rfl rfl rfl Try.func11 rfl (by kernel_rfl) (hC4) ?_
             refine AList.loadA tyOk rfl rfl rfl rfl rfl rfl rfl oM oM ?_
             refine AList.loadA tyOk rfl rfl rfl rfl rfl rfl rfl oM oM ?_
             refine AList.call rfl rfl rfl rfl Try.func19 rfl (by kernel_rfl) (hH) ?_
             refine AList.call rfl rfl rfl rfl Try.func18 rfl (by kernel_rfl) (hA') ?_
             refine AList.move rfl rfl rfl ?_
             refine AList.extract rfl rfl rfl rfl ?_
             refine AList.extract rfl rfl rfl rfl ?_
             refine AList.alloc tyOk rfl rfl rfl rfl rfl ?_
             refine AList.store tyOk rfl rfl rfl rfl rfl rfl rfl rfl oM oM ?_
             refine AList.assign rfl rfl rfl ?_
             refine AList.nil ⟨by kernel_rfl, ?_⟩)
          | (refine AWp.region (id := 16) ?_
             refine AList.loadA tyOk rfl rfl rfl rfl rfl rfl rfl oM oM ?_
             refine AList.loadA tyOk rfl rfl rfl rfl rfl rfl rfl oM oM ?_
             refine AList.loadA tyOk rfl rfl rfl rfl rfl rfl rfl oM oM ?_
             refine AList.call rfl rfl rfl rfl Try.func20 rfl (by kernel_rfl) (hE1) ?_
             refine AList.move rfl rfl rfl ?_
             refine AList.extract rfl rfl rfl rfl ?_
             refine AList.extract rfl rfl rfl rfl ?_
             refine AList.alloc tyOk rfl rfl rfl rfl rfl ?_
             refine AList.store tyOk rfl rfl rfl rfl rfl rfl rfl rfl oM oM ?_
             refine AList.assign rfl rfl rfl ?_
             refine AList.nil ?_)
          | (refine AWp.region (id := 17) ?_
             refine AList.loadA tyOk rfl rfl rfl rfl rfl rfl rfl oM oM ?_
             refine AList.loadA tyOk rfl rfl rfl rfl rfl rfl rfl oM oM ?_
             refine AList.loadA tyOk rfl rfl rfl rfl rfl rfl rfl oM oM ?_
             refine AList.call rfl rfl rfl rfl Try.func20 rfl (by kernel_rfl) (hE2) ?_
             refine AList.move rfl rfl rfl ?_
             refine AList.extract rfl rfl rfl rfl ?_
             refine AList.extract rfl rfl rfl rfl ?_
             refine AList.alloc tyOk rfl rfl rfl rfl rfl ?_
             refine AList.store tyOk rfl rfl rfl rfl rfl rfl rfl rfl oM oM ?_
             refine AList.assign rfl rfl rfl ?_
             refine AList.nil ?_)
          | (refine AWp.region (id := 18) ?_
             refine AList.move rfl rfl rfl ?_
             refine AList.move rfl rfl rfl ?_
             refine AList.move rfl rfl rfl ?_
             refine AList.notB rfl rfl rfl ?_
             refine AList.move rfl rfl rfl ?_
             refine AList.skip rfl rfl ?_
             refine AList.pickT rfl rfl rfl rfl ?_
             refine AList.pickT rfl rfl rfl rfl ?_
             refine AList.assign rfl rfl rfl ?_
             refine AList.nil ?_))
        refine ⟨_, rfl, mkSt 148 [(10, .c (bC true))] [] [], [], Wk.mk [] rfl rfl rfl ?_ trivial, rfl, rfl, ARets.one (x := .c _) (ARes.tmp rfl rfl)⟩
        repeat (first | exact trivial | refine ⟨⟨_, rfl, by first | exact LeA.c (LeC.refl _ rfl) | exact LeA.c (LeC.ow _ _ rfl) | exact LeA.c (LeC.pt _ _ _ _ _ rfl) | exact LeA.c (LeC.nil _ rfl) | exact LeA.c (LeC.nils _ _) | (refine LeA.int ?_; omega) | (refine LeA.int ?_; dsimp only; omega) | exact LeA.c (LeC.fz rfl rfl (by first | rfl | omega) (fun i _ j _ => ⟨rfl, by first | rfl | exact rowN_imm (fun _ => rfl) _ i j | exact rowF_imm (fun _ => rfl) _ i j⟩))⟩, ?_⟩)
      · have := hm rfl
        subst this
        repeat (first
          | refine AWp.seq ?_
          | refine thenA_n ?_
          | refine AWp.ret ?_
          | (refine AWp.draw (id := 15) mixed ?_
             refine AList.loadA tyOk rfl rfl rfl rfl rfl rfl rfl oM oM ?_
             refine AList.move rfl rfl rfl ?_
             refine AList.call rfl rfl rfl rfl Try.func11 rfl (by kernel_rfl) (hC4) ?_
             refine AList.loadA tyOk rfl rfl rfl rfl rfl rfl rfl oM oM ?_
             refine AList.loadA tyOk rfl rfl rfl rfl rfl rfl rfl oM oM ?_
             refine AList.call rfl rfl rfl rfl Try.func19 rfl (by kernel_rfl) (hH) ?_
             refine AList.call rfl rfl rfl rfl Try.func18 rfl (by kernel_rfl) (hA') ?_
             refine AList.move rfl rfl rfl ?_
             refine AList.extract rfl rfl rfl rfl ?_
             refine AList.extract rfl rfl rfl rfl ?_
             refine AList.alloc tyOk rfl rfl rfl rfl rfl ?_
             refine AList.store tyOk rfl rfl rfl rfl rfl rfl rfl rfl oM oM ?_
             refine AList.assign rfl rfl rfl ?_
             refine AList.nil ⟨by kernel_rfl, ?_⟩)
          | (refine AWp.region (id := 16) ?_
             refine AList.loadA tyOk rfl rfl rfl rfl rfl rfl rfl oM oM ?_
             refine AList.loadA tyOk rfl rfl rfl rfl rfl rfl rfl oM oM ?_
             refine AList.loadA tyOk rfl rfl rfl rfl rfl rfl rfl oM oM ?_
             refine AList.call rfl rfl rfl rfl Try.func20 rfl (by kernel_rfl) (hE1) ?_
             refine AList.move rfl rfl rfl ?_
             refine AList.extract rfl rfl rfl rfl ?_
             refine AList.extract rfl rfl rfl rfl ?_
             refine AList.alloc tyOk rfl rfl rfl rfl rfl ?_
             refine AList.store tyOk rfl rfl rfl rfl rfl rfl rfl rfl oM oM ?_
             refine AList.assign rfl rfl rfl ?_
             refine AList.nil ?_)
          | (refine AWp.region (id := 17) ?_
             refine AList.loadA tyOk rfl rfl rfl rfl rfl rfl rfl oM oM ?_
             refine AList.loadA tyOk rfl rfl rfl rfl rfl rfl rfl oM oM ?_
             refine AList.loadA tyOk rfl rfl rfl rfl rfl rfl rfl oM oM ?_
             refine AList.call rfl rfl rfl rfl Try.func20 rfl (by kernel_rfl) (hE2) ?_
             refine AList.move rfl rfl rfl ?_
             refine AList.extract rfl rfl rfl rfl ?_
             refine AList.extract rfl rfl rfl rfl ?_
             refine AList.alloc tyOk rfl rfl rfl rfl rfl ?_
             refine AList.store tyOk rfl rfl rfl rfl rfl rfl rfl rfl oM oM ?_
             refine AList.assign rfl rfl rfl ?_
             refine AList.nil ?_)
          | (refine AWp.region (id := 18) ?_
             refine AList.move rfl rfl rfl ?_
             refine AList.move rfl rfl rfl ?_
             refine AList.move rfl rfl rfl ?_
             refine AList.notB rfl rfl rfl ?_
             refine AList.move rfl rfl rfl ?_
             refine AList.move rfl rfl rfl ?_
             refine AList.pickF rfl rfl rfl rfl ?_
             refine AList.pickT rfl rfl rfl rfl ?_
             refine AList.assign rfl rfl rfl ?_
             refine AList.nil ?_))
        refine ⟨_, rfl, mkSt 148 [(10, .c (bC true))] [] [], [], Wk.mk [] rfl rfl rfl ?_ trivial, rfl, rfl, ARets.one (x := .c _) (ARes.tmp rfl rfl)⟩
        repeat (first | exact trivial | refine ⟨⟨_, rfl, by first | exact LeA.c (LeC.refl _ rfl) | exact LeA.c (LeC.ow _ _ rfl) | exact LeA.c (LeC.pt _ _ _ _ _ rfl) | exact LeA.c (LeC.nil _ rfl) | exact LeA.c (LeC.nils _ _) | (refine LeA.int ?_; omega) | (refine LeA.int ?_; dsimp only; omega) | exact LeA.c (LeC.fz rfl rfl (by first | rfl | omega) (fun i _ j _ => ⟨rfl, by first | rfl | exact rowN_imm (fun _ => rfl) _ i j | exact rowF_imm (fun _ => rfl) _ i j⟩))⟩, ?_⟩)
    · have eT : atV x y2 = (bgZ, false) := if_neg fun h => hT h.2.2
      rw [eT] at hAT
      by_cases hF : y1 ≤ x.life
      · have eF : atV x y1 = (atB x y1, true) := if_pos ⟨hok, by omega, hF⟩
        rw [eF] at hAF
        generalize atB x y1 = A at *
        repeat (first
          | refine AWp.seq ?_
          | refine thenA_n ?_
          | refine AWp.skip ?_
          | refine AWp.ret ?_
          | refine thenA_r ?_
          | refine AWp.condT rfl (by first | rfl | assumption | exact cmT) ?_
          | refine AWp.condF rfl (by first | rfl | assumption | exact cmF) ?_
          | (refine AWp.region (id := 4) ?_
             refine AList.move rfl rfl rfl ?_
             refine AList.move rfl rfl rfl ?_
             refine AList.cmpF rfl rfl rfl rfl rfl cmF ?_
             refine AList.nil ?_)
          | (refine AWp.region (id := 6) ?_
             refine AList.loadA tyOk rfl rfl rfl rfl rfl rfl rfl oM oM ?_
             refine AList.move rfl rfl rfl ?_
             refine AList.call rfl rfl rfl rfl Try.func12 rfl (by kernel_rfl) (hAF) ?_
             refine AList.move rfl rfl rfl ?_
             refine AList.extract rfl rfl rfl rfl ?_
             refine AList.extract rfl rfl rfl rfl ?_
             refine AList.alloc tyOk rfl rfl rfl rfl rfl ?_
             refine AList.store tyOk rfl rfl rfl rfl rfl rfl rfl rfl oM oM ?_
             refine AList.assign rfl rfl rfl ?_
             refine AList.nil ?_)
          | (refine AWp.region (id := 7) ?_
             refine AList.loadA tyOk rfl rfl rfl rfl rfl rfl rfl oM oM ?_
             refine AList.move rfl rfl rfl ?_
             refine AList.call rfl rfl rfl rfl Try.func12 rfl (by kernel_rfl) (hAT) ?_
             refine AList.move rfl rfl rfl ?_
             refine AList.extract rfl rfl rfl rfl ?_
             refine AList.extract rfl rfl rfl rfl ?_
             refine AList.alloc tyOk rfl rfl rfl rfl rfl ?_
             refine AList.store tyOk rfl rfl rfl rfl rfl rfl rfl rfl oM oM ?_
             refine AList.assign rfl rfl rfl ?_
             refine AList.nil ?_)
          | (refine AWp.region (id := 8) ?_
             refine AList.move rfl rfl rfl ?_
             refine AList.move rfl rfl rfl ?_
             refine AList.fieldPt tyOk rfl rfl rfl rfl rfl rfl rfl ?_
             refine AList.load1 tyOk rfl rfl rfl rfl rfl rfl rfl oM oM ?_
             refine AList.cmpT rfl rfl rfl rfl rfl cmT ?_
             refine AList.neB rfl rfl rfl rfl (by kernel_rfl) ?_
             refine AList.move rfl rfl rfl ?_
             refine AList.move rfl rfl rfl ?_
             refine AList.move rfl rfl rfl ?_
             refine AList.fieldPt tyOk rfl rfl rfl rfl rfl rfl rfl ?_
             refine AList.load1 tyOk rfl rfl rfl rfl rfl rfl rfl oM oM ?_
             refine AList.cmpF rfl rfl rfl rfl rfl cmF ?_
             refine AList.neB rfl rfl rfl rfl (by kernel_rfl) ?_
             refine AList.pickF rfl rfl rfl rfl ?_
             refine AList.nil ?_)
          | (refine AWp.region (id := 10) ?_
             refine AList.move rfl rfl rfl ?_
             refine AList.notB rfl rfl rfl ?_
             refine AList.nil ?_)
          | (refine AWp.region (id := 11) ?_
             refine AList.move rfl rfl rfl ?_
             refine AList.move rfl rfl rfl ?_
             refine AList.loadA tyOk rfl rfl rfl rfl rfl rfl rfl oM oM ?_
             refine AList.buildSt tyOk rfl rfl rfl rfl rfl rfl rfl rfl ?_
             refine AList.binAg rfl rfl rfl rfl rfl rfl (by kernel_rfl) (bg_eqZ) ?_
             refine AList.pickT rfl rfl rfl rfl ?_
             refine AList.assign rfl rfl rfl ?_
             refine AList.nil ?_))
        refine ⟨_, rfl, mkSt 148 [(10, .c (bC true))] [] [], [], Wk.mk [] rfl rfl rfl ?_ trivial, rfl, rfl, ARets.one (x := .c _) (ARes.tmp rfl rfl)⟩
        repeat (first | exact trivial | refine ⟨⟨_, rfl, by first | exact LeA.c (LeC.refl _ rfl) | exact LeA.c (LeC.ow _ _ rfl) | exact LeA.c (LeC.pt _ _ _ _ _ rfl) | exact LeA.c (LeC.nil _ rfl) | exact LeA.c (LeC.nils _ _) | (refine LeA.int ?_; omega) | (refine LeA.int ?_; dsimp only; omega) | exact LeA.c (LeC.fz rfl rfl (by first | rfl | omega) (fun i _ j _ => ⟨rfl, by first | rfl | exact rowN_imm (fun _ => rfl) _ i j | exact rowF_imm (fun _ => rfl) _ i j⟩))⟩, ?_⟩)
      · have eF : atV x y1 = (bgZ, false) := if_neg fun h => hF h.2.2
        rw [eF] at hAF
        repeat (first
          | refine AWp.seq ?_
          | refine thenA_n ?_
          | refine AWp.skip ?_
          | refine AWp.ret ?_
          | refine thenA_r ?_
          | refine AWp.condT rfl (by first | rfl | assumption | exact cmT) ?_
          | refine AWp.condF rfl (by first | rfl | assumption | exact cmF) ?_
          | (refine AWp.region (id := 4) ?_
             refine AList.move rfl rfl rfl ?_
             refine AList.move rfl rfl rfl ?_
             refine AList.cmpF rfl rfl rfl rfl rfl cmF ?_
             refine AList.nil ?_)
          | (refine AWp.region (id := 6) ?_
             refine AList.loadA tyOk rfl rfl rfl rfl rfl rfl rfl oM oM ?_
             refine AList.move rfl rfl rfl ?_
             refine AList.call rfl rfl rfl rfl Try.func12 rfl (by kernel_rfl) (hAF) ?_
             refine AList.move rfl rfl rfl ?_
             refine AList.extract rfl rfl rfl rfl ?_
             refine AList.extract rfl rfl rfl rfl ?_
             refine AList.alloc tyOk rfl rfl rfl rfl rfl ?_
             refine AList.store tyOk rfl rfl rfl rfl rfl rfl rfl rfl oM oM ?_
             refine AList.assign rfl rfl rfl ?_
             refine AList.nil ?_)
          | (refine AWp.region (id := 7) ?_
             refine AList.loadA tyOk rfl rfl rfl rfl rfl rfl rfl oM oM ?_
             refine AList.move rfl rfl rfl ?_
             refine AList.call rfl rfl rfl rfl Try.func12 rfl (by kernel_rfl) (hAT) ?_
             refine AList.move rfl rfl rfl ?_
             refine AList.extract rfl rfl rfl rfl ?_
             refine AList.extract rfl rfl rfl rfl ?_
             refine AList.alloc tyOk rfl rfl rfl rfl rfl ?_
             refine AList.store tyOk rfl rfl rfl rfl rfl rfl rfl rfl oM oM ?_
             refine AList.assign rfl rfl rfl ?_
             refine AList.nil ?_)
          | (refine AWp.region (id := 8) ?_
             refine AList.move rfl rfl rfl ?_
             refine AList.move rfl rfl rfl ?_
             refine AList.fieldPt tyOk rfl rfl rfl rfl rfl rfl rfl ?_
             refine AList.load1 tyOk rfl rfl rfl rfl rfl rfl rfl oM oM ?_
             refine AList.cmpF rfl rfl rfl rfl rfl cmF ?_
             refine AList.neB rfl rfl rfl rfl (by kernel_rfl) ?_
             refine AList.move rfl rfl rfl ?_
             refine AList.move rfl rfl rfl ?_
             refine AList.move rfl rfl rfl ?_
             refine AList.fieldPt tyOk rfl rfl rfl rfl rfl rfl rfl ?_
             refine AList.load1 tyOk rfl rfl rfl rfl rfl rfl rfl oM oM ?_
             refine AList.cmpF rfl rfl rfl rfl rfl cmF ?_
             refine AList.neB rfl rfl rfl rfl (by kernel_rfl) ?_
             refine AList.pickF rfl rfl rfl rfl ?_
             refine AList.nil ?_)
          | (refine AWp.region (id := 10) ?_
             refine AList.move rfl rfl rfl ?_
             refine AList.notB rfl rfl rfl ?_
             refine AList.nil ?_)
          | (refine AWp.region (id := 11) ?_
             refine AList.move rfl rfl rfl ?_
             refine AList.move rfl rfl rfl ?_
             refine AList.loadA tyOk rfl rfl rfl rfl rfl rfl rfl oM oM ?_
             refine AList.buildSt tyOk rfl rfl rfl rfl rfl rfl rfl rfl ?_
             refine AList.binAg rfl rfl rfl rfl rfl rfl (by kernel_rfl) (bg_eqZ) ?_
             refine AList.pickT rfl rfl rfl rfl ?_
             refine AList.assign rfl rfl rfl ?_
             refine AList.nil ?_))
        refine ⟨_, rfl, mkSt 148 [(10, .c (bC true))] [] [], [], Wk.mk [] rfl rfl rfl ?_ trivial, rfl, rfl, ARets.one (x := .c _) (ARes.tmp rfl rfl)⟩
        repeat (first | exact trivial | refine ⟨⟨_, rfl, by first | exact LeA.c (LeC.refl _ rfl) | exact LeA.c (LeC.ow _ _ rfl) | exact LeA.c (LeC.pt _ _ _ _ _ rfl) | exact LeA.c (LeC.nil _ rfl) | exact LeA.c (LeC.nils _ _) | (refine LeA.int ?_; omega) | (refine LeA.int ?_; dsimp only; omega) | exact LeA.c (LeC.fz rfl rfl (by first | rfl | omega) (fun i _ j _ => ⟨rfl, by first | rfl | exact rowN_imm (fun _ => rfl) _ i j | exact rowF_imm (fun _ => rfl) _ i j⟩))⟩, ?_⟩)
end Go.Proofs.Ytclaanggpcjnbaa
end

section
/- DamageGrows: the statement. No condition. -/
namespace Go.Proofs.Ytclaanggpcjnbaa.damageGrows
open Go.ChangeShapes Go.WideShapes Go.ChangeAt Go.RowKit Go.Flow Go.AV
theorem wf_u8 {n : Int} (h : (Lit.int .u8 n).wf = true) : 0 ≤ n ∧ n ≤ 255 := by
  have e1 : IntKind.u8.min = 0 := by decide
  have e2 : IntKind.u8.max = 255 := by decide
  simp [Lit.wf] at h
  omega
section
variable {H : Type} {enc : TypeId × Value → H} {W : World}
theorem opn_u8 : Opn enc Try.prog W 5 (fun i : Int => [.p (.int .u8 i)]) (fun i => 0 ≤ i ∧ i ≤ 255) := (Opn.int Try.underlying5).mono fun _ h => wf_u8 h
theorem opn_years : Opn enc Try.prog W 56 (fun p : Int × Int => [.p (.int .u8 p.1), .p (.int .u8 p.2)]) (fun p => (0 ≤ p.1 ∧ p.1 ≤ 255) ∧ 0 ≤ p.2 ∧ p.2 ≤ 255) :=
  (opn_u8.array Try.underlying56 (by kernel_rfl : Try.prog.cellsOf 5 = 1) (by kernel_rfl)).conv fun L h => by
    obtain ⟨h1, h2⟩ := h
    obtain ⟨x, y, rfl⟩ : ∃ x y, L = [x, y] := by
      match L, h1 with
      | [x, y], _ => exact ⟨x, y, rfl⟩
    exact ⟨(x, y), ⟨h2 x (by simp), h2 y (by simp)⟩, fun _ h => h⟩
end
theorem contract (H : Type) (enc : TypeId × Value → H) (W : World) (base : Nat) (args : Array Value) (ds gs : List (DataW H)) (before : List MemPlace)
    (hval : ∀ (j : Nat) t v, Try.f5.params[j]? = some t → args[j]? = some v → Value.okWide Try.prog W .any base t v)
    (hW : DataW.Whole enc Try.prog Try.f5.params.toList Rows.damageGrowsSpec.vars false W args.toList ds gs before)
    (hsz : (DataW.weightsEach Try.prog (Try.f5.params.toList ++ (OpenSpec.ofChange Rows.damageGrowsSpec).bare.plain.varTypes Try.prog) (ds ++ gs)).all (· ≤ reachBytes) = true) :
    Calls Try.prog 5 args W fun e W' => ∃ v, e = .returned v ∧ Rows.damageGrowsSpec.post enc Try.prog Try.f5 false true false false W args v W' := by
  have hW' := hW
  obtain ⟨p, q, hA0, hV, rfl, hfz, hnd⟩ := hW
  have hA : DataW.TrodAll enc Try.prog W 0 (fun _ => true) true Try.f5.params.toList args.toList ds p := hA0
  have hAk := hA0
  rw [Try.params5] at hA hval hsz
  obtain ⟨rfl, rfl⟩ := trodVars_none hV
  obtain ⟨v0, vs0, d0, ds0, p0, q0, hargs, rfl, rfl, h0, t0⟩ := trodAll_cons hA
  obtain ⟨v1, vs1, d1, ds1, p1, q1, rfl, rfl, rfl, h1, t1⟩ := trodAll_cons t0
  obtain ⟨v2, vs2, d2, ds2, p2, q2, rfl, rfl, rfl, h2, t2⟩ := trodAll_cons t1
  obtain ⟨v3, vs3, d3, ds3, p3, q3, rfl, rfl, rfl, h3, t3⟩ := trodAll_cons t2
  obtain ⟨v4, vs4, d4, ds4, p4, q4, rfl, rfl, rfl, h4, t4⟩ := trodAll_cons t3
  obtain ⟨rfl, rfl, rfl⟩ := trodAll_nil t4
  obtain rfl : args = #[v0, v1, v2, v3, v4] := by rw [← Array.toList_inj]; exact hargs
  have hlt := fun x hx => hW'.lt x hx
  simp only [List.append_nil] at hW'
  rw [List.append_nil] at hsz
  obtain ⟨a0, ok0, r0⟩ := opn_ints.argC (cells_slice Try.underlying22 (hval 0 22 v0 rfl rfl)) h0 (weigh hsz 0 (t := 22) (d := d0) rfl rfl)
  obtain ⟨a1, ok1, r1⟩ := opn_years.argA Try.underlying56 (hval 1 56 v1 rfl rfl) h1 (weigh hsz 1 (t := 56) (d := d1) rfl rfl)
  obtain ⟨a2, ok2, r2⟩ := opn_ints.argC (cells_slice Try.underlying22 (hval 2 22 v2 rfl rfl)) h2 (weigh hsz 2 (t := 22) (d := d2) rfl rfl)
  obtain ⟨a3, ok3, r3⟩ := opn_ints.argC (cells_slice Try.underlying22 (hval 3 22 v3 rfl rfl)) h3 (weigh hsz 3 (t := 22) (d := d3) rfl rfl)
  obtain ⟨a4, ok4, r4⟩ := opn_ints.argC (cells_slice Try.underlying22 (hval 4 22 v4 rfl rfl)) h4 (weigh hsz 4 (t := 22) (d := d4) rfl rfl)
  refine ((DamageGrows_A a0.length (fun k => a0.getD k 0) a1.1 a1.2 a2.length (fun k => a2.getD k 0) a3.length (fun k => a3.getD k 0) a4.length (fun k => a4.getD k 0) ok0.1 ok1.1 ok1.2 ok2.1 ok3.1 ok4.1) O0 W [_, _, _, _, _] (fun b h => h.elim) ⟨r0, r1, r2, r3, r4, trivial⟩).mono fun e W' ⟨v, r, he, hr, hv, hE⟩ => ?_
  subst hr
  obtain rfl : v = .bool true := hv.2
  subst he
  exact ⟨_, rfl, post_below (pv := []) hW' (fun _ _ _ => trodAll_cons_mk (shut_bool Try.underlying4 _) trodAll_mk0)
    (fun sp hsp => trodAll_below laidOut hE (by rw [Try.params5]; intro t ht; simp only [List.mem_cons, List.not_mem_nil, or_false] at ht; rcases ht with rfl | rfl | rfl | rfl | rfl <;> exact ⟨by kernel_rfl, of_decide_eq_true (by kernel_rfl)⟩) hAk (fun x hx => hlt x (by rw [List.append_nil]; exact hx)) sp (fun x hx => hsp x (by simpa only [List.append_nil] using hx)))
    (fun _ _ => rfl) (by simp) hE (ok_one (by kernel_rfl) rfl (okWide_bool_mk Try.underlying4 _))⟩
theorem own : ownKnob Try.prog.godebug = none := by kernel_rfl
set_option maxRecDepth 100000 in
theorem lifted (os : Os) (started : os.Started) (H : Type) (enc : TypeId × Value → H) :
    ReturnsInHanded {} Try.checked os 5 .any (Rows.damageGrowsSpec.pre6 enc Try.prog Try.f5 Rows.damageGrowsRow.domain false) (Rows.damageGrowsSpec.post enc Try.prog Try.f5 false true false false) := by
  refine returnsInHanded_of_change_sized (C := Try.checked) own started (by kernel_rfl) Try.func5
    (ChangeSpec.witness6 (enc := enc) (C := Try.checked) false ⟨#[], #[.slice none 0 0, .agg #[.int .u8 0, .int .u8 0], .slice none 0 0, .slice none 0 0, .slice none 0 0], []⟩ 8 (by kernel_rfl) (by kernel_rfl) (by kernel_rfl) (by kernel_rfl)) ?_
  intro W base args ds gs before hval hW _ hsz _
  exact contract H enc W base args ds gs before hval hW hsz
theorem said : Rows.DamageGrowsSaid :=
  OpenClaim.holds_of_wide 5 Try.f5 rfl rfl rfl rfl rfl rfl rfl ⟨rfl, rfl, rfl, rfl, rfl⟩ rfl rfl rfl rfl rfl (by kernel_rfl) Try.func5 (by kernel_rfl)
    (of_decide_eq_true (by kernel_rfl)) (by unfold Func.isWrapper; first | (rw [if_pos (by decide +kernel)]; kernel_rfl) | (rw [if_neg (by decide +kernel)]; exact ⟨rfl, rfl⟩))
    (fun os started H enc _ => lifted os started H enc)
end Go.Proofs.Ytclaanggpcjnbaa.damageGrows
end
