/- Parts of the proof: A23u. -/
import Derived.Test.YtclaanggpcjnbaaG31
set_option linter.unusedSimpArgs false
set_option linter.unusedVariables false
section
/- Chapter 23: the law DamageMaterials over plain values. -/
namespace Go.Proofs.Ytclaanggpcjnbaa
open Go.RowKit Go.Flow Go.AV Go.Plain
theorem matN_ok (N : Nat) (f : Nat → Int) : matE (matN N f) = 0 := by
  have b0 : 0 ≤ nx N f 0 60 ∧ nx N f 0 60 < 60 := dval_bd N f (dt N 0) 60 (by omega)
  have b1 : 0 ≤ nx N f 1 30 ∧ nx N f 1 30 < 30 := dval_bd N f (dt N 1) 30 (by omega)
  have b2 : 0 ≤ nx N f 2 3 ∧ nx N f 2 3 < 3 := dval_bd N f (dt N 2) 3 (by omega)
  have b3 : 0 ≤ nx N f 3 2 ∧ nx N f 3 2 < 2 := dval_bd N f (dt N 3) 2 (by omega)
  have b4 : 0 ≤ nx N f 4 2 ∧ nx N f 4 2 < 2 := dval_bd N f (dt N 4) 2 (by omega)
  have b5 : 0 ≤ nx N f 5 2 ∧ nx N f 5 2 < 2 := dval_bd N f (dt N 5) 2 (by omega)
  have b6 : 0 ≤ nx N f 6 2 ∧ nx N f 6 2 < 2 := dval_bd N f (dt N 6) 2 (by omega)
  have b8 : 0 ≤ nx N f 8 2 ∧ nx N f 8 2 < 2 := dval_bd N f (dt N 8) 2 (by omega)
  have lim : ∀ x : Bg, 0 ≤ x.lo ∧ x.lo ≤ 2 → 0 ≤ x.bl ∧ x.bl ≤ 2 → 0 ≤ x.sh ∧ x.sh ≤ 1 → 0 ≤ x.st ∧ x.st ≤ 2 → x = lim4 x := fun x h1 h2 h3 h4 => by
    cases x
    simp only [lim4, lim1, Bg.mk.injEq] at *
    omega
  unfold matE
  rw [if_neg, if_neg]
  · intro h
    rcases h with h | h
    · exact h (lim _ (by show 0 ≤ nx N f 2 3 ∧ nx N f 2 3 ≤ 2; omega) (by show 0 ≤ nx N f 3 2 ∧ nx N f 3 2 ≤ 2; omega) (by show (0 : Int) ≤ 0 ∧ (0 : Int) ≤ 1; omega) (by show 0 ≤ nx N f 4 2 ∧ nx N f 4 2 ≤ 2; omega))
    · refine h (lim _ (by show 0 ≤ nx N f 5 2 ∧ nx N f 5 2 ≤ 2; omega) (by show 0 ≤ nx N f 6 2 ∧ nx N f 6 2 ≤ 2; omega) ?_ (by show 0 ≤ nx N f 8 2 ∧ nx N f 8 2 ≤ 2; omega))
      show 0 ≤ (if nx N f 7 4 = 3 then (1 : Int) else 0) ∧ (if nx N f 7 4 = 3 then (1 : Int) else 0) ≤ 1
      split <;> omega
  · show ¬ (nx N f 0 60 < 0 ∨ nx N f 0 60 > 200 ∨ 1 + nx N f 1 30 < 1 ∨ 1 + nx N f 1 30 > 200)
    omega
abbrev yr3 (y u x : Int) (j : Nat) : Int := match j with | 0 => y | 1 => u % 62 | _ => x
set_option maxHeartbeats 2000000 in
set_option maxRecDepth 100000 in
theorem DamageMaterials_A (N : Nat) (f : Nat → Int) (raw : Mat) (y : Int) (hN : N ≤ 4611686018427387904) : ECalls Try.prog 3 [.c (.ls N 1 (iF f)), .ag (matC raw), .c (iC y)] (fun v => v = .c (bC true)) := by
  have hCut := cutL_A N f 12 hN (by omega)
  have hMat := Material_A (min N 12) f (by omega)
  obtain ⟨m, hm⟩ : ∃ m, matN (min N 12) f = m := ⟨_, rfl⟩
  have hok := matN_ok (min N 12) f
  rw [hm] at hMat hok
  obtain ⟨u, hu⟩ : ∃ u, IntKind.u64.wrap y = u := ⟨_, rfl⟩
  have hub : 0 ≤ u ∧ u ≤ 18446744073709551615 := by rw [← hu, IntKind.wrap_u64]; omega
  have hz : IntKind.i64.wrap (u % 62) = u % 62 := by rw [IntKind.wrap_i64]; omega
  have hCm := pMat_A m
  rw [hok] at hCm
  refine ecalls_at Try.func3 rfl rfl Try.ntmps3 rfl ?_
  repeat (first
    | refine AWp.seq ?_
    | refine thenA_n ?_
    | refine AWp.block ?_
    | (refine AWp.region (id := 0) ?_
       refine AList.box rfl rfl rfl rfl rfl ?_
       refine AList.assign rfl rfl rfl ?_
       refine AList.nil ?_)
    | (refine AWp.region (id := 1) ?_
       refine AList.call rfl rfl rfl rfl Try.func9 rfl (by kernel_rfl) (sanity_A) ?_
       refine AList.assign rfl rfl rfl ?_
       refine AList.nil ?_)
    | (refine AWp.region (id := 2) ?_
       refine AList.move rfl rfl rfl ?_
       refine AList.call rfl rfl rfl rfl Try.func11 rfl (by kernel_rfl) (hCut) ?_
       refine AList.call rfl rfl rfl rfl Try.func10 rfl (by kernel_rfl) (hMat) ?_
       refine AList.alloc tyOk rfl rfl rfl rfl rfl ?_
       refine AList.store tyOk rfl rfl rfl rfl rfl rfl rfl rfl oM oM ?_
       refine AList.nil ?_)
    | (refine AWp.region (id := 3) ?_
       refine AList.loadA tyOk rfl rfl rfl rfl rfl rfl rfl oM oM ?_
       refine AList.loadA tyOk rfl rfl rfl rfl rfl rfl rfl oM oM ?_
       refine AList.litSl tyOk rfl rfl rfl rfl rfl rfl rfl rfl rfl rfl rfl ?_
       refine AList.lenLs tyOk rfl rfl rfl rfl rfl ?_
       refine AList.move rfl rfl rfl ?_
       refine AList.nil ?_))
  refine AWp.round (fun k : Nat => mkSt 75 [(2, .c (iC y)), (7, .c (bC true)), (8, .c (.pt 8 10 0 0)), (23, .c (.ls 2 10 (sF (matC m ++ matC raw) 10))), (24, .c (iC 2)), (25, .c (iC k))]
    [(8, ⟨false, 1, 10, 26, lF (matC m)⟩)] [8])
    (fun k => k ≤ 2) (fun k => 2 - k) 0 (Nat.zero_le _) ?_ (fun k hk => ?_)
  · refine Wk.mk [(8, some 8)] rfl rfl rfl ?_ ?_
    · repeat (first | exact trivial | refine ⟨⟨_, rfl, by first | exact LeA.c (LeC.refl _ rfl) | exact LeA.c (LeC.ow _ _ rfl) | exact LeA.c (LeC.pt _ _ _ _ _ rfl) | exact LeA.c (LeC.nil _ rfl) | exact LeA.c (LeC.nils _ _) | (refine LeA.int ?_; omega) | (refine LeA.int ?_; dsimp only; omega) | exact LeA.c (LeC.fz rfl rfl (by first | rfl | omega) (fun i _ j _ => ⟨rfl, by first | rfl | exact rowN_imm (fun _ => rfl) _ i j | exact rowF_imm (fun _ => rfl) _ i j⟩))⟩, ?_⟩)
    · repeat (first | exact trivial | refine ⟨by first | exact HeapOk.same rfl rfl rfl rfl | exact HeapOk.lent rfl rfl rfl rfl | exact HeapOk.nil rfl rfl | exact HeapOk.row rfl rfl (by first | rfl | omega) (fun i _ j _ => ⟨rfl, by first | rfl | exact rowN_imm (fun _ => rfl) _ i j | exact rowF_imm (fun _ => rfl) _ i j⟩) | exact HeapOk.box rfl rfl (by repeat (first | exact trivial | refine ⟨by first | exact LeC.refl _ rfl | exact LeC.ow _ _ rfl | exact LeC.nil _ rfl | exact LeC.nils _ _ | exact LeC.fz rfl rfl (by first | rfl | omega) (fun i _ j _ => ⟨rfl, by first | rfl | exact rowN_imm (fun _ => rfl) _ i j | exact rowF_imm (fun _ => rfl) _ i j⟩) | exact LeC.int (by omega), ?_⟩)) rfl, ?_⟩)
  · obtain rfl | rfl | rfl : k = 0 ∨ k = 1 ∨ k = 2 := by omega
    · repeat (first
        | refine AWp.seq ?_
        | refine thenA_n ?_
        | refine AWp.block ?_
        | refine AWp.skip ?_
        | refine AWp.condT rfl (by first | rfl | assumption | exact cmT) ?_
        | (refine AWp.region (id := 4) ?_
           refine AList.cmpT rfl rfl rfl rfl rfl cmT ?_
           refine AList.nil ?_)
        | (refine AWp.region (id := 5) ?_
           refine AList.idx (k := 0) tyOk rfl rfl rfl rfl rfl rfl rfl rfl (by first | rfl | omega) oM oM ?_
           refine AList.loadAl tyOk rfl rfl rfl rfl rfl oM ?_
           refine AList.alloc tyOk rfl rfl rfl rfl rfl ?_
           refine AList.store tyOk rfl rfl rfl rfl rfl rfl rfl rfl oM oM ?_
           refine AList.nil ?_)
        | (refine AWp.region (id := 6) ?_
           refine AList.move rfl rfl rfl ?_
           refine AList.move rfl rfl rfl ?_
           refine AList.convI (hu) (by kernel_rfl) Try.underlying31 rfl rfl rfl ?_
           refine AList.remK rfl rfl rfl rfl (by omega) (by omega) ?_
           refine AList.convI (hz) (by kernel_rfl) Try.underlying3 rfl rfl rfl ?_
           refine AList.fieldPt tyOk rfl rfl rfl rfl rfl rfl rfl ?_
           refine AList.load1 tyOk rfl rfl rfl rfl rfl rfl rfl oM oM ?_
           refine AList.litSl tyOk rfl rfl rfl rfl rfl rfl rfl rfl rfl rfl rfl ?_
           refine AList.lenLs tyOk rfl rfl rfl rfl rfl ?_
           refine AList.move rfl rfl rfl ?_
           refine AList.nil ?_))
      refine AWp.round (fun j : Nat => mkSt 75 [(2, .c (iC y)), (7, .c (bC true)), (8, .c (.pt 8 10 0 0)), (10, .c (.pt 10 10 0 0)), (23, .c (.ls 2 10 (sF (matC m ++ matC raw) 10))), (24, .c (iC 2)), (25, .c (iC 0)), (36, .c (.ls 3 1 (sF [iC y, iC (u % 62), iC m.life] 1))), (37, .c (iC 3)), (38, .c (iC j))]
        [(8, ⟨false, 1, 10, 26, lF (matC m)⟩), (10, ⟨false, 1, 10, 26, lF (matC m)⟩)] [8, 10])
        (fun j => j ≤ 3) (fun j => 3 - j) 0 (Nat.zero_le _) ?_ (fun j hj => ?_)
      · refine Wk.mk [(8, some 8), (10, some 10)] rfl rfl rfl ?_ ?_
        · repeat (first | exact trivial | refine ⟨⟨_, rfl, by first | exact LeA.c (LeC.refl _ rfl) | exact LeA.c (LeC.ow _ _ rfl) | exact LeA.c (LeC.pt _ _ _ _ _ rfl) | exact LeA.c (LeC.nil _ rfl) | exact LeA.c (LeC.nils _ _) | (refine LeA.int ?_; omega) | (refine LeA.int ?_; dsimp only; omega) | exact LeA.c (LeC.fz rfl rfl (by first | rfl | omega) (fun i _ j _ => ⟨rfl, by first | rfl | exact rowN_imm (fun _ => rfl) _ i j | exact rowF_imm (fun _ => rfl) _ i j⟩))⟩, ?_⟩)
        · repeat (first | exact trivial | refine ⟨by first | exact HeapOk.same rfl rfl rfl rfl | exact HeapOk.lent rfl rfl rfl rfl | exact HeapOk.nil rfl rfl | exact HeapOk.row rfl rfl (by first | rfl | omega) (fun i _ j _ => ⟨rfl, by first | rfl | exact rowN_imm (fun _ => rfl) _ i j | exact rowF_imm (fun _ => rfl) _ i j⟩) | exact HeapOk.box rfl rfl (by repeat (first | exact trivial | refine ⟨by first | exact LeC.refl _ rfl | exact LeC.ow _ _ rfl | exact LeC.nil _ rfl | exact LeC.nils _ _ | exact LeC.fz rfl rfl (by first | rfl | omega) (fun i _ j _ => ⟨rfl, by first | rfl | exact rowN_imm (fun _ => rfl) _ i j | exact rowF_imm (fun _ => rfl) _ i j⟩) | exact LeC.int (by omega), ?_⟩)) rfl, ?_⟩)
      · obtain rfl | rfl | rfl | rfl : j = 0 ∨ j = 1 ∨ j = 2 ∨ j = 3 := by omega
        · have hP := pAt_A m y
          have hR := rAt_A m y
          obtain ⟨V, hV⟩ : ∃ V, atV m y = V := ⟨_, rfl⟩
          rw [hV] at hP hR
          obtain ⟨vb, vo⟩ := V
          cases vo
          all_goals
            repeat (first
              | refine AWp.seq ?_
              | refine thenA_n ?_
              | refine AWp.block ?_
              | refine AWp.skip ?_
              | refine inBlk_n ?_
              | refine AWp.condT rfl (by first | rfl | assumption | exact cmT) ?_
              | refine AWp.condF rfl (by first | rfl | assumption | exact cmF) ?_
              | (refine AWp.region (id := 7) ?_
                 refine AList.cmpT rfl rfl rfl rfl rfl cmT ?_
                 refine AList.nil ?_)
              | (refine AWp.region (id := 8) ?_
                 refine AList.idx (k := 0) tyOk rfl rfl rfl rfl rfl rfl rfl rfl (by first | rfl | omega) oM oM ?_
                 refine AList.load1l tyOk rfl rfl rfl rfl rfl oM ?_
                 refine AList.assign rfl rfl rfl ?_
                 refine AList.nil ?_)
              | (refine AWp.region (id := 9) ?_
                 refine AList.loadA tyOk rfl rfl rfl rfl rfl rfl rfl oM oM ?_
                 refine AList.move rfl rfl rfl ?_
                 refine AList.call rfl rfl rfl rfl Try.func12 rfl (by kernel_rfl) (hP) ?_
                 refine AList.move rfl rfl rfl ?_
                 refine AList.extract rfl rfl rfl rfl ?_
                 refine AList.extract rfl rfl rfl rfl ?_
                 refine AList.alloc tyOk rfl rfl rfl rfl rfl ?_
                 refine AList.store tyOk rfl rfl rfl rfl rfl rfl rfl rfl oM oM ?_
                 refine AList.assign rfl rfl rfl ?_
                 refine AList.nil ?_)
              | (refine AWp.region (id := 10) ?_
                 refine AList.loadA tyOk rfl rfl rfl rfl rfl rfl rfl oM oM ?_
                 refine AList.move rfl rfl rfl ?_
                 refine AList.call rfl rfl rfl rfl Try.func13 rfl (by kernel_rfl) (hR) ?_
                 refine AList.move rfl rfl rfl ?_
                 refine AList.extract rfl rfl rfl rfl ?_
                 refine AList.extract rfl rfl rfl rfl ?_
                 refine AList.alloc tyOk rfl rfl rfl rfl rfl ?_
                 refine AList.store tyOk rfl rfl rfl rfl rfl rfl rfl rfl oM oM ?_
                 refine AList.assign rfl rfl rfl ?_
                 refine AList.nil ?_)
              | (refine AWp.region (id := 11) ?_
                 refine AList.move rfl rfl rfl ?_
                 refine AList.move rfl rfl rfl ?_
                 refine AList.neB rfl rfl rfl rfl (by kernel_rfl) ?_
                 refine AList.move rfl rfl rfl ?_
                 refine AList.loadA tyOk rfl rfl rfl rfl rfl rfl rfl oM oM ?_
                 refine AList.loadA tyOk rfl rfl rfl rfl rfl rfl rfl oM oM ?_
                 refine AList.binAg rfl rfl rfl rfl rfl rfl (by kernel_rfl) (bg_neS vb) ?_
                 refine AList.pickF rfl rfl rfl rfl ?_
                 refine AList.nil ?_)
              | (refine AWp.region (id := 13) ?_
                 refine AList.add rfl rfl rfl rfl (by omega) (by omega) ?_
                 refine AList.move rfl rfl rfl ?_
                 refine AList.nil ?_))
            refine ⟨0 + 1, by omega, Wk.mk [(8, some 8), (10, some 10)] rfl rfl rfl ?_ ?_, by omega⟩
            · repeat (first | exact trivial | refine ⟨⟨_, rfl, by first | exact LeA.c (LeC.refl _ rfl) | exact LeA.c (LeC.ow _ _ rfl) | exact LeA.c (LeC.pt _ _ _ _ _ rfl) | exact LeA.c (LeC.nil _ rfl) | exact LeA.c (LeC.nils _ _) | (refine LeA.int ?_; omega) | (refine LeA.int ?_; dsimp only; omega) | exact LeA.c (LeC.fz rfl rfl (by first | rfl | omega) (fun i _ j _ => ⟨rfl, by first | rfl | exact rowN_imm (fun _ => rfl) _ i j | exact rowF_imm (fun _ => rfl) _ i j⟩))⟩, ?_⟩)
            · repeat (first | exact trivial | refine ⟨by first | exact HeapOk.same rfl rfl rfl rfl | exact HeapOk.lent rfl rfl rfl rfl | exact HeapOk.nil rfl rfl | exact HeapOk.row rfl rfl (by first | rfl | omega) (fun i _ j _ => ⟨rfl, by first | rfl | exact rowN_imm (fun _ => rfl) _ i j | exact rowF_imm (fun _ => rfl) _ i j⟩) | exact HeapOk.box rfl rfl (by repeat (first | exact trivial | refine ⟨by first | exact LeC.refl _ rfl | exact LeC.ow _ _ rfl | exact LeC.nil _ rfl | exact LeC.nils _ _ | exact LeC.fz rfl rfl (by first | rfl | omega) (fun i _ j _ => ⟨rfl, by first | rfl | exact rowN_imm (fun _ => rfl) _ i j | exact rowF_imm (fun _ => rfl) _ i j⟩) | exact LeC.int (by omega), ?_⟩)) rfl, ?_⟩)
        · have hP := pAt_A m (u % 62)
          have hR := rAt_A m (u % 62)
          obtain ⟨V, hV⟩ : ∃ V, atV m (u % 62) = V := ⟨_, rfl⟩
          rw [hV] at hP hR
          obtain ⟨vb, vo⟩ := V
          cases vo
          all_goals
            repeat (first
              | refine AWp.seq ?_
              | refine thenA_n ?_
              | refine AWp.block ?_
              | refine AWp.skip ?_
              | refine inBlk_n ?_
              | refine AWp.condT rfl (by first | rfl | assumption | exact cmT) ?_
              | refine AWp.condF rfl (by first | rfl | assumption | exact cmF) ?_
              | (refine AWp.region (id := 7) ?_
                 refine AList.cmpT rfl rfl rfl rfl rfl cmT ?_
                 refine AList.nil ?_)
              | (refine AWp.region (id := 8) ?_
                 refine AList.idx (k := 1) tyOk rfl rfl rfl rfl rfl rfl rfl rfl (by first | rfl | omega) oM oM ?_
                 refine AList.load1l tyOk rfl rfl rfl rfl rfl oM ?_
                 refine AList.assign rfl rfl rfl ?_
                 refine AList.nil ?_)
              | (refine AWp.region (id := 9) ?_
                 refine AList.loadA tyOk rfl rfl rfl rfl rfl rfl rfl oM oM ?_
                 refine AList.move rfl rfl rfl ?_
                 refine AList.call rfl rfl rfl rfl Try.func12 rfl (by kernel_rfl) (hP) ?_
                 refine AList.move rfl rfl rfl ?_
                 refine AList.extract rfl rfl rfl rfl ?_
                 refine AList.extract rfl rfl rfl rfl ?_
                 refine AList.alloc tyOk rfl rfl rfl rfl rfl ?_
                 refine AList.store tyOk rfl rfl rfl rfl rfl rfl rfl rfl oM oM ?_
                 refine AList.assign rfl rfl rfl ?_
                 refine AList.nil ?_)
              | (refine AWp.region (id := 10) ?_
                 refine AList.loadA tyOk rfl rfl rfl rfl rfl rfl rfl oM oM ?_
                 refine AList.move rfl rfl rfl ?_
                 refine AList.call rfl rfl rfl rfl Try.func13 rfl (by kernel_rfl) (hR) ?_
                 refine AList.move rfl rfl rfl ?_
                 refine AList.extract rfl rfl rfl rfl ?_
                 refine AList.extract rfl rfl rfl rfl ?_
                 refine AList.alloc tyOk rfl rfl rfl rfl rfl ?_
                 refine AList.store tyOk rfl rfl rfl rfl rfl rfl rfl rfl oM oM ?_
                 refine AList.assign rfl rfl rfl ?_
                 refine AList.nil ?_)
              | (refine AWp.region (id := 11) ?_
                 refine AList.move rfl rfl rfl ?_
                 refine AList.move rfl rfl rfl ?_
                 refine AList.neB rfl rfl rfl rfl (by kernel_rfl) ?_
                 refine AList.move rfl rfl rfl ?_
                 refine AList.loadA tyOk rfl rfl rfl rfl rfl rfl rfl oM oM ?_
                 refine AList.loadA tyOk rfl rfl rfl rfl rfl rfl rfl oM oM ?_
                 refine AList.binAg rfl rfl rfl rfl rfl rfl (by kernel_rfl) (bg_neS vb) ?_
                 refine AList.pickF rfl rfl rfl rfl ?_
                 refine AList.nil ?_)
              | (refine AWp.region (id := 13) ?_
                 refine AList.add rfl rfl rfl rfl (by omega) (by omega) ?_
                 refine AList.move rfl rfl rfl ?_
                 refine AList.nil ?_))
            refine ⟨1 + 1, by omega, Wk.mk [(8, some 8), (10, some 10)] rfl rfl rfl ?_ ?_, by omega⟩
            · repeat (first | exact trivial | refine ⟨⟨_, rfl, by first | exact LeA.c (LeC.refl _ rfl) | exact LeA.c (LeC.ow _ _ rfl) | exact LeA.c (LeC.pt _ _ _ _ _ rfl) | exact LeA.c (LeC.nil _ rfl) | exact LeA.c (LeC.nils _ _) | (refine LeA.int ?_; omega) | (refine LeA.int ?_; dsimp only; omega) | exact LeA.c (LeC.fz rfl rfl (by first | rfl | omega) (fun i _ j _ => ⟨rfl, by first | rfl | exact rowN_imm (fun _ => rfl) _ i j | exact rowF_imm (fun _ => rfl) _ i j⟩))⟩, ?_⟩)
            · repeat (first | exact trivial | refine ⟨by first | exact HeapOk.same rfl rfl rfl rfl | exact HeapOk.lent rfl rfl rfl rfl | exact HeapOk.nil rfl rfl | exact HeapOk.row rfl rfl (by first | rfl | omega) (fun i _ j _ => ⟨rfl, by first | rfl | exact rowN_imm (fun _ => rfl) _ i j | exact rowF_imm (fun _ => rfl) _ i j⟩) | exact HeapOk.box rfl rfl (by repeat (first | exact trivial | refine ⟨by first | exact LeC.refl _ rfl | exact LeC.ow _ _ rfl | exact LeC.nil _ rfl | exact LeC.nils _ _ | exact LeC.fz rfl rfl (by first | rfl | omega) (fun i _ j _ => ⟨rfl, by first | rfl | exact rowN_imm (fun _ => rfl) _ i j | exact rowF_imm (fun _ => rfl) _ i j⟩) | exact LeC.int (by omega), ?_⟩)) rfl, ?_⟩)
        · have hP := pAt_A m m.life
          have hR := rAt_A m m.life
          obtain ⟨V, hV⟩ : ∃ V, atV m m.life = V := ⟨_, rfl⟩
          rw [hV] at hP hR
          obtain ⟨vb, vo⟩ := V
          cases vo
          all_goals
            repeat (first
              | refine AWp.seq ?_
              | refine thenA_n ?_
              | refine AWp.block ?_
              | refine AWp.skip ?_
              | refine inBlk_n ?_
              | refine AWp.condT rfl (by first | rfl | assumption | exact cmT) ?_
              | refine AWp.condF rfl (by first | rfl | assumption | exact cmF) ?_
              | (refine AWp.region (id := 7) ?_
                 refine AList.cmpT rfl rfl rfl rfl rfl cmT ?_
                 refine AList.nil ?_)
              | (refine AWp.region (id := 8) ?_
                 refine AList.idx (k := 2) tyOk rfl rfl rfl rfl rfl rfl rfl rfl (by first | rfl | omega) oM oM ?_
                 refine AList.load1l tyOk rfl rfl rfl rfl rfl oM ?_
                 refine AList.assign rfl rfl rfl ?_
                 refine AList.nil ?_)
              | (refine AWp.region (id := 9) ?_
                 refine AList.loadA tyOk rfl rfl rfl rfl rfl rfl rfl oM oM ?_
                 refine AList.move rfl rfl rfl ?_
                 refine AList.call rfl rfl rfl rfl Try.func12 rfl (by kernel_rfl) (hP) ?_
                 refine AList.move rfl rfl rfl ?_
                 refine AList.extract rfl rfl rfl rfl ?_
                 refine AList.extract rfl rfl rfl rfl ?_
                 refine AList.alloc tyOk rfl rfl rfl rfl rfl ?_
                 refine AList.store tyOk rfl rfl rfl rfl rfl rfl rfl rfl oM oM ?_
                 refine AList.assign rfl rfl rfl ?_
                 refine AList.nil ?_)
              | (refine AWp.region (id := 10) ?_
                 refine AList.loadA tyOk rfl rfl rfl rfl rfl rfl rfl oM oM ?_
                 refine AList.move rfl rfl rfl ?_
                 refine AList.call rfl rfl rfl rfl Try.func13 rfl (by kernel_rfl) (hR) ?_
                 refine AList.move rfl rfl rfl ?_
                 refine AList.extract rfl rfl rfl rfl ?_
                 refine AList.extract rfl rfl rfl rfl ?_
                 refine AList.alloc tyOk rfl rfl rfl rfl rfl ?_
                 refine AList.store tyOk rfl rfl rfl rfl rfl rfl rfl rfl oM oM ?_
                 refine AList.assign rfl rfl rfl ?_
                 refine AList.nil ?_)
              | (refine AWp.region (id := 11) ?_
                 refine AList.move rfl rfl rfl ?_
                 refine AList.move rfl rfl rfl ?_
                 refine AList.neB rfl rfl rfl rfl (by kernel_rfl) ?_
                 refine AList.move rfl rfl rfl ?_
                 refine AList.loadA tyOk rfl rfl rfl rfl rfl rfl rfl oM oM ?_
                 refine AList.loadA tyOk rfl rfl rfl rfl rfl rfl rfl oM oM ?_
                 refine AList.binAg rfl rfl rfl rfl rfl rfl (by kernel_rfl) (bg_neS vb) ?_
                 refine AList.pickF rfl rfl rfl rfl ?_
                 refine AList.nil ?_)
              | (refine AWp.region (id := 13) ?_
                 refine AList.add rfl rfl rfl rfl (by omega) (by omega) ?_
                 refine AList.move rfl rfl rfl ?_
                 refine AList.nil ?_))
            refine ⟨2 + 1, by omega, Wk.mk [(8, some 8), (10, some 10)] rfl rfl rfl ?_ ?_, by omega⟩
            · repeat (first | exact trivial | refine ⟨⟨_, rfl, by first | exact LeA.c (LeC.refl _ rfl) | exact LeA.c (LeC.ow _ _ rfl) | exact LeA.c (LeC.pt _ _ _ _ _ rfl) | exact LeA.c (LeC.nil _ rfl) | exact LeA.c (LeC.nils _ _) | (refine LeA.int ?_; omega) | (refine LeA.int ?_; dsimp only; omega) | exact LeA.c (LeC.fz rfl rfl (by first | rfl | omega) (fun i _ j _ => ⟨rfl, by first | rfl | exact rowN_imm (fun _ => rfl) _ i j | exact rowF_imm (fun _ => rfl) _ i j⟩))⟩, ?_⟩)
            · repeat (first | exact trivial | refine ⟨by first | exact HeapOk.same rfl rfl rfl rfl | exact HeapOk.lent rfl rfl rfl rfl | exact HeapOk.nil rfl rfl | exact HeapOk.row rfl rfl (by first | rfl | omega) (fun i _ j _ => ⟨rfl, by first | rfl | exact rowN_imm (fun _ => rfl) _ i j | exact rowF_imm (fun _ => rfl) _ i j⟩) | exact HeapOk.box rfl rfl (by repeat (first | exact trivial | refine ⟨by first | exact LeC.refl _ rfl | exact LeC.ow _ _ rfl | exact LeC.nil _ rfl | exact LeC.nils _ _ | exact LeC.fz rfl rfl (by first | rfl | omega) (fun i _ j _ => ⟨rfl, by first | rfl | exact rowN_imm (fun _ => rfl) _ i j | exact rowF_imm (fun _ => rfl) _ i j⟩) | exact LeC.int (by omega), ?_⟩)) rfl, ?_⟩)
        · have hC := pMat_A m
          have hR := rMat_A m
          repeat (first
            | refine AWp.seq ?_
            | refine thenA_n ?_
            | refine AWp.skip ?_
            | refine AWp.exit ?_
            | refine inBlk_n ?_
            | refine AWp.condF rfl (by first | rfl | assumption | exact cmF) ?_
            | (refine AWp.region (id := 7) ?_
               refine AList.cmpF rfl rfl rfl rfl rfl cmF ?_
               refine AList.nil ?_)
            | (refine AWp.draw (id := 14) mixed ?_
               refine AList.loadA tyOk rfl rfl rfl rfl rfl rfl rfl oM oM ?_
               refine AList.call rfl rfl rfl rfl Try.func14 rfl (by kernel_rfl) (hC) ?_
               refine AList.loadA tyOk rfl rfl rfl rfl rfl rfl rfl oM oM ?_
               refine AList.call rfl rfl rfl rfl Try.func15 rfl (by kernel_rfl) (hR) ?_
               refine AList.cmpF rfl rfl rfl rfl rfl (by simp only [cmpP, eq_self, decide_true, Bool.not_true]) ?_
               refine AList.nil ⟨by kernel_rfl, ?_⟩)
            | (refine AWp.region (id := 16) ?_
               refine AList.add rfl rfl rfl rfl (by omega) (by omega) ?_
               refine AList.move rfl rfl rfl ?_
               refine AList.nil ?_))
          refine ⟨0 + 1, by omega, Wk.mk [(8, some 8)] rfl rfl rfl ?_ ?_, by omega⟩
          · repeat (first | exact trivial | refine ⟨⟨_, rfl, by first | exact LeA.c (LeC.refl _ rfl) | exact LeA.c (LeC.ow _ _ rfl) | exact LeA.c (LeC.pt _ _ _ _ _ rfl) | exact LeA.c (LeC.nil _ rfl) | exact LeA.c (LeC.nils _ _) | (refine LeA.int ?_; omega) | (refine LeA.int ?_; dsimp only; omega) | exact LeA.c (LeC.fz rfl rfl (by first | rfl | omega) (fun i _ j _ => ⟨rfl, by first | rfl | exact rowN_imm (fun _ => rfl) _ i j | exact rowF_imm (fun _ => rfl) _ i j⟩))⟩, ?_⟩)
          · repeat (first | exact trivial | refine ⟨by first | exact HeapOk.same rfl rfl rfl rfl | exact HeapOk.lent rfl rfl rfl rfl | exact HeapOk.nil rfl rfl | exact HeapOk.row rfl rfl (by first | rfl | omega) (fun i _ j _ => ⟨rfl, by first | rfl | exact rowN_imm (fun _ => rfl) _ i j | exact rowF_imm (fun _ => rfl) _ i j⟩) | exact HeapOk.box rfl rfl (by repeat (first | exact trivial | refine ⟨by first | exact LeC.refl _ rfl | exact LeC.ow _ _ rfl | exact LeC.nil _ rfl | exact LeC.nils _ _ | exact LeC.fz rfl rfl (by first | rfl | omega) (fun i _ j _ => ⟨rfl, by first | rfl | exact rowN_imm (fun _ => rfl) _ i j | exact rowF_imm (fun _ => rfl) _ i j⟩) | exact LeC.int (by omega), ?_⟩)) rfl, ?_⟩)
    · repeat (first
        | refine AWp.seq ?_
        | refine thenA_n ?_
        | refine AWp.block ?_
        | refine AWp.skip ?_
        | refine AWp.condT rfl (by first | rfl | assumption | exact cmT) ?_
        | (refine AWp.region (id := 4) ?_
           refine AList.cmpT rfl rfl rfl rfl rfl cmT ?_
           refine AList.nil ?_)
        | (refine AWp.region (id := 5) ?_
           refine AList.idx (k := 1) tyOk rfl rfl rfl rfl rfl rfl rfl rfl (by first | rfl | omega) oM oM ?_
           refine AList.loadAl tyOk rfl rfl rfl rfl rfl oM ?_
           refine AList.alloc tyOk rfl rfl rfl rfl rfl ?_
           refine AList.store tyOk rfl rfl rfl rfl rfl rfl rfl rfl oM oM ?_
           refine AList.nil ?_)
        | (refine AWp.region (id := 6) ?_
           refine AList.move rfl rfl rfl ?_
           refine AList.move rfl rfl rfl ?_
           refine AList.convI (hu) (by kernel_rfl) Try.underlying31 rfl rfl rfl ?_
           refine AList.remK rfl rfl rfl rfl (by omega) (by omega) ?_
           refine AList.convI (hz) (by kernel_rfl) Try.underlying3 rfl rfl rfl ?_
           refine AList.fieldPt tyOk rfl rfl rfl rfl rfl rfl rfl ?_
           refine AList.load1 tyOk rfl rfl rfl rfl rfl rfl rfl oM oM ?_
           refine AList.litSl tyOk rfl rfl rfl rfl rfl rfl rfl rfl rfl rfl rfl ?_
           refine AList.lenLs tyOk rfl rfl rfl rfl rfl ?_
           refine AList.move rfl rfl rfl ?_
           refine AList.nil ?_))
      refine AWp.round (fun j : Nat => mkSt 75 [(2, .c (iC y)), (7, .c (bC true)), (8, .c (.pt 8 10 0 0)), (10, .c (.pt 10 10 0 0)), (23, .c (.ls 2 10 (sF (matC m ++ matC raw) 10))), (24, .c (iC 2)), (25, .c (iC 1)), (36, .c (.ls 3 1 (sF [iC y, iC (u % 62), iC raw.life] 1))), (37, .c (iC 3)), (38, .c (iC j))]
        [(8, ⟨false, 1, 10, 26, lF (matC m)⟩), (10, ⟨false, 1, 10, 26, lF (matC raw)⟩)] [8, 10])
        (fun j => j ≤ 3) (fun j => 3 - j) 0 (Nat.zero_le _) ?_ (fun j hj => ?_)
      · refine Wk.mk [(8, some 8), (10, some 10)] rfl rfl rfl ?_ ?_
        · repeat (first | exact trivial | refine ⟨⟨_, rfl, by first | exact LeA.c (LeC.refl _ rfl) | exact LeA.c (LeC.ow _ _ rfl) | exact LeA.c (LeC.pt _ _ _ _ _ rfl) | exact LeA.c (LeC.nil _ rfl) | exact LeA.c (LeC.nils _ _) | (refine LeA.int ?_; omega) | (refine LeA.int ?_; dsimp only; omega) | exact LeA.c (LeC.fz rfl rfl (by first | rfl | omega) (fun i _ j _ => ⟨rfl, by first | rfl | exact rowN_imm (fun _ => rfl) _ i j | exact rowF_imm (fun _ => rfl) _ i j⟩))⟩, ?_⟩)
        · repeat (first | exact trivial | refine ⟨by first | exact HeapOk.same rfl rfl rfl rfl | exact HeapOk.lent rfl rfl rfl rfl | exact HeapOk.nil rfl rfl | exact HeapOk.row rfl rfl (by first | rfl | omega) (fun i _ j _ => ⟨rfl, by first | rfl | exact rowN_imm (fun _ => rfl) _ i j | exact rowF_imm (fun _ => rfl) _ i j⟩) | exact HeapOk.box rfl rfl (by repeat (first | exact trivial | refine ⟨by first | exact LeC.refl _ rfl | exact LeC.ow _ _ rfl | exact LeC.nil _ rfl | exact LeC.nils _ _ | exact LeC.fz rfl rfl (by first | rfl | omega) (fun i _ j _ => ⟨rfl, by first | rfl | exact rowN_imm (fun _ => rfl) _ i j | exact rowF_imm (fun _ => rfl) _ i j⟩) | exact LeC.int (by omega), ?_⟩)) rfl, ?_⟩)
      · obtain rfl | rfl | rfl | rfl : j = 0 ∨ j = 1 ∨ j = 2 ∨ j = 3 := by omega
        · have hP := pAt_A raw y
          have hR := rAt_A raw y
          obtain ⟨V, hV⟩ : ∃ V, atV raw y = V := ⟨_, rfl⟩
          rw [hV] at hP hR
          obtain ⟨vb, vo⟩ := V
          cases vo
          all_goals
            repeat (first
              | refine AWp.seq ?_
              | refine thenA_n ?_
              | refine AWp.block ?_
              | refine AWp.skip ?_
              | refine inBlk_n ?_
              | refine AWp.condT rfl (by first | rfl | assumption | exact cmT) ?_
              | refine AWp.condF rfl (by first | rfl | assumption | exact cmF) ?_
              | (refine AWp.region (id := 7) ?_
                 refine AList.cmpT rfl rfl rfl rfl rfl cmT ?_
                 refine AList.nil ?_)
              | (refine AWp.region (id := 8) ?_
                 refine AList.idx (k := 0) tyOk rfl rfl rfl rfl rfl rfl rfl rfl (by first | rfl | omega) oM oM ?_
                 refine AList.load1l tyOk rfl rfl rfl rfl rfl oM ?_
                 refine AList.assign rfl rfl rfl ?_
                 refine AList.nil ?_)
              | (refine AWp.region (id := 9) ?_
                 refine AList.loadA tyOk rfl rfl rfl rfl rfl rfl rfl oM oM ?_
                 refine AList.move rfl rfl rfl ?_
                 refine AList.call rfl rfl rfl rfl Try.func12 rfl (by kernel_rfl) (hP) ?_
                 refine AList.move rfl rfl rfl ?_
                 refine AList.extract rfl rfl rfl rfl ?_
                 refine AList.extract rfl rfl rfl rfl ?_
                 refine AList.alloc tyOk rfl rfl rfl rfl rfl ?_
                 refine AList.store tyOk rfl rfl rfl rfl rfl rfl rfl rfl oM oM ?_
                 refine AList.assign rfl rfl rfl ?_
                 refine AList.nil ?_)
              | (refine AWp.region (id := 10) ?_
                 refine AList.loadA tyOk rfl rfl rfl rfl rfl rfl rfl oM oM ?_
                 refine AList.move rfl rfl rfl ?_
                 refine AList.call rfl rfl rfl rfl Try.func13 rfl (by kernel_rfl) (hR) ?_
                 refine AList.move rfl rfl rfl ?_
                 refine AList.extract rfl rfl rfl rfl ?_
                 refine AList.extract rfl rfl rfl rfl ?_
                 refine AList.alloc tyOk rfl rfl rfl rfl rfl ?_
                 refine AList.store tyOk rfl rfl rfl rfl rfl rfl rfl rfl oM oM ?_
                 refine AList.assign rfl rfl rfl ?_
                 refine AList.nil ?_)
              | (refine AWp.region (id := 11) ?_
                 refine AList.move rfl rfl rfl ?_
                 refine AList.move rfl rfl rfl ?_
                 refine AList.neB rfl rfl rfl rfl (by kernel_rfl) ?_
                 refine AList.move rfl rfl rfl ?_
                 refine AList.loadA tyOk rfl rfl rfl rfl rfl rfl rfl oM oM ?_
                 refine AList.loadA tyOk rfl rfl rfl rfl rfl rfl rfl oM oM ?_
                 refine AList.binAg rfl rfl rfl rfl rfl rfl (by kernel_rfl) (bg_neS vb) ?_
                 refine AList.pickF rfl rfl rfl rfl ?_
                 refine AList.nil ?_)
              | (refine AWp.region (id := 13) ?_
                 refine AList.add rfl rfl rfl rfl (by omega) (by omega) ?_
                 refine AList.move rfl rfl rfl ?_
                 refine AList.nil ?_))
            refine ⟨0 + 1, by omega, Wk.mk [(8, some 8), (10, some 10)] rfl rfl rfl ?_ ?_, by omega⟩
            · repeat (first | exact trivial | refine ⟨⟨_, rfl, by first | exact LeA.c (LeC.refl _ rfl) | exact LeA.c (LeC.ow _ _ rfl) | exact LeA.c (LeC.pt _ _ _ _ _ rfl) | exact LeA.c (LeC.nil _ rfl) | exact LeA.c (LeC.nils _ _) | (refine LeA.int ?_; omega) | (refine LeA.int ?_; dsimp only; omega) | exact LeA.c (LeC.fz rfl rfl (by first | rfl | omega) (fun i _ j _ => ⟨rfl, by first | rfl | exact rowN_imm (fun _ => rfl) _ i j | exact rowF_imm (fun _ => rfl) _ i j⟩))⟩, ?_⟩)
            · repeat (first | exact trivial | refine ⟨by first | exact HeapOk.same rfl rfl rfl rfl | exact HeapOk.lent rfl rfl rfl rfl | exact HeapOk.nil rfl rfl | exact HeapOk.row rfl rfl (by first | rfl | omega) (fun i _ j _ => ⟨rfl, by first | rfl | exact rowN_imm (fun _ => rfl) _ i j | exact rowF_imm (fun _ => rfl) _ i j⟩) | exact HeapOk.box rfl rfl (by repeat (first | exact trivial | refine ⟨by first | exact LeC.refl _ rfl | exact LeC.ow _ _ rfl | exact LeC.nil _ rfl | exact LeC.nils _ _ | exact LeC.fz rfl rfl (by first | rfl | omega) (fun i _ j _ => ⟨rfl, by first | rfl | exact rowN_imm (fun _ => rfl) _ i j | exact rowF_imm (fun _ => rfl) _ i j⟩) | exact LeC.int (by omega), ?_⟩)) rfl, ?_⟩)
        · have hP := pAt_A raw (u % 62)
          have hR := rAt_A raw (u % 62)
          obtain ⟨V, hV⟩ : ∃ V, atV raw (u % 62) = V := ⟨_, rfl⟩
          rw [hV] at hP hR
          obtain ⟨vb, vo⟩ := V
          cases vo
          all_goals
            repeat (first
              | refine AWp.seq ?_
              | refine thenA_n ?_
              | refine AWp.block ?_
              | refine AWp.skip ?_
              | refine inBlk_n ?_
              | refine AWp.condT rfl (by first | rfl | assumption | exact cmT) ?_
              | refine AWp.condF rfl (by first | rfl | assumption | exact cmF) ?_
              | (refine AWp.region (id := 7) ?_
                 refine AList.cmpT rfl rfl rfl rfl rfl cmT ?_
                 refine AList.nil ?_)
              | (refine AWp.region (id := 8) ?_
                 refine AList.idx (k := 1) tyOk rfl rfl rfl rfl rfl rfl rfl rfl (by first | rfl | omega) oM oM ?_
                 refine AList.load1l tyOk rfl rfl rfl rfl rfl oM ?_
                 refine AList.assign rfl rfl rfl ?_
                 refine AList.nil ?_)
              | (refine AWp.region (id := 9) ?_
                 refine AList.loadA tyOk rfl rfl rfl rfl rfl rfl rfl oM oM ?_
                 refine AList.move rfl rfl rfl ?_
                 refine AList.call rfl rfl rfl rfl Try.func12 rfl (by kernel_rfl) (hP) ?_
                 refine AList.move rfl rfl rfl ?_
                 refine AList.extract rfl rfl rfl rfl ?_
                 refine AList.extract rfl rfl rfl rfl ?_
                 refine AList.alloc tyOk rfl rfl rfl rfl rfl ?_
                 refine AList.store tyOk rfl rfl rfl rfl rfl rfl rfl rfl oM oM ?_
                 refine AList.assign rfl rfl rfl ?_
                 refine AList.nil ?_)
              | (refine AWp.region (id := 10) ?_
                 refine AList.loadA tyOk rfl rfl rfl rfl rfl rfl rfl oM oM ?_
                 refine AList.move rfl rfl rfl ?_
                 refine AList.call rfl rfl rfl rfl Try.func13 rfl (by kernel_rfl) (hR) ?_
                 refine AList.move rfl rfl rfl ?_
                 refine AList.extract rfl rfl rfl rfl ?_
                 refine AList.extract rfl rfl rfl rfl ?_
                 refine AList.alloc tyOk rfl rfl rfl rfl rfl ?_
                 refine AList.store tyOk rfl rfl rfl rfl rfl rfl rfl rfl oM oM ?_
                 refine AList.assign rfl rfl rfl ?_
                 refine AList.nil ?_)
              | (refine AWp.region (id := 11) ?_
                 refine AList.move rfl rfl rfl ?_
                 refine AList.move rfl rfl rfl ?_
                 refine AList.neB rfl rfl rfl rfl (by kernel_rfl) ?_
                 refine AList.move rfl rfl rfl ?_
                 refine AList.loadA tyOk rfl rfl rfl rfl rfl rfl rfl oM oM ?_
                 refine AList.loadA tyOk rfl rfl rfl rfl rfl rfl rfl oM oM ?_
                 refine AList.binAg rfl rfl rfl rfl rfl rfl (by kernel_rfl) (bg_neS vb) ?_
                 refine AList.pickF rfl rfl rfl rfl ?_
                 refine AList.nil ?_)
              | (refine AWp.region (id := 13) ?_
                 refine AList.add rfl rfl rfl rfl (by omega) (by omega) ?_
                 refine AList.move rfl rfl rfl ?_
                 refine AList.nil ?_))
            refine ⟨1 + 1, by omega, Wk.mk [(8, some 8), (10, some 10)] rfl rfl rfl ?_ ?_, by omega⟩
            · repeat (first | exact trivial | refine ⟨⟨_, rfl, by first | exact LeA.c (LeC.refl _ rfl) | exact LeA.c (LeC.ow _ _ rfl) | exact LeA.c (LeC.pt _ _ _ _ _ rfl) | exact LeA.c (LeC.nil _ rfl) | exact LeA.c (LeC.nils _ _) | (refine LeA.int ?_; omega) | (refine LeA.int ?_; dsimp only; omega) | exact LeA.c (LeC.fz rfl rfl (by first | rfl | omega) (fun i _ j _ => ⟨rfl, by first | rfl | exact rowN_imm (fun _ => rfl) _ i j | exact rowF_imm (fun _ => rfl) _ i j⟩))⟩, ?_⟩)
            · repeat (first | exact trivial | refine ⟨by first | exact HeapOk.same rfl rfl rfl rfl | exact HeapOk.lent rfl rfl rfl rfl | exact HeapOk.nil rfl rfl | exact HeapOk.row rfl rfl (by first | rfl | omega) (fun i _ j _ => ⟨rfl, by first | rfl | exact rowN_imm (fun _ => rfl) _ i j | exact rowF_imm (fun _ => rfl) _ i j⟩) | exact HeapOk.box rfl rfl (by repeat (first | exact trivial | refine ⟨by first | exact LeC.refl _ rfl | exact LeC.ow _ _ rfl | exact LeC.nil _ rfl | exact LeC.nils _ _ | exact LeC.fz rfl rfl (by first | rfl | omega) (fun i _ j _ => ⟨rfl, by first | rfl | exact rowN_imm (fun _ => rfl) _ i j | exact rowF_imm (fun _ => rfl) _ i j⟩) | exact LeC.int (by omega), ?_⟩)) rfl, ?_⟩)
        · have hP := pAt_A raw raw.life
          have hR := rAt_A raw raw.life
          obtain ⟨V, hV⟩ : ∃ V, atV raw raw.life = V := ⟨_, rfl⟩
          rw [hV] at hP hR
          obtain ⟨vb, vo⟩ := V
          cases vo
          all_goals
            repeat (first
              | refine AWp.seq ?_
              | refine thenA_n ?_
              | refine AWp.block ?_
              | refine AWp.skip ?_
              | refine inBlk_n ?_
              | refine AWp.condT rfl (by first | rfl | assumption | exact cmT) ?_
              | refine AWp.condF rfl (by first | rfl | assumption | exact cmF) ?_
              | (refine AWp.region (id := 7) ?_
                 refine AList.cmpT rfl rfl rfl rfl rfl cmT ?_
                 refine AList.nil ?_)
              | (refine AWp.region (id := 8) ?_
                 refine AList.idx (k := 2) tyOk rfl rfl rfl rfl rfl rfl rfl rfl (by first | rfl | omega) oM oM ?_
                 refine AList.load1l tyOk rfl rfl rfl rfl rfl oM ?_
                 refine AList.assign rfl rfl rfl ?_
                 refine AList.nil ?_)
              | (refine AWp.region (id := 9) ?_
                 refine AList.loadA tyOk rfl rfl rfl rfl rfl rfl rfl oM oM ?_
                 refine AList.move rfl rfl rfl ?_
                 refine AList.call rfl rfl rfl rfl Try.func12 rfl (by kernel_rfl) (hP) ?_
                 refine AList.move rfl rfl rfl ?_
                 refine AList.extract rfl rfl rfl rfl ?_
                 refine AList.extract rfl rfl rfl rfl ?_
                 refine AList.alloc tyOk rfl rfl rfl rfl rfl ?_
                 refine AList.store tyOk rfl rfl rfl rfl rfl rfl rfl rfl oM oM ?_
                 refine AList.assign rfl rfl rfl ?_
                 refine AList.nil ?_)
              | (refine AWp.region (id := 10) ?_
                 refine AList.loadA tyOk rfl rfl rfl rfl rfl rfl rfl oM oM ?_
                 refine AList.move rfl rfl rfl ?_
                 refine AList.call rfl rfl rfl rfl Try.func13 rfl (by kernel_rfl) (hR) ?_
                 refine AList.move rfl rfl rfl ?_
                 refine AList.extract rfl rfl rfl rfl ?_
                 refine AList.extract rfl rfl rfl rfl ?_
                 refine AList.alloc tyOk rfl rfl rfl rfl rfl ?_
                 refine AList.store tyOk rfl rfl rfl rfl rfl rfl rfl rfl oM oM ?_
                 refine AList.assign rfl rfl rfl ?_
                 refine AList.nil ?_)
              | (refine AWp.region (id := 11) ?_
                 refine AList.move rfl rfl rfl ?_
                 refine AList.move rfl rfl rfl ?_
                 refine AList.neB rfl rfl rfl rfl (by kernel_rfl) ?_
                 refine AList.move rfl rfl rfl ?_
                 refine AList.loadA tyOk rfl rfl rfl rfl rfl rfl rfl oM oM ?_
                 refine AList.loadA tyOk rfl rfl rfl rfl rfl rfl rfl oM oM ?_
                 refine AList.binAg rfl rfl rfl rfl rfl rfl (by kernel_rfl) (bg_neS vb) ?_
                 refine AList.pickF rfl rfl rfl rfl ?_
                 refine AList.nil ?_)
              | (refine AWp.region (id := 13) ?_
                 refine AList.add rfl rfl rfl rfl (by omega) (by omega) ?_
                 refine AList.move rfl rfl rfl ?_
                 refine AList.nil ?_))
            refine ⟨2 + 1, by omega, Wk.mk [(8, some 8), (10, some 10)] rfl rfl rfl ?_ ?_, by omega⟩
            · repeat (first | exact trivial | refine ⟨⟨_, rfl, by first | exact LeA.c (LeC.refl _ rfl) | exact LeA.c (LeC.ow _ _ rfl) | exact LeA.c (LeC.pt _ _ _ _ _ rfl) | exact LeA.c (LeC.nil _ rfl) | exact LeA.c (LeC.nils _ _) | (refine LeA.int ?_; omega) | (refine LeA.int ?_; dsimp only; omega) | exact LeA.c (LeC.fz rfl rfl (by first | rfl | omega) (fun i _ j _ => ⟨rfl, by first | rfl | exact rowN_imm (fun _ => rfl) _ i j | exact rowF_imm (fun _ => rfl) _ i j⟩))⟩, ?_⟩)
            · repeat (first | exact trivial | refine ⟨by first | exact HeapOk.same rfl rfl rfl rfl | exact HeapOk.lent rfl rfl rfl rfl | exact HeapOk.nil rfl rfl | exact HeapOk.row rfl rfl (by first | rfl | omega) (fun i _ j _ => ⟨rfl, by first | rfl | exact rowN_imm (fun _ => rfl) _ i j | exact rowF_imm (fun _ => rfl) _ i j⟩) | exact HeapOk.box rfl rfl (by repeat (first | exact trivial | refine ⟨by first | exact LeC.refl _ rfl | exact LeC.ow _ _ rfl | exact LeC.nil _ rfl | exact LeC.nils _ _ | exact LeC.fz rfl rfl (by first | rfl | omega) (fun i _ j _ => ⟨rfl, by first | rfl | exact rowN_imm (fun _ => rfl) _ i j | exact rowF_imm (fun _ => rfl) _ i j⟩) | exact LeC.int (by omega), ?_⟩)) rfl, ?_⟩)
        · have hC := pMat_A raw
          have hR := rMat_A raw
          repeat (first
            | refine AWp.seq ?_
            | refine thenA_n ?_
            | refine AWp.skip ?_
            | refine AWp.exit ?_
            | refine inBlk_n ?_
            | refine AWp.condF rfl (by first | rfl | assumption | exact cmF) ?_
            | (refine AWp.region (id := 7) ?_
               refine AList.cmpF rfl rfl rfl rfl rfl cmF ?_
               refine AList.nil ?_)
            | (refine AWp.draw (id := 14) mixed ?_
               refine AList.loadA tyOk rfl rfl rfl rfl rfl rfl rfl oM oM ?_
               refine AList.call rfl rfl rfl rfl Try.func14 rfl (by kernel_rfl) (hC) ?_
               refine AList.loadA tyOk rfl rfl rfl rfl rfl rfl rfl oM oM ?_
               refine AList.call rfl rfl rfl rfl Try.func15 rfl (by kernel_rfl) (hR) ?_
               refine AList.cmpF rfl rfl rfl rfl rfl (by simp only [cmpP, eq_self, decide_true, Bool.not_true]) ?_
               refine AList.nil ⟨by kernel_rfl, ?_⟩)
            | (refine AWp.region (id := 16) ?_
               refine AList.add rfl rfl rfl rfl (by omega) (by omega) ?_
               refine AList.move rfl rfl rfl ?_
               refine AList.nil ?_))
          refine ⟨1 + 1, by omega, Wk.mk [(8, some 8)] rfl rfl rfl ?_ ?_, by omega⟩
          · repeat (first | exact trivial | refine ⟨⟨_, rfl, by first | exact LeA.c (LeC.refl _ rfl) | exact LeA.c (LeC.ow _ _ rfl) | exact LeA.c (LeC.pt _ _ _ _ _ rfl) | exact LeA.c (LeC.nil _ rfl) | exact LeA.c (LeC.nils _ _) | (refine LeA.int ?_; omega) | (refine LeA.int ?_; dsimp only; omega) | exact LeA.c (LeC.fz rfl rfl (by first | rfl | omega) (fun i _ j _ => ⟨rfl, by first | rfl | exact rowN_imm (fun _ => rfl) _ i j | exact rowF_imm (fun _ => rfl) _ i j⟩))⟩, ?_⟩)
          · repeat (first | exact trivial | refine ⟨by first | exact HeapOk.same rfl rfl rfl rfl | exact HeapOk.lent rfl rfl rfl rfl | exact HeapOk.nil rfl rfl | exact HeapOk.row rfl rfl (by first | rfl | omega) (fun i _ j _ => ⟨rfl, by first | rfl | exact rowN_imm (fun _ => rfl) _ i j | exact rowF_imm (fun _ => rfl) _ i j⟩) | exact HeapOk.box rfl rfl (by repeat (first | exact trivial | refine ⟨by first | exact LeC.refl _ rfl | exact LeC.ow _ _ rfl | exact LeC.nil _ rfl | exact LeC.nils _ _ | exact LeC.fz rfl rfl (by first | rfl | omega) (fun i _ j _ => ⟨rfl, by first | rfl | exact rowN_imm (fun _ => rfl) _ i j | exact rowF_imm (fun _ => rfl) _ i j⟩) | exact LeC.int (by omega), ?_⟩)) rfl, ?_⟩)
    · repeat (first
        | refine AWp.seq ?_
        | refine thenA_n ?_
        | refine AWp.exit ?_
        | refine AWp.ret ?_
        | refine AWp.condF rfl (by first | rfl | assumption | exact cmF) ?_
        | (refine AWp.region (id := 4) ?_
           refine AList.cmpF rfl rfl rfl rfl rfl cmF ?_
           refine AList.nil ?_)
        | (refine AWp.region (id := 17) ?_
           refine AList.move rfl rfl rfl ?_
           refine AList.move rfl rfl rfl ?_
           refine AList.loadA tyOk rfl rfl rfl rfl rfl rfl rfl oM oM ?_
           refine AList.call rfl rfl rfl rfl Try.func14 rfl (by kernel_rfl) (hCm) ?_
           refine AList.cmp rfl rfl rfl rfl rfl ?_
           refine AList.pickT rfl rfl rfl rfl ?_
           refine AList.assign rfl rfl rfl ?_
           refine AList.nil ?_))
      refine ⟨_, rfl, mkSt 75 [(6, .c (bC true))] [] [], [], Wk.mk [] rfl rfl rfl ?_ trivial, rfl, rfl, ARets.one (x := .c _) (ARes.tmp rfl rfl)⟩
      repeat (first | exact trivial | refine ⟨⟨_, rfl, by first | exact LeA.c (LeC.refl _ rfl) | exact LeA.c (LeC.ow _ _ rfl) | exact LeA.c (LeC.pt _ _ _ _ _ rfl) | exact LeA.c (LeC.nil _ rfl) | exact LeA.c (LeC.nils _ _) | (refine LeA.int ?_; omega) | (refine LeA.int ?_; dsimp only; omega) | exact LeA.c (LeC.fz rfl rfl (by first | rfl | omega) (fun i _ j _ => ⟨rfl, by first | rfl | exact rowN_imm (fun _ => rfl) _ i j | exact rowF_imm (fun _ => rfl) _ i j⟩))⟩, ?_⟩)
end Go.Proofs.Ytclaanggpcjnbaa
end
