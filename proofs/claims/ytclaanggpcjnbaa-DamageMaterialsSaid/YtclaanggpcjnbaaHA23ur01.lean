/- DamageMaterials: the statement. No condition. -/
import Derived.Test.YtclaanggpcjnbaaG31
import Derived.Test.YtclaanggpcjnbaaRows
import Derived.Test.YtclaanggpcjnbaaG27
set_option linter.unusedSimpArgs false
set_option linter.unusedVariables false
section
/- Chapter 23: the law DamageMaterials over plain values. -/
namespace Go.Proofs.Ytclaanggpcjnbaa
open Go.RowKit Go.Flow Go.AV Go.Plain
theorem matN_ok (N : Nat) (f : Nat → Int) : matE (matN N f) = 0 := by
  have b0 : 0 ≤ nx N f 0 60 ∧ nx N f 0 60 < 60 := dval_bd N f (dt N 0) 60 (by omega)
  have b1 : 0 ≤ nx N f 1 30 ∧ nx N f 1 30 < 30 := dval_bd N f (dt N 1) 30 (by omega)
  have b2 : 0 ≤ nx N f 2 3 ∧ nx N f 2 3 < 3 := dval_bd N f (dt N 2) 3 (by omega)
  have b3 : 0 ≤ nx N f 3 2 ∧ nx N f 3 2 < 2 := dval_bd N f (dt N 3) 2 (by omega)
  have b4 : 0 ≤ nx N f 4 2 ∧ nx N f 4 2 < 2 := dval_bd N f (dt N 4) 2 (by omega)
  have b5 : 0 ≤ nx N f 5 2 ∧ nx N f 5 2 < 2 := dval_bd N f (dt N 5) 2 (by omega)
  have b6 : 0 ≤ nx N f 6 2 ∧ nx N f 6 2 < 2 := dval_bd N f (dt N 6) 2 (by omega)
  have b8 : 0 ≤ nx N f 8 2 ∧ nx N f 8 2 < 2 := dval_bd N f (dt N 8) 2 (by omega)
  have lim : ∀ x : Bg, 0 ≤ x.lo ∧ x.lo ≤ 2 → 0 ≤ x.bl ∧ x.bl ≤ 2 → 0 ≤ x.sh ∧ x.sh ≤ 1 → 0 ≤ x.st ∧ x.st ≤ 2 → x = lim4 x := fun x h1 h2 h3 h4 => by
    cases x
    simp only [lim4, lim1, Bg.mk.injEq] at *
    omega
  unfold matE
  rw [if_neg, if_neg]
  · intro h
    rcases h with h | h
    · exact h (lim _ (by show 0 ≤ nx N f 2 3 ∧ nx N f 2 3 ≤ 2; omega) (by show 0 ≤ nx N f 3 2 ∧ nx N f 3 2 ≤ 2; omega) (by show (0 : Int) ≤ 0 ∧ (0 : Int) ≤ 1; omega) (by show 0 ≤ nx N f 4 2 ∧ nx N f 4 2 ≤ 2; omega))
    · refine h (lim _ (by show 0 ≤ nx N f 5 2 ∧ nx N f 5 2 ≤ 2; omega) (by show 0 ≤ nx N f 6 2 ∧ nx N f 6 2 ≤ 2; omega) ?_ (by show 0 ≤ nx N f 8 2 ∧ nx N f 8 2 ≤ 2; omega))
      show 0 ≤ (if nx N f 7 4 = 3 then (1 : Int) else 0) ∧ (if nx N f 7 4 = 3 then (1 : Int) else 0) ≤ 1
      split <;> omega
  · show ¬ (nx N f 0 60 < 0 ∨ nx N f 0 60 > 200 ∨ 1 + nx N f 1 30 < 1 ∨ 1 + nx N f 1 30 > 200)
    omega
abbrev yr3 (y u x : Int) (j : Nat) : Int := match j with | 0 => y | 1 => u % 62 | _ => x
set_option maxHeartbeats 2000000 in
set_option maxRecDepth 100000 in
theorem DamageMaterials_A (N : Nat) (f : Nat → Int) (raw : Mat) (y : Int) (hN : N ≤ 4611686018427387904) : ECalls Try.prog 3 [.c (.ls N 1 (iF f)), .ag (matC raw), .c (iC y)] (fun v => v = .c (bC true)) := by
  have hCut := cutL_A N f 12 hN (by omega)
  have hMat := Material_A (min N 12) f (by omega)
  obtain ⟨m, hm⟩ : ∃ m, matN (min N 12) f = m := ⟨_, rfl⟩
  have hok := matN_ok (min N 12) f
  rw [hm] at hMat hok
  obtain ⟨u, hu⟩ : ∃ u, IntKind.u64.wrap y = u := ⟨_, rfl⟩
  have hub : 0 ≤ u ∧ u ≤ 18446744073709551615 := by rw [← hu, IntKind.wrap_u64]; omega
  have hz : IntKind.i64.wrap (u % 62) = u % 62 := by rw [IntKind.wrap_i64]; omega
  have hCm := pMat_A m
  rw [hok] at hCm
  refine ecalls_at Try.func3 rfl rfl Try.ntmps3 rfl ?_
  repeat (first
    | refine AWp.seq ?_
    | refine thenA_n ?_
    | refine AWp.block ?_
    | (refine AWp.region (id := 0) ?_
       refine AList.box rfl rfl rfl rfl rfl ?_
       refine AList.assign rfl rfl rfl ?_
       refine AList.nil ?_)
    | (refine AWp.region (id := 1) ?_
       refine AList.call rfl rfl rfl rfl Try.func9 rfl (by kernel_rfl) (sanity_A) ?_
       refine AList.assign rfl rfl rfl ?_
       refine AList.nil ?_)
    | (refine AWp.region (id := 2) ?_
       refine AList.move rfl rfl rfl ?_
       refine AList.call rfl rfl rfl rfl Try.func11 rfl (by kernel_rfl) (hCut) ?_
       refine AList.call rfl rfl rfl rfl Try.func10 rfl (by kernel_rfl) (hMat) ?_
       refine AList.alloc tyOk rfl rfl rfl rfl rfl ?_
       refine AList.store tyOk rfl rfl rfl rfl rfl rfl rfl rfl oM oM ?_
       refine AList.nil ?_)
    | (refine AWp.region (id := 3) ?_
       refine AList.loadA tyOk rfl rfl rfl rfl rfl rfl rfl oM oM ?_
       refine AList.loadA tyOk rfl rfl rfl rfl rfl rfl rfl oM oM ?_
       refine AList.litSl tyOk rfl rfl rfl rfl rfl rfl rfl rfl rfl rfl rfl ?_
       refine AList.lenLs tyOk rfl rfl rfl rfl rfl ?_
       refine AList.move rfl rfl rfl ?_
       refine AList.nil ?_))
  refine AWp.round (fun k : Nat => mkSt 75 [(2, .c (iC y)), (7, .c (bC true)), (8, .c (.pt 8 10 0 0)), (23, .c (.ls 2 10 (sF (matC m ++ matC raw) 10))), (24, .c (iC 2)), (25, .c (iC k))]
    [(8, ⟨false, 1, 10, 26, lF (matC m)⟩)] [8])
    (fun k => k ≤ 2) (fun k => 2 - k) 0 (Nat.zero_le _) ?_ (fun k hk => ?_)
  · refine Wk.mk [(8, some 8)] rfl rfl rfl ?_ ?_
    · repeat (first | exact trivial | refine ⟨⟨_, rfl, by first | exact LeA.c (LeC.refl _ rfl) | exact LeA.c (LeC.ow _ _ rfl) | exact LeA.c (LeC.pt _ _ _ _ _ rfl) | exact LeA.c (LeC.nil _ rfl) | exact LeA.c (LeC.nils _ _) | (refine LeA.int ?_; omega) | (refine LeA.int ?_; dsimp only; omega) | exact LeA.c (LeC.fz rfl rfl (by first | rfl | omega) (fun i _ j _ => ⟨rfl, by first | rfl | exact rowN_imm (fun _ => rfl) _ i j | exact rowF_imm (fun _ => rfl) _ i j⟩))⟩, ?_⟩)
    · repeat (first | exact trivial | refine ⟨by first | exact HeapOk.same rfl rfl rfl rfl | exact HeapOk.lent rfl rfl rfl rfl | exact HeapOk.nil rfl rfl | exact HeapOk.row rfl rfl (by first | rfl | omega) (fun i _ j _ => ⟨rfl, by first | rfl | exact rowN_imm (fun _ => rfl) _ i j | exact rowF_imm (fun _ => rfl) _ i j⟩) | exact HeapOk.box rfl rfl (by repeat (first | exact trivial | refine ⟨by first | exact LeC.refl _ rfl | exact LeC.ow _ _ rfl | exact LeC.nil _ rfl | exact LeC.nils _ _ | exact LeC.fz rfl rfl (by first | rfl | omega) (fun i _ j _ => ⟨rfl, by first | rfl | exact rowN_imm (fun _ => rfl) _ i j | exact rowF_imm (fun _ => rfl) _ i j⟩) | exact LeC.int (by omega), ?_⟩)) rfl, ?_⟩)
  · obtain rfl | rfl | rfl : k = 0 ∨ k = 1 ∨ k = 2 := by omega
    · repeat (first
        | refine AWp.seq ?_
        | refine thenA_n ?_
        | refine AWp.block ?_
        | refine AWp.skip ?_
        | refine AWp.condT rfl (by first | rfl | assumption | exact cmT) ?_
        | (refine AWp.region (id := 4) ?_
           refine AList.cmpT rfl rfl rfl rfl rfl cmT ?_
           refine AList.nil ?_)
        | (refine AWp.region (id := 5) ?_
           refine AList.idx (k := 0) tyOk rfl rfl rfl rfl rfl rfl rfl rfl (by first | rfl | omega) oM oM ?_
           refine AList.loadAl tyOk rfl rfl rfl rfl rfl oM ?_
           refine AList.alloc tyOk rfl rfl rfl rfl rfl ?_
           refine AList.store tyOk rfl rfl rfl rfl rfl rfl rfl rfl oM oM ?_
           refine AList.nil ?_)
        | (refine AWp.region (id := 6) ?_
           refine AList.move rfl rfl rfl ?_
           refine AList.move rfl rfl rfl ?_
           refine AList.convI (hu) (by kernel_rfl) Try.underlying31 rfl rfl rfl ?_
           refine AList.remK rfl rfl rfl rfl (by omega) (by omega) ?_
           refine AList.convI (hz) (by kernel_rfl) Try.underlying3 rfl rfl rfl ?_
           refine AList.fieldPt tyOk rfl rfl rfl rfl rfl rfl rfl ?_
           refine AList.load1 tyOk rfl rfl rfl rfl rfl rfl rfl oM oM ?_
           refine AList.litSl tyOk rfl rfl rfl rfl rfl rfl rfl rfl rfl rfl rfl ?_
           refine AList.lenLs tyOk rfl rfl rfl rfl rfl ?_
           refine AList.move rfl rfl rfl ?_
           refine AList.nil ?_))
      refine AWp.round (fun j : Nat => mkSt 75 [(2, .c (iC y)), (7, .c (bC true)), (8, .c (.pt 8 10 0 0)), (10, .c (.pt 10 10 0 0)), (23, .c (.ls 2 10 (sF (matC m ++ matC raw) 10))), (24, .c (iC 2)), (25, .c (iC 0)), (36, .c (.ls 3 1 (sF [iC y, iC (u % 62), iC m.life] 1))), (37, .c (iC 3)), (38, .c (iC j))]
        [(8, ⟨false, 1, 10, 26, lF (matC m)⟩), (10, ⟨false, 1, 10, 26, lF (matC m)⟩)] [8, 10])
        (fun j => j ≤ 3) (fun j => 3 - j) 0 (Nat.zero_le _) ?_ (fun j hj => ?_)
      · refine Wk.mk [(8, some 8), (10, some 10)] rfl rfl rfl ?_ ?_
        · repeat (first | exact trivial | refine ⟨⟨_, rfl, by first | exact LeA.c (LeC.refl _ rfl) | exact LeA.c (LeC.ow _ _ rfl) | exact LeA.c (LeC.pt _ _ _ _ _ rfl) | exact LeA.c (LeC.nil _ rfl) | exact LeA.c (LeC.nils _ _) | (refine LeA.int ?_; omega) | (refine LeA.int ?_; dsimp only; omega) | exact LeA.c (LeC.fz rfl rfl (by first | rfl | omega) (fun i _ j _ => ⟨rfl, by first | rfl | exact rowN_imm (fun _ => rfl) _ i j | exact rowF_imm (fun _ => rfl) _ i j⟩))⟩, ?_⟩)
        · repeat (first | exact trivial | refine ⟨by first | exact HeapOk.same rfl rfl rfl rfl | exact HeapOk.lent rfl rfl rfl rfl | exact HeapOk.nil rfl rfl | exact HeapOk.row rfl rfl (by first | rfl | omega) (fun i _ j _ => ⟨rfl, by first | rfl | exact rowN_imm (fun _ => rfl) _ i j | exact rowF_imm (fun _ => rfl) _ i j⟩) | exact HeapOk.box rfl rfl (by repeat (first | exact trivial | refine ⟨by first | exact LeC.refl _ rfl | exact LeC.ow _ _ rfl | exact LeC.nil _ rfl | exact LeC.nils _ _ | exact LeC.fz rfl rfl (by first | rfl | omega) (fun i _ j _ => ⟨rfl, by first | rfl | exact rowN_imm (fun _ => rfl) _ i j | exact rowF_imm (fun _ => rfl) _ i j⟩) | exact LeC.int (by omega), ?_⟩)) rfl, ?_⟩)
      · obtain rfl | rfl | rfl | rfl : j = 0 ∨ j = 1 ∨ j = 2 ∨ j = 3 := by omega
        · have hP := pAt_A m y
          have hR := rAt_A m y
          obtain ⟨V, hV⟩ : ∃ V, atV m y = V := ⟨_, rfl⟩
          rw [hV] at hP hR
          obtain ⟨vb, vo⟩ := V
          cases vo
          all_goals
            repeat (first
              | refine AWp.seq ?_
              | refine thenA_n ?_
              | refine AWp.block ?_
              | refine AWp.skip ?_
              | refine inBlk_n ?_
              | refine AWp.condT rfl (by first | rfl | assumption | exact cmT) ?_
              | refine AWp.condF rfl (by first | rfl | assumption | exact cmF) ?_
              | (refine AWp.region (id := 7) ?_
                 refine AList.cmpT rfl rfl rfl rfl rfl cmT ?_
                 refine AList.nil ?_)
              | (refine AWp.region (id := 8) ?_
                 refine AList.idx (k := 0) tyOk rfl rfl rfl rfl rfl rfl rfl rfl (by first | rfl | omega) oM oM ?_
                 refine AList.load1l tyOk rfl rfl rfl rfl rfl oM ?_
                 refine AList.assign rfl rfl rfl ?_
                 refine AList.nil ?_)
              | (refine AWp.region (id := 9) ?_
                 refine AList.loadA tyOk rfl rfl rfl rfl rfl rfl rfl oM oM ?_
                 refine AList.move rfl rfl rfl ?_
                 refine AList.call rfl rfl rfl rfl Try.func12 rfl (by kernel_rfl) (hP) ?_
                 refine AList.move rfl rfl rfl ?_
                 refine AList.extract rfl rfl rfl rfl ?_
                 refine AList.extract rfl rfl rfl rfl ?_
                 refine AList.alloc tyOk rfl rfl rfl rfl rfl ?_
                 refine AList.store tyOk rfl rfl rfl rfl rfl rfl rfl rfl oM oM ?_
                 refine AList.assign rfl rfl rfl ?_
                 refine AList.nil ?_)
              | (refine AWp.region (id := 10) ?_
                 refine AList.loadA tyOk rfl rfl rfl rfl rfl rfl rfl oM oM ?_
                 refine AList.move rfl rfl rfl ?_
                 refine AList.call rfl rfl rfl rfl Try.func13 rfl (by kernel_rfl) (hR) ?_
                 refine AList.move rfl rfl rfl ?_
                 refine AList.extract rfl rfl rfl rfl ?_
                 refine AList.extract rfl rfl rfl rfl ?_
                 refine AList.alloc tyOk rfl rfl rfl rfl rfl ?_
                 refine AList.store tyOk rfl rfl rfl rfl rfl rfl rfl rfl oM oM ?_
                 refine AList.assign rfl rfl rfl ?_
                 refine AList.nil ?_)
              | (refine AWp.region (id := 11) ?_
                 refine AList.move rfl rfl rfl ?_
                 refine AList.move rfl rfl rfl ?_
                 refine AList.neB rfl rfl rfl rfl (by kernel_rfl) ?_
                 refine AList.move rfl rfl rfl ?_
                 refine AList.loadA tyOk rfl rfl rfl rfl rfl rfl rfl oM oM ?_
                 refine AList.loadA tyOk rfl rfl rfl rfl rfl rfl rfl oM oM ?_
                 refine AList.binAg rfl rfl rfl rfl rfl rfl (by kernel_rfl) (bg_neS vb) ?_
                 refine AList.pickF rfl rfl rfl rfl ?_
                 refine AList.nil ?_)
              | (refine AWp.region (id := 13) ?_
                 refine AList.add rfl rfl rfl rfl (by omega) (by omega) ?_
                 refine AList.move rfl rfl rfl ?_
                 refine AList.nil ?_))
            refine ⟨0 + 1, by omega, Wk.mk [(8, some 8), (10, some 10)] rfl rfl rfl ?_ ?_, by omega⟩
            · repeat (first | exact trivial | refine ⟨⟨_, rfl, by first | exact LeA.c (LeC.refl _ rfl) | exact LeA.c (LeC.ow _ _ rfl) | exact LeA.c (LeC.pt _ _ _ _ _ rfl) | exact LeA.c (LeC.nil _ rfl) | exact LeA.c (LeC.nils _ _) | (refine LeA.int ?_; omega) | (refine LeA.int ?_; dsimp only; omega) | exact LeA.c (LeC.fz rfl rfl (by first | rfl | omega) (fun i _ j _ => ⟨rfl, by first | rfl | exact rowN_imm (fun _ => rfl) _ i j | exact rowF_imm (fun _ => rfl) _ i j⟩))⟩, ?_⟩)
            · repeat (first | exact trivial | refine ⟨by first | exact HeapOk.same rfl rfl rfl rfl | exact HeapOk.lent rfl rfl rfl rfl | exact HeapOk.nil rfl rfl | exact HeapOk.row rfl rfl (by first | rfl | omega) (fun i _ j _ => ⟨rfl, by first | rfl | exact rowN_imm (fun _ => rfl) _ i j | exact rowF_imm (fun _ => rfl) _ i j⟩) | exact HeapOk.box rfl rfl (by repeat (first | exact trivial | refine ⟨by first | exact LeC.refl _ rfl | exact LeC.ow _ _ rfl | exact LeC.nil _ rfl | exact LeC.nils _ _ | exact LeC.fz rfl rfl (by first | rfl | omega) (fun i _ j _ => ⟨rfl, by first | rfl | exact rowN_imm (fun _ => rfl) _ i j | exact rowF_imm (fun _ => rfl) _ i j⟩) | exact LeC.int (by omega), ?_⟩)) rfl, ?_⟩)
        · have hP := pAt_A m (u % 62)
          have hR := rAt_A m (u % 62)
          obtain ⟨V, hV⟩ : ∃ V, atV m (u % 62) = V := ⟨_, rfl⟩
          rw [hV] at hP hR
          obtain ⟨vb, vo⟩ := V
          cases vo
          all_goals
            repeat (first
              | refine AWp.seq ?_
              | refine thenA_n ?_
              | refine AWp.block ?_
              | refine AWp.skip ?_
              | refine inBlk_n ?_
              | refine AWp.condT rfl (by first | rfl | assumption | exact cmT) ?_
              | refine AWp.condF rfl (by first | rfl | assumption | exact cmF) ?_
              | (refine AWp.region (id := 7) ?_
                 refine AList.cmpT rfl rfl rfl rfl rfl cmT ?_
                 refine AList.nil ?_)
              | (refine AWp.region (id := 8) ?_
                 refine AList.idx (k := 1) tyOk rfl rfl rfl rfl rfl rfl rfl rfl (by first | rfl | omega) oM oM ?_
                 refine AList.load1l tyOk rfl rfl rfl rfl rfl oM ?_
                 refine AList.assign rfl rfl rfl ?_
                 refine AList.nil ?_)
              | (refine AWp.region (id := 9) ?_
                 refine AList.loadA tyOk rfl rfl rfl rfl rfl rfl rfl oM oM ?_
                 refine AList.move rfl rfl rfl ?_
                 refine AList.call rfl rfl rfl rfl Try.func12 rfl (by kernel_rfl) (hP) ?_
                 refine AList.move rfl rfl rfl ?_
                 refine AList.extract rfl rfl rfl rfl ?_
                 refine AList.extract rfl rfl rfl rfl ?_
                 refine AList.alloc tyOk rfl rfl rfl rfl rfl ?_
                 refine AList.store tyOk rfl rfl rfl rfl rfl rfl rfl rfl oM oM ?_
                 refine AList.assign rfl rfl rfl ?_
                 refine AList.nil ?_)
              | (refine AWp.region (id := 10) ?_
                 refine AList.loadA tyOk rfl rfl rfl rfl rfl rfl rfl oM oM ?_
                 refine AList.move rfl rfl rfl ?_
                 refine AList.call rfl rfl rfl rfl Try.func13 rfl (by kernel_rfl) (hR) ?_
                 refine AList.move rfl rfl rfl ?_
                 refine AList.extract rfl rfl rfl rfl ?_
                 refine AList.extract rfl rfl rfl rfl ?_
                 refine AList.alloc tyOk rfl rfl rfl rfl rfl ?_
                 refine AList.store tyOk rfl rfl rfl rfl rfl rfl rfl rfl oM oM ?_
                 refine AList.assign rfl rfl rfl ?_
                 refine AList.nil ?_)
              | (refine AWp.region (id := 11) ?_
                 refine AList.move rfl rfl rfl ?_
                 refine AList.move rfl rfl rfl ?_
                 refine AList.neB rfl rfl rfl rfl (by kernel_rfl) ?_
                 refine AList.move rfl rfl rfl ?_
                 refine AList.loadA tyOk rfl rfl rfl rfl rfl rfl rfl oM oM ?_
                 refine AList.loadA tyOk rfl rfl rfl rfl rfl rfl rfl oM oM ?_
                 refine AList.binAg rfl rfl rfl rfl rfl rfl (by kernel_rfl) (bg_neS vb) ?_
                 refine AList.pickF rfl rfl rfl rfl ?_
                 refine AList.nil ?_)
              | (refine AWp.region (id := 13) ?_
                 refine AList.add rfl rfl rfl rfl (by omega) (by omega) ?_
                 refine AList.move rfl rfl rfl ?_
                 refine AList.nil ?_))
            refine ⟨1 + 1, by omega, Wk.mk [(8, some 8), (10, some 10)] rfl rfl rfl ?_ ?_, by omega⟩
            · repeat (first | exact trivial | refine ⟨⟨_, rfl, by first | exact LeA.c (LeC.refl _ rfl) | exact LeA.c (LeC.ow _ _ rfl) | exact LeA.c (LeC.pt _ _ _ _ _ rfl) | exact LeA.c (LeC.nil _ rfl) | exact LeA.c (LeC.nils _ _) | (refine LeA.int ?_; omega) | (refine LeA.int ?_; dsimp only; omega) | exact LeA.c (LeC.fz rfl rfl (by first | rfl | omega) (fun i _ j _ => ⟨rfl, by first | rfl | exact rowN_imm (fun _ => rfl) _ i j | exact rowF_imm (fun _ => rfl) _ i j⟩))⟩, ?_⟩)
            · repeat (first | exact trivial | refine ⟨by first | exact HeapOk.same rfl rfl rfl rfl | exact HeapOk.lent rfl rfl rfl rfl | exact HeapOk.nil rfl rfl | exact HeapOk.row rfl rfl (by first | rfl | omega) (fun i _ j _ => ⟨rfl, by first | rfl | exact rowN_imm (fun _ => rfl) _ i j | exact rowF_imm (fun _ => rfl) _ i j⟩) | exact HeapOk.box rfl rfl (by repeat (first | exact trivial | refine ⟨by first | exact LeC.refl _ rfl | exact LeC.ow _ _ rfl | exact LeC.nil _ rfl | exact LeC.nils _ _ | exact LeC.fz rfl rfl (by first | rfl | omega) (fun i _ j _ => ⟨rfl, by first | rfl | exact rowN_imm (fun _ => rfl) _ i j | exact rowF_imm (fun _ => rfl) _ i j⟩) | exact LeC.int (by omega), ?_⟩)) rfl, ?_⟩)
        · have hP := pAt_A m m.life
          have hR := rAt_A m m.life
          obtain ⟨V, hV⟩ : ∃ V, atV m m.life = V := ⟨_, rfl⟩
          rw [hV] at hP hR
          obtain ⟨vb, vo⟩ := V
          cases vo
          all_goals
            repeat (first
              | refine AWp.seq ?_
              | refine thenA_n ?_
              | refine AWp.block ?_
              | refine AWp.skip ?_
              | refine inBlk_n ?_
              | refine AWp.condT rfl (by first | rfl | assumption | exact cmT) ?_
              | refine AWp.condF rfl (by first | rfl | assumption | exact cmF) ?_
              | (refine AWp.region (id := 7) ?_
                 refine AList.cmpT rfl rfl rfl rfl rfl cmT ?_
                 refine AList.nil ?_)
              | (refine AWp.region (id := 8) ?_
                 refine AList.idx (k := 2) tyOk rfl rfl rfl rfl rfl rfl rfl rfl (by first | rfl | omega) oM oM ?_
                 refine AList.load1l tyOk rfl rfl rfl rfl rfl oM ?_
                 refine AList.assign rfl rfl rfl ?_
                 refine AList.nil ?_)
              | (refine AWp.region (id := 9) ?_
                 refine AList.loadA tyOk rfl rfl rfl rfl rfl rfl rfl oM oM ?_
                 refine AList.move rfl rfl rfl ?_
                 refine AList.call rfl rfl rfl rfl Try.func12 rfl (by kernel_rfl) (hP) ?_
                 refine AList.move rfl rfl rfl ?_
                 refine AList.extract rfl rfl rfl rfl ?_
                 refine AList.extract rfl rfl rfl rfl ?_
                 refine AList.alloc tyOk rfl rfl rfl rfl rfl ?_
                 refine AList.store tyOk rfl rfl rfl rfl rfl rfl rfl rfl oM oM ?_
                 refine AList.assign rfl rfl rfl ?_
                 refine AList.nil ?_)
              | (refine AWp.region (id := 10) ?_
                 refine AList.loadA tyOk rfl rfl rfl rfl rfl rfl rfl oM oM ?_
                 refine AList.move rfl rfl rfl ?_
                 refine AList.call rfl rfl rfl rfl Try.func13 rfl (by kernel_rfl) (hR) ?_
                 refine AList.move rfl rfl rfl ?_
                 refine AList.extract rfl rfl rfl rfl ?_
                 refine AList.extract rfl rfl rfl rfl ?_
                 refine AList.alloc tyOk rfl rfl rfl rfl rfl ?_
                 refine AList.store tyOk rfl rfl rfl rfl rfl rfl rfl rfl oM oM ?_
                 refine AList.assign rfl rfl rfl ?_
                 refine AList.nil ?_)
              | (refine AWp.region (id := 11) ?_
                 refine AList.move rfl rfl rfl ?_
                 refine AList.move rfl rfl rfl ?_
                 refine AList.neB rfl rfl rfl rfl (by kernel_rfl) ?_
                 refine AList.move rfl rfl rfl ?_
                 refine AList.loadA tyOk rfl rfl rfl rfl rfl rfl rfl oM oM ?_
                 refine AList.loadA tyOk rfl rfl rfl rfl rfl rfl rfl oM oM ?_
                 refine AList.binAg rfl rfl rfl rfl rfl rfl (by kernel_rfl) (bg_neS vb) ?_
                 refine AList.pickF rfl rfl rfl rfl ?_
                 refine AList.nil ?_)
              | (refine AWp.region (id := 13) ?_
                 refine AList.add rfl rfl rfl rfl (by omega) (by omega) ?_
                 refine AList.move rfl rfl rfl ?_
                 refine AList.nil ?_))
            refine ⟨2 + 1, by omega, Wk.mk [(8, some 8), (10, some 10)] rfl rfl rfl ?_ ?_, by omega⟩
            · repeat (first | exact trivial | refine ⟨⟨_, rfl, by first | exact LeA.c (LeC.refl _ rfl) | exact LeA.c (LeC.ow _ _ rfl) | exact LeA.c (LeC.pt _ _ _ _ _ rfl) | exact LeA.c (LeC.nil _ rfl) | exact LeA.c (LeC.nils _ _) | (refine LeA.int ?_; omega) | (refine LeA.int ?_; dsimp only; omega) | exact LeA.c (LeC.fz rfl rfl (by first | rfl | omega) (fun i _ j _ => ⟨rfl, by first | rfl | exact rowN_imm (fun _ => rfl) _ i j | exact rowF_imm (fun _ => rfl) _ i j⟩))⟩, ?_⟩)
            · repeat (first | exact trivial | refine ⟨by first | exact HeapOk.same rfl rfl rfl rfl | exact HeapOk.lent rfl rfl rfl rfl | exact HeapOk.nil rfl rfl | exact HeapOk.row rfl rfl (by first | rfl | omega) (fun i _ j _ => ⟨rfl, by first | rfl | exact rowN_imm (fun _ => rfl) _ i j | exact rowF_imm (fun _ => rfl) _ i j⟩) | exact HeapOk.box rfl rfl (by repeat (first | exact trivial | refine ⟨by first | exact LeC.refl _ rfl | exact LeC.ow _ _ rfl | exact LeC.nil _ rfl | exact LeC.nils _ _ | exact LeC.fz rfl rfl (by first | rfl | omega) (fun i _ j _ => ⟨rfl, by first | rfl | exact rowN_imm (fun _ => rfl) _ i j | exact rowF_imm (fun _ => rfl) _ i j⟩) | exact LeC.int (by omega), ?_⟩)) rfl, ?_⟩)
        · have hC := pMat_A m
          have hR := rMat_A m
          repeat (first
            | refine AWp.seq ?_
            | refine thenA_n ?_
            | refine AWp.skip ?_
            | refine AWp.exit ?_
            | refine inBlk_n ?_
            | refine AWp.condF rfl (by first | rfl | assumption | exact cmF) ?_
            | (refine AWp.region (id := 7) ?_
               refine AList.cmpF rfl rfl rfl rfl rfl cmF ?_
               refine AList.nil ?_)
            | (refine AWp.draw (id := 14) mixed ?_
               refine AList.loadA tyOk rfl rfl rfl rfl rfl rfl rfl oM oM ?_
               refine AList.call rfl rfl rfl rfl Try.func14 rfl (by kernel_rfl) (hC) ?_
               refine AList.loadA tyOk rfl rfl rfl rfl rfl rfl rfl oM oM ?_
               refine AList.call rfl rfl rfl rfl Try.func15 rfl (by kernel_rfl) (hR) ?_
               refine AList.cmpF rfl rfl rfl rfl rfl (by simp only [cmpP, eq_self, decide_true, Bool.not_true]) ?_
               refine AList.nil ⟨by kernel_rfl, ?_⟩)
            | (refine AWp.region (id := 16) ?_
               refine AList.add rfl rfl rfl rfl (by omega) (by omega) ?_
               refine AList.move rfl rfl rfl ?_
               refine AList.nil ?_))
          refine ⟨0 + 1, by omega, Wk.mk [(8, some 8)] rfl rfl rfl ?_ ?_, by omega⟩
          · repeat (first | exact trivial | refine ⟨⟨_, rfl, by first | exact LeA.c (LeC.refl _ rfl) | exact LeA.c (LeC.ow _ _ rfl) | exact LeA.c (LeC.pt _ _ _ _ _ rfl) | exact LeA.c (LeC.nil _ rfl) | exact LeA.c (LeC.nils _ _) | (refine LeA.int ?_; omega) | (refine LeA.int ?_; dsimp only; omega) | exact LeA.c (LeC.fz rfl rfl (by first | rfl | omega) (fun i _ j _ => ⟨rfl, by first | rfl | exact rowN_imm (fun _ => rfl) _ i j | exact rowF_imm (fun _ => rfl) _ i j⟩))⟩, ?_⟩)
          · repeat (first | exact trivial | refine ⟨by first | exact HeapOk.same rfl rfl rfl rfl | exact HeapOk.lent rfl rfl rfl rfl | exact HeapOk.nil rfl rfl | exact HeapOk.row rfl rfl (by first | rfl | omega) (fun i _ j _ => ⟨rfl, by first | rfl | exact rowN_imm (fun _ => rfl) _ i j | exact rowF_imm (fun _ => rfl) _ i j⟩) | exact HeapOk.box rfl rfl (by repeat (first | exact trivial | refine ⟨by first | exact LeC.refl _ rfl | exact LeC.ow _ _ rfl | exact LeC.nil _ rfl | exact LeC.nils _ _ | exact LeC.fz rfl rfl (by first | rfl | omega) (fun i _ j _ => ⟨rfl, by first | rfl | exact rowN_imm (fun _ => rfl) _ i j | exact rowF_imm (fun _ => rfl) _ i j⟩) | exact LeC.int (by omega), ?_⟩)) rfl, ?_⟩)
    · repeat (first
        | refine AWp.seq ?_
        | refine thenA_n ?_
        | refine AWp.block ?_
        | refine AWp.skip ?_
        | refine AWp.condT rfl (by first | rfl | assumption | exact cmT) ?_
        | (refine AWp.region (id := 4) ?_
           refine AList.cmpT rfl rfl rfl rfl rfl cmT ?_
           refine AList.nil ?_)
        | (refine AWp.region (id := 5) ?_
           refine AList.idx (k := 1) tyOk rfl rfl rfl rfl rfl rfl rfl rfl (by first | rfl | omega) oM oM ?_
           refine AList.loadAl tyOk rfl rfl rfl rfl rfl oM ?_
           refine AList.alloc tyOk rfl rfl rfl rfl rfl ?_
           refine AList.store tyOk rfl rfl rfl rfl rfl rfl rfl rfl oM oM ?_
           refine AList.nil ?_)
        | (refine AWp.region (id := 6) ?_
           refine AList.move rfl rfl rfl ?_
           refine AList.move rfl rfl rfl ?_
           refine AList.convI (hu) (by kernel_rfl) Try.underlying31 rfl rfl rfl ?_
           refine AList.remK rfl rfl rfl rfl (by omega) (by omega) ?_
           refine AList.convI (hz) (by kernel_rfl) Try.underlying3 rfl rfl rfl ?_
           refine AList.fieldPt tyOk rfl rfl rfl rfl rfl rfl rfl ?_
           refine AList.load1 tyOk rfl rfl rfl rfl rfl rfl rfl oM oM ?_
           refine AList.litSl tyOk rfl rfl rfl rfl rfl rfl rfl rfl rfl rfl rfl ?_
           refine AList.lenLs tyOk rfl rfl rfl rfl rfl ?_
           refine AList.move rfl rfl rfl ?_
           refine AList.nil ?_))
      refine AWp.round (fun j : Nat => mkSt 75 [(2, .c (iC y)), (7, .c (bC true)), (8, .c (.pt 8 10 0 0)), (10, .c (.pt 10 10 0 0)), (23, .c (.ls 2 10 (sF (matC m ++ matC raw) 10))), (24, .c (iC 2)), (25, .c (iC 1)), (36, .c (.ls 3 1 (sF [iC y, iC (u % 62), iC raw.life] 1))), (37, .c (iC 3)), (38, .c (iC j))]
        [(8, ⟨false, 1, 10, 26, lF (matC m)⟩), (10, ⟨false, 1, 10, 26, lF (matC raw)⟩)] [8, 10])
        (fun j => j ≤ 3) (fun j => 3 - j) 0 (Nat.zero_le _) ?_ (fun j hj => ?_)
      · refine Wk.mk [(8, some 8), (10, some 10)] rfl rfl rfl ?_ ?_
        · repeat (first | exact trivial | refine ⟨⟨_, rfl, by first | exact LeA.c (LeC.refl _ rfl) | exact LeA.c (LeC.ow _ _ rfl) | exact LeA.c (LeC.pt _ _ _ _ _ rfl) | exact LeA.c (LeC.nil _ rfl) | exact LeA.c (LeC.nils _ _) | (refine LeA.int ?_; omega) | (refine LeA.int ?_; dsimp only; omega) | exact LeA.c (LeC.fz rfl rfl (by first | rfl | omega) (fun i _ j _ => ⟨rfl, by first | rfl | exact rowN_imm (fun _ => rfl) _ i j | exact rowF_imm (fun _ => rfl) _ i j⟩))⟩, ?_⟩)
        · repeat (first | exact trivial | refine ⟨by first | exact HeapOk.same rfl rfl rfl rfl | exact HeapOk.lent rfl rfl rfl rfl | exact HeapOk.nil rfl rfl | exact HeapOk.row rfl rfl (by first | rfl | omega) (fun i _ j _ => ⟨rfl, by first | rfl | exact rowN_imm (fun _ => rfl) _ i j | exact rowF_imm (fun _ => rfl) _ i j⟩) | exact HeapOk.box rfl rfl (by repeat (first | exact trivial | refine ⟨by first | exact LeC.refl _ rfl | exact LeC.ow _ _ rfl | exact LeC.nil _ rfl | exact LeC.nils _ _ | exact LeC.fz rfl rfl (by first | rfl | omega) (fun i _ j _ => ⟨rfl, by first | rfl | exact rowN_imm (fun _ => rfl) _ i j | exact rowF_imm (fun _ => rfl) _ i j⟩) | exact LeC.int (by omega), ?_⟩)) rfl, ?_⟩)
      · obtain rfl | rfl | rfl | rfl : j = 0 ∨ j = 1 ∨ j = 2 ∨ j = 3 := by omega
        · have hP := pAt_A raw y
          have hR := rAt_A raw y
          obtain ⟨V, hV⟩ : ∃ V, atV raw y = V := ⟨_, rfl⟩
          rw [hV] at hP hR
          obtain ⟨vb, vo⟩ := V
          cases vo
          all_goals
            repeat (first
              | refine AWp.seq ?_
              | refine thenA_n ?_
              | refine AWp.block ?_
              | refine AWp.skip ?_
              | refine inBlk_n ?_
              | refine AWp.condT rfl (by first | rfl | assumption | exact cmT) ?_
              | refine AWp.condF rfl (by first | rfl | assumption | exact cmF) ?_
              | (refine AWp.region (id := 7) ?_
                 refine AList.cmpT rfl rfl rfl rfl rfl cmT ?_
                 refine AList.nil ?_)
              | (refine AWp.region (id := 8) ?_
                 refine AList.idx (k := 0) tyOk rfl rfl rfl rfl rfl rfl rfl rfl (by first | rfl | omega) oM oM ?_
                 refine AList.load1l tyOk rfl rfl rfl rfl rfl oM ?_
                 refine AList.assign rfl rfl rfl ?_
                 refine AList.nil ?_)
              | (refine AWp.region (id := 9) ?_
                 refine AList.loadA tyOk rfl rfl rfl rfl rfl rfl rfl oM oM ?_
                 refine AList.move rfl rfl rfl ?_
                 refine AList.call rfl rfl rfl rfl Try.func12 rfl (by kernel_rfl) (hP) ?_
                 refine AList.move rfl rfl rfl ?_
                 refine AList.extract rfl rfl rfl rfl ?_
                 refine AList.extract rfl rfl rfl rfl ?_
                 refine AList.alloc tyOk rfl rfl rfl rfl rfl ?_
                 refine AList.store tyOk rfl rfl rfl rfl rfl rfl rfl rfl oM oM ?_
                 refine AList.assign rfl rfl rfl ?_
                 refine AList.nil ?_)
              | (refine AWp.region (id := 10) ?_
                 refine AList.loadA tyOk rfl rfl rfl rfl rfl rfl rfl oM oM ?_
                 refine AList.move rfl rfl rfl ?_
                 refine AList.call rfl rfl rfl rfl Try.func13 rfl (by kernel_rfl) (hR) ?_
                 refine AList.move rfl rfl rfl ?_
                 refine AList.extract rfl rfl rfl rfl ?_
                 refine AList.extract rfl rfl rfl rfl ?_
                 refine AList.alloc tyOk rfl rfl rfl rfl rfl ?_
                 refine AList.store tyOk rfl rfl rfl rfl rfl rfl rfl rfl oM oM ?_
                 refine AList.assign rfl rfl rfl ?_
                 refine AList.nil ?_)
              | (refine AWp.region (id := 11) ?_
                 refine AList.move rfl rfl rfl ?_
                 refine AList.move rfl rfl rfl ?_
                 refine AList.neB rfl rfl rfl rfl (by kernel_rfl) ?_
                 refine AList.move rfl rfl rfl ?_
                 refine AList.loadA tyOk rfl rfl rfl rfl rfl rfl rfl oM oM ?_
                 refine AList.loadA tyOk rfl rfl rfl rfl rfl rfl rfl oM oM ?_
                 refine AList.binAg rfl rfl rfl rfl rfl rfl (by kernel_rfl) (bg_neS vb) ?_
                 refine AList.pickF rfl rfl rfl rfl ?_
                 refine AList.nil ?_)
              | (refine AWp.region (id := 13) ?_
                 refine AList.add rfl rfl rfl rfl (by omega) (by omega) ?_
                 refine AList.move rfl rfl rfl ?_
                 refine AList.nil ?_))
            refine ⟨0 + 1, by omega, Wk.mk [(8, some 8), (10, some 10)] rfl rfl rfl ?_ ?_, by omega⟩
            · repeat (first | exact trivial | refine ⟨⟨_, rfl, by first | exact LeA.c (LeC.refl _ rfl) | exact LeA.c (LeC.ow _ _ rfl) | exact LeA.c (LeC.pt _ _ _ _ _ rfl) | exact LeA.c (LeC.nil _ rfl) | exact LeA.c (LeC.nils _ _) | (refine LeA.int ?_; omega) | (refine LeA.int ?_; dsimp only; omega) | exact LeA.c (LeC.fz rfl rfl (by first | rfl | omega) (fun i _ j _ => ⟨rfl, by first | rfl | exact rowN_imm (fun _ => rfl) _ i j | exact rowF_imm (fun _ => rfl) _ i j⟩))⟩, ?_⟩)
            · repeat (first | exact trivial | refine ⟨by first | exact HeapOk.same rfl rfl rfl rfl | exact HeapOk.lent rfl rfl rfl rfl | exact HeapOk.nil rfl rfl | exact HeapOk.row rfl rfl (by first | rfl | omega) (fun i _ j _ => ⟨rfl, by first | rfl | exact rowN_imm (fun _ => rfl) _ i j | exact rowF_imm (fun _ => rfl) _ i j⟩) | exact HeapOk.box rfl rfl (by repeat (first | exact trivial | refine ⟨by first | exact LeC.refl _ rfl | exact LeC.ow _ _ rfl | exact LeC.nil _ rfl | exact LeC.nils _ _ | exact LeC.fz rfl rfl (by first | rfl | omega) (fun i _ j _ => ⟨rfl, by first | rfl | exact rowN_imm (fun _ => rfl) _ i j | exact rowF_imm (fun _ => rfl) _ i j⟩) | exact LeC.int (by omega), ?_⟩)) rfl, ?_⟩)
        · have hP := pAt_A raw (u % 62)
          have hR := rAt_A raw (u % 62)
          obtain ⟨V, hV⟩ : ∃ V, atV raw (u % 62) = V := ⟨_, rfl⟩
          rw [hV] at hP hR
          obtain ⟨vb, vo⟩ := V
          cases vo
          all_goals
            repeat (first
              | refine AWp.seq ?_
              | refine thenA_n ?_
              | refine AWp.block ?_
              | refine AWp.skip ?_
              | refine inBlk_n ?_
              | refine AWp.condT rfl (by first | rfl | assumption | exact cmT) ?_
              | refine AWp.condF rfl (by first | rfl | assumption | exact cmF) ?_
              | (refine AWp.region (id := 7) ?_
                 refine AList.cmpT rfl rfl rfl rfl rfl cmT ?_
                 refine AList.nil ?_)
              | (refine AWp.region (id := 8) ?_
                 refine AList.idx (k := 1) tyOk rfl rfl rfl rfl rfl rfl rfl rfl (by first | rfl | omega) oM oM ?_
                 refine AList.load1l tyOk rfl rfl rfl rfl rfl oM ?_
                 refine AList.assign rfl rfl rfl ?_
                 refine AList.nil ?_)
              | (refine AWp.region (id := 9) ?_
                 refine AList.loadA tyOk rfl rfl rfl rfl rfl rfl rfl oM oM ?_
                 refine AList.move rfl rfl rfl ?_
                 refine AList.call rfl rfl rfl rfl Try.func12 rfl (by kernel_rfl) (hP) ?_
                 refine AList.move rfl rfl rfl ?_
                 refine AList.extract rfl rfl rfl rfl ?_
                 refine AList.extract rfl rfl rfl rfl ?_
                 refine AList.alloc tyOk rfl rfl rfl rfl rfl ?_
                 refine AList.store tyOk rfl rfl rfl rfl rfl rfl rfl rfl oM oM ?_
                 refine AList.assign rfl rfl rfl ?_
                 refine AList.nil ?_)
              | (refine AWp.region (id := 10) ?_
                 refine AList.loadA tyOk rfl rfl rfl rfl rfl rfl rfl oM oM ?_
                 refine AList.move rfl rfl rfl ?_
                 refine AList.call rfl rfl rfl rfl Try.func13 rfl (by kernel_rfl) (hR) ?_
                 refine AList.move rfl rfl rfl ?_
                 refine AList.extract rfl rfl rfl rfl ?_
                 refine AList.extract rfl rfl rfl rfl ?_
                 refine AList.alloc tyOk rfl rfl rfl rfl rfl ?_
                 refine AList.store tyOk rfl rfl rfl rfl rfl rfl rfl rfl oM oM ?_
                 refine AList.assign rfl rfl rfl ?_
                 refine AList.nil ?_)
              | (refine AWp.region (id := 11) ?_
                 refine AList.move rfl rfl rfl ?_
                 refine AList.move rfl rfl rfl ?_
                 refine AList.neB rfl rfl rfl rfl (by kernel_rfl) ?_
                 refine AList.move rfl rfl rfl ?_
                 refine AList.loadA tyOk rfl rfl rfl rfl rfl rfl rfl oM oM ?_
                 refine AList.loadA tyOk rfl rfl rfl rfl rfl rfl rfl oM oM ?_
                 refine AList.binAg rfl rfl rfl rfl rfl rfl (by kernel_rfl) (bg_neS vb) ?_
                 refine AList.pickF rfl rfl rfl rfl ?_
                 refine AList.nil ?_)
              | (refine AWp.region (id := 13) ?_
                 refine AList.add rfl rfl rfl rfl (by omega) (by omega) ?_
                 refine AList.move rfl rfl rfl ?_
                 refine AList.nil ?_))
            refine ⟨1 + 1, by omega, Wk.mk [(8, some 8), (10, some 10)] rfl rfl rfl ?_ ?_, by omega⟩
            · repeat (first | exact trivial | refine ⟨⟨_, rfl, by first | exact LeA.c (LeC.refl _ rfl) | exact LeA.c (LeC.ow _ _ rfl) | exact LeA.c (LeC.pt _ _ _ _ _ rfl) | exact LeA.c (LeC.nil _ rfl) | exact LeA.c (LeC.nils _ _) | (refine LeA.int ?_; omega) | (refine LeA.int ?_; dsimp only; omega) | exact LeA.c (LeC.fz rfl rfl (by first | rfl | omega) (fun i _ j _ => ⟨rfl, by first | rfl | exact rowN_imm (fun _ => rfl) _ i j | exact rowF_imm (fun _ => rfl) _ i j⟩))⟩, ?_⟩)
            · repeat (first | exact trivial | refine ⟨by first | exact HeapOk.same rfl rfl rfl rfl | exact HeapOk.lent rfl rfl rfl rfl | exact HeapOk.nil rfl rfl | exact HeapOk.row rfl rfl (by first | rfl | omega) (fun i _ j _ => ⟨rfl, by first | rfl | exact rowN_imm (fun _ => rfl) _ i j | exact rowF_imm (fun _ => rfl) _ i j⟩) | exact HeapOk.box rfl rfl (by repeat (first | exact trivial | refine ⟨by first | exact LeC.refl _ rfl | exact LeC.ow _ _ rfl | exact LeC.nil _ rfl | exact LeC.nils _ _ | exact LeC.fz rfl rfl (by first | rfl | omega) (fun i _ j _ => ⟨rfl, by first | rfl | exact rowN_imm (fun _ => rfl) _ i j | exact rowF_imm (fun _ => rfl) _ i j⟩) | exact LeC.int (by omega), ?_⟩)) rfl, ?_⟩)
        · have hP := pAt_A raw raw.life
          have hR := rAt_A raw raw.life
          obtain ⟨V, hV⟩ : ∃ V, atV raw raw.life = V := ⟨_, rfl⟩
          rw [hV] at hP hR
          obtain ⟨vb, vo⟩ := V
          cases vo
          all_goals
            repeat (first
              | refine AWp.seq ?_
              | refine thenA_n ?_
              | refine AWp.block ?_
              | refine AWp.skip ?_
              | refine inBlk_n ?_
              | refine AWp.condT rfl (by first | rfl | assumption | exact cmT) ?_
              | refine AWp.condF rfl (by first | rfl | assumption | exact cmF) ?_
              | (refine AWp.region (id := 7) ?_
                 refine AList.cmpT rfl rfl rfl rfl rfl cmT ?_
                 refine AList.nil ?_)
              | (refine AWp.region (id := 8) ?_
                 refine AList.idx (k := 2) tyOk rfl rfl rfl rfl rfl rfl rfl rfl (by first | rfl | omega) oM oM ?_
                 refine AList.load1l tyOk rfl rfl rfl rfl rfl oM ?_
                 refine AList.assign rfl rfl rfl ?_
                 refine AList.nil ?_)
              | (refine AWp.region (id := 9) ?_
                 refine AList.loadA tyOk rfl rfl rfl rfl rfl rfl rfl oM oM ?_
                 refine AList.move rfl rfl rfl ?_
                 refine AList.call rfl rfl rfl rfl Try.func12 rfl (by kernel_rfl) (hP) ?_
                 refine AList.move rfl rfl rfl ?_
                 refine AList.extract rfl rfl rfl rfl ?_
                 refine AList.extract rfl rfl rfl rfl ?_
                 refine AList.alloc tyOk rfl rfl rfl rfl rfl ?_
                 refine AList.store tyOk rfl rfl rfl rfl rfl rfl rfl rfl oM oM ?_
                 refine AList.assign rfl rfl rfl ?_
                 refine AList.nil ?_)
              | (refine AWp.region (id := 10) ?_
                 refine AList.loadA tyOk rfl rfl rfl rfl rfl rfl rfl oM oM ?_
                 refine AList.move rfl rfl rfl ?_
                 refine AList.call rfl rfl rfl rfl Try.func13 rfl (by kernel_rfl) (hR) ?_
                 refine AList.move rfl rfl rfl ?_
                 refine AList.extract rfl rfl rfl rfl ?_
                 refine AList.extract rfl rfl rfl rfl ?_
                 refine AList.alloc tyOk rfl rfl rfl rfl rfl ?_
                 refine AList.store tyOk rfl rfl rfl rfl rfl rfl rfl rfl oM oM ?_
                 refine AList.assign rfl rfl rfl ?_
                 refine AList.nil ?_)
              | (refine AWp.region (id := 11) ?_
                 refine AList.move rfl rfl rfl ?_
                 refine AList.move rfl rfl rfl ?_
                 refine AList.neB rfl rfl rfl rfl (by kernel_rfl) ?_
                 refine AList.move rfl rfl rfl ?_
                 refine AList.loadA tyOk rfl rfl rfl rfl rfl rfl rfl oM oM ?_
                 refine AList.loadA tyOk rfl rfl rfl rfl rfl rfl rfl oM oM ?_
                 refine AList.binAg rfl rfl rfl rfl rfl rfl (by kernel_rfl) (bg_neS vb) ?_
                 refine AList.pickF rfl rfl rfl rfl ?_
                 refine AList.nil ?_)
              | (refine AWp.region (id := 13) ?_
                 refine AList.add rfl rfl rfl rfl (by omega) (by omega) ?_
                 refine AList.move rfl rfl rfl ?_
                 refine AList.nil ?_))
            refine ⟨2 + 1, by omega, Wk.mk [(8, some 8), (10, some 10)] rfl rfl rfl ?_ ?_, by omega⟩
            · repeat (first | exact trivial | refine ⟨⟨_, rfl, by first | exact LeA.c (LeC.refl _ rfl) | exact LeA.c (LeC.ow _ _ rfl) | exact LeA.c (LeC.pt _ _ _ _ _ rfl) | exact LeA.c (LeC.nil _ rfl) | exact LeA.c (LeC.nils _ _) | (refine LeA.int ?_; omega) | (refine LeA.int ?_; dsimp only; omega) | exact LeA.c (LeC.fz rfl rfl (by first | rfl | omega) (fun i _ j _ => ⟨rfl, by first | rfl | exact rowN_imm (fun _ => rfl) _ i j | exact rowF_imm (fun _ => rfl) _ i j⟩))⟩, ?_⟩)
            · repeat (first | exact trivial | refine ⟨by first | exact HeapOk.same rfl rfl rfl rfl | exact HeapOk.lent rfl rfl rfl rfl | exact HeapOk.nil rfl rfl | exact HeapOk.row rfl rfl (by first | rfl | omega) (fun i _ j _ => ⟨rfl, by first | rfl | exact rowN_imm (fun _ => rfl) _ i j | exact rowF_imm (fun _ => rfl) _ i j⟩) | exact HeapOk.box rfl rfl (by repeat (first | exact trivial | refine ⟨by first | exact LeC.refl _ rfl | exact LeC.ow _ _ rfl | exact LeC.nil _ rfl | exact LeC.nils _ _ | exact LeC.fz rfl rfl (by first | rfl | omega) (fun i _ j _ => ⟨rfl, by first | rfl | exact rowN_imm (fun _ => rfl) _ i j | exact rowF_imm (fun _ => rfl) _ i j⟩) | exact LeC.int (by omega), ?_⟩)) rfl, ?_⟩)
        · have hC := pMat_A raw
          have hR := rMat_A raw
          repeat (first
            | refine AWp.seq ?_
            | refine thenA_n ?_
            | refine AWp.skip ?_
            | refine AWp.exit ?_
            | refine inBlk_n ?_
            | refine AWp.condF rfl (by first | rfl | assumption | exact cmF) ?_
            | (refine AWp.region (id := 7) ?_
               refine AList.cmpF rfl rfl rfl rfl rfl cmF ?_
               refine AList.nil ?_)
            | (refine AWp.draw (id := 14) mixed ?_
               refine AList.loadA tyOk rfl rfl rfl rfl rfl rfl rfl oM oM ?_
               refine AList.call rfl rfl rfl rfl Try.func14 rfl (by kernel_rfl) (hC) ?_
               refine AList.loadA tyOk rfl rfl rfl rfl rfl rfl rfl oM oM ?_
               refine AList.call rfl rfl rfl rfl Try.func15 rfl (by kernel_rfl) (hR) ?_
               refine AList.cmpF rfl rfl rfl rfl rfl (by simp only [cmpP, eq_self, decide_true, Bool.not_true]) ?_
               refine AList.nil ⟨by kernel_rfl, ?_⟩)
            | (refine AWp.region (id := 16) ?_
               refine AList.add rfl rfl rfl rfl (by omega) (by omega) ?_
               refine AList.move rfl rfl rfl ?_
               refine AList.nil ?_))
          refine ⟨1 + 1, by omega, Wk.mk [(8, some 8)] rfl rfl rfl ?_ ?_, by omega⟩
          · repeat (first | exact trivial | refine ⟨⟨_, rfl, by first | exact LeA.c (LeC.refl _ rfl) | exact LeA.c (LeC.ow _ _ rfl) | exact LeA.c (LeC.pt _ _ _ _ _ rfl) | exact LeA.c (LeC.nil _ rfl) | exact LeA.c (LeC.nils _ _) | (refine LeA.int ?_; omega) | (refine LeA.int ?_; dsimp only; omega) | exact LeA.c (LeC.fz rfl rfl (by first | rfl | omega) (fun i _ j _ => ⟨rfl, by first | rfl | exact rowN_imm (fun _ => rfl) _ i j | exact rowF_imm (fun _ => rfl) _ i j⟩))⟩, ?_⟩)
          · repeat (first | exact trivial | refine ⟨by first | exact HeapOk.same rfl rfl rfl rfl | exact HeapOk.lent rfl rfl rfl rfl | exact HeapOk.nil rfl rfl | exact HeapOk.row rfl rfl (by first | rfl | omega) (fun i _ j _ => ⟨rfl, by first | rfl | exact rowN_imm (fun _ => rfl) _ i j | exact rowF_imm (fun _ => rfl) _ i j⟩) | exact HeapOk.box rfl rfl (by repeat (first | exact trivial | refine ⟨by first | exact LeC.refl _ rfl | exact LeC.ow _ _ rfl | exact LeC.nil _ rfl | exact LeC.nils _ _ | exact LeC.fz rfl rfl (by first | rfl | omega) (fun i _ j _ => ⟨rfl, by first | rfl | exact rowN_imm (fun _ => rfl) _ i j | exact rowF_imm (fun _ => rfl) _ i j⟩) | exact LeC.int (by omega), ?_⟩)) rfl, ?_⟩)
    · repeat (first
        | refine AWp.seq ?_
        | refine thenA_n ?_
        | refine AWp.exit ?_
        | refine AWp.ret ?_
        | refine AWp.condF rfl (by first | rfl | assumption | exact cmF) ?_
        | (refine AWp.region (id := 4) ?_
           refine AList.cmpF rfl rfl rfl rfl rfl cmF ?_
           refine AList.nil ?_)
        | (refine AWp.region (id := 17) ?_
           refine AList.move rfl rfl rfl ?_
           refine AList.move rfl rfl rfl ?_
           refine AList.loadA tyOk rfl rfl rfl rfl rfl rfl rfl oM oM ?_
           refine AList.call rfl rfl rfl rfl Try.func14 rfl (by kernel_rfl) (hCm) ?_
           refine AList.cmp rfl rfl rfl rfl rfl ?_
           refine AList.pickT rfl rfl rfl rfl ?_
           refine AList.assign rfl rfl rfl ?_
           refine AList.nil ?_))
      refine ⟨_, rfl, mkSt 75 [(6, .c (bC true))] [] [], [], Wk.mk [] rfl rfl rfl ?_ trivial, rfl, rfl, ARets.one (x := .c _) (ARes.tmp rfl rfl)⟩
      repeat (first | exact trivial | refine ⟨⟨_, rfl, by first | exact LeA.c (LeC.refl _ rfl) | exact LeA.c (LeC.ow _ _ rfl) | exact LeA.c (LeC.pt _ _ _ _ _ rfl) | exact LeA.c (LeC.nil _ rfl) | exact LeA.c (LeC.nils _ _) | (refine LeA.int ?_; omega) | (refine LeA.int ?_; dsimp only; omega) | exact LeA.c (LeC.fz rfl rfl (by first | rfl | omega) (fun i _ j _ => ⟨rfl, by first | rfl | exact rowN_imm (fun _ => rfl) _ i j | exact rowF_imm (fun _ => rfl) _ i j⟩))⟩, ?_⟩)
end Go.Proofs.Ytclaanggpcjnbaa
end

section
/- DamageMaterials: the statement. No condition. -/
namespace Go.Proofs.Ytclaanggpcjnbaa.damageMaterials
open Go.ChangeShapes Go.WideShapes Go.ChangeAt Go.RowKit Go.Flow Go.AV
theorem contract (H : Type) (enc : TypeId × Value → H) (W : World) (base : Nat) (args : Array Value) (ds gs : List (DataW H)) (before : List MemPlace)
    (hval : ∀ (j : Nat) t v, Try.f3.params[j]? = some t → args[j]? = some v → Value.okWide Try.prog W .any base t v)
    (hW : DataW.Whole enc Try.prog Try.f3.params.toList Rows.damageMaterialsSpec.vars false W args.toList ds gs before)
    (hsz : (DataW.weightsEach Try.prog (Try.f3.params.toList ++ (OpenSpec.ofChange Rows.damageMaterialsSpec).bare.plain.varTypes Try.prog) (ds ++ gs)).all (· ≤ reachBytes) = true) :
    Calls Try.prog 3 args W fun e W' => ∃ v, e = .returned v ∧ Rows.damageMaterialsSpec.post enc Try.prog Try.f3 false true false false W args v W' := by
  have hW' := hW
  obtain ⟨p, q, hA0, hV, rfl, hfz, hnd⟩ := hW
  have hA : DataW.TrodAll enc Try.prog W 0 (fun _ => true) true Try.f3.params.toList args.toList ds p := hA0
  have hAk := hA0
  rw [Try.params3] at hA hval hsz
  obtain ⟨rfl, rfl⟩ := trodVars_none hV
  obtain ⟨v0, vs0, d0, ds0, p0, q0, hargs, rfl, rfl, h0, t0⟩ := trodAll_cons hA
  obtain ⟨v1, vs1, d1, ds1, p1, q1, rfl, rfl, rfl, h1, t1⟩ := trodAll_cons t0
  obtain ⟨v2, vs2, d2, ds2, p2, q2, rfl, rfl, rfl, h2, t2⟩ := trodAll_cons t1
  obtain ⟨rfl, rfl, rfl⟩ := trodAll_nil t2
  obtain rfl : args = #[v0, v1, v2] := by rw [← Array.toList_inj]; exact hargs
  have hlt := fun x hx => hW'.lt x hx
  simp only [List.append_nil] at hW'
  rw [List.append_nil] at hsz
  obtain ⟨a0, ok0, r0⟩ := opn_ints.argC (cells_slice Try.underlying22 (hval 0 22 v0 rfl rfl)) h0 (weigh hsz 0 (t := 22) (d := d0) rfl rfl)
  obtain ⟨a1, ok1, r1⟩ := opn_mat.argS Try.underlying26 (hval 1 26 v1 rfl rfl) h1 (weigh hsz 1 (t := 26) (d := d1) rfl rfl)
  obtain ⟨a2, ok2, r2⟩ := opn_int.argC (cells_int Try.underlying3 (hval 2 3 v2 rfl rfl)) h2 (weigh hsz 2 (t := 3) (d := d2) rfl rfl)
  refine ((DamageMaterials_A a0.length (fun k => a0.getD k 0) a1 a2 ok0.1) O0 W [_, _, _] (fun b h => h.elim) ⟨r0, r1, r2, trivial⟩).mono fun e W' ⟨v, r, he, hr, hv, hE⟩ => ?_
  subst hr
  obtain rfl : v = .bool true := hv.2
  subst he
  exact ⟨_, rfl, post_below (pv := []) hW' (fun _ _ _ => trodAll_cons_mk (shut_bool Try.underlying4 _) trodAll_mk0)
    (fun sp hsp => trodAll_below laidOut hE (by rw [Try.params3]; intro t ht; simp only [List.mem_cons, List.not_mem_nil, or_false] at ht; rcases ht with rfl | rfl | rfl <;> exact ⟨by kernel_rfl, of_decide_eq_true (by kernel_rfl)⟩) hAk (fun x hx => hlt x (by rw [List.append_nil]; exact hx)) sp (fun x hx => hsp x (by simpa only [List.append_nil] using hx)))
    (fun _ _ => rfl) (by simp) hE (ok_one (by kernel_rfl) rfl (okWide_bool_mk Try.underlying4 _))⟩
theorem own : ownKnob Try.prog.godebug = none := by kernel_rfl
set_option maxRecDepth 100000 in
theorem lifted (os : Os) (started : os.Started) (H : Type) (enc : TypeId × Value → H) :
    ReturnsInHanded {} Try.checked os 3 .any (Rows.damageMaterialsSpec.pre6 enc Try.prog Try.f3 Rows.damageMaterialsRow.domain false) (Rows.damageMaterialsSpec.post enc Try.prog Try.f3 false true false false) := by
  refine returnsInHanded_of_change_sized (C := Try.checked) own started (by kernel_rfl) Try.func3
    (ChangeSpec.witness6 (enc := enc) (C := Try.checked) false ⟨#[], #[.slice none 0 0, .agg #[.int .i64 0, .int .i64 0, .int .i64 0, .int .i64 0, .int .i64 0, .int .i64 0, .int .i64 0, .int .i64 0, .int .i64 0, .int .i64 0], .int .i64 0], []⟩ 8 (by kernel_rfl) (by kernel_rfl) (by kernel_rfl) (by kernel_rfl)) ?_
  intro W base args ds gs before hval hW _ hsz _
  exact contract H enc W base args ds gs before hval hW hsz
theorem said : Rows.DamageMaterialsSaid :=
  OpenClaim.holds_of_wide 3 Try.f3 rfl rfl rfl rfl rfl rfl rfl ⟨rfl, rfl, rfl, rfl, rfl⟩ rfl rfl rfl rfl rfl (by kernel_rfl) Try.func3 (by kernel_rfl)
    (of_decide_eq_true (by kernel_rfl)) (by unfold Func.isWrapper; first | (rw [if_pos (by decide +kernel)]; kernel_rfl) | (rw [if_neg (by decide +kernel)]; exact ⟨rfl, rfl⟩))
    (fun os started H enc _ => lifted os started H enc)
end Go.Proofs.Ytclaanggpcjnbaa.damageMaterials
end
