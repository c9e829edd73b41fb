/- Parts of the proof: A33fi. -/
import Derived.Test.YtcdnpnbjloaihaaHA33fir01
set_option linter.unusedSimpArgs false
set_option linter.unusedVariables false
section
/- Chapter 33: the law ProbeFills over plain values. -/
namespace Go.Proofs.Ytcdnpnbjloaihaa
open Go.RowKit Go.Flow Go.AV Go.Plain
set_option maxHeartbeats 3000000 in
set_option maxRecDepth 100000 in
theorem ProbeFills_A (c d : Case) (r : Rc) (hc : c.ok) (hd : d.ok) : ECalls Try.prog 6 [.ag (caC c), .ag (caC d), .ag (rcC r)] (fun v => v = .c (bC true)) := by
  refine ecalls_at Try.func6 rfl rfl Try.ntmps6 rfl ?_
  repeat (first
    | refine AWp.seq ?_
    | (refine AWp.region (id := 0) ?_
       refine AList.box rfl rfl rfl rfl rfl ?_
       refine AList.box rfl rfl rfl rfl rfl ?_
       refine AList.box rfl rfl rfl rfl rfl ?_
       refine AList.assign rfl rfl rfl ?_
       refine AList.nil ?_)
    | (refine AWp.region (id := 1) ?_
       refine AList.call rfl rfl rfl rfl Try.func9 rfl (by kernel_rfl) (sanity_A) ?_
       refine AList.assign rfl rfl rfl ?_
       refine AList.nil ?_))
  refine AWp.text ?_
  refine AText.split 1 ?_
  refine AList.loadA tyOk rfl rfl rfl rfl rfl rfl rfl oM oM ?_
  refine AList.nil ?_
  refine AText.callE rfl rfl rfl rfl Try.func10 rfl (by kernel_rfl) (made_E c hc) ?_
  rintro _ ⟨L, Y, x, hx, rfl⟩
  refine AText.all ?_
  refine AList.move rfl rfl rfl ?_
  refine AList.extract rfl rfl rfl rfl ?_
  refine AList.extract rfl rfl rfl rfl ?_
  refine AList.extract rfl rfl rfl rfl ?_
  refine AList.alloc tyOk rfl rfl rfl rfl rfl ?_
  refine AList.assign rfl rfl rfl ?_
  refine AList.assign rfl rfl rfl ?_
  refine AList.store tyOk rfl rfl rfl rfl rfl rfl rfl rfl oM oM ?_
  refine AList.nil ?_
  repeat (first
    | refine AWp.seq ?_)
  refine AWp.text ?_
  refine AText.split 1 ?_
  refine AList.loadA tyOk rfl rfl rfl rfl rfl rfl rfl oM oM ?_
  refine AList.nil ?_
  refine AText.callE rfl rfl rfl rfl Try.func10 rfl (by kernel_rfl) (made_E d hd) ?_
  rintro _ ⟨L2, Y2, y, hy, rfl⟩
  refine AText.all ?_
  refine AList.move rfl rfl rfl ?_
  refine AList.extract rfl rfl rfl rfl ?_
  refine AList.extract rfl rfl rfl rfl ?_
  refine AList.extract rfl rfl rfl rfl ?_
  refine AList.alloc tyOk rfl rfl rfl rfl rfl ?_
  refine AList.assign rfl rfl rfl ?_
  refine AList.assign rfl rfl rfl ?_
  refine AList.store tyOk rfl rfl rfl rfl rfl rfl rfl rfl oM oM ?_
  refine AList.nil ?_
  obtain ⟨Wn, Hn, f, rfl, hW, hH, hpx, hok⟩ := hx.im
  obtain ⟨Wm, Hm, g, rfl, hW2, hH2, hpy, hok2⟩ := hy.im
  have hn : Hn * Wn ≤ 143 := by have := Nat.mul_le_mul hH hW; omega
  have hm : Hm * Wm ≤ 143 := by have := Nat.mul_le_mul hH2 hW2; omega
  have hF := pFill_A Wn Hn (Hn * Wn) f Wm Hm (Hm * Wm) g r (by omega) (by omega)
  have hcase : (Wm = Wn ∧ Hm = Hn) ∨ Wm ≠ Wn := by
    have h1 := hx.dims
    have h2 := hy.dims
    dsimp only at h1 h2
    omega
  rcases hcase with ⟨h1, h2⟩ | hne
  · obtain rfl : Wn = Wm := h1.symm
    obtain rfl : Hn = Hm := h2.symm
    have he : fillE Wn Hn (Hn * Wn) f Wn Hn (Hn * Wn) g = 0 := by unfold fillE; rw [if_pos hok, if_pos hok2, if_pos ⟨rfl, rfl⟩]
    rw [fillV, if_pos he] at hF
    repeat (first
      | refine AWp.seq ?_
      | refine thenA_n ?_
      | refine AWp.block ?_
      | refine AWp.skip ?_
      | refine AWp.condT rfl (by first | rfl | exact cmT) ?_
      | refine AWp.condF rfl (by first | rfl | exact cmF) ?_
      | (refine AWp.region (id := 4) ?_
         refine AList.loadA tyOk rfl rfl rfl rfl rfl rfl rfl oM oM ?_
         refine AList.loadA tyOk rfl rfl rfl rfl rfl rfl rfl oM oM ?_
         refine AList.loadA tyOk rfl rfl rfl rfl rfl rfl rfl oM oM ?_
         refine AList.call rfl rfl rfl rfl Try.func16 rfl (by kernel_rfl) (hF) ?_
         refine AList.move rfl rfl rfl ?_
         refine AList.extract rfl rfl rfl rfl ?_
         refine AList.extract rfl rfl rfl rfl ?_
         refine AList.alloc tyOk rfl rfl rfl rfl rfl ?_
         refine AList.store tyOk rfl rfl rfl rfl rfl rfl rfl rfl oM oM ?_
         refine AList.assign rfl rfl rfl ?_
         refine AList.nil ?_)
      | (refine AWp.region (id := 5) ?_
         refine AList.fieldPt tyOk rfl rfl rfl rfl rfl rfl rfl ?_
         refine AList.load1 tyOk rfl rfl rfl rfl rfl rfl rfl oM oM ?_
         refine AList.fieldPt tyOk rfl rfl rfl rfl rfl rfl rfl ?_
         refine AList.load1 tyOk rfl rfl rfl rfl rfl rfl rfl oM oM ?_
         refine AList.cmpT rfl rfl rfl rfl rfl (by simp only [cmpP, eq_self, decide_true]) ?_
         refine AList.move rfl rfl rfl ?_
         refine AList.fieldPt tyOk rfl rfl rfl rfl rfl rfl rfl ?_
         refine AList.load1 tyOk rfl rfl rfl rfl rfl rfl rfl oM oM ?_
         refine AList.fieldPt tyOk rfl rfl rfl rfl rfl rfl rfl ?_
         refine AList.load1 tyOk rfl rfl rfl rfl rfl rfl rfl oM oM ?_
         refine AList.cmpT rfl rfl rfl rfl rfl (by simp only [cmpP, eq_self, decide_true]) ?_
         refine AList.pickT rfl rfl rfl rfl ?_
         refine AList.nil ?_)
      | (refine AWp.region (id := 6) ?_
         refine AList.move rfl rfl rfl ?_
         refine AList.cmp rfl rfl rfl rfl rfl ?_
         refine AList.move rfl rfl rfl ?_
         refine AList.fieldPt tyOk rfl rfl rfl rfl rfl rfl rfl ?_
         refine AList.load1 tyOk rfl rfl rfl rfl rfl rfl rfl oM oM ?_
         refine AList.lenLs tyOk rfl rfl rfl rfl rfl ?_
         refine AList.fieldPt tyOk rfl rfl rfl rfl rfl rfl rfl ?_
         refine AList.load1 tyOk rfl rfl rfl rfl rfl rfl rfl oM oM ?_
         refine AList.lenLs tyOk rfl rfl rfl rfl rfl ?_
         refine AList.cmpF rfl rfl rfl rfl rfl (by simp only [cmpP, eq_self, decide_true, Bool.not_true]) ?_
         refine AList.pickF rfl rfl rfl rfl ?_
         refine AList.nil ?_)
      | (refine AWp.region (id := 8) ?_
         refine AList.assign rfl rfl rfl ?_
         refine AList.nil ?_))
    refine AWp.round (fun k : Nat => mkSt 172 [(5, .c (.pt 5 4 0 0)), (7, .c (bC true)), (8, .c (.ls L.length 3 (rowF bmC bmZ L))), (9, .c (.ls Y.length 4 (rowF mtC mtZ Y))), (10, .c (.pt 10 3 0 0)), (13, .c (.pt 13 3 0 0)), (14, .c (.pt 14 3 0 0)), (16, .c (iC k))]
      [(5, ⟨false, 1, 4, 29, lF (rcC r)⟩), (10, ⟨false, 1, 3, 27, lF (imgV Wn Hn (Hn * Wn) f)⟩), (13, ⟨false, 1, 3, 27, lF (imgV Wn Hn (Hn * Wn) g)⟩), (14, ⟨false, 1, 3, 27, lF (imgV Wn Hn (Hn * Wn) (fillF Wn f g r))⟩)] [5, 10, 13, 14])
      (fun k => k ≤ Hn * Wn) (fun k => Hn * Wn - k) 0 (Nat.zero_le _) ?_ (fun k hk => ?_)
    · refine Wk.mk [(5, some 5), (10, some 10), (13, some 13), (14, some 14)] rfl rfl rfl ?_ ?_
      · repeat (first | exact trivial | refine ⟨⟨_, rfl, by first | exact LeA.c (LeC.refl _ rfl) | exact LeA.c (LeC.ow _ _ rfl) | exact LeA.c (LeC.pt _ _ _ _ _ rfl) | exact LeA.c (LeC.nil _ rfl) | exact LeA.c (LeC.nils _ _) | (refine LeA.int ?_; omega) | (refine LeA.int ?_; dsimp only; omega) | exact LeA.c (LeC.fz rfl rfl (by first | rfl | omega) (fun i _ j _ => ⟨rfl, by first | rfl | exact rowN_imm (fun _ => rfl) _ i j | exact rowF_imm (fun _ => rfl) _ i j⟩))⟩, ?_⟩)
      · repeat (first | exact trivial | refine ⟨by first | exact HeapOk.same rfl rfl rfl rfl | exact HeapOk.lent rfl rfl rfl rfl | exact HeapOk.nil rfl rfl | exact HeapOk.row rfl rfl (by first | rfl | omega) (fun i _ j _ => ⟨rfl, by first | rfl | exact rowN_imm (fun _ => rfl) _ i j | exact rowF_imm (fun _ => rfl) _ i j⟩) | exact HeapOk.box rfl rfl (by repeat (first | exact trivial | refine ⟨by first | exact LeC.refl _ rfl | exact LeC.ow _ _ rfl | exact LeC.nil _ rfl | exact LeC.nils _ _ | exact LeC.fz rfl rfl (by first | rfl | omega) (fun i _ j _ => ⟨rfl, by first | rfl | exact rowN_imm (fun _ => rfl) _ i j | exact rowF_imm (fun _ => rfl) _ i j⟩) | exact LeC.int (by omega), ?_⟩)) rfl, ?_⟩)
    · by_cases hlt : k < Hn * Wn
      · have hWp : 0 < Wn := by
          rcases Nat.eq_zero_or_pos Wn with h | h
          · rw [h, Nat.mul_zero] at hlt; omega
          · exact h
        have hin := in_A r ((k : Int) % Wn) ((k : Int) / Wn)
        have hfe : fillF Wn f g r k = if (decide (f k = 2) && inR r.1 r.2.1 r.2.2.1 r.2.2.2 ((k : Int) % Wn) ((k : Int) / Wn)) = true then g k else f k := rfl
        by_cases hf2 : f k = 2
        · cases hiv : inR r.1 r.2.1 r.2.2.1 r.2.2.2 ((k : Int) % Wn) ((k : Int) / Wn)
          all_goals
            rw [hiv] at hin
            rw [hiv, decide_eq_true hf2] at hfe
            simp only [Bool.true_and, Bool.and_false, Bool.false_eq_true, if_true, if_false] at hfe
            repeat (first
              | refine AWp.seq ?_
              | refine thenA_n ?_
              | refine AWp.block ?_
              | refine AWp.skip ?_
              | refine inBlk_n ?_
              | refine AWp.condT rfl (by first | rfl | exact cmT) ?_
              | refine AWp.condF rfl (by first | rfl | exact cmF) ?_
              | (refine AWp.region (id := 9) ?_
                 refine AList.move rfl rfl rfl ?_
                 refine AList.fieldPt tyOk rfl rfl rfl rfl rfl rfl rfl ?_
                 refine AList.load1 tyOk rfl rfl rfl rfl rfl rfl rfl oM oM ?_
                 refine AList.lenLs tyOk rfl rfl rfl rfl rfl ?_
                 refine AList.cmpT rfl rfl rfl rfl rfl cmT ?_
                 refine AList.nil ?_)
              | (refine AWp.region (id := 10) ?_
                 refine AList.move rfl rfl rfl ?_
                 refine AList.add rfl rfl rfl rfl (by omega) (by omega) ?_
                 refine AList.assign rfl rfl rfl ?_
                 refine AList.nil ?_)
              | (refine AWp.region (id := 11) ?_
                 refine AList.fieldPt tyOk rfl rfl rfl rfl rfl rfl rfl ?_
                 refine AList.load1 tyOk rfl rfl rfl rfl rfl rfl rfl oM oM ?_
                 refine AList.move rfl rfl rfl ?_
                 refine AList.idx (k := k) tyOk rfl rfl rfl rfl rfl rfl rfl rfl (by first | rfl | omega) oM oM ?_
                 refine AList.load1l tyOk rfl rfl rfl rfl rfl oM ?_
                 refine AList.assign rfl rfl rfl ?_
                 refine AList.nil ?_)
              | (refine AWp.draw (id := 12) mixed ?_
                 refine AList.move rfl rfl rfl ?_
                 refine AList.cmpT rfl rfl rfl rfl rfl cmT ?_
                 refine AList.move rfl rfl rfl ?_
                 refine AList.loadA tyOk rfl rfl rfl rfl rfl rfl rfl oM oM ?_
                 refine AList.move rfl rfl rfl ?_
                 refine AList.fieldPt tyOk rfl rfl rfl rfl rfl rfl rfl ?_
                 refine AList.load1 tyOk rfl rfl rfl rfl rfl rfl rfl oM oM ?_
                 refine AList.rem rfl rfl rfl rfl (by omega) (by omega) ?_
                 refine AList.move rfl rfl rfl ?_
                 refine AList.fieldPt tyOk rfl rfl rfl rfl rfl rfl rfl ?_
                 refine AList.load1 tyOk rfl rfl rfl rfl rfl rfl rfl oM oM ?_
                 refine AList.quo rfl rfl rfl rfl (by omega) (by omega) (by omega) ?_
                 refine AList.call rfl rfl rfl rfl Try.func21 rfl (by kernel_rfl) (hin) ?_
                 refine AList.pickT rfl rfl rfl rfl ?_
                 refine AList.nil ⟨by kernel_rfl, ?_⟩)
              | (refine AWp.region (id := 13) ?_
                 refine AList.fieldPt tyOk rfl rfl rfl rfl rfl rfl rfl ?_
                 refine AList.load1 tyOk rfl rfl rfl rfl rfl rfl rfl oM oM ?_
                 refine AList.move rfl rfl rfl ?_
                 refine AList.idx (k := k) tyOk rfl rfl rfl rfl rfl rfl rfl rfl (by first | rfl | omega) oM oM ?_
                 refine AList.load1l tyOk rfl rfl rfl rfl rfl oM ?_
                 refine AList.assign rfl rfl rfl ?_
                 refine AList.nil ?_)
              | (refine AWp.region (id := 14) ?_
                 refine AList.fieldPt tyOk rfl rfl rfl rfl rfl rfl rfl ?_
                 refine AList.load1 tyOk rfl rfl rfl rfl rfl rfl rfl oM oM ?_
                 refine AList.move rfl rfl rfl ?_
                 refine AList.idx (k := k) tyOk rfl rfl rfl rfl rfl rfl rfl rfl (by first | rfl | omega) oM oM ?_
                 refine AList.load1l tyOk rfl rfl rfl rfl rfl oM ?_
                 refine AList.move rfl rfl rfl ?_
                 refine AList.cmpF rfl rfl rfl rfl rfl cmF ?_
                 refine AList.nil ?_))
            refine ⟨k + 1, by omega, Wk.mk [(5, some 5), (10, some 10), (13, some 13), (14, some 14)] rfl rfl rfl ?_ ?_, by omega⟩
            · repeat (first | exact trivial | refine ⟨⟨_, rfl, by first | exact LeA.c (LeC.refl _ rfl) | exact LeA.c (LeC.ow _ _ rfl) | exact LeA.c (LeC.pt _ _ _ _ _ rfl) | exact LeA.c (LeC.nil _ rfl) | exact LeA.c (LeC.nils _ _) | (refine LeA.int ?_; omega) | (refine LeA.int ?_; dsimp only; omega) | exact LeA.c (LeC.fz rfl rfl (by first | rfl | omega) (fun i _ j _ => ⟨rfl, by first | rfl | exact rowN_imm (fun _ => rfl) _ i j | exact rowF_imm (fun _ => rfl) _ i j⟩))⟩, ?_⟩)
            · repeat (first | exact trivial | refine ⟨by first | exact HeapOk.same rfl rfl rfl rfl | exact HeapOk.lent rfl rfl rfl rfl | exact HeapOk.nil rfl rfl | exact HeapOk.row rfl rfl (by first | rfl | omega) (fun i _ j _ => ⟨rfl, by first | rfl | exact rowN_imm (fun _ => rfl) _ i j | exact rowF_imm (fun _ => rfl) _ i j⟩) | exact HeapOk.box rfl rfl (by repeat (first | exact trivial | refine ⟨by first | exact LeC.refl _ rfl | exact LeC.ow _ _ rfl | exact LeC.nil _ rfl | exact LeC.nils _ _ | exact LeC.fz rfl rfl (by first | rfl | omega) (fun i _ j _ => ⟨rfl, by first | rfl | exact rowN_imm (fun _ => rfl) _ i j | exact rowF_imm (fun _ => rfl) _ i j⟩) | exact LeC.int (by omega), ?_⟩)) rfl, ?_⟩)
        · rw [decide_eq_false hf2] at hfe
          simp only [Bool.false_and, Bool.false_eq_true, if_false] at hfe
          repeat (first
            | refine AWp.seq ?_
            | refine thenA_n ?_
            | refine AWp.block ?_
            | refine AWp.skip ?_
            | refine inBlk_n ?_
            | refine AWp.condT rfl (by first | rfl | exact cmT) ?_
            | refine AWp.condF rfl (by first | rfl | exact cmF) ?_
            | (refine AWp.region (id := 9) ?_
               refine AList.move rfl rfl rfl ?_
               refine AList.fieldPt tyOk rfl rfl rfl rfl rfl rfl rfl ?_
               refine AList.load1 tyOk rfl rfl rfl rfl rfl rfl rfl oM oM ?_
               refine AList.lenLs tyOk rfl rfl rfl rfl rfl ?_
               refine AList.cmpT rfl rfl rfl rfl rfl cmT ?_
               refine AList.nil ?_)
            | (refine AWp.region (id := 10) ?_
               refine AList.move rfl rfl rfl ?_
               refine AList.add rfl rfl rfl rfl (by omega) (by omega) ?_
               refine AList.assign rfl rfl rfl ?_
               refine AList.nil ?_)
            | (refine AWp.region (id := 11) ?_
               refine AList.fieldPt tyOk rfl rfl rfl rfl rfl rfl rfl ?_
               refine AList.load1 tyOk rfl rfl rfl rfl rfl rfl rfl oM oM ?_
               refine AList.move rfl rfl rfl ?_
               refine AList.idx (k := k) tyOk rfl rfl rfl rfl rfl rfl rfl rfl (by first | rfl | omega) oM oM ?_
               refine AList.load1l tyOk rfl rfl rfl rfl rfl oM ?_
               refine AList.assign rfl rfl rfl ?_
               refine AList.nil ?_)
            | (refine AWp.draw (id := 12) mixed ?_
               refine AList.move rfl rfl rfl ?_
               refine AList.cmpF rfl rfl rfl rfl rfl cmF ?_
               refine AList.move rfl rfl rfl ?_
               refine AList.skip rfl rfl ?_
               refine AList.skip rfl rfl ?_
               refine AList.skip rfl rfl ?_
               refine AList.skip rfl rfl ?_
               refine AList.skip rfl rfl ?_
               refine AList.skip rfl rfl ?_
               refine AList.skip rfl rfl ?_
               refine AList.skip rfl rfl ?_
               refine AList.skip rfl rfl ?_
               refine AList.skip rfl rfl ?_
               refine AList.pickF rfl rfl rfl rfl ?_
               refine AList.nil ⟨by kernel_rfl, ?_⟩)
            | (refine AWp.region (id := 14) ?_
               refine AList.fieldPt tyOk rfl rfl rfl rfl rfl rfl rfl ?_
               refine AList.load1 tyOk rfl rfl rfl rfl rfl rfl rfl oM oM ?_
               refine AList.move rfl rfl rfl ?_
               refine AList.idx (k := k) tyOk rfl rfl rfl rfl rfl rfl rfl rfl (by first | rfl | omega) oM oM ?_
               refine AList.load1l tyOk rfl rfl rfl rfl rfl oM ?_
               refine AList.move rfl rfl rfl ?_
               refine AList.cmpF rfl rfl rfl rfl rfl cmF ?_
               refine AList.nil ?_))
          refine ⟨k + 1, by omega, Wk.mk [(5, some 5), (10, some 10), (13, some 13), (14, some 14)] rfl rfl rfl ?_ ?_, by omega⟩
          · repeat (first | exact trivial | refine ⟨⟨_, rfl, by first | exact LeA.c (LeC.refl _ rfl) | exact LeA.c (LeC.ow _ _ rfl) | exact LeA.c (LeC.pt _ _ _ _ _ rfl) | exact LeA.c (LeC.nil _ rfl) | exact LeA.c (LeC.nils _ _) | (refine LeA.int ?_; omega) | (refine LeA.int ?_; dsimp only; omega) | exact LeA.c (LeC.fz rfl rfl (by first | rfl | omega) (fun i _ j _ => ⟨rfl, by first | rfl | exact rowN_imm (fun _ => rfl) _ i j | exact rowF_imm (fun _ => rfl) _ i j⟩))⟩, ?_⟩)
          · repeat (first | exact trivial | refine ⟨by first | exact HeapOk.same rfl rfl rfl rfl | exact HeapOk.lent rfl rfl rfl rfl | exact HeapOk.nil rfl rfl | exact HeapOk.row rfl rfl (by first | rfl | omega) (fun i _ j _ => ⟨rfl, by first | rfl | exact rowN_imm (fun _ => rfl) _ i j | exact rowF_imm (fun _ => rfl) _ i j⟩) | exact HeapOk.box rfl rfl (by repeat (first | exact trivial | refine ⟨by first | exact LeC.refl _ rfl | exact LeC.ow _ _ rfl | exact LeC.nil _ rfl | exact LeC.nils _ _ | exact LeC.fz rfl rfl (by first | rfl | omega) (fun i _ j _ => ⟨rfl, by first | rfl | exact rowN_imm (fun _ => rfl) _ i j | exact rowF_imm (fun _ => rfl) _ i j⟩) | exact LeC.int (by omega), ?_⟩)) rfl, ?_⟩)
      · obtain rfl : k = Hn * Wn := by omega
        repeat (first
          | refine AWp.seq ?_
          | refine thenA_n ?_
          | refine AWp.exit ?_
          | refine AWp.condF rfl (by first | rfl | exact cmF) ?_
          | (refine AWp.region (id := 9) ?_
             refine AList.move rfl rfl rfl ?_
             refine AList.fieldPt tyOk rfl rfl rfl rfl rfl rfl rfl ?_
             refine AList.load1 tyOk rfl rfl rfl rfl rfl rfl rfl oM oM ?_
             refine AList.lenLs tyOk rfl rfl rfl rfl rfl ?_
             refine AList.cmpF rfl rfl rfl rfl rfl cmF ?_
             refine AList.nil ?_))
        refine AWp.weak (S' := mkSt 172 [(7, .c (bC true)), (8, .c (.ls L.length 3 (rowF bmC bmZ L))), (9, .c (.ls Y.length 4 (rowF mtC mtZ Y))), (10, .c (.pt 10 3 0 0))] [(10, ⟨false, 1, 3, 27, lF (imgV Wn Hn (Hn * Wn) f)⟩)] [10]) (Wk.mk [(10, some 10)] rfl rfl rfl ?_ ?_) ?_
        · repeat (first | exact trivial | refine ⟨⟨_, rfl, by first | exact LeA.c (LeC.refl _ rfl) | exact LeA.c (LeC.ow _ _ rfl) | exact LeA.c (LeC.pt _ _ _ _ _ rfl) | exact LeA.c (LeC.nil _ rfl) | exact LeA.c (LeC.nils _ _) | (refine LeA.int ?_; omega) | (refine LeA.int ?_; dsimp only; omega) | exact LeA.c (LeC.fz rfl rfl (by first | rfl | omega) (fun i _ j _ => ⟨rfl, by first | rfl | exact rowN_imm (fun _ => rfl) _ i j | exact rowF_imm (fun _ => rfl) _ i j⟩))⟩, ?_⟩)
        · repeat (first | exact trivial | refine ⟨by first | exact HeapOk.same rfl rfl rfl rfl | exact HeapOk.lent rfl rfl rfl rfl | exact HeapOk.nil rfl rfl | exact HeapOk.row rfl rfl (by first | rfl | omega) (fun i _ j _ => ⟨rfl, by first | rfl | exact rowN_imm (fun _ => rfl) _ i j | exact rowF_imm (fun _ => rfl) _ i j⟩) | exact HeapOk.box rfl rfl (by repeat (first | exact trivial | refine ⟨by first | exact LeC.refl _ rfl | exact LeC.ow _ _ rfl | exact LeC.nil _ rfl | exact LeC.nils _ _ | exact LeC.fz rfl rfl (by first | rfl | omega) (fun i _ j _ => ⟨rfl, by first | rfl | exact rowN_imm (fun _ => rfl) _ i j | exact rowF_imm (fun _ => rfl) _ i j⟩) | exact LeC.int (by omega), ?_⟩)) rfl, ?_⟩)
        clear hF
        by_cases hL0 : L.length = 0
        · have e := hx.none hL0
          obtain rfl : Wn = 0 := by have := congrArg Im.W e; dsimp only at this; omega
          obtain rfl : Hn = 0 := by have := congrArg Im.H e; dsimp only at this; omega
          have hB : ACalls Try.prog 14 [.ag (imgV ((0 : Nat) : Int) ((0 : Nat) : Int) (0 * 0) f)] (.c (.ls 0 4 (rcF []))) := by
            have h := pBlocks_A ((0 : Nat) : Int) ((0 : Nat) : Int) (0 * 0) f (by omega)
            have e : blkL ((0 : Nat) : Int) ((0 : Nat) : Int) (0 * 0) f = [] := by unfold blkL; rw [if_pos hok]; rfl
            rw [e] at h
            exact h
          repeat (first
            | refine AWp.seq ?_
            | refine thenA_n ?_
            | refine AWp.ret ?_
            | refine thenA_r ?_
            | refine AWp.condT rfl (by first | rfl | exact cmT) ?_
            | (refine AWp.region (id := 16) ?_
               refine AList.loadA tyOk rfl rfl rfl rfl rfl rfl rfl oM oM ?_
               refine AList.call rfl rfl rfl rfl Try.func14 rfl (by kernel_rfl) (hB) ?_
               refine AList.assign rfl rfl rfl ?_
               refine AList.nil ?_)
            | (refine AWp.region (id := 17) ?_
               refine AList.move rfl rfl rfl ?_
               refine AList.lenLs tyOk rfl rfl rfl rfl rfl ?_
               refine AList.cmpT rfl rfl rfl rfl rfl cmT ?_
               refine AList.nil ?_)
            | (refine AWp.region (id := 18) ?_
               refine AList.move rfl rfl rfl ?_
               refine AList.move rfl rfl rfl ?_
               refine AList.move rfl rfl rfl ?_
               refine AList.lenLs tyOk rfl rfl rfl rfl rfl ?_
               refine AList.cmpT rfl rfl rfl rfl rfl cmT ?_
               refine AList.pickT rfl rfl rfl rfl ?_
               refine AList.assign rfl rfl rfl ?_
               refine AList.nil ?_))
          refine ⟨_, rfl, mkSt 172 [(6, .c (bC true))] [] [], [], Wk.mk [] rfl rfl rfl ?_ trivial, rfl, rfl, ARets.one (x := .c _) (ARes.tmp rfl rfl)⟩
          repeat (first | exact trivial | refine ⟨⟨_, rfl, by first | exact LeA.c (LeC.refl _ rfl) | exact LeA.c (LeC.ow _ _ rfl) | exact LeA.c (LeC.pt _ _ _ _ _ rfl) | exact LeA.c (LeC.nil _ rfl) | exact LeA.c (LeC.nils _ _) | (refine LeA.int ?_; omega) | (refine LeA.int ?_; dsimp only; omega) | exact LeA.c (LeC.fz rfl rfl (by first | rfl | omega) (fun i _ j _ => ⟨rfl, by first | rfl | exact rowN_imm (fun _ => rfl) _ i j | exact rowF_imm (fun _ => rfl) _ i j⟩))⟩, ?_⟩)
        · have hLp : 0 < L.length := by omega
          have hYp : 0 < Y.length := by have := hx.1; omega
          obtain ⟨f', e, hfp⟩ := hx.some hL0
          obtain rfl : Wn = 13 := by have := congrArg Im.W e; dsimp only at this; omega
          obtain rfl : Hn = 11 := by have := congrArg Im.H e; dsimp only at this; omega
          obtain rfl : f = f' := congrArg Im.f e
          have hpx2 := pix3 hfp
          have hP := iPut_k hx hLp
          have hB : ACalls Try.prog 14 [.ag (imgV ((13 : Nat) : Int) ((11 : Nat) : Int) (11 * 13) f)] (.c (.ls (blocks 13 11 143 f).length 4 (rcF (blocks 13 11 143 f)))) := by
            have h := pBlocks_A ((13 : Nat) : Int) ((11 : Nat) : Int) (11 * 13) f (by omega)
            rw [← blkL_13 hpx2]
            exact h
          have hbl : (blocks 13 11 143 f).length ≤ 12 := bls_len 13 11 143 f 12
          obtain ⟨B, hBe⟩ : ∃ B, B = blocks 13 11 143 f := ⟨_, rfl⟩
          rw [← hBe] at hB hbl
          repeat (first
            | refine AWp.seq ?_
            | refine thenA_n ?_
            | refine AWp.block ?_
            | refine AWp.skip ?_
            | refine AWp.condF rfl (by first | rfl | exact cmF) ?_
            | (refine AWp.region (id := 16) ?_
               refine AList.loadA tyOk rfl rfl rfl rfl rfl rfl rfl oM oM ?_
               refine AList.call rfl rfl rfl rfl Try.func14 rfl (by kernel_rfl) (hB) ?_
               refine AList.assign rfl rfl rfl ?_
               refine AList.nil ?_)
            | (refine AWp.region (id := 17) ?_
               refine AList.move rfl rfl rfl ?_
               refine AList.lenLs tyOk rfl rfl rfl rfl rfl ?_
               refine AList.cmpF rfl rfl rfl rfl rfl cmF ?_
               refine AList.nil ?_)
            | (refine AWp.region (id := 19) ?_
               refine AList.assign rfl rfl rfl ?_
               refine AList.nil ?_))
          refine AWp.round (fun k : Nat => mkSt 172 [(7, .c (bC true)), (8, .c (.ls L.length 3 (rowF bmC bmZ L))), (9, .c (.ls Y.length 4 (rowF mtC mtZ Y))), (10, .c (.pt 10 3 0 0)), (18, .c (.ls B.length 4 (rcF B))), (19, .c (iC k))] [(10, ⟨false, 1, 3, 27, lF (imgV ((13 : Nat) : Int) ((11 : Nat) : Int) (11 * 13) f)⟩)] [10])
            (fun k => k ≤ B.length) (fun k => B.length - k) 0 (Nat.zero_le _) ?_ (fun k hk => ?_)
          · refine Wk.mk [(10, some 10)] rfl rfl rfl ?_ ?_
            · repeat (first | exact trivial | refine ⟨⟨_, rfl, by first | exact LeA.c (LeC.refl _ rfl) | exact LeA.c (LeC.ow _ _ rfl) | exact LeA.c (LeC.pt _ _ _ _ _ rfl) | exact LeA.c (LeC.nil _ rfl) | exact LeA.c (LeC.nils _ _) | (refine LeA.int ?_; omega) | (refine LeA.int ?_; dsimp only; omega) | exact LeA.c (LeC.fz rfl rfl (by first | rfl | omega) (fun i _ j _ => ⟨rfl, by first | rfl | exact rowN_imm (fun _ => rfl) _ i j | exact rowF_imm (fun _ => rfl) _ i j⟩))⟩, ?_⟩)
            · repeat (first | exact trivial | refine ⟨by first | exact HeapOk.same rfl rfl rfl rfl | exact HeapOk.lent rfl rfl rfl rfl | exact HeapOk.nil rfl rfl | exact HeapOk.row rfl rfl (by first | rfl | omega) (fun i _ j _ => ⟨rfl, by first | rfl | exact rowN_imm (fun _ => rfl) _ i j | exact rowF_imm (fun _ => rfl) _ i j⟩) | exact HeapOk.box rfl rfl (by repeat (first | exact trivial | refine ⟨by first | exact LeC.refl _ rfl | exact LeC.ow _ _ rfl | exact LeC.nil _ rfl | exact LeC.nils _ _ | exact LeC.fz rfl rfl (by first | rfl | omega) (fun i _ j _ => ⟨rfl, by first | rfl | exact rowN_imm (fun _ => rfl) _ i j | exact rowF_imm (fun _ => rfl) _ i j⟩) | exact LeC.int (by omega), ?_⟩)) rfl, ?_⟩)
          · by_cases hlt : k < B.length
            · have hFk := pFill_k (L := L) (Y := Y) hpx2 0 (B.getD k rcZ)
              have hpx3 := fillF_px (W := 13) (L := L) (Y := Y) (k := 0) (r := B.getD k rcZ) hpx2
              have hB2 := pBlocks_A 13 11 143 (fillF 13 f (putK L Y 0) (B.getD k rcZ)) (by omega)
              have hcut : blkL 13 11 143 (fillF 13 f (putK L Y 0) (B.getD k rcZ)) = B.take k ++ B.drop (k + 1) := by
                rw [blkL_13 hpx3, hBe]
                refine blocks_fill f (putK L Y 0) (fun p _ => by have := putK_bd L Y 0 p; omega) ?_
                rw [← hBe, List.getD_eq_getElem?_getD, List.getElem?_eq_getElem hlt]
                rfl
              rw [hcut] at hB2
              have hcl : (B.take k ++ B.drop (k + 1)).length = k + (B.length - (k + 1)) := by rw [List.length_append, List.length_take, List.length_drop]; omega
              have hS := SameRS_A (B.take k ++ B.drop (k + 1)) (by rw [hcl]; omega)
              repeat (first
                | refine AWp.seq ?_
                | refine thenA_n ?_
                | refine AWp.block ?_
                | refine AWp.skip ?_
                | refine AWp.condT rfl (by first | rfl | exact cmT) ?_
                | (refine AWp.region (id := 20) ?_
                   refine AList.move rfl rfl rfl ?_
                   refine AList.move rfl rfl rfl ?_
                   refine AList.lenLs tyOk rfl rfl rfl rfl rfl ?_
                   refine AList.cmpT rfl rfl rfl rfl rfl cmT ?_
                   refine AList.nil ?_)
                | (refine AWp.draw (id := 22) mixed ?_
                   refine AList.move rfl rfl rfl ?_
                   refine AList.idx (k := 0) tyOk rfl rfl rfl rfl rfl rfl rfl rfl (by first | rfl | omega) oM oM ?_
                   refine AList.loadAl tyOk rfl rfl rfl rfl rfl oM ?_
                   refine AList.move rfl rfl rfl ?_
                   refine AList.idx (k := 0) tyOk rfl rfl rfl rfl rfl rfl rfl rfl (by first | rfl | omega) oM oM ?_
                   refine AList.fieldPl tyOk rfl rfl rfl rfl rfl rfl rfl ?_
                   refine AList.load1l tyOk rfl rfl rfl rfl rfl oM ?_
                   refine AList.move rfl rfl rfl ?_
                   refine AList.idx (k := 0) tyOk rfl rfl rfl rfl rfl rfl rfl rfl (by first | rfl | omega) oM oM ?_
                   refine AList.fieldPl tyOk rfl rfl rfl rfl rfl rfl rfl ?_
                   refine AList.load1l tyOk rfl rfl rfl rfl rfl oM ?_
                   refine AList.call rfl rfl rfl rfl Try.func22 rfl (by kernel_rfl) (hP) ?_
                   refine AList.move rfl rfl rfl ?_
                   refine AList.extract rfl rfl rfl rfl ?_
                   refine AList.extract rfl rfl rfl rfl ?_
                   refine AList.alloc tyOk rfl rfl rfl rfl rfl ?_
                   refine AList.store tyOk rfl rfl rfl rfl rfl rfl rfl rfl oM oM ?_
                   refine AList.assign rfl rfl rfl ?_
                   refine AList.nil ⟨by kernel_rfl, ?_⟩)
                | (refine AWp.draw (id := 23) mixed ?_
                   refine AList.loadA tyOk rfl rfl rfl rfl rfl rfl rfl oM oM ?_
                   refine AList.loadA tyOk rfl rfl rfl rfl rfl rfl rfl oM oM ?_
                   refine AList.move rfl rfl rfl ?_
                   refine AList.move rfl rfl rfl ?_
                   refine AList.idx (k := k) tyOk rfl rfl rfl rfl rfl rfl rfl rfl (by first | rfl | omega) oM oM ?_
                   refine AList.loadAl tyOk rfl rfl rfl rfl rfl oM ?_
                   refine AList.call rfl rfl rfl rfl Try.func16 rfl (by kernel_rfl) (hFk) ?_
                   refine AList.move rfl rfl rfl ?_
                   refine AList.extract rfl rfl rfl rfl ?_
                   refine AList.extract rfl rfl rfl rfl ?_
                   refine AList.alloc tyOk rfl rfl rfl rfl rfl ?_
                   refine AList.store tyOk rfl rfl rfl rfl rfl rfl rfl rfl oM oM ?_
                   refine AList.assign rfl rfl rfl ?_
                   refine AList.nil ⟨by kernel_rfl, ?_⟩)
                | (refine AWp.draw (id := 24) mixed ?_
                   refine AList.emptySl tyOk rfl rfl rfl rfl rfl rfl rfl ?_
                   refine AList.move rfl rfl rfl ?_
                   refine AList.move rfl rfl rfl ?_
                   refine AList.cut (l := 0) (h := k) tyOk rfl rfl rfl rfl rfl rfl rfl rfl ⟨_, _, rfl, by first | rfl | omega⟩ (by omega) (by omega) ?_
                   refine AList.appL0 tyOk rfl rfl rfl rfl rfl rfl rfl rfl rfl rfl oM oM ?_
                   refine AList.move rfl rfl rfl ?_
                   refine AList.move rfl rfl rfl ?_
                   refine AList.add rfl rfl rfl rfl (by omega) (by omega) ?_
                   refine AList.cut (l := (k + 1)) (h := B.length) tyOk rfl rfl rfl rfl rfl rfl rfl ⟨_, _, rfl, by first | rfl | omega⟩ rfl (by omega) (by omega) ?_
                   refine AList.appL tyOk rfl rfl rfl rfl rfl rfl rfl rfl rfl rfl oM oM ?_
                   refine AList.assign rfl rfl rfl ?_
                   refine AList.nil ⟨by kernel_rfl, ?_⟩))
              refine AWp.weak (S' := mkSt 172 [(7, .c (bC true)), (8, .c (.ls L.length 3 (rowF bmC bmZ L))), (9, .c (.ls Y.length 4 (rowF mtC mtZ Y))), (10, .c (.pt 10 3 0 0)), (18, .c (.ls B.length 4 (rcF B))), (19, .c (iC k)), (21, .c (iC 0)), (22, .c (.pt 22 3 0 0)), (23, .c (iC 0)), (24, .c (.ls (B.take k ++ B.drop (k + 1)).length 4 (rcF (B.take k ++ B.drop (k + 1)))))]
                [(10, ⟨false, 1, 3, 27, lF (imgV ((13 : Nat) : Int) ((11 : Nat) : Int) (11 * 13) f)⟩), (22, ⟨false, 1, 3, 27, lF (imgV 13 11 143 (fillF 13 f (putK L Y 0) (B.getD k rcZ)))⟩)] [10, 22]) (Wk.mk [(10, some 10), (22, some 22)] rfl rfl rfl ?_ ?_) ?_
              · repeat (first | exact trivial | refine ⟨⟨_, rfl, by first | exact LeA.c (LeC.refl _ rfl) | exact LeA.c (LeC.ow _ _ rfl) | exact LeA.c (LeC.pt _ _ _ _ _ rfl) | exact LeA.c (LeC.nil _ rfl) | exact LeA.c (LeC.nils _ _) | (refine LeA.int ?_; omega) | (refine LeA.int ?_; dsimp only; omega) | exact LeA.c (LeC.fz rfl rfl (by first | rfl | omega) (fun i _ j _ => ⟨rfl, by first | rfl | exact rowN_imm (fun _ => rfl) _ i j | exact rowF_imm (fun _ => rfl) _ i j⟩))⟩, ?_⟩)
                refine ⟨⟨_, rfl, LeA.c (LeC.fz rfl rfl hcl fun i _ j _ => ⟨row_cut B hlt i j, (congrArg immC (row_cut B hlt i j)).trans (rowF_imm rcC_imm _ i j)⟩)⟩, trivial⟩
              · repeat (first | exact trivial | refine ⟨by first | exact HeapOk.same rfl rfl rfl rfl | exact HeapOk.lent rfl rfl rfl rfl | exact HeapOk.nil rfl rfl | exact HeapOk.row rfl rfl (by first | rfl | omega) (fun i _ j _ => ⟨rfl, by first | rfl | exact rowN_imm (fun _ => rfl) _ i j | exact rowF_imm (fun _ => rfl) _ i j⟩) | exact HeapOk.box rfl rfl (by repeat (first | exact trivial | refine ⟨by first | exact LeC.refl _ rfl | exact LeC.ow _ _ rfl | exact LeC.nil _ rfl | exact LeC.nils _ _ | exact LeC.fz rfl rfl (by first | rfl | omega) (fun i _ j _ => ⟨rfl, by first | rfl | exact rowN_imm (fun _ => rfl) _ i j | exact rowF_imm (fun _ => rfl) _ i j⟩) | exact LeC.int (by omega), ?_⟩)) rfl, ?_⟩)
              repeat (first
                | refine thenA_n ?_
                | refine AWp.skip ?_
                | refine inBlk_n ?_
                | refine AWp.condF rfl (by first | rfl | exact cmF) ?_
                | (refine AWp.region (id := 21) ?_
                   refine AList.move rfl rfl rfl ?_
                   refine AList.add rfl rfl rfl rfl (by omega) (by omega) ?_
                   refine AList.assign rfl rfl rfl ?_
                   refine AList.nil ?_)
                | (refine AWp.region (id := 25) ?_
                   refine AList.move rfl rfl rfl ?_
                   refine AList.cmp rfl rfl rfl rfl rfl ?_
                   refine AList.move rfl rfl rfl ?_
                   refine AList.move rfl rfl rfl ?_
                   refine AList.cmp rfl rfl rfl rfl rfl ?_
                   refine AList.pickF rfl rfl rfl rfl ?_
                   refine AList.move rfl rfl rfl ?_
                   refine AList.loadA tyOk rfl rfl rfl rfl rfl rfl rfl oM oM ?_
                   refine AList.call rfl rfl rfl rfl Try.func14 rfl (by kernel_rfl) (hB2) ?_
                   refine AList.move rfl rfl rfl ?_
                   refine AList.call rfl rfl rfl rfl Try.func13 rfl (by kernel_rfl) (hS) ?_
                   refine AList.notB rfl rfl rfl ?_
                   refine AList.pickF rfl rfl rfl rfl ?_
                   refine AList.nil ?_))
              refine ⟨k + 1, by omega, Wk.mk [(10, some 10)] rfl rfl rfl ?_ ?_, by omega⟩
              · repeat (first | exact trivial | refine ⟨⟨_, rfl, by first | exact LeA.c (LeC.refl _ rfl) | exact LeA.c (LeC.ow _ _ rfl) | exact LeA.c (LeC.pt _ _ _ _ _ rfl) | exact LeA.c (LeC.nil _ rfl) | exact LeA.c (LeC.nils _ _) | (refine LeA.int ?_; omega) | (refine LeA.int ?_; dsimp only; omega) | exact LeA.c (LeC.fz rfl rfl (by first | rfl | omega) (fun i _ j _ => ⟨rfl, by first | rfl | exact rowN_imm (fun _ => rfl) _ i j | exact rowF_imm (fun _ => rfl) _ i j⟩))⟩, ?_⟩)
              · repeat (first | exact trivial | refine ⟨by first | exact HeapOk.same rfl rfl rfl rfl | exact HeapOk.lent rfl rfl rfl rfl | exact HeapOk.nil rfl rfl | exact HeapOk.row rfl rfl (by first | rfl | omega) (fun i _ j _ => ⟨rfl, by first | rfl | exact rowN_imm (fun _ => rfl) _ i j | exact rowF_imm (fun _ => rfl) _ i j⟩) | exact HeapOk.box rfl rfl (by repeat (first | exact trivial | refine ⟨by first | exact LeC.refl _ rfl | exact LeC.ow _ _ rfl | exact LeC.nil _ rfl | exact LeC.nils _ _ | exact LeC.fz rfl rfl (by first | rfl | omega) (fun i _ j _ => ⟨rfl, by first | rfl | exact rowN_imm (fun _ => rfl) _ i j | exact rowF_imm (fun _ => rfl) _ i j⟩) | exact LeC.int (by omega), ?_⟩)) rfl, ?_⟩)
            · obtain rfl : k = B.length := by omega
              repeat (first
                | refine AWp.seq ?_
                | refine thenA_n ?_
                | refine AWp.exit ?_
                | refine AWp.ret ?_
                | refine AWp.condF rfl (by first | rfl | exact cmF) ?_
                | (refine AWp.region (id := 20) ?_
                   refine AList.move rfl rfl rfl ?_
                   refine AList.move rfl rfl rfl ?_
                   refine AList.lenLs tyOk rfl rfl rfl rfl rfl ?_
                   refine AList.cmpF rfl rfl rfl rfl rfl cmF ?_
                   refine AList.nil ?_)
                | (refine AWp.region (id := 27) ?_
                   refine AList.move rfl rfl rfl ?_
                   refine AList.assign rfl rfl rfl ?_
                   refine AList.nil ?_))
              refine ⟨_, rfl, mkSt 172 [(6, .c (bC true))] [] [], [], Wk.mk [] rfl rfl rfl ?_ trivial, rfl, rfl, ARets.one (x := .c _) (ARes.tmp rfl rfl)⟩
              repeat (first | exact trivial | refine ⟨⟨_, rfl, by first | exact LeA.c (LeC.refl _ rfl) | exact LeA.c (LeC.ow _ _ rfl) | exact LeA.c (LeC.pt _ _ _ _ _ rfl) | exact LeA.c (LeC.nil _ rfl) | exact LeA.c (LeC.nils _ _) | (refine LeA.int ?_; omega) | (refine LeA.int ?_; dsimp only; omega) | exact LeA.c (LeC.fz rfl rfl (by first | rfl | omega) (fun i _ j _ => ⟨rfl, by first | rfl | exact rowN_imm (fun _ => rfl) _ i j | exact rowF_imm (fun _ => rfl) _ i j⟩))⟩, ?_⟩)
  · have he : fillE Wn Hn (Hn * Wn) f Wm Hm (Hm * Wm) g = 13 := by unfold fillE; rw [if_pos hok, if_pos hok2, if_neg (by omega)]
    rw [fillV, if_neg (by rw [he]; decide), he] at hF
    repeat (first
      | refine AWp.seq ?_
      | refine thenA_n ?_
      | refine AWp.skip ?_
      | refine AWp.condF rfl (by first | rfl | exact cmF) ?_
      | (refine AWp.region (id := 4) ?_
         refine AList.loadA tyOk rfl rfl rfl rfl rfl rfl rfl oM oM ?_
         refine AList.loadA tyOk rfl rfl rfl rfl rfl rfl rfl oM oM ?_
         refine AList.loadA tyOk rfl rfl rfl rfl rfl rfl rfl oM oM ?_
         refine AList.call rfl rfl rfl rfl Try.func16 rfl (by kernel_rfl) (hF) ?_
         refine AList.move rfl rfl rfl ?_
         refine AList.extract rfl rfl rfl rfl ?_
         refine AList.extract rfl rfl rfl rfl ?_
         refine AList.alloc tyOk rfl rfl rfl rfl rfl ?_
         refine AList.store tyOk rfl rfl rfl rfl rfl rfl rfl rfl oM oM ?_
         refine AList.assign rfl rfl rfl ?_
         refine AList.nil ?_)
      | (refine AWp.region (id := 5) ?_
         refine AList.fieldPt tyOk rfl rfl rfl rfl rfl rfl rfl ?_
         refine AList.load1 tyOk rfl rfl rfl rfl rfl rfl rfl oM oM ?_
         refine AList.fieldPt tyOk rfl rfl rfl rfl rfl rfl rfl ?_
         refine AList.load1 tyOk rfl rfl rfl rfl rfl rfl rfl oM oM ?_
         refine AList.cmpF rfl rfl rfl rfl rfl cmF ?_
         refine AList.move rfl rfl rfl ?_
         refine AList.skip rfl rfl ?_
         refine AList.skip rfl rfl ?_
         refine AList.skip rfl rfl ?_
         refine AList.skip rfl rfl ?_
         refine AList.skip rfl rfl ?_
         refine AList.pickF rfl rfl rfl rfl ?_
         refine AList.nil ?_))
    refine AWp.weak (S' := mkSt 172 [(7, .c (bC true)), (8, .c (.ls L.length 3 (rowF bmC bmZ L))), (9, .c (.ls Y.length 4 (rowF mtC mtZ Y))), (10, .c (.pt 10 3 0 0))] [(10, ⟨false, 1, 3, 27, lF (imgV Wn Hn (Hn * Wn) f)⟩)] [10]) (Wk.mk [(10, some 10)] rfl rfl rfl ?_ ?_) ?_
    · repeat (first | exact trivial | refine ⟨⟨_, rfl, by first | exact LeA.c (LeC.refl _ rfl) | exact LeA.c (LeC.ow _ _ rfl) | exact LeA.c (LeC.pt _ _ _ _ _ rfl) | exact LeA.c (LeC.nil _ rfl) | exact LeA.c (LeC.nils _ _) | (refine LeA.int ?_; omega) | (refine LeA.int ?_; dsimp only; omega) | exact LeA.c (LeC.fz rfl rfl (by first | rfl | omega) (fun i _ j _ => ⟨rfl, by first | rfl | exact rowN_imm (fun _ => rfl) _ i j | exact rowF_imm (fun _ => rfl) _ i j⟩))⟩, ?_⟩)
    · repeat (first | exact trivial | refine ⟨by first | exact HeapOk.same rfl rfl rfl rfl | exact HeapOk.lent rfl rfl rfl rfl | exact HeapOk.nil rfl rfl | exact HeapOk.row rfl rfl (by first | rfl | omega) (fun i _ j _ => ⟨rfl, by first | rfl | exact rowN_imm (fun _ => rfl) _ i j | exact rowF_imm (fun _ => rfl) _ i j⟩) | exact HeapOk.box rfl rfl (by repeat (first | exact trivial | refine ⟨by first | exact LeC.refl _ rfl | exact LeC.ow _ _ rfl | exact LeC.nil _ rfl | exact LeC.nils _ _ | exact LeC.fz rfl rfl (by first | rfl | omega) (fun i _ j _ => ⟨rfl, by first | rfl | exact rowN_imm (fun _ => rfl) _ i j | exact rowF_imm (fun _ => rfl) _ i j⟩) | exact LeC.int (by omega), ?_⟩)) rfl, ?_⟩)
    clear hF
    by_cases hL0 : L.length = 0
    · have e := hx.none hL0
      obtain rfl : Wn = 0 := by have := congrArg Im.W e; dsimp only at this; omega
      obtain rfl : Hn = 0 := by have := congrArg Im.H e; dsimp only at this; omega
      have hB : ACalls Try.prog 14 [.ag (imgV ((0 : Nat) : Int) ((0 : Nat) : Int) (0 * 0) f)] (.c (.ls 0 4 (rcF []))) := by
        have h := pBlocks_A ((0 : Nat) : Int) ((0 : Nat) : Int) (0 * 0) f (by omega)
        have e : blkL ((0 : Nat) : Int) ((0 : Nat) : Int) (0 * 0) f = [] := by unfold blkL; rw [if_pos hok]; rfl
        rw [e] at h
        exact h
      repeat (first
        | refine AWp.seq ?_
        | refine thenA_n ?_
        | refine AWp.ret ?_
        | refine thenA_r ?_
        | refine AWp.condT rfl (by first | rfl | exact cmT) ?_
        | (refine AWp.region (id := 16) ?_
           refine AList.loadA tyOk rfl rfl rfl rfl rfl rfl rfl oM oM ?_
           refine AList.call rfl rfl rfl rfl Try.func14 rfl (by kernel_rfl) (hB) ?_
           refine AList.assign rfl rfl rfl ?_
           refine AList.nil ?_)
        | (refine AWp.region (id := 17) ?_
           refine AList.move rfl rfl rfl ?_
           refine AList.lenLs tyOk rfl rfl rfl rfl rfl ?_
           refine AList.cmpT rfl rfl rfl rfl rfl cmT ?_
           refine AList.nil ?_)
        | (refine AWp.region (id := 18) ?_
           refine AList.move rfl rfl rfl ?_
           refine AList.move rfl rfl rfl ?_
           refine AList.move rfl rfl rfl ?_
           refine AList.lenLs tyOk rfl rfl rfl rfl rfl ?_
           refine AList.cmpT rfl rfl rfl rfl rfl cmT ?_
           refine AList.pickT rfl rfl rfl rfl ?_
           refine AList.assign rfl rfl rfl ?_
           refine AList.nil ?_))
      refine ⟨_, rfl, mkSt 172 [(6, .c (bC true))] [] [], [], Wk.mk [] rfl rfl rfl ?_ trivial, rfl, rfl, ARets.one (x := .c _) (ARes.tmp rfl rfl)⟩
      repeat (first | exact trivial | refine ⟨⟨_, rfl, by first | exact LeA.c (LeC.refl _ rfl) | exact LeA.c (LeC.ow _ _ rfl) | exact LeA.c (LeC.pt _ _ _ _ _ rfl) | exact LeA.c (LeC.nil _ rfl) | exact LeA.c (LeC.nils _ _) | (refine LeA.int ?_; omega) | (refine LeA.int ?_; dsimp only; omega) | exact LeA.c (LeC.fz rfl rfl (by first | rfl | omega) (fun i _ j _ => ⟨rfl, by first | rfl | exact rowN_imm (fun _ => rfl) _ i j | exact rowF_imm (fun _ => rfl) _ i j⟩))⟩, ?_⟩)
    · have hLp : 0 < L.length := by omega
      have hYp : 0 < Y.length := by have := hx.1; omega
      obtain ⟨f', e, hfp⟩ := hx.some hL0
      obtain rfl : Wn = 13 := by have := congrArg Im.W e; dsimp only at this; omega
      obtain rfl : Hn = 11 := by have := congrArg Im.H e; dsimp only at this; omega
      obtain rfl : f = f' := congrArg Im.f e
      have hpx2 := pix3 hfp
      have hP := iPut_k hx hLp
      have hB : ACalls Try.prog 14 [.ag (imgV ((13 : Nat) : Int) ((11 : Nat) : Int) (11 * 13) f)] (.c (.ls (blocks 13 11 143 f).length 4 (rcF (blocks 13 11 143 f)))) := by
        have h := pBlocks_A ((13 : Nat) : Int) ((11 : Nat) : Int) (11 * 13) f (by omega)
        rw [← blkL_13 hpx2]
        exact h
      have hbl : (blocks 13 11 143 f).length ≤ 12 := bls_len 13 11 143 f 12
      obtain ⟨B, hBe⟩ : ∃ B, B = blocks 13 11 143 f := ⟨_, rfl⟩
      rw [← hBe] at hB hbl
      repeat (first
        | refine AWp.seq ?_
        | refine thenA_n ?_
        | refine AWp.block ?_
        | refine AWp.skip ?_
        | refine AWp.condF rfl (by first | rfl | exact cmF) ?_
        | (refine AWp.region (id := 16) ?_
           refine AList.loadA tyOk rfl rfl rfl rfl rfl rfl rfl oM oM ?_
           refine AList.call rfl rfl rfl rfl Try.func14 rfl (by kernel_rfl) (hB) ?_
           refine AList.assign rfl rfl rfl ?_
           refine AList.nil ?_)
        | (refine AWp.region (id := 17) ?_
           refine AList.move rfl rfl rfl ?_
           refine AList.lenLs tyOk rfl rfl rfl rfl rfl ?_
           refine AList.cmpF rfl rfl rfl rfl rfl cmF ?_
           refine AList.nil ?_)
        | (refine AWp.region (id := 19) ?_
           refine AList.assign rfl rfl rfl ?_
           refine AList.nil ?_))
      refine AWp.round (fun k : Nat => mkSt 172 [(7, .c (bC true)), (8, .c (.ls L.length 3 (rowF bmC bmZ L))), (9, .c (.ls Y.length 4 (rowF mtC mtZ Y))), (10, .c (.pt 10 3 0 0)), (18, .c (.ls B.length 4 (rcF B))), (19, .c (iC k))] [(10, ⟨false, 1, 3, 27, lF (imgV ((13 : Nat) : Int) ((11 : Nat) : Int) (11 * 13) f)⟩)] [10])
        (fun k => k ≤ B.length) (fun k => B.length - k) 0 (Nat.zero_le _) ?_ (fun k hk => ?_)
      · refine Wk.mk [(10, some 10)] rfl rfl rfl ?_ ?_
        · repeat (first | exact trivial | refine ⟨⟨_, rfl, by first | exact LeA.c (LeC.refl _ rfl) | exact LeA.c (LeC.ow _ _ rfl) | exact LeA.c (LeC.pt _ _ _ _ _ rfl) | exact LeA.c (LeC.nil _ rfl) | exact LeA.c (LeC.nils _ _) | (refine LeA.int ?_; omega) | (refine LeA.int ?_; dsimp only; omega) | exact LeA.c (LeC.fz rfl rfl (by first | rfl | omega) (fun i _ j _ => ⟨rfl, by first | rfl | exact rowN_imm (fun _ => rfl) _ i j | exact rowF_imm (fun _ => rfl) _ i j⟩))⟩, ?_⟩)
        · repeat (first | exact trivial | refine ⟨by first | exact HeapOk.same rfl rfl rfl rfl | exact HeapOk.lent rfl rfl rfl rfl | exact HeapOk.nil rfl rfl | exact HeapOk.row rfl rfl (by first | rfl | omega) (fun i _ j _ => ⟨rfl, by first | rfl | exact rowN_imm (fun _ => rfl) _ i j | exact rowF_imm (fun _ => rfl) _ i j⟩) | exact HeapOk.box rfl rfl (by repeat (first | exact trivial | refine ⟨by first | exact LeC.refl _ rfl | exact LeC.ow _ _ rfl | exact LeC.nil _ rfl | exact LeC.nils _ _ | exact LeC.fz rfl rfl (by first | rfl | omega) (fun i _ j _ => ⟨rfl, by first | rfl | exact rowN_imm (fun _ => rfl) _ i j | exact rowF_imm (fun _ => rfl) _ i j⟩) | exact LeC.int (by omega), ?_⟩)) rfl, ?_⟩)
      · by_cases hlt : k < B.length
        · have hFk := pFill_k (L := L) (Y := Y) hpx2 0 (B.getD k rcZ)
          have hpx3 := fillF_px (W := 13) (L := L) (Y := Y) (k := 0) (r := B.getD k rcZ) hpx2
          have hB2 := pBlocks_A 13 11 143 (fillF 13 f (putK L Y 0) (B.getD k rcZ)) (by omega)
          have hcut : blkL 13 11 143 (fillF 13 f (putK L Y 0) (B.getD k rcZ)) = B.take k ++ B.drop (k + 1) := by
            rw [blkL_13 hpx3, hBe]
            refine blocks_fill f (putK L Y 0) (fun p _ => by have := putK_bd L Y 0 p; omega) ?_
            rw [← hBe, List.getD_eq_getElem?_getD, List.getElem?_eq_getElem hlt]
            rfl
          rw [hcut] at hB2
          have hcl : (B.take k ++ B.drop (k + 1)).length = k + (B.length - (k + 1)) := by rw [List.length_append, List.length_take, List.length_drop]; omega
          have hS := SameRS_A (B.take k ++ B.drop (k + 1)) (by rw [hcl]; omega)
          repeat (first
            | refine AWp.seq ?_
            | refine thenA_n ?_
            | refine AWp.block ?_
            | refine AWp.skip ?_
            | refine AWp.condT rfl (by first | rfl | exact cmT) ?_
            | (refine AWp.region (id := 20) ?_
               refine AList.move rfl rfl rfl ?_
               refine AList.move rfl rfl rfl ?_
               refine AList.lenLs tyOk rfl rfl rfl rfl rfl ?_
               refine AList.cmpT rfl rfl rfl rfl rfl cmT ?_
               refine AList.nil ?_)
            | (refine AWp.draw (id := 22) mixed ?_
               refine AList.move rfl rfl rfl ?_
               refine AList.idx (k := 0) tyOk rfl rfl rfl rfl rfl rfl rfl rfl (by first | rfl | omega) oM oM ?_
               refine AList.loadAl tyOk rfl rfl rfl rfl rfl oM ?_
               refine AList.move rfl rfl rfl ?_
               refine AList.idx (k := 0) tyOk rfl rfl rfl rfl rfl rfl rfl rfl (by first | rfl | omega) oM oM ?_
               refine AList.fieldPl tyOk rfl rfl rfl rfl rfl rfl rfl ?_
               refine AList.load1l tyOk rfl rfl rfl rfl rfl oM ?_
               refine AList.move rfl rfl rfl ?_
               refine AList.idx (k := 0) tyOk rfl rfl rfl rfl rfl rfl rfl rfl (by first | rfl | omega) oM oM ?_
               refine AList.fieldPl tyOk rfl rfl rfl rfl rfl rfl rfl ?_
               refine AList.load1l tyOk rfl rfl rfl rfl rfl oM ?_
               refine AList.call rfl rfl rfl rfl Try.func22 rfl (by kernel_rfl) (hP) ?_
               refine AList.move rfl rfl rfl ?_
               refine AList.extract rfl rfl rfl rfl ?_
               refine AList.extract rfl rfl rfl rfl ?_
               refine AList.alloc tyOk rfl rfl rfl rfl rfl ?_
               refine AList.store tyOk rfl rfl rfl rfl rfl rfl rfl rfl oM oM ?_
               refine AList.assign rfl rfl rfl ?_
               refine AList.nil ⟨by kernel_rfl, ?_⟩)
            | (refine AWp.draw (id := 23) mixed ?_
               refine AList.loadA tyOk rfl rfl rfl rfl rfl rfl rfl oM oM ?_
               refine AList.loadA tyOk rfl rfl rfl rfl rfl rfl rfl oM oM ?_
               refine AList.move rfl rfl rfl ?_
               refine AList.move rfl rfl rfl ?_
               refine AList.idx (k := k) tyOk rfl rfl rfl rfl rfl rfl rfl rfl (by first | rfl | omega) oM oM ?_
               refine AList.loadAl tyOk rfl rfl rfl rfl rfl oM ?_
               refine AList.call rfl rfl rfl rfl Try.func16 rfl (by kernel_rfl) (hFk) ?_
               refine AList.move rfl rfl rfl ?_
               refine AList.extract rfl rfl rfl rfl ?_
               refine AList.extract rfl rfl rfl rfl ?_
               refine AList.alloc tyOk rfl rfl rfl rfl rfl ?_
               refine AList.store tyOk rfl rfl rfl rfl rfl rfl rfl rfl oM oM ?_
               refine AList.assign rfl rfl rfl ?_
               refine AList.nil ⟨by kernel_rfl, ?_⟩)
            | (refine AWp.draw (id := 24) mixed ?_
               refine AList.emptySl tyOk rfl rfl rfl rfl rfl rfl rfl ?_
               refine AList.move rfl rfl rfl ?_
               refine AList.move rfl rfl rfl ?_
               refine AList.cut (l := 0) (h := k) tyOk rfl rfl rfl rfl rfl rfl rfl rfl ⟨_, _, rfl, by first | rfl | omega⟩ (by omega) (by omega) ?_
               refine AList.appL0 tyOk rfl rfl rfl rfl rfl rfl rfl rfl rfl rfl oM oM ?_
               refine AList.move rfl rfl rfl ?_
               refine AList.move rfl rfl rfl ?_
               refine AList.add rfl rfl rfl rfl (by omega) (by omega) ?_
               refine AList.cut (l := (k + 1)) (h := B.length) tyOk rfl rfl rfl rfl rfl rfl rfl ⟨_, _, rfl, by first | rfl | omega⟩ rfl (by omega) (by omega) ?_
               refine AList.appL tyOk rfl rfl rfl rfl rfl rfl rfl rfl rfl rfl oM oM ?_
               refine AList.assign rfl rfl rfl ?_
               refine AList.nil ⟨by kernel_rfl, ?_⟩))
          refine AWp.weak (S' := mkSt 172 [(7, .c (bC true)), (8, .c (.ls L.length 3 (rowF bmC bmZ L))), (9, .c (.ls Y.length 4 (rowF mtC mtZ Y))), (10, .c (.pt 10 3 0 0)), (18, .c (.ls B.length 4 (rcF B))), (19, .c (iC k)), (21, .c (iC 0)), (22, .c (.pt 22 3 0 0)), (23, .c (iC 0)), (24, .c (.ls (B.take k ++ B.drop (k + 1)).length 4 (rcF (B.take k ++ B.drop (k + 1)))))]
            [(10, ⟨false, 1, 3, 27, lF (imgV ((13 : Nat) : Int) ((11 : Nat) : Int) (11 * 13) f)⟩), (22, ⟨false, 1, 3, 27, lF (imgV 13 11 143 (fillF 13 f (putK L Y 0) (B.getD k rcZ)))⟩)] [10, 22]) (Wk.mk [(10, some 10), (22, some 22)] rfl rfl rfl ?_ ?_) ?_
          · repeat (first | exact trivial | refine ⟨⟨_, rfl, by first | exact LeA.c (LeC.refl _ rfl) | exact LeA.c (LeC.ow _ _ rfl) | exact LeA.c (LeC.pt _ _ _ _ _ rfl) | exact LeA.c (LeC.nil _ rfl) | exact LeA.c (LeC.nils _ _) | (refine LeA.int ?_; omega) | (refine LeA.int ?_; dsimp only; omega) | exact LeA.c (LeC.fz rfl rfl (by first | rfl | omega) (fun i _ j _ => ⟨rfl, by first | rfl | exact rowN_imm (fun _ => rfl) _ i j | exact rowF_imm (fun _ => rfl) _ i j⟩))⟩, ?_⟩)
            refine ⟨⟨_, rfl, LeA.c (LeC.fz rfl rfl hcl fun i _ j _ => ⟨row_cut B hlt i j, (congrArg immC (row_cut B hlt i j)).trans (rowF_imm rcC_imm _ i j)⟩)⟩, trivial⟩
          · repeat (first | exact trivial | refine ⟨by first | exact HeapOk.same rfl rfl rfl rfl | exact HeapOk.lent rfl rfl rfl rfl | exact HeapOk.nil rfl rfl | exact HeapOk.row rfl rfl (by first | rfl | omega) (fun i _ j _ => ⟨rfl, by first | rfl | exact rowN_imm (fun _ => rfl) _ i j | exact rowF_imm (fun _ => rfl) _ i j⟩) | exact HeapOk.box rfl rfl (by repeat (first | exact trivial | refine ⟨by first | exact LeC.refl _ rfl | exact LeC.ow _ _ rfl | exact LeC.nil _ rfl | exact LeC.nils _ _ | exact LeC.fz rfl rfl (by first | rfl | omega) (fun i _ j _ => ⟨rfl, by first | rfl | exact rowN_imm (fun _ => rfl) _ i j | exact rowF_imm (fun _ => rfl) _ i j⟩) | exact LeC.int (by omega), ?_⟩)) rfl, ?_⟩)
          repeat (first
            | refine thenA_n ?_
            | refine AWp.skip ?_
            | refine inBlk_n ?_
            | refine AWp.condF rfl (by first | rfl | exact cmF) ?_
            | (refine AWp.region (id := 21) ?_
               refine AList.move rfl rfl rfl ?_
               refine AList.add rfl rfl rfl rfl (by omega) (by omega) ?_
               refine AList.assign rfl rfl rfl ?_
               refine AList.nil ?_)
            | (refine AWp.region (id := 25) ?_
               refine AList.move rfl rfl rfl ?_
               refine AList.cmp rfl rfl rfl rfl rfl ?_
               refine AList.move rfl rfl rfl ?_
               refine AList.move rfl rfl rfl ?_
               refine AList.cmp rfl rfl rfl rfl rfl ?_
               refine AList.pickF rfl rfl rfl rfl ?_
               refine AList.move rfl rfl rfl ?_
               refine AList.loadA tyOk rfl rfl rfl rfl rfl rfl rfl oM oM ?_
               refine AList.call rfl rfl rfl rfl Try.func14 rfl (by kernel_rfl) (hB2) ?_
               refine AList.move rfl rfl rfl ?_
               refine AList.call rfl rfl rfl rfl Try.func13 rfl (by kernel_rfl) (hS) ?_
               refine AList.notB rfl rfl rfl ?_
               refine AList.pickF rfl rfl rfl rfl ?_
               refine AList.nil ?_))
          refine ⟨k + 1, by omega, Wk.mk [(10, some 10)] rfl rfl rfl ?_ ?_, by omega⟩
          · repeat (first | exact trivial | refine ⟨⟨_, rfl, by first | exact LeA.c (LeC.refl _ rfl) | exact LeA.c (LeC.ow _ _ rfl) | exact LeA.c (LeC.pt _ _ _ _ _ rfl) | exact LeA.c (LeC.nil _ rfl) | exact LeA.c (LeC.nils _ _) | (refine LeA.int ?_; omega) | (refine LeA.int ?_; dsimp only; omega) | exact LeA.c (LeC.fz rfl rfl (by first | rfl | omega) (fun i _ j _ => ⟨rfl, by first | rfl | exact rowN_imm (fun _ => rfl) _ i j | exact rowF_imm (fun _ => rfl) _ i j⟩))⟩, ?_⟩)
          · repeat (first | exact trivial | refine ⟨by first | exact HeapOk.same rfl rfl rfl rfl | exact HeapOk.lent rfl rfl rfl rfl | exact HeapOk.nil rfl rfl | exact HeapOk.row rfl rfl (by first | rfl | omega) (fun i _ j _ => ⟨rfl, by first | rfl | exact rowN_imm (fun _ => rfl) _ i j | exact rowF_imm (fun _ => rfl) _ i j⟩) | exact HeapOk.box rfl rfl (by repeat (first | exact trivial | refine ⟨by first | exact LeC.refl _ rfl | exact LeC.ow _ _ rfl | exact LeC.nil _ rfl | exact LeC.nils _ _ | exact LeC.fz rfl rfl (by first | rfl | omega) (fun i _ j _ => ⟨rfl, by first | rfl | exact rowN_imm (fun _ => rfl) _ i j | exact rowF_imm (fun _ => rfl) _ i j⟩) | exact LeC.int (by omega), ?_⟩)) rfl, ?_⟩)
        · obtain rfl : k = B.length := by omega
          repeat (first
            | refine AWp.seq ?_
            | refine thenA_n ?_
            | refine AWp.exit ?_
            | refine AWp.ret ?_
            | refine AWp.condF rfl (by first | rfl | exact cmF) ?_
            | (refine AWp.region (id := 20) ?_
               refine AList.move rfl rfl rfl ?_
               refine AList.move rfl rfl rfl ?_
               refine AList.lenLs tyOk rfl rfl rfl rfl rfl ?_
               refine AList.cmpF rfl rfl rfl rfl rfl cmF ?_
               refine AList.nil ?_)
            | (refine AWp.region (id := 27) ?_
               refine AList.move rfl rfl rfl ?_
               refine AList.assign rfl rfl rfl ?_
               refine AList.nil ?_))
          refine ⟨_, rfl, mkSt 172 [(6, .c (bC true))] [] [], [], Wk.mk [] rfl rfl rfl ?_ trivial, rfl, rfl, ARets.one (x := .c _) (ARes.tmp rfl rfl)⟩
          repeat (first | exact trivial | refine ⟨⟨_, rfl, by first | exact LeA.c (LeC.refl _ rfl) | exact LeA.c (LeC.ow _ _ rfl) | exact LeA.c (LeC.pt _ _ _ _ _ rfl) | exact LeA.c (LeC.nil _ rfl) | exact LeA.c (LeC.nils _ _) | (refine LeA.int ?_; omega) | (refine LeA.int ?_; dsimp only; omega) | exact LeA.c (LeC.fz rfl rfl (by first | rfl | omega) (fun i _ j _ => ⟨rfl, by first | rfl | exact rowN_imm (fun _ => rfl) _ i j | exact rowF_imm (fun _ => rfl) _ i j⟩))⟩, ?_⟩)
end Go.Proofs.Ytcdnpnbjloaihaa
end
