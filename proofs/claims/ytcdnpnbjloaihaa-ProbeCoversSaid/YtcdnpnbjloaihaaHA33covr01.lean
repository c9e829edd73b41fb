/- ProbeCovers: the statement. No condition. -/
import Derived.Test.YtcdnpnbjloaihaaG35
import Derived.Test.YtcdnpnbjloaihaaRows
import Derived.Test.YtcdnpnbjloaihaaG36
set_option linter.unusedSimpArgs false
set_option linter.unusedVariables false
section
/- Chapter 33: the law ProbeCovers over plain values. -/
namespace Go.Proofs.Ytcdnpnbjloaihaa
open Go.RowKit Go.Flow Go.AV Go.Plain
def cvU (W : Nat) (f : Nat → Int) (L : List Rc) (k : Nat) (i : Nat) : Bool := decide (f k = 2) && inP W (L.getD i rcZ) k
set_option maxHeartbeats 1000000 in
set_option maxRecDepth 100000 in
theorem ProbeCovers_A (c : Case) (hc : c.ok) : ECalls Try.prog 5 [.ag (caC c)] (fun v => v = .c (bC true)) := by
  refine ecalls_at Try.func5 rfl rfl Try.ntmps5 rfl ?_
  repeat (first
    | refine AWp.seq ?_
    | (refine AWp.region (id := 0) ?_
       refine AList.box rfl rfl rfl rfl rfl ?_
       refine AList.assign rfl rfl rfl ?_
       refine AList.nil ?_)
    | (refine AWp.region (id := 1) ?_
       refine AList.call rfl rfl rfl rfl Try.func9 rfl (by kernel_rfl) (sanity_A) ?_
       refine AList.assign rfl rfl rfl ?_
       refine AList.nil ?_))
  refine AWp.text ?_
  refine AText.split 1 ?_
  refine AList.loadA tyOk rfl rfl rfl rfl rfl rfl rfl oM oM ?_
  refine AList.nil ?_
  refine AText.callE rfl rfl rfl rfl Try.func10 rfl (by kernel_rfl) (made_E c hc) ?_
  rintro _ ⟨L0, Y0, x, hx, rfl⟩
  refine AText.all ?_
  refine AList.move rfl rfl rfl ?_
  refine AList.extract rfl rfl rfl rfl ?_
  refine AList.extract rfl rfl rfl rfl ?_
  refine AList.extract rfl rfl rfl rfl ?_
  refine AList.alloc tyOk rfl rfl rfl rfl rfl ?_
  refine AList.assign rfl rfl rfl ?_
  refine AList.assign rfl rfl rfl ?_
  refine AList.store tyOk rfl rfl rfl rfl rfl rfl rfl rfl oM oM ?_
  refine AList.nil ?_
  obtain ⟨Wn, Hn, f, rfl, hW, hH, hpx, hok⟩ := hx.im
  have hn : Hn * Wn ≤ 143 := by have := Nat.mul_le_mul hH hW; omega
  have hB := pBlocks_A Wn Hn (Hn * Wn) f (by omega)
  have hBl : blkL Wn Hn (Hn * Wn) f = blocks Wn Hn (Hn * Wn) f := by unfold blkL; rw [if_pos hok]; rfl
  have hLn := blk_len (W := Wn) (H := Hn) (n := Hn * Wn) (f := f)
  rw [hBl] at hB hLn
  obtain ⟨L, hL⟩ : ∃ L, L = blocks Wn Hn (Hn * Wn) f := ⟨_, rfl⟩
  rw [← hL] at hB hLn
  repeat (first
    | refine AWp.seq ?_
    | refine thenA_n ?_
    | refine AWp.block ?_
    | (refine AWp.region (id := 3) ?_
       refine AList.loadA tyOk rfl rfl rfl rfl rfl rfl rfl oM oM ?_
       refine AList.call rfl rfl rfl rfl Try.func14 rfl (by kernel_rfl) (hB) ?_
       refine AList.assign rfl rfl rfl ?_
       refine AList.nil ?_)
    | (refine AWp.region (id := 4) ?_
       refine AList.move rfl rfl rfl ?_
       refine AList.lenLs tyOk rfl rfl rfl rfl rfl ?_
       refine AList.makeSl (n := L.length) tyOk rfl rfl rfl rfl rfl rfl rfl rfl rfl (by first | rfl | omega) (by first | rfl | omega) oM oM ?_
       refine AList.assign rfl rfl rfl ?_
       refine AList.nil ?_)
    | (refine AWp.region (id := 5) ?_
       refine AList.assign rfl rfl rfl ?_
       refine AList.nil ?_))
  refine AWp.round (fun s : Nat × (Nat → Bool) => mkSt 189 [(3, .c (bC true)), (6, .c (.pt 6 3 0 0)), (7, .c (.ls L.length 4 (rcF L))), (8, .c (.ow 25)), (9, .c (iC s.1))] [(6, ⟨false, 1, 3, 27, lF (imgV Wn Hn (Hn * Wn) f)⟩), (25, ⟨true, L.length, 1, 4, bF s.2⟩)] [6, 25])
    (fun s => s.1 ≤ Hn * Wn ∧ ∀ i, i < L.length → ∀ p, p < s.1 → cvU Wn f L p i = true → s.2 i = true) (fun s => Hn * Wn - s.1) (0, fun _ => false) ⟨Nat.zero_le _, fun i _ p hp => absurd hp (Nat.not_lt_zero _)⟩ ?_ (fun s hs => ?_)
  · refine Wk.mk [(6, some 6), (25, some 25)] rfl rfl rfl ?_ ?_
    · repeat (first | exact trivial | refine ⟨⟨_, rfl, by first | exact LeA.c (LeC.refl _ rfl) | exact LeA.c (LeC.ow _ _ rfl) | exact LeA.c (LeC.pt _ _ _ _ _ rfl) | exact LeA.c (LeC.nil _ rfl) | exact LeA.c (LeC.nils _ _) | (refine LeA.int ?_; omega) | (refine LeA.int ?_; dsimp only; omega) | exact LeA.c (LeC.fz rfl rfl (by first | rfl | omega) (fun i _ j _ => ⟨rfl, by first | rfl | exact rowN_imm (fun _ => rfl) _ i j | exact rowF_imm (fun _ => rfl) _ i j⟩))⟩, ?_⟩)
    · repeat (first | exact trivial | refine ⟨by first | exact HeapOk.same rfl rfl rfl rfl | exact HeapOk.lent rfl rfl rfl rfl | exact HeapOk.nil rfl rfl | exact HeapOk.row rfl rfl (by first | rfl | omega) (fun i _ j _ => ⟨rfl, by first | rfl | exact rowN_imm (fun _ => rfl) _ i j | exact rowF_imm (fun _ => rfl) _ i j⟩) | exact HeapOk.box rfl rfl (by repeat (first | exact trivial | refine ⟨by first | exact LeC.refl _ rfl | exact LeC.ow _ _ rfl | exact LeC.nil _ rfl | exact LeC.nils _ _ | exact LeC.fz rfl rfl (by first | rfl | omega) (fun i _ j _ => ⟨rfl, by first | rfl | exact rowN_imm (fun _ => rfl) _ i j | exact rowF_imm (fun _ => rfl) _ i j⟩) | exact LeC.int (by omega), ?_⟩)) rfl, ?_⟩)
      exact ⟨HeapOk.row rfl rfl rfl (fun i _ => cell1 ⟨rfl, rfl⟩), trivial⟩
  · obtain ⟨k, s⟩ := s
    obtain ⟨hk, hs⟩ := hs
    dsimp only at hk hs
    dsimp only
    by_cases hlt : k < Hn * Wn
    · have hWp : 0 < Wn := by
        rcases Nat.eq_zero_or_pos Wn with h | h
        · rw [h, Nat.mul_zero] at hlt; omega
        · exact h
      repeat (first
        | refine AWp.seq ?_
        | refine thenA_n ?_
        | refine AWp.block ?_
        | refine AWp.skip ?_
        | refine AWp.condT rfl (by first | rfl | exact cmT) ?_
        | (refine AWp.region (id := 6) ?_
           refine AList.move rfl rfl rfl ?_
           refine AList.fieldPt tyOk rfl rfl rfl rfl rfl rfl rfl ?_
           refine AList.load1 tyOk rfl rfl rfl rfl rfl rfl rfl oM oM ?_
           refine AList.lenLs tyOk rfl rfl rfl rfl rfl ?_
           refine AList.cmpT rfl rfl rfl rfl rfl cmT ?_
           refine AList.nil ?_)
        | (refine AWp.region (id := 8) ?_
           refine AList.assign rfl rfl rfl ?_
           refine AList.nil ?_)
        | (refine AWp.region (id := 9) ?_
           refine AList.assign rfl rfl rfl ?_
           refine AList.nil ?_))
      refine AWp.round (fun t : Nat × (Nat → Bool) => mkSt 189 [(3, .c (bC true)), (6, .c (.pt 6 3 0 0)), (7, .c (.ls L.length 4 (rcF L))), (8, .c (.ow 25)), (9, .c (iC k)), (10, .c (iC (cnt (cvU Wn f L k) t.1))), (11, .c (iC t.1))] [(6, ⟨false, 1, 3, 27, lF (imgV Wn Hn (Hn * Wn) f)⟩), (25, ⟨true, L.length, 1, 4, bF t.2⟩)] [6, 25])
        (fun t => t.1 ≤ L.length ∧ (∀ i, i < L.length → s i = true → t.2 i = true) ∧ ∀ i, i < t.1 → cvU Wn f L k i = true → t.2 i = true) (fun t => L.length - t.1) (0, s) ⟨Nat.zero_le _, fun _ _ h => h, fun i hi => absurd hi (Nat.not_lt_zero _)⟩ ?_ (fun t ht => ?_)
      · refine Wk.mk [(6, some 6), (25, some 25)] rfl rfl rfl ?_ ?_
        · repeat (first | exact trivial | refine ⟨⟨_, rfl, by first | exact LeA.c (LeC.refl _ rfl) | exact LeA.c (LeC.ow _ _ rfl) | exact LeA.c (LeC.pt _ _ _ _ _ rfl) | exact LeA.c (LeC.nil _ rfl) | exact LeA.c (LeC.nils _ _) | (refine LeA.int ?_; omega) | (refine LeA.int ?_; dsimp only; omega) | exact LeA.c (LeC.fz rfl rfl (by first | rfl | omega) (fun i _ j _ => ⟨rfl, by first | rfl | exact rowN_imm (fun _ => rfl) _ i j | exact rowF_imm (fun _ => rfl) _ i j⟩))⟩, ?_⟩)
        · repeat (first | exact trivial | refine ⟨by first | exact HeapOk.same rfl rfl rfl rfl | exact HeapOk.lent rfl rfl rfl rfl | exact HeapOk.nil rfl rfl | exact HeapOk.row rfl rfl (by first | rfl | omega) (fun i _ j _ => ⟨rfl, by first | rfl | exact rowN_imm (fun _ => rfl) _ i j | exact rowF_imm (fun _ => rfl) _ i j⟩) | exact HeapOk.box rfl rfl (by repeat (first | exact trivial | refine ⟨by first | exact LeC.refl _ rfl | exact LeC.ow _ _ rfl | exact LeC.nil _ rfl | exact LeC.nils _ _ | exact LeC.fz rfl rfl (by first | rfl | omega) (fun i _ j _ => ⟨rfl, by first | rfl | exact rowN_imm (fun _ => rfl) _ i j | exact rowF_imm (fun _ => rfl) _ i j⟩) | exact LeC.int (by omega), ?_⟩)) rfl, ?_⟩)
      · obtain ⟨i, t⟩ := t
        obtain ⟨hi, ht1, ht2⟩ := ht
        dsimp only at hi ht1 ht2
        dsimp only
        have hc0 := cnt_nonneg (cvU Wn f L k) i
        have hc1 := cnt_le (cvU Wn f L k) i
        have hcs := cnt_succ (cvU Wn f L k) i
        by_cases hlti : i < L.length
        · have hin := in_A (L.getD i rcZ) ((k : Int) % Wn) ((k : Int) / Wn)
          have hinv : ∀ t' : Nat → Bool, (∀ j, t j = true → t' j = true) → (cvU Wn f L k i = true → t' i = true) → (∀ j, j < L.length → s j = true → t' j = true) ∧ ∀ j, j < i + 1 → cvU Wn f L k j = true → t' j = true := fun t' h1 h2 => ⟨fun j h3 h4 => h1 j (ht1 j h3 h4), fun j h3 h4 => by
            by_cases h : j = i
            · subst h; exact h2 h4
            · exact h1 j (ht2 j (by omega) h4)⟩
          by_cases hf2 : f k = 2
          · cases hiv : inP Wn (L.getD i rcZ) k with
            | true =>
              have hcu : cvU Wn f L k i = true := by unfold cvU; rw [hiv, decide_eq_true hf2]; rfl
              rw [hcu, if_pos rfl] at hcs
              unfold inP at hiv
              rw [hiv] at hin
              repeat (first
                | refine AWp.seq ?_
                | refine thenA_n ?_
                | refine AWp.block ?_
                | refine AWp.skip ?_
                | refine inBlk_n ?_
                | refine AWp.condT rfl (by first | rfl | exact cmT) ?_
                | (refine AWp.region (id := 10) ?_
                   refine AList.move rfl rfl rfl ?_
                   refine AList.move rfl rfl rfl ?_
                   refine AList.lenLs tyOk rfl rfl rfl rfl rfl ?_
                   refine AList.cmpT rfl rfl rfl rfl rfl cmT ?_
                   refine AList.nil ?_)
                | (refine AWp.region (id := 11) ?_
                   refine AList.move rfl rfl rfl ?_
                   refine AList.add rfl rfl rfl rfl (by omega) (by omega) ?_
                   refine AList.assign rfl rfl rfl ?_
                   refine AList.nil ?_)
                | (refine AWp.draw (id := 12) mixed ?_
                   refine AList.fieldPt tyOk rfl rfl rfl rfl rfl rfl rfl ?_
                   refine AList.load1 tyOk rfl rfl rfl rfl rfl rfl rfl oM oM ?_
                   refine AList.move rfl rfl rfl ?_
                   refine AList.idx (k := k) tyOk rfl rfl rfl rfl rfl rfl rfl rfl (by first | rfl | omega) oM oM ?_
                   refine AList.load1l tyOk rfl rfl rfl rfl rfl oM ?_
                   refine AList.cmpT rfl rfl rfl rfl rfl cmT ?_
                   refine AList.move rfl rfl rfl ?_
                   refine AList.move rfl rfl rfl ?_
                   refine AList.move rfl rfl rfl ?_
                   refine AList.idx (k := i) tyOk rfl rfl rfl rfl rfl rfl rfl rfl (by first | rfl | omega) oM oM ?_
                   refine AList.loadAl tyOk rfl rfl rfl rfl rfl oM ?_
                   refine AList.move rfl rfl rfl ?_
                   refine AList.fieldPt tyOk rfl rfl rfl rfl rfl rfl rfl ?_
                   refine AList.load1 tyOk rfl rfl rfl rfl rfl rfl rfl oM oM ?_
                   refine AList.rem rfl rfl rfl rfl (by omega) (by omega) ?_
                   refine AList.move rfl rfl rfl ?_
                   refine AList.fieldPt tyOk rfl rfl rfl rfl rfl rfl rfl ?_
                   refine AList.load1 tyOk rfl rfl rfl rfl rfl rfl rfl oM oM ?_
                   refine AList.quo rfl rfl rfl rfl (by omega) (by omega) (by omega) ?_
                   refine AList.call rfl rfl rfl rfl Try.func21 rfl (by kernel_rfl) (hin) ?_
                   refine AList.pickT rfl rfl rfl rfl ?_
                   refine AList.nil ⟨by kernel_rfl, ?_⟩)
                | (refine AWp.region (id := 13) ?_
                   refine AList.move rfl rfl rfl ?_
                   refine AList.add rfl rfl rfl rfl (by omega) (by omega) ?_
                   refine AList.assign rfl rfl rfl ?_
                   refine AList.nil ?_)
                | (refine AWp.region (id := 14) ?_
                   refine AList.move rfl rfl rfl ?_
                   refine AList.move rfl rfl rfl ?_
                   refine AList.idxOw (k := i) tyOk rfl rfl rfl rfl rfl rfl rfl rfl rfl rfl (by first | rfl | omega) oM ?_
                   refine AList.store tyOk rfl rfl rfl rfl rfl rfl rfl rfl oM oM ?_
                   refine AList.nil ?_))
              refine ⟨(i + 1, fun j => if j = i then true else t j), ⟨by dsimp only; omega, hinv _ (fun j h => by dsimp only; split; rfl; exact h) fun _ => if_pos rfl⟩, Wk.mk [(6, some 6), (25, some 25)] rfl rfl rfl ?_ ?_, by dsimp only; omega⟩
              · repeat (first | exact trivial | refine ⟨⟨_, rfl, by first | exact LeA.c (LeC.refl _ rfl) | exact LeA.c (LeC.ow _ _ rfl) | exact LeA.c (LeC.pt _ _ _ _ _ rfl) | exact LeA.c (LeC.nil _ rfl) | exact LeA.c (LeC.nils _ _) | (refine LeA.int ?_; omega) | (refine LeA.int ?_; dsimp only; omega) | exact LeA.c (LeC.fz rfl rfl (by first | rfl | omega) (fun i _ j _ => ⟨rfl, by first | rfl | exact rowN_imm (fun _ => rfl) _ i j | exact rowF_imm (fun _ => rfl) _ i j⟩))⟩, ?_⟩)
              · repeat (first | exact trivial | refine ⟨by first | exact HeapOk.same rfl rfl rfl rfl | exact HeapOk.lent rfl rfl rfl rfl | exact HeapOk.nil rfl rfl | exact HeapOk.row rfl rfl (by first | rfl | omega) (fun i _ j _ => ⟨rfl, by first | rfl | exact rowN_imm (fun _ => rfl) _ i j | exact rowF_imm (fun _ => rfl) _ i j⟩) | exact HeapOk.box rfl rfl (by repeat (first | exact trivial | refine ⟨by first | exact LeC.refl _ rfl | exact LeC.ow _ _ rfl | exact LeC.nil _ rfl | exact LeC.nils _ _ | exact LeC.fz rfl rfl (by first | rfl | omega) (fun i _ j _ => ⟨rfl, by first | rfl | exact rowN_imm (fun _ => rfl) _ i j | exact rowF_imm (fun _ => rfl) _ i j⟩) | exact LeC.int (by omega), ?_⟩)) rfl, ?_⟩)
                exact ⟨HeapOk.row rfl rfl rfl (set_oneB (fun j => if j = i then true else t j) (if_pos rfl) (fun j h => if_neg h)), trivial⟩
            | false =>
              have hcu : cvU Wn f L k i = false := by unfold cvU; rw [hiv, Bool.and_false]
              rw [hcu] at hcs
              simp only [Bool.false_eq_true, if_false] at hcs
              unfold inP at hiv
              rw [hiv] at hin
              repeat (first
                | refine AWp.seq ?_
                | refine thenA_n ?_
                | refine AWp.block ?_
                | refine AWp.skip ?_
                | refine inBlk_n ?_
                | refine AWp.condT rfl (by first | rfl | exact cmT) ?_
                | refine AWp.condF rfl (by first | rfl | exact cmF) ?_
                | (refine AWp.region (id := 10) ?_
                   refine AList.move rfl rfl rfl ?_
                   refine AList.move rfl rfl rfl ?_
                   refine AList.lenLs tyOk rfl rfl rfl rfl rfl ?_
                   refine AList.cmpT rfl rfl rfl rfl rfl cmT ?_
                   refine AList.nil ?_)
                | (refine AWp.region (id := 11) ?_
                   refine AList.move rfl rfl rfl ?_
                   refine AList.add rfl rfl rfl rfl (by omega) (by omega) ?_
                   refine AList.assign rfl rfl rfl ?_
                   refine AList.nil ?_)
                | (refine AWp.draw (id := 12) mixed ?_
                   refine AList.fieldPt tyOk rfl rfl rfl rfl rfl rfl rfl ?_
                   refine AList.load1 tyOk rfl rfl rfl rfl rfl rfl rfl oM oM ?_
                   refine AList.move rfl rfl rfl ?_
                   refine AList.idx (k := k) tyOk rfl rfl rfl rfl rfl rfl rfl rfl (by first | rfl | omega) oM oM ?_
                   refine AList.load1l tyOk rfl rfl rfl rfl rfl oM ?_
                   refine AList.cmpT rfl rfl rfl rfl rfl cmT ?_
                   refine AList.move rfl rfl rfl ?_
                   refine AList.move rfl rfl rfl ?_
                   refine AList.move rfl rfl rfl ?_
                   refine AList.idx (k := i) tyOk rfl rfl rfl rfl rfl rfl rfl rfl (by first | rfl | omega) oM oM ?_
                   refine AList.loadAl tyOk rfl rfl rfl rfl rfl oM ?_
                   refine AList.move rfl rfl rfl ?_
                   refine AList.fieldPt tyOk rfl rfl rfl rfl rfl rfl rfl ?_
                   refine AList.load1 tyOk rfl rfl rfl rfl rfl rfl rfl oM oM ?_
                   refine AList.rem rfl rfl rfl rfl (by omega) (by omega) ?_
                   refine AList.move rfl rfl rfl ?_
                   refine AList.fieldPt tyOk rfl rfl rfl rfl rfl rfl rfl ?_
                   refine AList.load1 tyOk rfl rfl rfl rfl rfl rfl rfl oM oM ?_
                   refine AList.quo rfl rfl rfl rfl (by omega) (by omega) (by omega) ?_
                   refine AList.call rfl rfl rfl rfl Try.func21 rfl (by kernel_rfl) (hin) ?_
                   refine AList.pickT rfl rfl rfl rfl ?_
                   refine AList.nil ⟨by kernel_rfl, ?_⟩))
              refine ⟨(i + 1, t), ⟨by dsimp only; omega, hinv _ (fun j h => h) fun h => by rw [hcu] at h; cases h⟩, Wk.mk [(6, some 6), (25, some 25)] rfl rfl rfl ?_ ?_, by dsimp only; omega⟩
              · repeat (first | exact trivial | refine ⟨⟨_, rfl, by first | exact LeA.c (LeC.refl _ rfl) | exact LeA.c (LeC.ow _ _ rfl) | exact LeA.c (LeC.pt _ _ _ _ _ rfl) | exact LeA.c (LeC.nil _ rfl) | exact LeA.c (LeC.nils _ _) | (refine LeA.int ?_; omega) | (refine LeA.int ?_; dsimp only; omega) | exact LeA.c (LeC.fz rfl rfl (by first | rfl | omega) (fun i _ j _ => ⟨rfl, by first | rfl | exact rowN_imm (fun _ => rfl) _ i j | exact rowF_imm (fun _ => rfl) _ i j⟩))⟩, ?_⟩)
              · repeat (first | exact trivial | refine ⟨by first | exact HeapOk.same rfl rfl rfl rfl | exact HeapOk.lent rfl rfl rfl rfl | exact HeapOk.nil rfl rfl | exact HeapOk.row rfl rfl (by first | rfl | omega) (fun i _ j _ => ⟨rfl, by first | rfl | exact rowN_imm (fun _ => rfl) _ i j | exact rowF_imm (fun _ => rfl) _ i j⟩) | exact HeapOk.box rfl rfl (by repeat (first | exact trivial | refine ⟨by first | exact LeC.refl _ rfl | exact LeC.ow _ _ rfl | exact LeC.nil _ rfl | exact LeC.nils _ _ | exact LeC.fz rfl rfl (by first | rfl | omega) (fun i _ j _ => ⟨rfl, by first | rfl | exact rowN_imm (fun _ => rfl) _ i j | exact rowF_imm (fun _ => rfl) _ i j⟩) | exact LeC.int (by omega), ?_⟩)) rfl, ?_⟩)
          · have hcu : cvU Wn f L k i = false := by unfold cvU; rw [decide_eq_false hf2, Bool.false_and]
            rw [hcu] at hcs
            simp only [Bool.false_eq_true, if_false] at hcs
            repeat (first
              | refine AWp.seq ?_
              | refine thenA_n ?_
              | refine AWp.block ?_
              | refine AWp.skip ?_
              | refine inBlk_n ?_
              | refine AWp.condT rfl (by first | rfl | exact cmT) ?_
              | refine AWp.condF rfl (by first | rfl | exact cmF) ?_
              | (refine AWp.region (id := 10) ?_
                 refine AList.move rfl rfl rfl ?_
                 refine AList.move rfl rfl rfl ?_
                 refine AList.lenLs tyOk rfl rfl rfl rfl rfl ?_
                 refine AList.cmpT rfl rfl rfl rfl rfl cmT ?_
                 refine AList.nil ?_)
              | (refine AWp.region (id := 11) ?_
                 refine AList.move rfl rfl rfl ?_
                 refine AList.add rfl rfl rfl rfl (by omega) (by omega) ?_
                 refine AList.assign rfl rfl rfl ?_
                 refine AList.nil ?_)
              | (refine AWp.draw (id := 12) mixed ?_
                 refine AList.fieldPt tyOk rfl rfl rfl rfl rfl rfl rfl ?_
                 refine AList.load1 tyOk rfl rfl rfl rfl rfl rfl rfl oM oM ?_
                 refine AList.move rfl rfl rfl ?_
                 refine AList.idx (k := k) tyOk rfl rfl rfl rfl rfl rfl rfl rfl (by first | rfl | omega) oM oM ?_
                 refine AList.load1l tyOk rfl rfl rfl rfl rfl oM ?_
                 refine AList.cmpF rfl rfl rfl rfl rfl cmF ?_
                 refine AList.move rfl rfl rfl ?_
                 refine AList.skip rfl rfl ?_
                 refine AList.skip rfl rfl ?_
                 refine AList.skip rfl rfl ?_
                 refine AList.skip rfl rfl ?_
                 refine AList.skip rfl rfl ?_
                 refine AList.skip rfl rfl ?_
                 refine AList.skip rfl rfl ?_
                 refine AList.skip rfl rfl ?_
                 refine AList.skip rfl rfl ?_
                 refine AList.skip rfl rfl ?_
                 refine AList.skip rfl rfl ?_
                 refine AList.skip rfl rfl ?_
                 refine AList.skip rfl rfl ?_
                 refine AList.pickF rfl rfl rfl rfl ?_
                 refine AList.nil ⟨by kernel_rfl, ?_⟩))
            refine ⟨(i + 1, t), ⟨by dsimp only; omega, hinv _ (fun j h => h) fun h => by rw [hcu] at h; cases h⟩, Wk.mk [(6, some 6), (25, some 25)] rfl rfl rfl ?_ ?_, by dsimp only; omega⟩
            · repeat (first | exact trivial | refine ⟨⟨_, rfl, by first | exact LeA.c (LeC.refl _ rfl) | exact LeA.c (LeC.ow _ _ rfl) | exact LeA.c (LeC.pt _ _ _ _ _ rfl) | exact LeA.c (LeC.nil _ rfl) | exact LeA.c (LeC.nils _ _) | (refine LeA.int ?_; omega) | (refine LeA.int ?_; dsimp only; omega) | exact LeA.c (LeC.fz rfl rfl (by first | rfl | omega) (fun i _ j _ => ⟨rfl, by first | rfl | exact rowN_imm (fun _ => rfl) _ i j | exact rowF_imm (fun _ => rfl) _ i j⟩))⟩, ?_⟩)
            · repeat (first | exact trivial | refine ⟨by first | exact HeapOk.same rfl rfl rfl rfl | exact HeapOk.lent rfl rfl rfl rfl | exact HeapOk.nil rfl rfl | exact HeapOk.row rfl rfl (by first | rfl | omega) (fun i _ j _ => ⟨rfl, by first | rfl | exact rowN_imm (fun _ => rfl) _ i j | exact rowF_imm (fun _ => rfl) _ i j⟩) | exact HeapOk.box rfl rfl (by repeat (first | exact trivial | refine ⟨by first | exact LeC.refl _ rfl | exact LeC.ow _ _ rfl | exact LeC.nil _ rfl | exact LeC.nils _ _ | exact LeC.fz rfl rfl (by first | rfl | omega) (fun i _ j _ => ⟨rfl, by first | rfl | exact rowN_imm (fun _ => rfl) _ i j | exact rowF_imm (fun _ => rfl) _ i j⟩) | exact LeC.int (by omega), ?_⟩)) rfl, ?_⟩)
        · obtain rfl : i = L.length := by omega
          have hend : ∀ j, j < L.length → ∀ p, p < k + 1 → cvU Wn f L p j = true → t j = true := fun j hj p hp h => by
            by_cases e : p = k
            · subst e; exact ht2 j hj h
            · exact ht1 j hj (hs j hj p (by omega) h)
          by_cases hf2 : f k = 2
          · have hone : cnt (cvU Wn f L k) L.length = 1 := by
              obtain ⟨i0, r, h1, h2, h3⟩ := covers (W := Wn) (H := Hn) (f := f) hlt hf2
              rw [← hL] at h1 h3
              have hi0 : i0 < L.length := (List.getElem?_eq_some_iff.1 h1).1
              refine cnt_one (i := i0) ?_ hi0 fun j hj hu => ?_
              · unfold cvU
                rw [decide_eq_true hf2, List.getD_eq_getElem?_getD, h1]
                exact h2
              · unfold cvU at hu
                rw [decide_eq_true hf2, List.getD_eq_getElem?_getD, List.getElem?_eq_getElem hj] at hu
                exact h3 j _ (List.getElem?_eq_getElem hj) hu
            rw [hone] at hc0 hc1 ⊢
            repeat (first
              | refine AWp.seq ?_
              | refine thenA_n ?_
              | refine AWp.skip ?_
              | refine AWp.exit ?_
              | refine inBlk_n ?_
              | refine AWp.condF rfl (by first | rfl | exact cmF) ?_
              | (refine AWp.region (id := 7) ?_
                 refine AList.move rfl rfl rfl ?_
                 refine AList.add rfl rfl rfl rfl (by omega) (by omega) ?_
                 refine AList.assign rfl rfl rfl ?_
                 refine AList.nil ?_)
              | (refine AWp.region (id := 10) ?_
                 refine AList.move rfl rfl rfl ?_
                 refine AList.move rfl rfl rfl ?_
                 refine AList.lenLs tyOk rfl rfl rfl rfl rfl ?_
                 refine AList.cmpF rfl rfl rfl rfl rfl cmF ?_
                 refine AList.nil ?_)
              | (refine AWp.region (id := 15) ?_
                 refine AList.fieldPt tyOk rfl rfl rfl rfl rfl rfl rfl ?_
                 refine AList.load1 tyOk rfl rfl rfl rfl rfl rfl rfl oM oM ?_
                 refine AList.move rfl rfl rfl ?_
                 refine AList.idx (k := k) tyOk rfl rfl rfl rfl rfl rfl rfl rfl (by first | rfl | omega) oM oM ?_
                 refine AList.load1l tyOk rfl rfl rfl rfl rfl oM ?_
                 refine AList.cmpT rfl rfl rfl rfl rfl cmT ?_
                 refine AList.move rfl rfl rfl ?_
                 refine AList.move rfl rfl rfl ?_
                 refine AList.cmp rfl rfl rfl rfl rfl ?_
                 refine AList.pickT rfl rfl rfl rfl ?_
                 refine AList.nil ?_))
            refine ⟨(k + 1, t), ⟨by dsimp only; omega, hend⟩, Wk.mk [(6, some 6), (25, some 25)] rfl rfl rfl ?_ ?_, by dsimp only; omega⟩
            · repeat (first | exact trivial | refine ⟨⟨_, rfl, by first | exact LeA.c (LeC.refl _ rfl) | exact LeA.c (LeC.ow _ _ rfl) | exact LeA.c (LeC.pt _ _ _ _ _ rfl) | exact LeA.c (LeC.nil _ rfl) | exact LeA.c (LeC.nils _ _) | (refine LeA.int ?_; omega) | (refine LeA.int ?_; dsimp only; omega) | exact LeA.c (LeC.fz rfl rfl (by first | rfl | omega) (fun i _ j _ => ⟨rfl, by first | rfl | exact rowN_imm (fun _ => rfl) _ i j | exact rowF_imm (fun _ => rfl) _ i j⟩))⟩, ?_⟩)
            · repeat (first | exact trivial | refine ⟨by first | exact HeapOk.same rfl rfl rfl rfl | exact HeapOk.lent rfl rfl rfl rfl | exact HeapOk.nil rfl rfl | exact HeapOk.row rfl rfl (by first | rfl | omega) (fun i _ j _ => ⟨rfl, by first | rfl | exact rowN_imm (fun _ => rfl) _ i j | exact rowF_imm (fun _ => rfl) _ i j⟩) | exact HeapOk.box rfl rfl (by repeat (first | exact trivial | refine ⟨by first | exact LeC.refl _ rfl | exact LeC.ow _ _ rfl | exact LeC.nil _ rfl | exact LeC.nils _ _ | exact LeC.fz rfl rfl (by first | rfl | omega) (fun i _ j _ => ⟨rfl, by first | rfl | exact rowN_imm (fun _ => rfl) _ i j | exact rowF_imm (fun _ => rfl) _ i j⟩) | exact LeC.int (by omega), ?_⟩)) rfl, ?_⟩)
          · repeat (first
              | refine AWp.seq ?_
              | refine thenA_n ?_
              | refine AWp.skip ?_
              | refine AWp.exit ?_
              | refine inBlk_n ?_
              | refine AWp.condF rfl (by first | rfl | exact cmF) ?_
              | (refine AWp.region (id := 7) ?_
                 refine AList.move rfl rfl rfl ?_
                 refine AList.add rfl rfl rfl rfl (by omega) (by omega) ?_
                 refine AList.assign rfl rfl rfl ?_
                 refine AList.nil ?_)
              | (refine AWp.region (id := 10) ?_
                 refine AList.move rfl rfl rfl ?_
                 refine AList.move rfl rfl rfl ?_
                 refine AList.lenLs tyOk rfl rfl rfl rfl rfl ?_
                 refine AList.cmpF rfl rfl rfl rfl rfl cmF ?_
                 refine AList.nil ?_)
              | (refine AWp.region (id := 15) ?_
                 refine AList.fieldPt tyOk rfl rfl rfl rfl rfl rfl rfl ?_
                 refine AList.load1 tyOk rfl rfl rfl rfl rfl rfl rfl oM oM ?_
                 refine AList.move rfl rfl rfl ?_
                 refine AList.idx (k := k) tyOk rfl rfl rfl rfl rfl rfl rfl rfl (by first | rfl | omega) oM oM ?_
                 refine AList.load1l tyOk rfl rfl rfl rfl rfl oM ?_
                 refine AList.cmpF rfl rfl rfl rfl rfl cmF ?_
                 refine AList.move rfl rfl rfl ?_
                 refine AList.skip rfl rfl ?_
                 refine AList.skip rfl rfl ?_
                 refine AList.pickF rfl rfl rfl rfl ?_
                 refine AList.nil ?_))
            refine ⟨(k + 1, t), ⟨by dsimp only; omega, hend⟩, Wk.mk [(6, some 6), (25, some 25)] rfl rfl rfl ?_ ?_, by dsimp only; omega⟩
            · repeat (first | exact trivial | refine ⟨⟨_, rfl, by first | exact LeA.c (LeC.refl _ rfl) | exact LeA.c (LeC.ow _ _ rfl) | exact LeA.c (LeC.pt _ _ _ _ _ rfl) | exact LeA.c (LeC.nil _ rfl) | exact LeA.c (LeC.nils _ _) | (refine LeA.int ?_; omega) | (refine LeA.int ?_; dsimp only; omega) | exact LeA.c (LeC.fz rfl rfl (by first | rfl | omega) (fun i _ j _ => ⟨rfl, by first | rfl | exact rowN_imm (fun _ => rfl) _ i j | exact rowF_imm (fun _ => rfl) _ i j⟩))⟩, ?_⟩)
            · repeat (first | exact trivial | refine ⟨by first | exact HeapOk.same rfl rfl rfl rfl | exact HeapOk.lent rfl rfl rfl rfl | exact HeapOk.nil rfl rfl | exact HeapOk.row rfl rfl (by first | rfl | omega) (fun i _ j _ => ⟨rfl, by first | rfl | exact rowN_imm (fun _ => rfl) _ i j | exact rowF_imm (fun _ => rfl) _ i j⟩) | exact HeapOk.box rfl rfl (by repeat (first | exact trivial | refine ⟨by first | exact LeC.refl _ rfl | exact LeC.ow _ _ rfl | exact LeC.nil _ rfl | exact LeC.nils _ _ | exact LeC.fz rfl rfl (by first | rfl | omega) (fun i _ j _ => ⟨rfl, by first | rfl | exact rowN_imm (fun _ => rfl) _ i j | exact rowF_imm (fun _ => rfl) _ i j⟩) | exact LeC.int (by omega), ?_⟩)) rfl, ?_⟩)
    · obtain rfl : k = Hn * Wn := by omega
      have hall : ∀ i, i < L.length → s i = true := fun i hi => by
        obtain ⟨p, h1, h2, h3⟩ := covered (W := Wn) (H := Hn) (n := Hn * Wn) (i := i) (f := f) (by rw [← hL]; exact List.getElem?_eq_getElem hi)
        refine hs i hi p h1 ?_
        unfold cvU
        rw [decide_eq_true h2, List.getD_eq_getElem?_getD, List.getElem?_eq_getElem hi]
        exact h3
      repeat (first
        | refine AWp.seq ?_
        | refine thenA_n ?_
        | refine AWp.block ?_
        | refine AWp.exit ?_
        | refine AWp.condF rfl (by first | rfl | exact cmF) ?_
        | (refine AWp.region (id := 6) ?_
           refine AList.move rfl rfl rfl ?_
           refine AList.fieldPt tyOk rfl rfl rfl rfl rfl rfl rfl ?_
           refine AList.load1 tyOk rfl rfl rfl rfl rfl rfl rfl oM oM ?_
           refine AList.lenLs tyOk rfl rfl rfl rfl rfl ?_
           refine AList.cmpF rfl rfl rfl rfl rfl cmF ?_
           refine AList.nil ?_)
        | (refine AWp.region (id := 17) ?_
           refine AList.assign rfl rfl rfl ?_
           refine AList.nil ?_))
      refine AWp.round (fun i : Nat => mkSt 189 [(3, .c (bC true)), (6, .c (.pt 6 3 0 0)), (7, .c (.ls L.length 4 (rcF L))), (8, .c (.ow 25)), (12, .c (iC i))] [(6, ⟨false, 1, 3, 27, lF (imgV Wn Hn (Hn * Wn) f)⟩), (25, ⟨true, L.length, 1, 4, bF (fun _ => true)⟩)] [6, 25])
        (fun i => i ≤ L.length) (fun i => L.length - i) 0 (Nat.zero_le _) ?_ (fun i hi => ?_)
      · refine Wk.mk [(6, some 6), (25, some 25)] rfl rfl rfl ?_ ?_
        · repeat (first | exact trivial | refine ⟨⟨_, rfl, by first | exact LeA.c (LeC.refl _ rfl) | exact LeA.c (LeC.ow _ _ rfl) | exact LeA.c (LeC.pt _ _ _ _ _ rfl) | exact LeA.c (LeC.nil _ rfl) | exact LeA.c (LeC.nils _ _) | (refine LeA.int ?_; omega) | (refine LeA.int ?_; dsimp only; omega) | exact LeA.c (LeC.fz rfl rfl (by first | rfl | omega) (fun i _ j _ => ⟨rfl, by first | rfl | exact rowN_imm (fun _ => rfl) _ i j | exact rowF_imm (fun _ => rfl) _ i j⟩))⟩, ?_⟩)
        · repeat (first | exact trivial | refine ⟨by first | exact HeapOk.same rfl rfl rfl rfl | exact HeapOk.lent rfl rfl rfl rfl | exact HeapOk.nil rfl rfl | exact HeapOk.row rfl rfl (by first | rfl | omega) (fun i _ j _ => ⟨rfl, by first | rfl | exact rowN_imm (fun _ => rfl) _ i j | exact rowF_imm (fun _ => rfl) _ i j⟩) | exact HeapOk.box rfl rfl (by repeat (first | exact trivial | refine ⟨by first | exact LeC.refl _ rfl | exact LeC.ow _ _ rfl | exact LeC.nil _ rfl | exact LeC.nils _ _ | exact LeC.fz rfl rfl (by first | rfl | omega) (fun i _ j _ => ⟨rfl, by first | rfl | exact rowN_imm (fun _ => rfl) _ i j | exact rowF_imm (fun _ => rfl) _ i j⟩) | exact LeC.int (by omega), ?_⟩)) rfl, ?_⟩)
          exact ⟨HeapOk.row rfl rfl rfl (fun i hi => cell1 ⟨congrArg bC (hall i hi), rfl⟩), trivial⟩
      · by_cases hlti : i < L.length
        · obtain ⟨x0, y0, xm, ym, xw, yh, x1, y1⟩ : RqOk Wn Hn (L.getD i rcZ) := by
            obtain ⟨q, h1, h2⟩ := blocks_at (W := Wn) (H := Hn) (n := Hn * Wn) (f := f) (i := i) (by rw [← hL]; exact hlti)
            rw [← hL] at h2
            rw [h2]
            exact rq_ok h1
          have hor : i = 0 ∨ (0 < i ∧ ((L.getD (i - 1) rcZ).2.1 < (L.getD i rcZ).2.1 ∨ ((L.getD i rcZ).2.1 = (L.getD (i - 1) rcZ).2.1 ∧ (L.getD (i - 1) rcZ).1 < (L.getD i rcZ).1))) := by
            rcases Nat.eq_zero_or_pos i with h | h
            · exact .inl h
            · obtain ⟨q, q', h1, h2, h3, h4⟩ := blocks_order (W := Wn) (H := Hn) (n := Hn * Wn) (f := f) h (by rw [← hL]; exact hlti)
              rw [← hL] at h3 h4
              rw [h3, h4]
              exact .inr ⟨h, rq_lt h1 h2⟩
          rcases hor with h0 | ⟨hip, hlt | ⟨heq, hlt⟩⟩
          all_goals
            repeat (first
              | refine AWp.seq ?_
              | refine thenA_n ?_
              | refine AWp.block ?_
              | refine AWp.skip ?_
              | refine inBlk_n ?_
              | refine AWp.condT rfl (by first | rfl | exact cmT) ?_
              | refine AWp.condF rfl (by first | rfl | exact cmF) ?_
              | (refine AWp.region (id := 18) ?_
                 refine AList.move rfl rfl rfl ?_
                 refine AList.move rfl rfl rfl ?_
                 refine AList.lenLs tyOk rfl rfl rfl rfl rfl ?_
                 refine AList.cmpT rfl rfl rfl rfl rfl cmT ?_
                 refine AList.nil ?_)
              | (refine AWp.region (id := 19) ?_
                 refine AList.move rfl rfl rfl ?_
                 refine AList.add rfl rfl rfl rfl (by omega) (by omega) ?_
                 refine AList.assign rfl rfl rfl ?_
                 refine AList.nil ?_)
              | (refine AWp.draw (id := 20) mixed ?_
                 refine AList.move rfl rfl rfl ?_
                 first | refine AList.cmpT rfl rfl rfl rfl rfl cmT ?_ | refine AList.cmpF rfl rfl rfl rfl rfl cmF ?_
                 refine AList.move rfl rfl rfl ?_
                 first | refine AList.skip rfl rfl ?_ | refine AList.move rfl rfl rfl ?_
                 first | refine AList.skip rfl rfl ?_ | refine AList.move rfl rfl rfl ?_
                 first | refine AList.skip rfl rfl ?_ | refine AList.idx (k := i) tyOk rfl rfl rfl rfl rfl rfl rfl rfl (by first | rfl | omega) oM oM ?_
                 first | refine AList.skip rfl rfl ?_ | refine AList.fieldPl tyOk rfl rfl rfl rfl rfl rfl rfl ?_
                 first | refine AList.skip rfl rfl ?_ | refine AList.load1l tyOk rfl rfl rfl rfl rfl oM ?_
                 first | refine AList.skip rfl rfl ?_ | refine AList.move rfl rfl rfl ?_
                 first | refine AList.skip rfl rfl ?_ | refine AList.move rfl rfl rfl ?_
                 first | refine AList.skip rfl rfl ?_ | refine AList.sub rfl rfl rfl rfl (by omega) (by omega) ?_
                 first | refine AList.skip rfl rfl ?_ | refine AList.idx (k := (i - 1)) tyOk rfl rfl rfl rfl rfl rfl rfl rfl (by first | rfl | omega) oM oM ?_
                 first | refine AList.skip rfl rfl ?_ | refine AList.fieldPl tyOk rfl rfl rfl rfl rfl rfl rfl ?_
                 first | refine AList.skip rfl rfl ?_ | refine AList.load1l tyOk rfl rfl rfl rfl rfl oM ?_
                 first | refine AList.skip rfl rfl ?_ | refine AList.cmpT rfl rfl rfl rfl rfl cmT ?_ | refine AList.cmpF rfl rfl rfl rfl rfl cmF ?_
                 first | refine AList.pickT rfl rfl rfl rfl ?_ | refine AList.pickF rfl rfl rfl rfl ?_
                 refine AList.move rfl rfl rfl ?_
                 first | refine AList.skip rfl rfl ?_ | refine AList.move rfl rfl rfl ?_
                 first | refine AList.skip rfl rfl ?_ | refine AList.move rfl rfl rfl ?_
                 first | refine AList.skip rfl rfl ?_ | refine AList.idx (k := i) tyOk rfl rfl rfl rfl rfl rfl rfl rfl (by first | rfl | omega) oM oM ?_
                 first | refine AList.skip rfl rfl ?_ | refine AList.fieldPl tyOk rfl rfl rfl rfl rfl rfl rfl ?_
                 first | refine AList.skip rfl rfl ?_ | refine AList.load1l tyOk rfl rfl rfl rfl rfl oM ?_
                 first | refine AList.skip rfl rfl ?_ | refine AList.move rfl rfl rfl ?_
                 first | refine AList.skip rfl rfl ?_ | refine AList.move rfl rfl rfl ?_
                 first | refine AList.skip rfl rfl ?_ | refine AList.sub rfl rfl rfl rfl (by omega) (by omega) ?_
                 first | refine AList.skip rfl rfl ?_ | refine AList.idx (k := (i - 1)) tyOk rfl rfl rfl rfl rfl rfl rfl rfl (by first | rfl | omega) oM oM ?_
                 first | refine AList.skip rfl rfl ?_ | refine AList.fieldPl tyOk rfl rfl rfl rfl rfl rfl rfl ?_
                 first | refine AList.skip rfl rfl ?_ | refine AList.load1l tyOk rfl rfl rfl rfl rfl oM ?_
                 first | refine AList.skip rfl rfl ?_ | refine AList.cmpT rfl rfl rfl rfl rfl cmT ?_
                 first | refine AList.skip rfl rfl ?_ | refine AList.move rfl rfl rfl ?_
                 first | refine AList.skip rfl rfl ?_ | refine AList.move rfl rfl rfl ?_
                 first | refine AList.skip rfl rfl ?_ | refine AList.move rfl rfl rfl ?_
                 first | refine AList.skip rfl rfl ?_ | refine AList.idx (k := i) tyOk rfl rfl rfl rfl rfl rfl rfl rfl (by first | rfl | omega) oM oM ?_
                 first | refine AList.skip rfl rfl ?_ | refine AList.fieldPl tyOk rfl rfl rfl rfl rfl rfl rfl ?_
                 first | refine AList.skip rfl rfl ?_ | refine AList.load1l tyOk rfl rfl rfl rfl rfl oM ?_
                 first | refine AList.skip rfl rfl ?_ | refine AList.move rfl rfl rfl ?_
                 first | refine AList.skip rfl rfl ?_ | refine AList.move rfl rfl rfl ?_
                 first | refine AList.skip rfl rfl ?_ | refine AList.sub rfl rfl rfl rfl (by omega) (by omega) ?_
                 first | refine AList.skip rfl rfl ?_ | refine AList.idx (k := (i - 1)) tyOk rfl rfl rfl rfl rfl rfl rfl rfl (by first | rfl | omega) oM oM ?_
                 first | refine AList.skip rfl rfl ?_ | refine AList.fieldPl tyOk rfl rfl rfl rfl rfl rfl rfl ?_
                 first | refine AList.skip rfl rfl ?_ | refine AList.load1l tyOk rfl rfl rfl rfl rfl oM ?_
                 first | refine AList.skip rfl rfl ?_ | refine AList.cmpT rfl rfl rfl rfl rfl cmT ?_
                 first | refine AList.skip rfl rfl ?_ | refine AList.pickT rfl rfl rfl rfl ?_
                 first | refine AList.pickT rfl rfl rfl rfl ?_ | refine AList.pickF rfl rfl rfl rfl ?_
                 refine AList.assign rfl rfl rfl ?_
                 refine AList.nil ⟨by kernel_rfl, ?_⟩)
              | (refine AWp.draw (id := 21) mixed ?_
                 refine AList.move rfl rfl rfl ?_
                 refine AList.move rfl rfl rfl ?_
                 refine AList.idxOw (k := i) tyOk rfl rfl rfl rfl rfl rfl rfl rfl rfl rfl (by first | rfl | omega) oM ?_
                 refine AList.load1 tyOk rfl rfl rfl rfl rfl rfl rfl oM oM ?_
                 refine AList.notB rfl rfl rfl ?_
                 refine AList.move rfl rfl rfl ?_
                 refine AList.move rfl rfl rfl ?_
                 refine AList.notB rfl rfl rfl ?_
                 refine AList.pickF rfl rfl rfl rfl ?_
                 refine AList.move rfl rfl rfl ?_
                 refine AList.move rfl rfl rfl ?_
                 refine AList.move rfl rfl rfl ?_
                 refine AList.idx (k := i) tyOk rfl rfl rfl rfl rfl rfl rfl rfl (by first | rfl | omega) oM oM ?_
                 refine AList.fieldPl tyOk rfl rfl rfl rfl rfl rfl rfl ?_
                 refine AList.load1l tyOk rfl rfl rfl rfl rfl oM ?_
                 refine AList.rem rfl rfl rfl rfl (by omega) (by omega) ?_
                 refine AList.cmpF rfl rfl rfl rfl rfl cmF ?_
                 refine AList.pickF rfl rfl rfl rfl ?_
                 refine AList.move rfl rfl rfl ?_
                 refine AList.move rfl rfl rfl ?_
                 refine AList.move rfl rfl rfl ?_
                 refine AList.idx (k := i) tyOk rfl rfl rfl rfl rfl rfl rfl rfl (by first | rfl | omega) oM oM ?_
                 refine AList.fieldPl tyOk rfl rfl rfl rfl rfl rfl rfl ?_
                 refine AList.load1l tyOk rfl rfl rfl rfl rfl oM ?_
                 refine AList.rem rfl rfl rfl rfl (by omega) (by omega) ?_
                 refine AList.cmpF rfl rfl rfl rfl rfl cmF ?_
                 refine AList.pickF rfl rfl rfl rfl ?_
                 refine AList.move rfl rfl rfl ?_
                 refine AList.move rfl rfl rfl ?_
                 refine AList.move rfl rfl rfl ?_
                 refine AList.idx (k := i) tyOk rfl rfl rfl rfl rfl rfl rfl rfl (by first | rfl | omega) oM oM ?_
                 refine AList.fieldPl tyOk rfl rfl rfl rfl rfl rfl rfl ?_
                 refine AList.load1l tyOk rfl rfl rfl rfl rfl oM ?_
                 refine AList.move rfl rfl rfl ?_
                 refine AList.move rfl rfl rfl ?_
                 refine AList.idx (k := i) tyOk rfl rfl rfl rfl rfl rfl rfl rfl (by first | rfl | omega) oM oM ?_
                 refine AList.fieldPl tyOk rfl rfl rfl rfl rfl rfl rfl ?_
                 refine AList.load1l tyOk rfl rfl rfl rfl rfl oM ?_
                 refine AList.add rfl rfl rfl rfl (by omega) (by omega) ?_
                 refine AList.fieldPt tyOk rfl rfl rfl rfl rfl rfl rfl ?_
                 refine AList.load1 tyOk rfl rfl rfl rfl rfl rfl rfl oM oM ?_
                 refine AList.sub rfl rfl rfl rfl (by omega) (by omega) ?_
                 refine AList.minI rfl rfl rfl rfl ?_
                 refine AList.cmpF rfl rfl rfl rfl rfl cmF ?_
                 refine AList.pickF rfl rfl rfl rfl ?_
                 refine AList.move rfl rfl rfl ?_
                 refine AList.move rfl rfl rfl ?_
                 refine AList.move rfl rfl rfl ?_
                 refine AList.idx (k := i) tyOk rfl rfl rfl rfl rfl rfl rfl rfl (by first | rfl | omega) oM oM ?_
                 refine AList.fieldPl tyOk rfl rfl rfl rfl rfl rfl rfl ?_
                 refine AList.load1l tyOk rfl rfl rfl rfl rfl oM ?_
                 refine AList.move rfl rfl rfl ?_
                 refine AList.move rfl rfl rfl ?_
                 refine AList.idx (k := i) tyOk rfl rfl rfl rfl rfl rfl rfl rfl (by first | rfl | omega) oM oM ?_
                 refine AList.fieldPl tyOk rfl rfl rfl rfl rfl rfl rfl ?_
                 refine AList.load1l tyOk rfl rfl rfl rfl rfl oM ?_
                 refine AList.add rfl rfl rfl rfl (by omega) (by omega) ?_
                 refine AList.fieldPt tyOk rfl rfl rfl rfl rfl rfl rfl ?_
                 refine AList.load1 tyOk rfl rfl rfl rfl rfl rfl rfl oM oM ?_
                 refine AList.sub rfl rfl rfl rfl (by omega) (by omega) ?_
                 refine AList.minI rfl rfl rfl rfl ?_
                 refine AList.cmpF rfl rfl rfl rfl rfl cmF ?_
                 refine AList.pickF rfl rfl rfl rfl ?_
                 refine AList.nil ⟨by kernel_rfl, ?_⟩))
          all_goals
            refine ⟨i + 1, by omega, Wk.mk [(6, some 6), (25, some 25)] rfl rfl rfl ?_ ?_, by omega⟩
            · repeat (first | exact trivial | refine ⟨⟨_, rfl, by first | exact LeA.c (LeC.refl _ rfl) | exact LeA.c (LeC.ow _ _ rfl) | exact LeA.c (LeC.pt _ _ _ _ _ rfl) | exact LeA.c (LeC.nil _ rfl) | exact LeA.c (LeC.nils _ _) | (refine LeA.int ?_; omega) | (refine LeA.int ?_; dsimp only; omega) | exact LeA.c (LeC.fz rfl rfl (by first | rfl | omega) (fun i _ j _ => ⟨rfl, by first | rfl | exact rowN_imm (fun _ => rfl) _ i j | exact rowF_imm (fun _ => rfl) _ i j⟩))⟩, ?_⟩)
            · repeat (first | exact trivial | refine ⟨by first | exact HeapOk.same rfl rfl rfl rfl | exact HeapOk.lent rfl rfl rfl rfl | exact HeapOk.nil rfl rfl | exact HeapOk.row rfl rfl (by first | rfl | omega) (fun i _ j _ => ⟨rfl, by first | rfl | exact rowN_imm (fun _ => rfl) _ i j | exact rowF_imm (fun _ => rfl) _ i j⟩) | exact HeapOk.box rfl rfl (by repeat (first | exact trivial | refine ⟨by first | exact LeC.refl _ rfl | exact LeC.ow _ _ rfl | exact LeC.nil _ rfl | exact LeC.nils _ _ | exact LeC.fz rfl rfl (by first | rfl | omega) (fun i _ j _ => ⟨rfl, by first | rfl | exact rowN_imm (fun _ => rfl) _ i j | exact rowF_imm (fun _ => rfl) _ i j⟩) | exact LeC.int (by omega), ?_⟩)) rfl, ?_⟩)
        · obtain rfl : i = L.length := by omega
          repeat (first
            | refine AWp.seq ?_
            | refine thenA_n ?_
            | refine AWp.exit ?_
            | refine AWp.ret ?_
            | refine AWp.condF rfl (by first | rfl | exact cmF) ?_
            | (refine AWp.region (id := 18) ?_
               refine AList.move rfl rfl rfl ?_
               refine AList.move rfl rfl rfl ?_
               refine AList.lenLs tyOk rfl rfl rfl rfl rfl ?_
               refine AList.cmpF rfl rfl rfl rfl rfl cmF ?_
               refine AList.nil ?_)
            | (refine AWp.region (id := 23) ?_
               refine AList.move rfl rfl rfl ?_
               refine AList.assign rfl rfl rfl ?_
               refine AList.nil ?_))
          refine ⟨_, rfl, mkSt 189 [(2, .c (bC true))] [] [], [], Wk.mk [] rfl rfl rfl ?_ ?_, rfl, rfl, ARets.one (x := .c _) (ARes.tmp rfl rfl)⟩
          · repeat (first | exact trivial | refine ⟨⟨_, rfl, by first | exact LeA.c (LeC.refl _ rfl) | exact LeA.c (LeC.ow _ _ rfl) | exact LeA.c (LeC.pt _ _ _ _ _ rfl) | exact LeA.c (LeC.nil _ rfl) | exact LeA.c (LeC.nils _ _) | (refine LeA.int ?_; omega) | (refine LeA.int ?_; dsimp only; omega) | exact LeA.c (LeC.fz rfl rfl (by first | rfl | omega) (fun i _ j _ => ⟨rfl, by first | rfl | exact rowN_imm (fun _ => rfl) _ i j | exact rowF_imm (fun _ => rfl) _ i j⟩))⟩, ?_⟩)
          · exact trivial
end Go.Proofs.Ytcdnpnbjloaihaa
end

section
/- ProbeCovers: the statement. No condition. -/
namespace Go.Proofs.Ytcdnpnbjloaihaa.probeCovers
open Go.ChangeShapes Go.WideShapes Go.ChangeAt Go.RowKit Go.Flow Go.AV
theorem contract (H : Type) (enc : TypeId × Value → H) (W : World) (base : Nat) (args : Array Value) (ds gs : List (DataW H)) (before : List MemPlace)
    (hval : ∀ (j : Nat) t v, Try.f5.params[j]? = some t → args[j]? = some v → Value.okWide Try.prog W .any base t v)
    (hW : DataW.Whole enc Try.prog Try.f5.params.toList Rows.probeCoversSpec.vars false W args.toList ds gs before)
    (hsz : (DataW.weightsEach Try.prog (Try.f5.params.toList ++ (OpenSpec.ofChange Rows.probeCoversSpec).bare.plain.varTypes Try.prog) (ds ++ gs)).all (· ≤ reachBytes) = true) :
    Calls Try.prog 5 args W fun e W' => ∃ v, e = .returned v ∧ Rows.probeCoversSpec.post enc Try.prog Try.f5 false true false false W args v W' := by
  have hW' := hW
  obtain ⟨p, q, hA0, hV, rfl, hfz, hnd⟩ := hW
  have hA : DataW.TrodAll enc Try.prog W 0 (fun _ => true) true Try.f5.params.toList args.toList ds p := hA0
  have hAk := hA0
  rw [Try.params5] at hA hval hsz
  obtain ⟨rfl, rfl⟩ := trodVars_none hV
  obtain ⟨v0, vs0, d0, ds0, p0, q0, hargs, rfl, rfl, h0, t0⟩ := trodAll_cons hA
  obtain ⟨rfl, rfl, rfl⟩ := trodAll_nil t0
  obtain rfl : args = #[v0] := by rw [← Array.toList_inj]; exact hargs
  have hlt := fun x hx => hW'.lt x hx
  simp only [List.append_nil] at hW'
  rw [List.append_nil] at hsz
  obtain ⟨a0, ok0, r0⟩ := opn_case.argS Try.underlying25 (hval 0 25 v0 rfl rfl) h0 (weigh hsz 0 (t := 25) (d := d0) rfl rfl)
  refine ((ProbeCovers_A a0 ok0) O0 W [_] (fun b h => h.elim) ⟨r0, trivial⟩).mono fun e W' ⟨v, r, he, hr, hv, hE⟩ => ?_
  subst hr
  obtain rfl : v = .bool true := hv.2
  subst he
  exact ⟨_, rfl, post_below (pv := []) hW' (fun _ _ _ => trodAll_cons_mk (shut_bool Try.underlying4 _) trodAll_mk0)
    (fun sp hsp => trodAll_below laidOut hE (by rw [Try.params5]; intro t ht; simp only [List.mem_cons, List.not_mem_nil, or_false] at ht; rcases ht with rfl <;> exact ⟨by kernel_rfl, of_decide_eq_true (by kernel_rfl)⟩) hAk (fun x hx => hlt x (by rw [List.append_nil]; exact hx)) sp (fun x hx => hsp x (by simpa only [List.append_nil] using hx)))
    (fun _ _ => rfl) (by simp) hE (ok_one (by kernel_rfl) rfl (okWide_bool_mk Try.underlying4 _))⟩
theorem own : ownKnob Try.prog.godebug = none := by kernel_rfl
set_option maxRecDepth 100000 in
theorem lifted (os : Os) (started : os.Started) (H : Type) (enc : TypeId × Value → H) :
    ReturnsInHanded {} Try.checked os 5 .any (Rows.probeCoversSpec.pre6 enc Try.prog Try.f5 Rows.probeCoversRow.domain false) (Rows.probeCoversSpec.post enc Try.prog Try.f5 false true false false) := by
  refine returnsInHanded_of_change_sized (C := Try.checked) own started (by kernel_rfl) Try.func5
    (ChangeSpec.witness6 (enc := enc) (C := Try.checked) false ⟨#[], #[.agg #[.slice none 0 0, .slice none 0 0, .int .i64 0, .int .i64 0, .slice none 0 0]], []⟩ 8 (by kernel_rfl) (by kernel_rfl) (by kernel_rfl) (by kernel_rfl)) ?_
  intro W base args ds gs before hval hW _ hsz _
  exact contract H enc W base args ds gs before hval hW hsz
theorem said : Rows.ProbeCoversSaid :=
  OpenClaim.holds_of_wide 5 Try.f5 rfl rfl rfl rfl rfl rfl rfl ⟨rfl, rfl, rfl, rfl, rfl⟩ rfl rfl rfl rfl rfl (by kernel_rfl) Try.func5 (by kernel_rfl)
    (of_decide_eq_true (by kernel_rfl)) (by unfold Func.isWrapper; first | (rw [if_pos (by decide +kernel)]; kernel_rfl) | (rw [if_neg (by decide +kernel)]; exact ⟨rfl, rfl⟩))
    (fun os started H enc _ => lifted os started H enc)
end Go.Proofs.Ytcdnpnbjloaihaa.probeCovers
end
