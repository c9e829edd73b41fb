/- Parts of the proof: A23i. -/
import Derived.Test.YtclaanggpcjnbaaG21
set_option linter.unusedSimpArgs false
set_option linter.unusedVariables false
section
/- Chapter 23 over plain values: Apply (the reference's). -/
namespace Go.Proofs.Ytclaanggpcjnbaa
open Go.RowKit Go.Flow Go.AV Go.Plain
theorem rHide_A (Wn Hn n : Nat) (f : Nat → Int) (a b : Int) (hok : chkI Wn Hn n f = 0) : ACalls Try.prog 35 [.ag (imgV Wn Hn n f), .c (iC a), .c (iC b)] (.ag (imgV Wn Hn n (hideF Wn f a b))) :=
  ACalls.of fun O w vals hO h => by
    obtain ⟨x, y, z, rfl, h1, h2, h3⟩ := args3 h
    obtain ⟨A, c, rfl, -, hA⟩ := rep_img h1
    cases rep_c h2
    cases rep_c h3
    exact (Hide_ok Wn Hn A n c f a b w hA hok).mono fun e w' ⟨A', c', g1, g2, g3, g4⟩ => ⟨_, g1, img_rep hO g2 g3, g4⟩
set_option maxHeartbeats 1000000 in
set_option maxRecDepth 100000 in
theorem marked_H (W H : Int) (n : Nat) (px : Nat → Int) (N : Nat) (l : Nat → Int) (kind : Int) (hn : n ≤ 1000000) (hN : N ≤ 4611686018427387904) : HCalls Try.prog 34 [.ag [iC W, iC H, .ow 1000], .c (.ls N 1 (iF l)), .c (iC kind)] [(1000, rowI n px)] (.c (bC (mkAll n px l kind N))) [(1000, rowI n px)] := by
  refine hcalls_at Try.func34 rfl rfl Try.ntmps34 rfl rfl (fun p hp => by cases hp with | head => exact fun k j _ _ => rfl | tail _ h => cases h) ?_
  repeat (first
    | refine AWp.seq ?_
    | refine thenA_n ?_
    | refine AWp.block ?_
    | (refine AWp.region (id := 0) ?_
       refine AList.box rfl rfl rfl rfl rfl ?_
       refine AList.assign rfl rfl rfl ?_
       refine AList.nil ?_)
    | (refine AWp.region (id := 1) ?_
       refine AList.assign rfl rfl rfl ?_
       refine AList.nil ?_))
  refine AWp.round (fun k : Nat => mkL 55 1 [(1, .c (.ls N 1 (iF l))), (2, .c (iC kind)), (3, .c (.pt 3 3 0 0)), (7, .c (iC k))] [(3, ⟨false, 1, 3, 43, lF [iC W, iC H, .ow 1000]⟩), (1000, rowI n px)] [3])
    (fun k => k ≤ N ∧ ∀ j, j < k → mkOk n px l kind j) (fun k => N - k) 0 ⟨Nat.zero_le _, fun j hj => absurd hj (Nat.not_lt_zero _)⟩ ?_ (fun k hk => ?_)
  · refine Wk.mkL [(3, some 3)] rfl rfl rfl rfl rfl ?_ ?_
    · repeat (first | exact trivial | refine ⟨⟨_, rfl, by first | exact LeA.c (LeC.refl _ rfl) | exact LeA.c (LeC.ow _ _ rfl) | exact LeA.c (LeC.pt _ _ _ _ _ rfl) | exact LeA.c (LeC.nil _ rfl) | exact LeA.c (LeC.nils _ _) | (refine LeA.int ?_; omega) | (refine LeA.int ?_; dsimp only; omega) | exact LeA.c (LeC.fz rfl rfl (by first | rfl | omega) (fun i _ j _ => ⟨rfl, by first | rfl | exact rowN_imm (fun _ => rfl) _ i j | exact rowF_imm (fun _ => rfl) _ i j⟩))⟩, ?_⟩)
    · exact ⟨HeapOk.box rfl rfl ⟨LeC.int rfl, LeC.int rfl, LeC.owB 1000 rfl, trivial⟩ rfl, HeapOk.lentRow rfl rfl (fun i _ => cell1 ⟨rfl, rfl⟩), trivial⟩
  · obtain ⟨hk, hok⟩ := hk
    by_cases hlt : k < N
    · by_cases hm : mkOk n px l kind k
      · have hm' := hm
        obtain ⟨g1, g2, g3, g4⟩ := hm
        obtain ⟨j, hj⟩ := Int.eq_ofNat_of_zero_le g1
        have hjn : j < n := by omega
        have hpj : px j = kind := by rw [← g4, hj]; rfl
        have hnext : ∀ i, i < k + 1 → mkOk n px l kind i := fun i hi => by
          by_cases e : i = k
          · subst e; exact hm'
          · exact hok i (by omega)
        have hk0 : k = 0 ∨ (0 < k ∧ l (k - 1) < l k) := by
          rcases Nat.eq_zero_or_pos k with h | h
          · exact .inl h
          · exact .inr ⟨h, g3 h⟩
        rcases hk0 with h0 | ⟨h0, h0'⟩
        all_goals
          repeat (first
            | refine AWp.seq ?_
            | refine thenA_n ?_
            | refine AWp.block ?_
            | refine AWp.skip ?_
            | refine inBlk_n ?_
            | refine AWp.condT rfl (by first | rfl | assumption | exact cmT) ?_
            | refine AWp.condF rfl (by first | rfl | assumption | exact cmF) ?_
            | (refine AWp.region (id := 2) ?_
               refine AList.move rfl rfl rfl ?_
               refine AList.move rfl rfl rfl ?_
               refine AList.lenLs tyOk rfl rfl rfl rfl rfl ?_
               refine AList.cmpT rfl rfl rfl rfl rfl cmT ?_
               refine AList.nil ?_)
            | (refine AWp.region (id := 3) ?_
               refine AList.move rfl rfl rfl ?_
               refine AList.add rfl rfl rfl rfl (by omega) (by omega) ?_
               refine AList.assign rfl rfl rfl ?_
               refine AList.nil ?_)
            | (refine AWp.draw (id := 4) mixed ?_
               refine AList.move rfl rfl rfl ?_
               refine AList.move rfl rfl rfl ?_
               refine AList.idx (k := k) tyOk rfl rfl rfl rfl rfl rfl rfl rfl (by first | rfl | omega) oM oM ?_
               refine AList.load1l tyOk rfl rfl rfl rfl rfl oM ?_
               refine AList.cmpF rfl rfl rfl rfl rfl cmF ?_
               refine AList.move rfl rfl rfl ?_
               refine AList.move rfl rfl rfl ?_
               refine AList.move rfl rfl rfl ?_
               refine AList.idx (k := k) tyOk rfl rfl rfl rfl rfl rfl rfl rfl (by first | rfl | omega) oM oM ?_
               refine AList.load1l tyOk rfl rfl rfl rfl rfl oM ?_
               refine AList.fieldPt tyOk rfl rfl rfl rfl rfl rfl rfl ?_
               refine AList.load1 tyOk rfl rfl rfl rfl rfl rfl rfl oM oM ?_
               refine AList.lenOw tyOk rfl rfl rfl rfl rfl rfl rfl ?_
               refine AList.cmpF rfl rfl rfl rfl rfl cmF ?_
               refine AList.pickF rfl rfl rfl rfl ?_
               refine AList.move rfl rfl rfl ?_
               refine AList.move rfl rfl rfl ?_
               first | refine AList.cmpT rfl rfl rfl rfl rfl cmT ?_ | refine AList.cmpF rfl rfl rfl rfl rfl cmF ?_
               refine AList.move rfl rfl rfl ?_
               first | refine AList.skip rfl rfl ?_ | refine AList.move rfl rfl rfl ?_
               first | refine AList.skip rfl rfl ?_ | refine AList.move rfl rfl rfl ?_
               first | refine AList.skip rfl rfl ?_ | refine AList.idx (k := k) tyOk rfl rfl rfl rfl rfl rfl rfl rfl (by first | rfl | omega) oM oM ?_
               first | refine AList.skip rfl rfl ?_ | refine AList.load1l tyOk rfl rfl rfl rfl rfl oM ?_
               first | refine AList.skip rfl rfl ?_ | refine AList.move rfl rfl rfl ?_
               first | refine AList.skip rfl rfl ?_ | refine AList.move rfl rfl rfl ?_
               first | refine AList.skip rfl rfl ?_ | refine AList.sub rfl rfl rfl rfl (by omega) (by omega) ?_
               first | refine AList.skip rfl rfl ?_ | refine AList.idx (k := (k - 1)) tyOk rfl rfl rfl rfl rfl rfl rfl rfl (by first | rfl | omega) oM oM ?_
               first | refine AList.skip rfl rfl ?_ | refine AList.load1l tyOk rfl rfl rfl rfl rfl oM ?_
               first | refine AList.skip rfl rfl ?_ | refine AList.cmpF rfl rfl rfl rfl rfl cmF ?_
               first | refine AList.pickT rfl rfl rfl rfl ?_ | refine AList.pickF rfl rfl rfl rfl ?_
               refine AList.pickF rfl rfl rfl rfl ?_
               refine AList.nil ⟨by kernel_rfl, ?_⟩)
            | (refine AWp.draw (id := 6) mixed ?_
               refine AList.fieldPt tyOk rfl rfl rfl rfl rfl rfl rfl ?_
               refine AList.load1 tyOk rfl rfl rfl rfl rfl rfl rfl oM oM ?_
               refine AList.move rfl rfl rfl ?_
               refine AList.move rfl rfl rfl ?_
               refine AList.idx (k := k) tyOk rfl rfl rfl rfl rfl rfl rfl rfl (by first | rfl | omega) oM oM ?_
               refine AList.load1l tyOk rfl rfl rfl rfl rfl oM ?_
               refine AList.idxOw (k := j) tyOk rfl rfl rfl rfl rfl rfl rfl rfl rfl rfl (by first | rfl | omega) oM ?_
               refine AList.load1 tyOk rfl rfl rfl rfl rfl rfl rfl oM oM ?_
               refine AList.move rfl rfl rfl ?_
               refine AList.cmpF rfl rfl rfl rfl rfl cmF ?_
               refine AList.nil ⟨by kernel_rfl, ?_⟩))
          refine ⟨k + 1, ⟨by omega, hnext⟩, Wk.mkL [(3, some 3)] rfl rfl rfl rfl rfl ?_ ?_, by omega⟩
          · repeat (first | exact trivial | refine ⟨⟨_, rfl, by first | exact LeA.c (LeC.refl _ rfl) | exact LeA.c (LeC.ow _ _ rfl) | exact LeA.c (LeC.pt _ _ _ _ _ rfl) | exact LeA.c (LeC.nil _ rfl) | exact LeA.c (LeC.nils _ _) | (refine LeA.int ?_; omega) | (refine LeA.int ?_; dsimp only; omega) | exact LeA.c (LeC.fz rfl rfl (by first | rfl | omega) (fun i _ j _ => ⟨rfl, by first | rfl | exact rowN_imm (fun _ => rfl) _ i j | exact rowF_imm (fun _ => rfl) _ i j⟩))⟩, ?_⟩)
          · exact ⟨HeapOk.box rfl rfl ⟨LeC.int rfl, LeC.int rfl, LeC.owB 1000 rfl, trivial⟩ rfl, HeapOk.lentRow rfl rfl (fun i _ => cell1 ⟨rfl, rfl⟩), trivial⟩
      · rw [mkAll_no hlt hm]
        have hc : ¬ 0 ≤ l k ∨ (0 ≤ l k ∧ ¬ l k < n) ∨ ((0 ≤ l k ∧ l k < n) ∧ 0 < k ∧ ¬ l (k - 1) < l k) ∨ ((0 ≤ l k ∧ l k < n) ∧ (k = 0 ∨ (0 < k ∧ l (k - 1) < l k)) ∧ px (l k).toNat ≠ kind) := by
          unfold mkOk at hm
          by_cases h1 : 0 ≤ l k <;> by_cases h2 : l k < n <;> by_cases h3 : 0 < k <;> by_cases h4 : l (k - 1) < l k <;> by_cases h5 : px (l k).toNat = kind <;> simp_all
        rcases hc with h | ⟨h, h'⟩ | ⟨h, h', h''⟩ | ⟨h, h0 | ⟨h0, h0'⟩, h''⟩
        · repeat (first
            | refine AWp.seq ?_
            | refine thenA_n ?_
            | refine AWp.block ?_
            | refine AWp.skip ?_
            | refine AWp.ret ?_
            | refine thenA_r ?_
            | refine inBlk_r ?_
            | refine AWp.condT rfl (by first | rfl | assumption | exact cmT) ?_
            | (refine AWp.region (id := 2) ?_
               refine AList.move rfl rfl rfl ?_
               refine AList.move rfl rfl rfl ?_
               refine AList.lenLs tyOk rfl rfl rfl rfl rfl ?_
               refine AList.cmpT rfl rfl rfl rfl rfl cmT ?_
               refine AList.nil ?_)
            | (refine AWp.draw (id := 4) mixed ?_
               refine AList.move rfl rfl rfl ?_
               refine AList.move rfl rfl rfl ?_
               refine AList.idx (k := k) tyOk rfl rfl rfl rfl rfl rfl rfl rfl (by first | rfl | omega) oM oM ?_
               refine AList.load1l tyOk rfl rfl rfl rfl rfl oM ?_
               refine AList.cmpT rfl rfl rfl rfl rfl cmT ?_
               refine AList.move rfl rfl rfl ?_
               refine AList.skip rfl rfl ?_
               refine AList.skip rfl rfl ?_
               refine AList.skip rfl rfl ?_
               refine AList.skip rfl rfl ?_
               refine AList.skip rfl rfl ?_
               refine AList.skip rfl rfl ?_
               refine AList.skip rfl rfl ?_
               refine AList.skip rfl rfl ?_
               refine AList.pickT rfl rfl rfl rfl ?_
               refine AList.move rfl rfl rfl ?_
               refine AList.skip rfl rfl ?_
               refine AList.skip rfl rfl ?_
               refine AList.skip rfl rfl ?_
               refine AList.skip rfl rfl ?_
               refine AList.skip rfl rfl ?_
               refine AList.skip rfl rfl ?_
               refine AList.skip rfl rfl ?_
               refine AList.skip rfl rfl ?_
               refine AList.skip rfl rfl ?_
               refine AList.skip rfl rfl ?_
               refine AList.skip rfl rfl ?_
               refine AList.skip rfl rfl ?_
               refine AList.skip rfl rfl ?_
               refine AList.skip rfl rfl ?_
               refine AList.pickT rfl rfl rfl rfl ?_
               refine AList.nil ⟨by kernel_rfl, ?_⟩)
            | (refine AWp.region (id := 5) ?_
               refine AList.assign rfl rfl rfl ?_
               refine AList.nil ?_))
          refine ⟨mkL 55 1 [(6, .c (bC false))] [(1000, rowI n px)] [], [], Wk.mkL [] rfl rfl rfl rfl rfl ?_ ?_, rfl, rfl, ARets.one (x := .c _) (ARes.tmp rfl rfl)⟩
          · repeat (first | exact trivial | refine ⟨⟨_, rfl, by first | exact LeA.c (LeC.refl _ rfl) | exact LeA.c (LeC.ow _ _ rfl) | exact LeA.c (LeC.pt _ _ _ _ _ rfl) | exact LeA.c (LeC.nil _ rfl) | exact LeA.c (LeC.nils _ _) | (refine LeA.int ?_; omega) | (refine LeA.int ?_; dsimp only; omega) | exact LeA.c (LeC.fz rfl rfl (by first | rfl | omega) (fun i _ j _ => ⟨rfl, by first | rfl | exact rowN_imm (fun _ => rfl) _ i j | exact rowF_imm (fun _ => rfl) _ i j⟩))⟩, ?_⟩)
          · exact ⟨HeapOk.lentRow rfl rfl (fun i _ => cell1 ⟨rfl, rfl⟩), trivial⟩
        · repeat (first
            | refine AWp.seq ?_
            | refine thenA_n ?_
            | refine AWp.block ?_
            | refine AWp.skip ?_
            | refine AWp.ret ?_
            | refine thenA_r ?_
            | refine inBlk_r ?_
            | refine AWp.condT rfl (by first | rfl | assumption | exact cmT) ?_
            | (refine AWp.region (id := 2) ?_
               refine AList.move rfl rfl rfl ?_
               refine AList.move rfl rfl rfl ?_
               refine AList.lenLs tyOk rfl rfl rfl rfl rfl ?_
               refine AList.cmpT rfl rfl rfl rfl rfl cmT ?_
               refine AList.nil ?_)
            | (refine AWp.draw (id := 4) mixed ?_
               refine AList.move rfl rfl rfl ?_
               refine AList.move rfl rfl rfl ?_
               refine AList.idx (k := k) tyOk rfl rfl rfl rfl rfl rfl rfl rfl (by first | rfl | omega) oM oM ?_
               refine AList.load1l tyOk rfl rfl rfl rfl rfl oM ?_
               refine AList.cmpF rfl rfl rfl rfl rfl cmF ?_
               refine AList.move rfl rfl rfl ?_
               refine AList.move rfl rfl rfl ?_
               refine AList.move rfl rfl rfl ?_
               refine AList.idx (k := k) tyOk rfl rfl rfl rfl rfl rfl rfl rfl (by first | rfl | omega) oM oM ?_
               refine AList.load1l tyOk rfl rfl rfl rfl rfl oM ?_
               refine AList.fieldPt tyOk rfl rfl rfl rfl rfl rfl rfl ?_
               refine AList.load1 tyOk rfl rfl rfl rfl rfl rfl rfl oM oM ?_
               refine AList.lenOw tyOk rfl rfl rfl rfl rfl rfl rfl ?_
               refine AList.cmpT rfl rfl rfl rfl rfl cmT ?_
               refine AList.pickF rfl rfl rfl rfl ?_
               refine AList.move rfl rfl rfl ?_
               refine AList.skip rfl rfl ?_
               refine AList.skip rfl rfl ?_
               refine AList.skip rfl rfl ?_
               refine AList.skip rfl rfl ?_
               refine AList.skip rfl rfl ?_
               refine AList.skip rfl rfl ?_
               refine AList.skip rfl rfl ?_
               refine AList.skip rfl rfl ?_
               refine AList.skip rfl rfl ?_
               refine AList.skip rfl rfl ?_
               refine AList.skip rfl rfl ?_
               refine AList.skip rfl rfl ?_
               refine AList.skip rfl rfl ?_
               refine AList.skip rfl rfl ?_
               refine AList.pickT rfl rfl rfl rfl ?_
               refine AList.nil ⟨by kernel_rfl, ?_⟩)
            | (refine AWp.region (id := 5) ?_
               refine AList.assign rfl rfl rfl ?_
               refine AList.nil ?_))
          refine ⟨mkL 55 1 [(6, .c (bC false))] [(1000, rowI n px)] [], [], Wk.mkL [] rfl rfl rfl rfl rfl ?_ ?_, rfl, rfl, ARets.one (x := .c _) (ARes.tmp rfl rfl)⟩
          · repeat (first | exact trivial | refine ⟨⟨_, rfl, by first | exact LeA.c (LeC.refl _ rfl) | exact LeA.c (LeC.ow _ _ rfl) | exact LeA.c (LeC.pt _ _ _ _ _ rfl) | exact LeA.c (LeC.nil _ rfl) | exact LeA.c (LeC.nils _ _) | (refine LeA.int ?_; omega) | (refine LeA.int ?_; dsimp only; omega) | exact LeA.c (LeC.fz rfl rfl (by first | rfl | omega) (fun i _ j _ => ⟨rfl, by first | rfl | exact rowN_imm (fun _ => rfl) _ i j | exact rowF_imm (fun _ => rfl) _ i j⟩))⟩, ?_⟩)
          · exact ⟨HeapOk.lentRow rfl rfl (fun i _ => cell1 ⟨rfl, rfl⟩), trivial⟩
        · repeat (first
            | refine AWp.seq ?_
            | refine thenA_n ?_
            | refine AWp.block ?_
            | refine AWp.skip ?_
            | refine AWp.ret ?_
            | refine thenA_r ?_
            | refine inBlk_r ?_
            | refine AWp.condT rfl (by first | rfl | assumption | exact cmT) ?_
            | (refine AWp.region (id := 2) ?_
               refine AList.move rfl rfl rfl ?_
               refine AList.move rfl rfl rfl ?_
               refine AList.lenLs tyOk rfl rfl rfl rfl rfl ?_
               refine AList.cmpT rfl rfl rfl rfl rfl cmT ?_
               refine AList.nil ?_)
            | (refine AWp.draw (id := 4) mixed ?_
               refine AList.move rfl rfl rfl ?_
               refine AList.move rfl rfl rfl ?_
               refine AList.idx (k := k) tyOk rfl rfl rfl rfl rfl rfl rfl rfl (by first | rfl | omega) oM oM ?_
               refine AList.load1l tyOk rfl rfl rfl rfl rfl oM ?_
               refine AList.cmpF rfl rfl rfl rfl rfl cmF ?_
               refine AList.move rfl rfl rfl ?_
               refine AList.move rfl rfl rfl ?_
               refine AList.move rfl rfl rfl ?_
               refine AList.idx (k := k) tyOk rfl rfl rfl rfl rfl rfl rfl rfl (by first | rfl | omega) oM oM ?_
               refine AList.load1l tyOk rfl rfl rfl rfl rfl oM ?_
               refine AList.fieldPt tyOk rfl rfl rfl rfl rfl rfl rfl ?_
               refine AList.load1 tyOk rfl rfl rfl rfl rfl rfl rfl oM oM ?_
               refine AList.lenOw tyOk rfl rfl rfl rfl rfl rfl rfl ?_
               refine AList.cmpF rfl rfl rfl rfl rfl cmF ?_
               refine AList.pickF rfl rfl rfl rfl ?_
               refine AList.move rfl rfl rfl ?_
               refine AList.move rfl rfl rfl ?_
               refine AList.cmpT rfl rfl rfl rfl rfl cmT ?_
               refine AList.move rfl rfl rfl ?_
               refine AList.move rfl rfl rfl ?_
               refine AList.move rfl rfl rfl ?_
               refine AList.idx (k := k) tyOk rfl rfl rfl rfl rfl rfl rfl rfl (by first | rfl | omega) oM oM ?_
               refine AList.load1l tyOk rfl rfl rfl rfl rfl oM ?_
               refine AList.move rfl rfl rfl ?_
               refine AList.move rfl rfl rfl ?_
               refine AList.sub rfl rfl rfl rfl (by omega) (by omega) ?_
               refine AList.idx (k := (k - 1)) tyOk rfl rfl rfl rfl rfl rfl rfl rfl (by first | rfl | omega) oM oM ?_
               refine AList.load1l tyOk rfl rfl rfl rfl rfl oM ?_
               refine AList.cmpT rfl rfl rfl rfl rfl cmT ?_
               refine AList.pickT rfl rfl rfl rfl ?_
               refine AList.pickF rfl rfl rfl rfl ?_
               refine AList.nil ⟨by kernel_rfl, ?_⟩)
            | (refine AWp.region (id := 5) ?_
               refine AList.assign rfl rfl rfl ?_
               refine AList.nil ?_))
          refine ⟨mkL 55 1 [(6, .c (bC false))] [(1000, rowI n px)] [], [], Wk.mkL [] rfl rfl rfl rfl rfl ?_ ?_, rfl, rfl, ARets.one (x := .c _) (ARes.tmp rfl rfl)⟩
          · repeat (first | exact trivial | refine ⟨⟨_, rfl, by first | exact LeA.c (LeC.refl _ rfl) | exact LeA.c (LeC.ow _ _ rfl) | exact LeA.c (LeC.pt _ _ _ _ _ rfl) | exact LeA.c (LeC.nil _ rfl) | exact LeA.c (LeC.nils _ _) | (refine LeA.int ?_; omega) | (refine LeA.int ?_; dsimp only; omega) | exact LeA.c (LeC.fz rfl rfl (by first | rfl | omega) (fun i _ j _ => ⟨rfl, by first | rfl | exact rowN_imm (fun _ => rfl) _ i j | exact rowF_imm (fun _ => rfl) _ i j⟩))⟩, ?_⟩)
          · exact ⟨HeapOk.lentRow rfl rfl (fun i _ => cell1 ⟨rfl, rfl⟩), trivial⟩
        all_goals
          obtain ⟨j, hj⟩ := Int.eq_ofNat_of_zero_le h.1
          have hjn : j < n := by omega
          have hpj : px j ≠ kind := by rw [hj] at h''; exact h''
          repeat (first
            | refine AWp.seq ?_
            | refine thenA_n ?_
            | refine AWp.block ?_
            | refine AWp.skip ?_
            | refine AWp.ret ?_
            | refine thenA_r ?_
            | refine inBlk_r ?_
            | refine AWp.condT rfl (by first | rfl | assumption | exact cmT) ?_
            | refine AWp.condF rfl (by first | rfl | assumption | exact cmF) ?_
            | (refine AWp.region (id := 2) ?_
               refine AList.move rfl rfl rfl ?_
               refine AList.move rfl rfl rfl ?_
               refine AList.lenLs tyOk rfl rfl rfl rfl rfl ?_
               refine AList.cmpT rfl rfl rfl rfl rfl cmT ?_
               refine AList.nil ?_)
            | (refine AWp.draw (id := 4) mixed ?_
               refine AList.move rfl rfl rfl ?_
               refine AList.move rfl rfl rfl ?_
               refine AList.idx (k := k) tyOk rfl rfl rfl rfl rfl rfl rfl rfl (by first | rfl | omega) oM oM ?_
               refine AList.load1l tyOk rfl rfl rfl rfl rfl oM ?_
               refine AList.cmpF rfl rfl rfl rfl rfl cmF ?_
               refine AList.move rfl rfl rfl ?_
               refine AList.move rfl rfl rfl ?_
               refine AList.move rfl rfl rfl ?_
               refine AList.idx (k := k) tyOk rfl rfl rfl rfl rfl rfl rfl rfl (by first | rfl | omega) oM oM ?_
               refine AList.load1l tyOk rfl rfl rfl rfl rfl oM ?_
               refine AList.fieldPt tyOk rfl rfl rfl rfl rfl rfl rfl ?_
               refine AList.load1 tyOk rfl rfl rfl rfl rfl rfl rfl oM oM ?_
               refine AList.lenOw tyOk rfl rfl rfl rfl rfl rfl rfl ?_
               refine AList.cmpF rfl rfl rfl rfl rfl cmF ?_
               refine AList.pickF rfl rfl rfl rfl ?_
               refine AList.move rfl rfl rfl ?_
               refine AList.move rfl rfl rfl ?_
               first | refine AList.cmpT rfl rfl rfl rfl rfl cmT ?_ | refine AList.cmpF rfl rfl rfl rfl rfl cmF ?_
               refine AList.move rfl rfl rfl ?_
               first | refine AList.skip rfl rfl ?_ | refine AList.move rfl rfl rfl ?_
               first | refine AList.skip rfl rfl ?_ | refine AList.move rfl rfl rfl ?_
               first | refine AList.skip rfl rfl ?_ | refine AList.idx (k := k) tyOk rfl rfl rfl rfl rfl rfl rfl rfl (by first | rfl | omega) oM oM ?_
               first | refine AList.skip rfl rfl ?_ | refine AList.load1l tyOk rfl rfl rfl rfl rfl oM ?_
               first | refine AList.skip rfl rfl ?_ | refine AList.move rfl rfl rfl ?_
               first | refine AList.skip rfl rfl ?_ | refine AList.move rfl rfl rfl ?_
               first | refine AList.skip rfl rfl ?_ | refine AList.sub rfl rfl rfl rfl (by omega) (by omega) ?_
               first | refine AList.skip rfl rfl ?_ | refine AList.idx (k := (k - 1)) tyOk rfl rfl rfl rfl rfl rfl rfl rfl (by first | rfl | omega) oM oM ?_
               first | refine AList.skip rfl rfl ?_ | refine AList.load1l tyOk rfl rfl rfl rfl rfl oM ?_
               first | refine AList.skip rfl rfl ?_ | refine AList.cmpF rfl rfl rfl rfl rfl cmF ?_
               first | refine AList.pickT rfl rfl rfl rfl ?_ | refine AList.pickF rfl rfl rfl rfl ?_
               refine AList.pickF rfl rfl rfl rfl ?_
               refine AList.nil ⟨by kernel_rfl, ?_⟩)
            | (refine AWp.draw (id := 6) mixed ?_
               refine AList.fieldPt tyOk rfl rfl rfl rfl rfl rfl rfl ?_
               refine AList.load1 tyOk rfl rfl rfl rfl rfl rfl rfl oM oM ?_
               refine AList.move rfl rfl rfl ?_
               refine AList.move rfl rfl rfl ?_
               refine AList.idx (k := k) tyOk rfl rfl rfl rfl rfl rfl rfl rfl (by first | rfl | omega) oM oM ?_
               refine AList.load1l tyOk rfl rfl rfl rfl rfl oM ?_
               refine AList.idxOw (k := j) tyOk rfl rfl rfl rfl rfl rfl rfl rfl rfl rfl (by first | rfl | omega) oM ?_
               refine AList.load1 tyOk rfl rfl rfl rfl rfl rfl rfl oM oM ?_
               refine AList.move rfl rfl rfl ?_
               refine AList.cmpT rfl rfl rfl rfl rfl cmT ?_
               refine AList.nil ⟨by kernel_rfl, ?_⟩)
            | (refine AWp.region (id := 7) ?_
               refine AList.assign rfl rfl rfl ?_
               refine AList.nil ?_))
          refine ⟨mkL 55 1 [(6, .c (bC false))] [(1000, rowI n px)] [], [], Wk.mkL [] rfl rfl rfl rfl rfl ?_ ?_, rfl, rfl, ARets.one (x := .c _) (ARes.tmp rfl rfl)⟩
          · repeat (first | exact trivial | refine ⟨⟨_, rfl, by first | exact LeA.c (LeC.refl _ rfl) | exact LeA.c (LeC.ow _ _ rfl) | exact LeA.c (LeC.pt _ _ _ _ _ rfl) | exact LeA.c (LeC.nil _ rfl) | exact LeA.c (LeC.nils _ _) | (refine LeA.int ?_; omega) | (refine LeA.int ?_; dsimp only; omega) | exact LeA.c (LeC.fz rfl rfl (by first | rfl | omega) (fun i _ j _ => ⟨rfl, by first | rfl | exact rowN_imm (fun _ => rfl) _ i j | exact rowF_imm (fun _ => rfl) _ i j⟩))⟩, ?_⟩)
          · exact ⟨HeapOk.lentRow rfl rfl (fun i _ => cell1 ⟨rfl, rfl⟩), trivial⟩
    · obtain rfl : k = N := by omega
      rw [mkAll_iff.2 hok]
      repeat (first
        | refine AWp.seq ?_
        | refine thenA_n ?_
        | refine AWp.exit ?_
        | refine AWp.ret ?_
        | refine AWp.condF rfl (by first | rfl | assumption | exact cmF) ?_
        | (refine AWp.region (id := 2) ?_
           refine AList.move rfl rfl rfl ?_
           refine AList.move rfl rfl rfl ?_
           refine AList.lenLs tyOk rfl rfl rfl rfl rfl ?_
           refine AList.cmpF rfl rfl rfl rfl rfl cmF ?_
           refine AList.nil ?_)
        | (refine AWp.region (id := 8) ?_
           refine AList.assign rfl rfl rfl ?_
           refine AList.nil ?_))
      refine ⟨mkL 55 1 [(6, .c (bC true))] [(1000, rowI n px)] [], [], Wk.mkL [] rfl rfl rfl rfl rfl ?_ ?_, rfl, rfl, ARets.one (x := .c _) (ARes.tmp rfl rfl)⟩
      · repeat (first | exact trivial | refine ⟨⟨_, rfl, by first | exact LeA.c (LeC.refl _ rfl) | exact LeA.c (LeC.ow _ _ rfl) | exact LeA.c (LeC.pt _ _ _ _ _ rfl) | exact LeA.c (LeC.nil _ rfl) | exact LeA.c (LeC.nils _ _) | (refine LeA.int ?_; omega) | (refine LeA.int ?_; dsimp only; omega) | exact LeA.c (LeC.fz rfl rfl (by first | rfl | omega) (fun i _ j _ => ⟨rfl, by first | rfl | exact rowN_imm (fun _ => rfl) _ i j | exact rowF_imm (fun _ => rfl) _ i j⟩))⟩, ?_⟩)
      · exact ⟨HeapOk.lentRow rfl rfl (fun i _ => cell1 ⟨rfl, rfl⟩), trivial⟩
set_option maxHeartbeats 2000000 in
set_option maxRecDepth 100000 in
theorem rApply_A (b : Bp) (h : Ht) (hN : h.N ≤ 4611686018427387904) (hM : h.M ≤ 4611686018427387904) : ACalls Try.prog 18 [.ag (bpC b), .ag (htC h)] (apV b h) := by
  obtain ⟨W, H, n, d⟩ := b
  obtain ⟨dx, dy, N, lo, M, bl, fr, ti⟩ := h
  dsimp only at hN hM
  by_cases hp : putE W H n dx dy = 0
  · have hokb : chk W H n = 0 := by
      unfold putE at hp
      split at hp
      · assumption
      · exact absurd hp ‹_›
    obtain ⟨hw0, hW, hh0, hH, hn⟩ := okB hokb
    obtain ⟨Wn, rfl⟩ := Int.eq_ofNat_of_zero_le hw0
    obtain ⟨Hn, rfl⟩ := Int.eq_ofNat_of_zero_le hh0
    have hPut := rPut_T Wn Hn n d dx dy hp
    have hmE : bpm ⟨Wn, Hn, n, d⟩ = (Wn + 4) * (Hn + 4) := by
      show (((Wn : Int) + 4) * ((Hn : Int) + 4)).toNat = _
      have : ((Wn : Int) + 4) * ((Hn : Int) + 4) = (((Wn + 4) * (Hn + 4) : Nat) : Int) := by simp
      rw [this, Int.toNat_natCast]
    obtain ⟨m, hm⟩ : ∃ m, m = (Wn + 4) * (Hn + 4) := ⟨_, rfl⟩
    have hmb : m ≤ 10000 := by rw [hm]; exact Nat.mul_le_mul (by omega : Wn + 4 ≤ 100) (by omega : Hn + 4 ≤ 100)
    have hm0 : 0 < m := by rw [hm]; exact Nat.mul_pos (by omega) (by omega)
    obtain ⟨px, hpx⟩ : ∃ px, px = putF Wn Hn d dx dy := ⟨_, rfl⟩
    have hpb : ∀ p, 0 ≤ px p ∧ px p ≤ 1 := fun p => by rw [hpx]; exact putF_bd _ _ _ _ _ p
    rw [← hm, ← hpx] at hPut
    have hK1 := marked_H ((Wn : Int) + 4) ((Hn : Int) + 4) m px N lo 1 (by omega) hN
    have hK2 := marked_H ((Wn : Int) + 4) ((Hn : Int) + 4) m px M bl 0 (by omega) hM
    have hEq : apE ⟨Wn, Hn, n, d⟩ ⟨dx, dy, N, lo, M, bl, fr, ti⟩ = if mkAll m px lo 1 N = true ∧ mkAll m px bl 0 M = true ∧ 0 ≤ fr ∧ fr ≤ ti ∧ ti ≤ (Wn : Int) + 4 then 0 else 1 := by
      unfold apE
      rw [if_pos hp]
      dsimp only
      rw [hmE, ← hm, hpx]
    by_cases hA : mkAll m px lo 1 N = true
    · rw [hA] at hK1
      by_cases hB : mkAll m px bl 0 M = true
      · rw [hB] at hK2
        have hcs : fr < 0 ∨ (¬ fr < 0 ∧ ti < fr) ∨ (¬ fr < 0 ∧ ¬ ti < fr ∧ (Wn : Int) + 4 < ti) ∨ (0 ≤ fr ∧ fr ≤ ti ∧ ti ≤ (Wn : Int) + 4) := by omega
        rcases hcs with h | ⟨h, h'⟩ | ⟨h, h', h''⟩ | ⟨g1, g2, g3⟩
        case inr.inr.inr =>
          have hE1 : apE ⟨Wn, Hn, n, d⟩ ⟨dx, dy, N, lo, M, bl, fr, ti⟩ = 0 := by rw [hEq, if_pos ⟨hA, hB, g1, g2, g3⟩]
          have hIm : apI ⟨Wn, Hn, n, d⟩ ⟨dx, dy, N, lo, M, bl, fr, ti⟩ = imgV ((Wn : Int) + 4) ((Hn : Int) + 4) m (hideF ((Wn : Int) + 4) (setL (setL px lo 0 N) bl 1 M) fr ti) := by
            rw [apI, if_pos hE1]
            dsimp only [apF, bpx]
            rw [hmE, ← hm, hpx]
          rw [apV, hIm, hE1]
          have hp1b : ∀ k p, 0 ≤ setL px lo 0 k p ∧ setL px lo 0 k p ≤ 1 := fun k p => setL_bd (by omega) hpb k p
          have hp2b := fun p => setL_bd (l := bl) (v := 1) (by omega) (hp1b N) M p
          have hHi := rHide_A (Wn + 4) (Hn + 4) m (setL (setL px lo 0 N) bl 1 M) fr ti (by
            rw [chkI_ok]
            refine ⟨⟨by omega, by omega, by omega, by omega, by rw [hm]; simp⟩, fun p _ => ⟨(hp2b p).1, Int.le_trans (hp2b p).2 (by decide)⟩⟩)
          rw [show ((Wn + 4 : Nat) : Int) = (Wn : Int) + 4 by simp, show ((Hn + 4 : Nat) : Int) = (Hn : Int) + 4 by simp] at hHi
          have hlo := mkAll_iff.1 hA
          have hbl := mkAll_iff.1 hB
          refine acalls_at Try.func18 rfl rfl Try.ntmps18 rfl ?_
          repeat (first
            | refine AWp.seq ?_
            | refine thenA_n ?_
            | refine AWp.block ?_
            | refine AWp.skip ?_
            | refine AWp.condF rfl (by first | rfl | assumption | exact cmF) ?_
            | (refine AWp.region (id := 0) ?_
               refine AList.box rfl rfl rfl rfl rfl ?_
               refine AList.box rfl rfl rfl rfl rfl ?_
               refine AList.alloc tyOk rfl rfl rfl rfl rfl ?_
               refine AList.assign rfl rfl rfl ?_
               refine AList.nil ?_)
            | (refine AWp.region (id := 1) ?_
               refine AList.loadA tyOk rfl rfl rfl rfl rfl rfl rfl oM oM ?_
               refine AList.fieldPt tyOk rfl rfl rfl rfl rfl rfl rfl ?_
               refine AList.load1 tyOk rfl rfl rfl rfl rfl rfl rfl oM oM ?_
               refine AList.fieldPt tyOk rfl rfl rfl rfl rfl rfl rfl ?_
               refine AList.load1 tyOk rfl rfl rfl rfl rfl rfl rfl oM oM ?_
               refine AList.callT rfl rfl rfl rfl rfl Try.func33 rfl (by kernel_rfl) (hPut) (fun _ _ _ _ => rfl) ?_
               refine AList.move rfl rfl rfl ?_
               refine AList.extract rfl rfl rfl rfl ?_
               refine AList.extract rfl rfl rfl rfl ?_
               refine AList.alloc tyOk rfl rfl rfl rfl rfl ?_
               refine AList.store tyOk rfl rfl rfl rfl rfl rfl rfl rfl oM oM ?_
               refine AList.assign rfl rfl rfl ?_
               refine AList.nil ?_)
            | (refine AWp.region (id := 2) ?_
               refine AList.move rfl rfl rfl ?_
               refine AList.cmp rfl rfl rfl rfl rfl ?_
               refine AList.nil ?_)
            | (refine AWp.region (id := 4) ?_
               refine AList.loadA tyOk rfl rfl rfl rfl rfl rfl rfl oM oM ?_
               refine AList.fieldPt tyOk rfl rfl rfl rfl rfl rfl rfl ?_
               refine AList.load1 tyOk rfl rfl rfl rfl rfl rfl rfl oM oM ?_
               refine AList.callH [16] [rowI m px] [rowI m px] rfl rfl rfl Try.func34 rfl (by kernel_rfl) (LendOk.row rfl hm0 (fun _ _ => cell1 ⟨rfl, rfl⟩) trivial) rfl (LendImm.row (fun _ _ => cell1 rfl) trivial) (hK1) ?_
               refine AList.notB rfl rfl rfl ?_
               refine AList.move rfl rfl rfl ?_
               refine AList.loadA tyOk rfl rfl rfl rfl rfl rfl rfl oM oM ?_
               refine AList.fieldPt tyOk rfl rfl rfl rfl rfl rfl rfl ?_
               refine AList.load1 tyOk rfl rfl rfl rfl rfl rfl rfl oM oM ?_
               refine AList.callH [16] [rowI m px] [rowI m px] rfl rfl rfl Try.func34 rfl (by kernel_rfl) (LendOk.row rfl hm0 (fun _ _ => cell1 ⟨rfl, rfl⟩) trivial) rfl (LendImm.row (fun _ _ => cell1 rfl) trivial) (hK2) ?_
               refine AList.notB rfl rfl rfl ?_
               refine AList.pickF rfl rfl rfl rfl ?_
               refine AList.move rfl rfl rfl ?_
               refine AList.fieldPt tyOk rfl rfl rfl rfl rfl rfl rfl ?_
               refine AList.load1 tyOk rfl rfl rfl rfl rfl rfl rfl oM oM ?_
               refine AList.cmpF rfl rfl rfl rfl rfl cmF ?_
               refine AList.pickF rfl rfl rfl rfl ?_
               refine AList.move rfl rfl rfl ?_
               refine AList.fieldPt tyOk rfl rfl rfl rfl rfl rfl rfl ?_
               refine AList.load1 tyOk rfl rfl rfl rfl rfl rfl rfl oM oM ?_
               refine AList.fieldPt tyOk rfl rfl rfl rfl rfl rfl rfl ?_
               refine AList.load1 tyOk rfl rfl rfl rfl rfl rfl rfl oM oM ?_
               refine AList.cmpF rfl rfl rfl rfl rfl cmF ?_
               refine AList.pickF rfl rfl rfl rfl ?_
               refine AList.move rfl rfl rfl ?_
               refine AList.fieldPt tyOk rfl rfl rfl rfl rfl rfl rfl ?_
               refine AList.load1 tyOk rfl rfl rfl rfl rfl rfl rfl oM oM ?_
               refine AList.fieldPt tyOk rfl rfl rfl rfl rfl rfl rfl ?_
               refine AList.load1 tyOk rfl rfl rfl rfl rfl rfl rfl oM oM ?_
               refine AList.cmpF rfl rfl rfl rfl rfl cmF ?_
               refine AList.pickF rfl rfl rfl rfl ?_
               refine AList.nil ?_)
            | (refine AWp.region (id := 6) ?_
               refine AList.assign rfl rfl rfl ?_
               refine AList.nil ?_))
          refine AWp.round (fun k : Nat => mkSt 91 [(3, .c (.pt 3 6 0 0)), (4, .c (.pt 4 3 0 0)), (6, .c (.pt 6 3 0 0)), (8, .c (iC k))]
            [(3, ⟨false, 1, 6, 47, lF [iC dx, iC dy, .ls N 1 (iF lo), .ls M 1 (iF bl), iC fr, iC ti]⟩), (4, ⟨false, 1, 3, 43, lF [iC 0, iC 0, .p (.slice none 0 0)]⟩), (6, ⟨false, 1, 3, 43, lF [iC ((Wn : Int) + 4), iC ((Hn : Int) + 4), .ow 16]⟩), (16, rowI m (setL px lo 0 k))] [3, 4, 6, 16])
            (fun k => k ≤ N) (fun k => N - k) 0 (Nat.zero_le _) ?_ (fun k hk => ?_)
          · refine Wk.mk [(3, some 3), (4, some 4), (6, some 6), (16, some 16)] rfl rfl rfl ?_ ?_
            · repeat (first | exact trivial | refine ⟨⟨_, rfl, by first | exact LeA.c (LeC.refl _ rfl) | exact LeA.c (LeC.ow _ _ rfl) | exact LeA.c (LeC.pt _ _ _ _ _ rfl) | exact LeA.c (LeC.nil _ rfl) | exact LeA.c (LeC.nils _ _) | (refine LeA.int ?_; omega) | (refine LeA.int ?_; dsimp only; omega) | exact LeA.c (LeC.fz rfl rfl (by first | rfl | omega) (fun i _ j _ => ⟨rfl, by first | rfl | exact rowN_imm (fun _ => rfl) _ i j | exact rowF_imm (fun _ => rfl) _ i j⟩))⟩, ?_⟩)
            · exact ⟨HeapOk.same rfl rfl rfl rfl, HeapOk.same rfl rfl rfl rfl, HeapOk.box rfl rfl ⟨LeC.int rfl, LeC.int rfl, LeC.ow _ _ rfl, trivial⟩ rfl, HeapOk.row rfl rfl rfl (fun i _ => cell1 ⟨rfl, rfl⟩), trivial⟩
          · by_cases hlt : k < N
            · obtain ⟨q1, q2, -, -⟩ := hlo k hlt
              obtain ⟨j, hj⟩ := Int.eq_ofNat_of_zero_le q1
              have hjm : j < m := by omega
              have hlj : (lo k).toNat = j := by omega
              repeat (first
                | refine AWp.seq ?_
                | refine thenA_n ?_
                | refine AWp.block ?_
                | refine AWp.skip ?_
                | refine inBlk_n ?_
                | refine AWp.condT rfl (by first | rfl | assumption | exact cmT) ?_
                | (refine AWp.region (id := 7) ?_
                   refine AList.move rfl rfl rfl ?_
                   refine AList.fieldPt tyOk rfl rfl rfl rfl rfl rfl rfl ?_
                   refine AList.load1 tyOk rfl rfl rfl rfl rfl rfl rfl oM oM ?_
                   refine AList.lenLs tyOk rfl rfl rfl rfl rfl ?_
                   refine AList.cmpT rfl rfl rfl rfl rfl cmT ?_
                   refine AList.nil ?_)
                | (refine AWp.region (id := 8) ?_
                   refine AList.move rfl rfl rfl ?_
                   refine AList.add rfl rfl rfl rfl (by omega) (by omega) ?_
                   refine AList.assign rfl rfl rfl ?_
                   refine AList.nil ?_)
                | (refine AWp.draw (id := 9) mixed ?_
                   refine AList.fieldPt tyOk rfl rfl rfl rfl rfl rfl rfl ?_
                   refine AList.load1 tyOk rfl rfl rfl rfl rfl rfl rfl oM oM ?_
                   refine AList.fieldPt tyOk rfl rfl rfl rfl rfl rfl rfl ?_
                   refine AList.load1 tyOk rfl rfl rfl rfl rfl rfl rfl oM oM ?_
                   refine AList.move rfl rfl rfl ?_
                   refine AList.idx (k := k) tyOk rfl rfl rfl rfl rfl rfl rfl rfl (by first | rfl | omega) oM oM ?_
                   refine AList.load1l tyOk rfl rfl rfl rfl rfl oM ?_
                   refine AList.idxOw (k := j) tyOk rfl rfl rfl rfl rfl rfl rfl rfl rfl rfl (by first | rfl | omega) oM ?_
                   refine AList.store tyOk rfl rfl rfl rfl rfl rfl rfl rfl oM oM ?_
                   refine AList.nil ⟨by kernel_rfl, ?_⟩))
              refine ⟨k + 1, by omega, Wk.mk [(3, some 3), (4, some 4), (6, some 6), (16, some 16)] rfl rfl rfl ?_ ?_, by omega⟩
              · repeat (first | exact trivial | refine ⟨⟨_, rfl, by first | exact LeA.c (LeC.refl _ rfl) | exact LeA.c (LeC.ow _ _ rfl) | exact LeA.c (LeC.pt _ _ _ _ _ rfl) | exact LeA.c (LeC.nil _ rfl) | exact LeA.c (LeC.nils _ _) | (refine LeA.int ?_; omega) | (refine LeA.int ?_; dsimp only; omega) | exact LeA.c (LeC.fz rfl rfl (by first | rfl | omega) (fun i _ j _ => ⟨rfl, by first | rfl | exact rowN_imm (fun _ => rfl) _ i j | exact rowF_imm (fun _ => rfl) _ i j⟩))⟩, ?_⟩)
              · exact ⟨HeapOk.same rfl rfl rfl rfl, HeapOk.same rfl rfl rfl rfl, HeapOk.box rfl rfl ⟨LeC.int rfl, LeC.int rfl, LeC.ow _ _ rfl, trivial⟩ rfl, HeapOk.row rfl rfl rfl (set_one (setL px lo 0 (k + 1)) (if_pos hlj.symm) (fun p hp => if_neg (by rw [hlj]; exact hp))), trivial⟩
            · obtain rfl : k = N := by omega
              repeat (first
                | refine AWp.seq ?_
                | refine thenA_n ?_
                | refine AWp.block ?_
                | refine AWp.exit ?_
                | refine AWp.condF rfl (by first | rfl | assumption | exact cmF) ?_
                | (refine AWp.region (id := 7) ?_
                   refine AList.move rfl rfl rfl ?_
                   refine AList.fieldPt tyOk rfl rfl rfl rfl rfl rfl rfl ?_
                   refine AList.load1 tyOk rfl rfl rfl rfl rfl rfl rfl oM oM ?_
                   refine AList.lenLs tyOk rfl rfl rfl rfl rfl ?_
                   refine AList.cmpF rfl rfl rfl rfl rfl cmF ?_
                   refine AList.nil ?_)
                | (refine AWp.region (id := 10) ?_
                   refine AList.assign rfl rfl rfl ?_
                   refine AList.nil ?_))
              refine AWp.round (fun i : Nat => mkSt 91 [(3, .c (.pt 3 6 0 0)), (4, .c (.pt 4 3 0 0)), (6, .c (.pt 6 3 0 0)), (9, .c (iC i))]
                [(3, ⟨false, 1, 6, 47, lF [iC dx, iC dy, .ls k 1 (iF lo), .ls M 1 (iF bl), iC fr, iC ti]⟩), (4, ⟨false, 1, 3, 43, lF [iC 0, iC 0, .p (.slice none 0 0)]⟩), (6, ⟨false, 1, 3, 43, lF [iC ((Wn : Int) + 4), iC ((Hn : Int) + 4), .ow 16]⟩), (16, rowI m (setL (setL px lo 0 k) bl 1 i))] [3, 4, 6, 16])
                (fun i => i ≤ M) (fun i => M - i) 0 (Nat.zero_le _) ?_ (fun i hi => ?_)
              · refine Wk.mk [(3, some 3), (4, some 4), (6, some 6), (16, some 16)] rfl rfl rfl ?_ ?_
                · repeat (first | exact trivial | refine ⟨⟨_, rfl, by first | exact LeA.c (LeC.refl _ rfl) | exact LeA.c (LeC.ow _ _ rfl) | exact LeA.c (LeC.pt _ _ _ _ _ rfl) | exact LeA.c (LeC.nil _ rfl) | exact LeA.c (LeC.nils _ _) | (refine LeA.int ?_; omega) | (refine LeA.int ?_; dsimp only; omega) | exact LeA.c (LeC.fz rfl rfl (by first | rfl | omega) (fun i _ j _ => ⟨rfl, by first | rfl | exact rowN_imm (fun _ => rfl) _ i j | exact rowF_imm (fun _ => rfl) _ i j⟩))⟩, ?_⟩)
                · exact ⟨HeapOk.same rfl rfl rfl rfl, HeapOk.same rfl rfl rfl rfl, HeapOk.box rfl rfl ⟨LeC.int rfl, LeC.int rfl, LeC.ow _ _ rfl, trivial⟩ rfl, HeapOk.row rfl rfl rfl (fun i _ => cell1 ⟨rfl, rfl⟩), trivial⟩
              · by_cases hlti : i < M
                · obtain ⟨q1, q2, -, -⟩ := hbl i hlti
                  obtain ⟨j, hj⟩ := Int.eq_ofNat_of_zero_le q1
                  have hjm : j < m := by omega
                  have hlj : (bl i).toNat = j := by omega
                  repeat (first
                    | refine AWp.seq ?_
                    | refine thenA_n ?_
                    | refine AWp.block ?_
                    | refine AWp.skip ?_
                    | refine inBlk_n ?_
                    | refine AWp.condT rfl (by first | rfl | assumption | exact cmT) ?_
                    | (refine AWp.region (id := 11) ?_
                       refine AList.move rfl rfl rfl ?_
                       refine AList.fieldPt tyOk rfl rfl rfl rfl rfl rfl rfl ?_
                       refine AList.load1 tyOk rfl rfl rfl rfl rfl rfl rfl oM oM ?_
                       refine AList.lenLs tyOk rfl rfl rfl rfl rfl ?_
                       refine AList.cmpT rfl rfl rfl rfl rfl cmT ?_
                       refine AList.nil ?_)
                    | (refine AWp.region (id := 12) ?_
                       refine AList.move rfl rfl rfl ?_
                       refine AList.add rfl rfl rfl rfl (by omega) (by omega) ?_
                       refine AList.assign rfl rfl rfl ?_
                       refine AList.nil ?_)
                    | (refine AWp.draw (id := 13) mixed ?_
                       refine AList.fieldPt tyOk rfl rfl rfl rfl rfl rfl rfl ?_
                       refine AList.load1 tyOk rfl rfl rfl rfl rfl rfl rfl oM oM ?_
                       refine AList.fieldPt tyOk rfl rfl rfl rfl rfl rfl rfl ?_
                       refine AList.load1 tyOk rfl rfl rfl rfl rfl rfl rfl oM oM ?_
                       refine AList.move rfl rfl rfl ?_
                       refine AList.idx (k := i) tyOk rfl rfl rfl rfl rfl rfl rfl rfl (by first | rfl | omega) oM oM ?_
                       refine AList.load1l tyOk rfl rfl rfl rfl rfl oM ?_
                       refine AList.idxOw (k := j) tyOk rfl rfl rfl rfl rfl rfl rfl rfl rfl rfl (by first | rfl | omega) oM ?_
                       refine AList.store tyOk rfl rfl rfl rfl rfl rfl rfl rfl oM oM ?_
                       refine AList.nil ⟨by kernel_rfl, ?_⟩))
                  refine ⟨i + 1, by omega, Wk.mk [(3, some 3), (4, some 4), (6, some 6), (16, some 16)] rfl rfl rfl ?_ ?_, by omega⟩
                  · repeat (first | exact trivial | refine ⟨⟨_, rfl, by first | exact LeA.c (LeC.refl _ rfl) | exact LeA.c (LeC.ow _ _ rfl) | exact LeA.c (LeC.pt _ _ _ _ _ rfl) | exact LeA.c (LeC.nil _ rfl) | exact LeA.c (LeC.nils _ _) | (refine LeA.int ?_; omega) | (refine LeA.int ?_; dsimp only; omega) | exact LeA.c (LeC.fz rfl rfl (by first | rfl | omega) (fun i _ j _ => ⟨rfl, by first | rfl | exact rowN_imm (fun _ => rfl) _ i j | exact rowF_imm (fun _ => rfl) _ i j⟩))⟩, ?_⟩)
                  · exact ⟨HeapOk.same rfl rfl rfl rfl, HeapOk.same rfl rfl rfl rfl, HeapOk.box rfl rfl ⟨LeC.int rfl, LeC.int rfl, LeC.ow _ _ rfl, trivial⟩ rfl, HeapOk.row rfl rfl rfl (set_one (setL (setL px lo 0 k) bl 1 (i + 1)) (if_pos hlj.symm) (fun p hp => if_neg (by rw [hlj]; exact hp))), trivial⟩
                · obtain rfl : i = M := by omega
                  repeat (first
                    | refine AWp.seq ?_
                    | refine thenA_n ?_
                    | refine AWp.exit ?_
                    | refine AWp.condF rfl (by first | rfl | assumption | exact cmF) ?_
                    | (refine AWp.region (id := 11) ?_
                       refine AList.move rfl rfl rfl ?_
                       refine AList.fieldPt tyOk rfl rfl rfl rfl rfl rfl rfl ?_
                       refine AList.load1 tyOk rfl rfl rfl rfl rfl rfl rfl oM oM ?_
                       refine AList.lenLs tyOk rfl rfl rfl rfl rfl ?_
                       refine AList.cmpF rfl rfl rfl rfl rfl cmF ?_
                       refine AList.nil ?_))
                  refine AWp.weak (S' := mkSt 91 [(3, .c (.pt 3 6 0 0)), (4, .c (.pt 4 3 0 0)), (6, .c (.pt 6 3 0 0))]
                    [(3, ⟨false, 1, 6, 47, lF [iC dx, iC dy, .ls k 1 (iF lo), .ls i 1 (iF bl), iC fr, iC ti]⟩), (4, ⟨false, 1, 3, 43, lF [iC 0, iC 0, .p (.slice none 0 0)]⟩), (6, ⟨false, 1, 3, 43, lF (imgV ((Wn : Int) + 4) ((Hn : Int) + 4) m (setL (setL px lo 0 k) bl 1 i))⟩)] [3, 4, 6]) (Wk.mk [(3, some 3), (4, some 4), (6, some 6)] rfl rfl rfl ?_ ?_) ?_
                  · repeat (first | exact trivial | refine ⟨⟨_, rfl, by first | exact LeA.c (LeC.refl _ rfl) | exact LeA.c (LeC.ow _ _ rfl) | exact LeA.c (LeC.pt _ _ _ _ _ rfl) | exact LeA.c (LeC.nil _ rfl) | exact LeA.c (LeC.nils _ _) | (refine LeA.int ?_; omega) | (refine LeA.int ?_; dsimp only; omega) | exact LeA.c (LeC.fz rfl rfl (by first | rfl | omega) (fun i _ j _ => ⟨rfl, by first | rfl | exact rowN_imm (fun _ => rfl) _ i j | exact rowF_imm (fun _ => rfl) _ i j⟩))⟩, ?_⟩)
                  · exact ⟨HeapOk.same rfl rfl rfl rfl, HeapOk.same rfl rfl rfl rfl, HeapOk.box rfl rfl ⟨LeC.int rfl, LeC.int rfl, LeC.fz rfl rfl rfl (fun i _ => cell1 ⟨rfl, rfl⟩), trivial⟩ rfl, trivial⟩
                  repeat (first
                    | refine thenA_n ?_
                    | refine AWp.ret ?_
                    | (refine AWp.region (id := 14) ?_
                       refine AList.loadA tyOk rfl rfl rfl rfl rfl rfl rfl oM oM ?_
                       refine AList.fieldPt tyOk rfl rfl rfl rfl rfl rfl rfl ?_
                       refine AList.load1 tyOk rfl rfl rfl rfl rfl rfl rfl oM oM ?_
                       refine AList.fieldPt tyOk rfl rfl rfl rfl rfl rfl rfl ?_
                       refine AList.load1 tyOk rfl rfl rfl rfl rfl rfl rfl oM oM ?_
                       refine AList.call rfl rfl rfl rfl Try.func35 rfl (by kernel_rfl) (hHi) ?_
                       refine AList.store tyOk rfl rfl rfl rfl rfl rfl rfl rfl oM oM ?_
                       refine AList.assign rfl rfl rfl ?_
                       refine AList.nil ?_))
                  refine ⟨mkSt 91 [(4, .c (.pt 4 3 0 0)), (5, .c (iC 0))] [(4, ⟨false, 1, 3, 43, lF (imgV ((Wn : Int) + 4) ((Hn : Int) + 4) m (hideF ((Wn : Int) + 4) (setL (setL px lo 0 k) bl 1 i) fr ti))⟩)] [4], [(4, ⟨false, 1, 3, 43, lF (imgV ((Wn : Int) + 4) ((Hn : Int) + 4) m (hideF ((Wn : Int) + 4) (setL (setL px lo 0 k) bl 1 i) fr ti))⟩)], Wk.mk [(4, some 4)] rfl rfl rfl ?_ ?_, rfl, rfl, ARets.two (x := .ag _) (y := .c _) (ARes.box tyOk rfl rfl rfl rfl rfl rfl rfl) (ARes.tmp rfl rfl)⟩
                  · repeat (first | exact trivial | refine ⟨⟨_, rfl, by first | exact LeA.c (LeC.refl _ rfl) | exact LeA.c (LeC.ow _ _ rfl) | exact LeA.c (LeC.pt _ _ _ _ _ rfl) | exact LeA.c (LeC.nil _ rfl) | exact LeA.c (LeC.nils _ _) | (refine LeA.int ?_; omega) | (refine LeA.int ?_; dsimp only; omega) | exact LeA.c (LeC.fz rfl rfl (by first | rfl | omega) (fun i _ j _ => ⟨rfl, by first | rfl | exact rowN_imm (fun _ => rfl) _ i j | exact rowF_imm (fun _ => rfl) _ i j⟩))⟩, ?_⟩)
                  · repeat (first | exact trivial | refine ⟨by first | exact HeapOk.same rfl rfl rfl rfl | exact HeapOk.lent rfl rfl rfl rfl | exact HeapOk.nil rfl rfl | exact HeapOk.row rfl rfl (by first | rfl | omega) (fun i _ j _ => ⟨rfl, by first | rfl | exact rowN_imm (fun _ => rfl) _ i j | exact rowF_imm (fun _ => rfl) _ i j⟩) | exact HeapOk.box rfl rfl (by repeat (first | exact trivial | refine ⟨by first | exact LeC.refl _ rfl | exact LeC.ow _ _ rfl | exact LeC.nil _ rfl | exact LeC.nils _ _ | exact LeC.fz rfl rfl (by first | rfl | omega) (fun i _ j _ => ⟨rfl, by first | rfl | exact rowN_imm (fun _ => rfl) _ i j | exact rowF_imm (fun _ => rfl) _ i j⟩) | exact LeC.int (by omega), ?_⟩)) rfl, ?_⟩)
        all_goals
          have hE1 : apE ⟨Wn, Hn, n, d⟩ ⟨dx, dy, N, lo, M, bl, fr, ti⟩ = 1 := by rw [hEq, if_neg fun h => by omega]
          rw [apV, apI, hE1]
          refine acalls_at Try.func18 rfl rfl Try.ntmps18 rfl ?_
          repeat (first
            | refine AWp.seq ?_
            | refine thenA_n ?_
            | refine AWp.skip ?_
            | refine AWp.ret ?_
            | refine thenA_r ?_
            | refine AWp.condT rfl (by first | rfl | assumption | exact cmT) ?_
            | refine AWp.condF rfl (by first | rfl | assumption | exact cmF) ?_
            | (refine AWp.region (id := 0) ?_
               refine AList.box rfl rfl rfl rfl rfl ?_
               refine AList.box rfl rfl rfl rfl rfl ?_
               refine AList.alloc tyOk rfl rfl rfl rfl rfl ?_
               refine AList.assign rfl rfl rfl ?_
               refine AList.nil ?_)
            | (refine AWp.region (id := 1) ?_
               refine AList.loadA tyOk rfl rfl rfl rfl rfl rfl rfl oM oM ?_
               refine AList.fieldPt tyOk rfl rfl rfl rfl rfl rfl rfl ?_
               refine AList.load1 tyOk rfl rfl rfl rfl rfl rfl rfl oM oM ?_
               refine AList.fieldPt tyOk rfl rfl rfl rfl rfl rfl rfl ?_
               refine AList.load1 tyOk rfl rfl rfl rfl rfl rfl rfl oM oM ?_
               refine AList.callT rfl rfl rfl rfl rfl Try.func33 rfl (by kernel_rfl) (hPut) (fun _ _ _ _ => rfl) ?_
               refine AList.move rfl rfl rfl ?_
               refine AList.extract rfl rfl rfl rfl ?_
               refine AList.extract rfl rfl rfl rfl ?_
               refine AList.alloc tyOk rfl rfl rfl rfl rfl ?_
               refine AList.store tyOk rfl rfl rfl rfl rfl rfl rfl rfl oM oM ?_
               refine AList.assign rfl rfl rfl ?_
               refine AList.nil ?_)
            | (refine AWp.region (id := 2) ?_
               refine AList.move rfl rfl rfl ?_
               refine AList.cmp rfl rfl rfl rfl rfl ?_
               refine AList.nil ?_)
            | (refine AWp.region (id := 4) ?_
               refine AList.loadA tyOk rfl rfl rfl rfl rfl rfl rfl oM oM ?_
               refine AList.fieldPt tyOk rfl rfl rfl rfl rfl rfl rfl ?_
               refine AList.load1 tyOk rfl rfl rfl rfl rfl rfl rfl oM oM ?_
               refine AList.callH [16] [rowI m px] [rowI m px] rfl rfl rfl Try.func34 rfl (by kernel_rfl) (LendOk.row rfl hm0 (fun _ _ => cell1 ⟨rfl, rfl⟩) trivial) rfl (LendImm.row (fun _ _ => cell1 rfl) trivial) (hK1) ?_
               refine AList.notB rfl rfl rfl ?_
               refine AList.move rfl rfl rfl ?_
               refine AList.loadA tyOk rfl rfl rfl rfl rfl rfl rfl oM oM ?_
               refine AList.fieldPt tyOk rfl rfl rfl rfl rfl rfl rfl ?_
               refine AList.load1 tyOk rfl rfl rfl rfl rfl rfl rfl oM oM ?_
               refine AList.callH [16] [rowI m px] [rowI m px] rfl rfl rfl Try.func34 rfl (by kernel_rfl) (LendOk.row rfl hm0 (fun _ _ => cell1 ⟨rfl, rfl⟩) trivial) rfl (LendImm.row (fun _ _ => cell1 rfl) trivial) (hK2) ?_
               refine AList.notB rfl rfl rfl ?_
               refine AList.pickF rfl rfl rfl rfl ?_
               refine AList.move rfl rfl rfl ?_
               refine AList.fieldPt tyOk rfl rfl rfl rfl rfl rfl rfl ?_
               refine AList.load1 tyOk rfl rfl rfl rfl rfl rfl rfl oM oM ?_
               first | refine AList.cmpT rfl rfl rfl rfl rfl cmT ?_ | refine AList.cmpF rfl rfl rfl rfl rfl cmF ?_
               refine AList.pickF rfl rfl rfl rfl ?_
               refine AList.move rfl rfl rfl ?_
               first | refine AList.skip rfl rfl ?_ | refine AList.fieldPt tyOk rfl rfl rfl rfl rfl rfl rfl ?_
               first | refine AList.skip rfl rfl ?_ | refine AList.load1 tyOk rfl rfl rfl rfl rfl rfl rfl oM oM ?_
               first | refine AList.skip rfl rfl ?_ | refine AList.fieldPt tyOk rfl rfl rfl rfl rfl rfl rfl ?_
               first | refine AList.skip rfl rfl ?_ | refine AList.load1 tyOk rfl rfl rfl rfl rfl rfl rfl oM oM ?_
               first | refine AList.skip rfl rfl ?_ | refine AList.cmpT rfl rfl rfl rfl rfl cmT ?_ | refine AList.cmpF rfl rfl rfl rfl rfl cmF ?_
               first | refine AList.pickT rfl rfl rfl rfl ?_ | refine AList.pickF rfl rfl rfl rfl ?_
               refine AList.move rfl rfl rfl ?_
               first | refine AList.skip rfl rfl ?_ | refine AList.fieldPt tyOk rfl rfl rfl rfl rfl rfl rfl ?_
               first | refine AList.skip rfl rfl ?_ | refine AList.load1 tyOk rfl rfl rfl rfl rfl rfl rfl oM oM ?_
               first | refine AList.skip rfl rfl ?_ | refine AList.fieldPt tyOk rfl rfl rfl rfl rfl rfl rfl ?_
               first | refine AList.skip rfl rfl ?_ | refine AList.load1 tyOk rfl rfl rfl rfl rfl rfl rfl oM oM ?_
               first | refine AList.skip rfl rfl ?_ | refine AList.cmpT rfl rfl rfl rfl rfl cmT ?_
               first | refine AList.pickT rfl rfl rfl rfl ?_ | refine AList.pickF rfl rfl rfl rfl ?_
               refine AList.nil ?_)
            | (refine AWp.region (id := 5) ?_
               refine AList.buildSt tyOk rfl rfl rfl rfl rfl rfl rfl rfl ?_
               refine AList.store tyOk rfl rfl rfl rfl rfl rfl rfl rfl oM oM ?_
               refine AList.assign rfl rfl rfl ?_
               refine AList.nil ?_))
          refine ⟨mkSt 91 [(4, .c (.pt 4 3 0 0)), (5, .c (iC (1)))] [(4, ⟨false, 1, 3, 43, lF (imgV 0 0 0 fun _ => 0)⟩)] [4], [(4, ⟨false, 1, 3, 43, lF (imgV 0 0 0 fun _ => 0)⟩)], Wk.mk [(4, some 4)] rfl rfl rfl ?_ ?_, rfl, rfl, ARets.two (x := .ag _) (y := .c _) (ARes.box tyOk rfl rfl rfl rfl rfl rfl rfl) (ARes.tmp rfl rfl)⟩
          · repeat (first | exact trivial | refine ⟨⟨_, rfl, by first | exact LeA.c (LeC.refl _ rfl) | exact LeA.c (LeC.ow _ _ rfl) | exact LeA.c (LeC.pt _ _ _ _ _ rfl) | exact LeA.c (LeC.nil _ rfl) | exact LeA.c (LeC.nils _ _) | (refine LeA.int ?_; omega) | (refine LeA.int ?_; dsimp only; omega) | exact LeA.c (LeC.fz rfl rfl (by first | rfl | omega) (fun i _ j _ => ⟨rfl, by first | rfl | exact rowN_imm (fun _ => rfl) _ i j | exact rowF_imm (fun _ => rfl) _ i j⟩))⟩, ?_⟩)
          · exact ⟨HeapOk.box rfl rfl ⟨LeC.int rfl, LeC.int rfl, LeC.nils _ _, trivial⟩ rfl, trivial⟩
      · have hB' : mkAll m px bl 0 M = false := by cases hh : mkAll m px bl 0 M; rfl; exact absurd hh hB
        have hE1 : apE ⟨Wn, Hn, n, d⟩ ⟨dx, dy, N, lo, M, bl, fr, ti⟩ = 1 := by rw [hEq, if_neg fun h => hB h.2.1]
        rw [apV, apI, hE1]
        rw [hB'] at hK2
        refine acalls_at Try.func18 rfl rfl Try.ntmps18 rfl ?_
        repeat (first
          | refine AWp.seq ?_
          | refine thenA_n ?_
          | refine AWp.skip ?_
          | refine AWp.ret ?_
          | refine thenA_r ?_
          | refine AWp.condT rfl (by first | rfl | assumption | exact cmT) ?_
          | refine AWp.condF rfl (by first | rfl | assumption | exact cmF) ?_
          | (refine AWp.region (id := 0) ?_
             refine AList.box rfl rfl rfl rfl rfl ?_
             refine AList.box rfl rfl rfl rfl rfl ?_
             refine AList.alloc tyOk rfl rfl rfl rfl rfl ?_
             refine AList.assign rfl rfl rfl ?_
             refine AList.nil ?_)
          | (refine AWp.region (id := 1) ?_
             refine AList.loadA tyOk rfl rfl rfl rfl rfl rfl rfl oM oM ?_
             refine AList.fieldPt tyOk rfl rfl rfl rfl rfl rfl rfl ?_
             refine AList.load1 tyOk rfl rfl rfl rfl rfl rfl rfl oM oM ?_
             refine AList.fieldPt tyOk rfl rfl rfl rfl rfl rfl rfl ?_
             refine AList.load1 tyOk rfl rfl rfl rfl rfl rfl rfl oM oM ?_
             refine AList.callT rfl rfl rfl rfl rfl Try.func33 rfl (by kernel_rfl) (hPut) (fun _ _ _ _ => rfl) ?_
             refine AList.move rfl rfl rfl ?_
             refine AList.extract rfl rfl rfl rfl ?_
             refine AList.extract rfl rfl rfl rfl ?_
             refine AList.alloc tyOk rfl rfl rfl rfl rfl ?_
             refine AList.store tyOk rfl rfl rfl rfl rfl rfl rfl rfl oM oM ?_
             refine AList.assign rfl rfl rfl ?_
             refine AList.nil ?_)
          | (refine AWp.region (id := 2) ?_
             refine AList.move rfl rfl rfl ?_
             refine AList.cmp rfl rfl rfl rfl rfl ?_
             refine AList.nil ?_)
          | (refine AWp.region (id := 4) ?_
             refine AList.loadA tyOk rfl rfl rfl rfl rfl rfl rfl oM oM ?_
             refine AList.fieldPt tyOk rfl rfl rfl rfl rfl rfl rfl ?_
             refine AList.load1 tyOk rfl rfl rfl rfl rfl rfl rfl oM oM ?_
             refine AList.callH [16] [rowI m px] [rowI m px] rfl rfl rfl Try.func34 rfl (by kernel_rfl) (LendOk.row rfl hm0 (fun _ _ => cell1 ⟨rfl, rfl⟩) trivial) rfl (LendImm.row (fun _ _ => cell1 rfl) trivial) (hK1) ?_
             refine AList.notB rfl rfl rfl ?_
             refine AList.move rfl rfl rfl ?_
             refine AList.loadA tyOk rfl rfl rfl rfl rfl rfl rfl oM oM ?_
             refine AList.fieldPt tyOk rfl rfl rfl rfl rfl rfl rfl ?_
             refine AList.load1 tyOk rfl rfl rfl rfl rfl rfl rfl oM oM ?_
             refine AList.callH [16] [rowI m px] [rowI m px] rfl rfl rfl Try.func34 rfl (by kernel_rfl) (LendOk.row rfl hm0 (fun _ _ => cell1 ⟨rfl, rfl⟩) trivial) rfl (LendImm.row (fun _ _ => cell1 rfl) trivial) (hK2) ?_
             refine AList.notB rfl rfl rfl ?_
             refine AList.pickF rfl rfl rfl rfl ?_
             refine AList.move rfl rfl rfl ?_
             refine AList.skip rfl rfl ?_
             refine AList.skip rfl rfl ?_
             refine AList.skip rfl rfl ?_
             refine AList.pickT rfl rfl rfl rfl ?_
             refine AList.move rfl rfl rfl ?_
             refine AList.skip rfl rfl ?_
             refine AList.skip rfl rfl ?_
             refine AList.skip rfl rfl ?_
             refine AList.skip rfl rfl ?_
             refine AList.skip rfl rfl ?_
             refine AList.pickT rfl rfl rfl rfl ?_
             refine AList.move rfl rfl rfl ?_
             refine AList.skip rfl rfl ?_
             refine AList.skip rfl rfl ?_
             refine AList.skip rfl rfl ?_
             refine AList.skip rfl rfl ?_
             refine AList.skip rfl rfl ?_
             refine AList.pickT rfl rfl rfl rfl ?_
             refine AList.nil ?_)
          | (refine AWp.region (id := 5) ?_
             refine AList.buildSt tyOk rfl rfl rfl rfl rfl rfl rfl rfl ?_
             refine AList.store tyOk rfl rfl rfl rfl rfl rfl rfl rfl oM oM ?_
             refine AList.assign rfl rfl rfl ?_
             refine AList.nil ?_))
        refine ⟨mkSt 91 [(4, .c (.pt 4 3 0 0)), (5, .c (iC (1)))] [(4, ⟨false, 1, 3, 43, lF (imgV 0 0 0 fun _ => 0)⟩)] [4], [(4, ⟨false, 1, 3, 43, lF (imgV 0 0 0 fun _ => 0)⟩)], Wk.mk [(4, some 4)] rfl rfl rfl ?_ ?_, rfl, rfl, ARets.two (x := .ag _) (y := .c _) (ARes.box tyOk rfl rfl rfl rfl rfl rfl rfl) (ARes.tmp rfl rfl)⟩
        · repeat (first | exact trivial | refine ⟨⟨_, rfl, by first | exact LeA.c (LeC.refl _ rfl) | exact LeA.c (LeC.ow _ _ rfl) | exact LeA.c (LeC.pt _ _ _ _ _ rfl) | exact LeA.c (LeC.nil _ rfl) | exact LeA.c (LeC.nils _ _) | (refine LeA.int ?_; omega) | (refine LeA.int ?_; dsimp only; omega) | exact LeA.c (LeC.fz rfl rfl (by first | rfl | omega) (fun i _ j _ => ⟨rfl, by first | rfl | exact rowN_imm (fun _ => rfl) _ i j | exact rowF_imm (fun _ => rfl) _ i j⟩))⟩, ?_⟩)
        · exact ⟨HeapOk.box rfl rfl ⟨LeC.int rfl, LeC.int rfl, LeC.nils _ _, trivial⟩ rfl, trivial⟩
    · have hA' : mkAll m px lo 1 N = false := by cases hh : mkAll m px lo 1 N; rfl; exact absurd hh hA
      have hE1 : apE ⟨Wn, Hn, n, d⟩ ⟨dx, dy, N, lo, M, bl, fr, ti⟩ = 1 := by rw [hEq, if_neg fun h => hA h.1]
      rw [apV, apI, hE1]
      rw [hA'] at hK1
      refine acalls_at Try.func18 rfl rfl Try.ntmps18 rfl ?_
      repeat (first
        | refine AWp.seq ?_
        | refine thenA_n ?_
        | refine AWp.skip ?_
        | refine AWp.ret ?_
        | refine thenA_r ?_
        | refine AWp.condT rfl (by first | rfl | assumption | exact cmT) ?_
        | refine AWp.condF rfl (by first | rfl | assumption | exact cmF) ?_
        | (refine AWp.region (id := 0) ?_
           refine AList.box rfl rfl rfl rfl rfl ?_
           refine AList.box rfl rfl rfl rfl rfl ?_
           refine AList.alloc tyOk rfl rfl rfl rfl rfl ?_
           refine AList.assign rfl rfl rfl ?_
           refine AList.nil ?_)
        | (refine AWp.region (id := 1) ?_
           refine AList.loadA tyOk rfl rfl rfl rfl rfl rfl rfl oM oM ?_
           refine AList.fieldPt tyOk rfl rfl rfl rfl rfl rfl rfl ?_
           refine AList.load1 tyOk rfl rfl rfl rfl rfl rfl rfl oM oM ?_
           refine AList.fieldPt tyOk rfl rfl rfl rfl rfl rfl rfl ?_
           refine AList.load1 tyOk rfl rfl rfl rfl rfl rfl rfl oM oM ?_
           refine AList.callT rfl rfl rfl rfl rfl Try.func33 rfl (by kernel_rfl) (hPut) (fun _ _ _ _ => rfl) ?_
           refine AList.move rfl rfl rfl ?_
           refine AList.extract rfl rfl rfl rfl ?_
           refine AList.extract rfl rfl rfl rfl ?_
           refine AList.alloc tyOk rfl rfl rfl rfl rfl ?_
           refine AList.store tyOk rfl rfl rfl rfl rfl rfl rfl rfl oM oM ?_
           refine AList.assign rfl rfl rfl ?_
           refine AList.nil ?_)
        | (refine AWp.region (id := 2) ?_
           refine AList.move rfl rfl rfl ?_
           refine AList.cmp rfl rfl rfl rfl rfl ?_
           refine AList.nil ?_)
        | (refine AWp.region (id := 4) ?_
           refine AList.loadA tyOk rfl rfl rfl rfl rfl rfl rfl oM oM ?_
           refine AList.fieldPt tyOk rfl rfl rfl rfl rfl rfl rfl ?_
           refine AList.load1 tyOk rfl rfl rfl rfl rfl rfl rfl oM oM ?_
           refine AList.callH [16] [rowI m px] [rowI m px] rfl rfl rfl Try.func34 rfl (by kernel_rfl) (LendOk.row rfl hm0 (fun _ _ => cell1 ⟨rfl, rfl⟩) trivial) rfl (LendImm.row (fun _ _ => cell1 rfl) trivial) (hK1) ?_
           refine AList.notB rfl rfl rfl ?_
           refine AList.move rfl rfl rfl ?_
           refine AList.skip rfl rfl ?_
           refine AList.skip rfl rfl ?_
           refine AList.skip rfl rfl ?_
           refine AList.skip rfl rfl ?_
           refine AList.skip rfl rfl ?_
           refine AList.pickT rfl rfl rfl rfl ?_
           refine AList.move rfl rfl rfl ?_
           refine AList.skip rfl rfl ?_
           refine AList.skip rfl rfl ?_
           refine AList.skip rfl rfl ?_
           refine AList.pickT rfl rfl rfl rfl ?_
           refine AList.move rfl rfl rfl ?_
           refine AList.skip rfl rfl ?_
           refine AList.skip rfl rfl ?_
           refine AList.skip rfl rfl ?_
           refine AList.skip rfl rfl ?_
           refine AList.skip rfl rfl ?_
           refine AList.pickT rfl rfl rfl rfl ?_
           refine AList.move rfl rfl rfl ?_
           refine AList.skip rfl rfl ?_
           refine AList.skip rfl rfl ?_
           refine AList.skip rfl rfl ?_
           refine AList.skip rfl rfl ?_
           refine AList.skip rfl rfl ?_
           refine AList.pickT rfl rfl rfl rfl ?_
           refine AList.nil ?_)
        | (refine AWp.region (id := 5) ?_
           refine AList.buildSt tyOk rfl rfl rfl rfl rfl rfl rfl rfl ?_
           refine AList.store tyOk rfl rfl rfl rfl rfl rfl rfl rfl oM oM ?_
           refine AList.assign rfl rfl rfl ?_
           refine AList.nil ?_))
      refine ⟨mkSt 91 [(4, .c (.pt 4 3 0 0)), (5, .c (iC (1)))] [(4, ⟨false, 1, 3, 43, lF (imgV 0 0 0 fun _ => 0)⟩)] [4], [(4, ⟨false, 1, 3, 43, lF (imgV 0 0 0 fun _ => 0)⟩)], Wk.mk [(4, some 4)] rfl rfl rfl ?_ ?_, rfl, rfl, ARets.two (x := .ag _) (y := .c _) (ARes.box tyOk rfl rfl rfl rfl rfl rfl rfl) (ARes.tmp rfl rfl)⟩
      · repeat (first | exact trivial | refine ⟨⟨_, rfl, by first | exact LeA.c (LeC.refl _ rfl) | exact LeA.c (LeC.ow _ _ rfl) | exact LeA.c (LeC.pt _ _ _ _ _ rfl) | exact LeA.c (LeC.nil _ rfl) | exact LeA.c (LeC.nils _ _) | (refine LeA.int ?_; omega) | (refine LeA.int ?_; dsimp only; omega) | exact LeA.c (LeC.fz rfl rfl (by first | rfl | omega) (fun i _ j _ => ⟨rfl, by first | rfl | exact rowN_imm (fun _ => rfl) _ i j | exact rowF_imm (fun _ => rfl) _ i j⟩))⟩, ?_⟩)
      · exact ⟨HeapOk.box rfl rfl ⟨LeC.int rfl, LeC.int rfl, LeC.nils _ _, trivial⟩ rfl, trivial⟩
  · have hE1 : apE ⟨W, H, n, d⟩ ⟨dx, dy, N, lo, M, bl, fr, ti⟩ = putE W H n dx dy := if_neg hp
    have hPut := rPut_A W H n d dx dy
    rw [putV, if_neg hp] at hPut
    rw [apV, apI, hE1, if_neg hp]
    refine acalls_at Try.func18 rfl rfl Try.ntmps18 rfl ?_
    repeat (first
      | refine AWp.seq ?_
      | refine thenA_n ?_
      | refine AWp.ret ?_
      | refine thenA_r ?_
      | refine AWp.condT rfl (by first | rfl | assumption | exact cmT) ?_
      | (refine AWp.region (id := 0) ?_
         refine AList.box rfl rfl rfl rfl rfl ?_
         refine AList.box rfl rfl rfl rfl rfl ?_
         refine AList.alloc tyOk rfl rfl rfl rfl rfl ?_
         refine AList.assign rfl rfl rfl ?_
         refine AList.nil ?_)
      | (refine AWp.region (id := 1) ?_
         refine AList.loadA tyOk rfl rfl rfl rfl rfl rfl rfl oM oM ?_
         refine AList.fieldPt tyOk rfl rfl rfl rfl rfl rfl rfl ?_
         refine AList.load1 tyOk rfl rfl rfl rfl rfl rfl rfl oM oM ?_
         refine AList.fieldPt tyOk rfl rfl rfl rfl rfl rfl rfl ?_
         refine AList.load1 tyOk rfl rfl rfl rfl rfl rfl rfl oM oM ?_
         refine AList.call rfl rfl rfl rfl Try.func33 rfl (by kernel_rfl) (hPut) ?_
         refine AList.move rfl rfl rfl ?_
         refine AList.extract rfl rfl rfl rfl ?_
         refine AList.extract rfl rfl rfl rfl ?_
         refine AList.alloc tyOk rfl rfl rfl rfl rfl ?_
         refine AList.store tyOk rfl rfl rfl rfl rfl rfl rfl rfl oM oM ?_
         refine AList.assign rfl rfl rfl ?_
         refine AList.nil ?_)
      | (refine AWp.region (id := 2) ?_
         refine AList.move rfl rfl rfl ?_
         refine AList.cmpT rfl rfl rfl rfl rfl cmT ?_
         refine AList.nil ?_)
      | (refine AWp.region (id := 3) ?_
         refine AList.buildSt tyOk rfl rfl rfl rfl rfl rfl rfl rfl ?_
         refine AList.move rfl rfl rfl ?_
         refine AList.store tyOk rfl rfl rfl rfl rfl rfl rfl rfl oM oM ?_
         refine AList.assign rfl rfl rfl ?_
         refine AList.nil ?_))
    refine ⟨mkSt 91 [(4, .c (.pt 4 3 0 0)), (5, .c (iC (putE W H n dx dy)))] [(4, ⟨false, 1, 3, 43, lF (imgV 0 0 0 fun _ => 0)⟩)] [4], [(4, ⟨false, 1, 3, 43, lF (imgV 0 0 0 fun _ => 0)⟩)], Wk.mk [(4, some 4)] rfl rfl rfl ?_ ?_, rfl, rfl, ARets.two (x := .ag _) (y := .c _) (ARes.box tyOk rfl rfl rfl rfl rfl rfl rfl) (ARes.tmp rfl rfl)⟩
    · repeat (first | exact trivial | refine ⟨⟨_, rfl, by first | exact LeA.c (LeC.refl _ rfl) | exact LeA.c (LeC.ow _ _ rfl) | exact LeA.c (LeC.pt _ _ _ _ _ rfl) | exact LeA.c (LeC.nil _ rfl) | exact LeA.c (LeC.nils _ _) | (refine LeA.int ?_; omega) | (refine LeA.int ?_; dsimp only; omega) | exact LeA.c (LeC.fz rfl rfl (by first | rfl | omega) (fun i _ j _ => ⟨rfl, by first | rfl | exact rowN_imm (fun _ => rfl) _ i j | exact rowF_imm (fun _ => rfl) _ i j⟩))⟩, ?_⟩)
    · exact ⟨HeapOk.box rfl rfl ⟨LeC.int rfl, LeC.int rfl, LeC.nils _ _, trivial⟩ rfl, trivial⟩
end Go.Proofs.Ytclaanggpcjnbaa
end
