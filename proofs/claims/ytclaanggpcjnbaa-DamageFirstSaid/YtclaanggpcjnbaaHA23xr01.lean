/- DamageFirst: the statement. No condition. -/
import Derived.Test.YtclaanggpcjnbaaG34
import Derived.Test.YtclaanggpcjnbaaRows
import Derived.Test.YtclaanggpcjnbaaG27
set_option linter.unusedSimpArgs false
set_option linter.unusedVariables false
section
/- Chapter 23: the law DamageFirst over plain values. -/
namespace Go.Proofs.Ytclaanggpcjnbaa
open Go.RowKit Go.Flow Go.AV Go.Plain
def shNd (m : Nat) : Bool := (List.range (shL m).length).all fun k => (List.range k).all fun i => decide ((shL m).getD i mvZ ≠ (shL m).getD k mvZ)
theorem shNd_ok (m : Nat) (hm : m ≤ 2) : shNd m = true := by
  obtain rfl | rfl | rfl : m = 0 ∨ m = 1 ∨ m = 2 := by omega
  all_goals decide +kernel
theorem sh_ne {m k i : Nat} (hm : m ≤ 2) (hk : k < (shL m).length) (hi : i < k) : (shL m).getD i mvZ ≠ (shL m).getD k mvZ :=
  of_decide_eq_true (List.all_eq_true.1 (List.all_eq_true.1 (shNd_ok m hm) k (List.mem_range.2 hk)) i (List.mem_range.2 hi))
theorem pair_ne {p q : Int × Int} (h : p ≠ q) : ¬ p.1 = q.1 ∨ (p.1 = q.1 ∧ ¬ p.2 = q.2) := by
  by_cases h1 : p.1 = q.1
  · exact .inr ⟨h1, fun h2 => h (Prod.ext h1 h2)⟩
  · exact .inl h1
set_option maxHeartbeats 4000000 in
set_option maxRecDepth 100000 in
theorem DamageFirst_A (N : Nat) (f : Nat → Int) (M : Nat) (g : Nat → Int) (L : Nat) (l : Nat → Int) (B : Nat) (u : Nat → Int) (hN : N ≤ 4611686018427387904) (hM : M ≤ 4611686018427387904) (hL : L ≤ 4611686018427387904) (hB : B ≤ 4611686018427387904) :
    ECalls Try.prog 6 [.c (.ls N 1 (iF f)), .c (.ls M 1 (iF g)), .c (.ls L 1 (iF l)), .c (.ls B 1 (iF u))] (fun v => v = .c (bC true)) := by
  have hC1 := cutL_A N f 60 hN (by omega)
  have hC2 := cutL_A M g 60 hM (by omega)
  have hC3 := cutL_A L l 12 hL (by omega)
  have hC4 := cutL_A B u 4 hB (by omega)
  have hBud := Budget_A (min B 4) u (by omega)
  have hxb := bgN_bd (min B 4) u
  obtain ⟨x, hx⟩ : ∃ x, bgN (min B 4) u = x := ⟨_, rfl⟩
  rw [hx] at hBud hxb
  obtain ⟨x1, x2, x3, x4⟩ := hxb
  have hlx : lim4 x = x := by
    cases x
    simp only [lim4, lim1, Bg.mk.injEq] at *
    omega
  obtain ⟨m, hm⟩ : ∃ m, x.sh.toNat = m := ⟨_, rfl⟩
  have hse : x.sh = (m : Int) := by omega
  have hSh := Shifts_A m (by omega)
  rw [← hse] at hSh
  refine ecalls_at Try.func6 rfl rfl Try.ntmps6 rfl ?_
  repeat (first
    | refine AWp.seq ?_
    | (refine AWp.region (id := 0) ?_
       refine AList.assign rfl rfl rfl ?_
       refine AList.nil ?_)
    | (refine AWp.region (id := 1) ?_
       refine AList.call rfl rfl rfl rfl Try.func9 rfl (by kernel_rfl) (sanity_A) ?_
       refine AList.assign rfl rfl rfl ?_
       refine AList.nil ?_))
  refine AWp.text ?_
  refine AText.split 2 ?_
  refine AList.move rfl rfl rfl ?_
  refine AList.call rfl rfl rfl rfl Try.func11 rfl (by kernel_rfl) (hC1) ?_
  refine AList.nil ?_
  refine AText.callE rfl rfl rfl rfl Try.func16 rfl (by kernel_rfl) (Made_B (min N 60) f (by omega)) ?_
  rintro _ ⟨a, ha, rfl⟩
  refine AText.split 2 ?_
  refine AList.move rfl rfl rfl ?_
  refine AList.call rfl rfl rfl rfl Try.func11 rfl (by kernel_rfl) (hC2) ?_
  refine AList.nil ?_
  refine AText.callE rfl rfl rfl rfl Try.func16 rfl (by kernel_rfl) (Made_B (min M 60) g (by omega)) ?_
  rintro _ ⟨b, hb, rfl⟩
  refine AText.all ?_
  refine AList.alloc tyOk rfl rfl rfl rfl rfl ?_
  refine AList.alloc tyOk rfl rfl rfl rfl rfl ?_
  refine AList.store tyOk rfl rfl rfl rfl rfl rfl rfl rfl oM oM ?_
  refine AList.store tyOk rfl rfl rfl rfl rfl rfl rfl rfl oM oM ?_
  refine AList.nil ?_
  obtain ⟨hH, hHN, hHM, hHw⟩ := Hit_A (min L 12) l a x (by omega) ha.1
  obtain ⟨h, hh⟩ : ∃ h, hitV (min L 12) l a x = h := ⟨_, rfl⟩
  rw [hh] at hH hHN hHM hHw
  have hA := rApply_A a h (by omega) (by omega)
  rw [apV, apI, if_pos (wi_ok hHw)] at hA
  obtain ⟨y, hy⟩ : ∃ y, apP a h = y := ⟨_, rfl⟩
  have hyn : y.n ≤ 4611686018427387904 := by
    rw [← hy]
    have := ha.n_le
    show bpm a ≤ _
    omega
  have hA' : ACalls Try.prog 18 [.ag (bpC a), .ag (htC h)] (.tu [.ag (ipC y), .c (iC (apE a h))]) := by rw [← hy]; exact hA
  have hE := pExplains_A y b x hyn
  have hxl : exL y b x = shL m := by unfold exL; rw [hlx, hm]
  have hlb : (shL m).length ≤ 100 := by
    obtain h | h : m = 0 ∨ m = 1 := by omega
    all_goals rw [h]; decide
  rcases first_hit (fun i => exB y b x ((shL m).getD i mvZ)) (shL m).length with hno | ⟨k, hk, hb1, hno⟩
  · rw [exV_miss (by rw [hlx, hxl]; exact hno)] at hE
    repeat (first
      | refine AWp.seq ?_
      | refine thenA_n ?_
      | refine AWp.block ?_
      | (refine AWp.region (id := 3) ?_
         refine AList.move rfl rfl rfl ?_
         refine AList.call rfl rfl rfl rfl Try.func11 rfl (by kernel_rfl) (hC4) ?_
         refine AList.call rfl rfl rfl rfl Try.func17 rfl (by kernel_rfl) (hBud) ?_
         refine AList.alloc tyOk rfl rfl rfl rfl rfl ?_
         refine AList.store tyOk rfl rfl rfl rfl rfl rfl rfl rfl oM oM ?_
         refine AList.nil ?_)
      | (refine AWp.draw (id := 4) mixed ?_
         refine AList.loadA tyOk rfl rfl rfl rfl rfl rfl rfl oM oM ?_
         refine AList.move rfl rfl rfl ?_
         refine AList.call rfl rfl rfl rfl Try.func11 rfl (by kernel_rfl) (hC3) ?_
         refine AList.loadA tyOk rfl rfl rfl rfl rfl rfl rfl oM oM ?_
         refine AList.loadA tyOk rfl rfl rfl rfl rfl rfl rfl oM oM ?_
         refine AList.call rfl rfl rfl rfl Try.func19 rfl (by kernel_rfl) (hH) ?_
         refine AList.call rfl rfl rfl rfl Try.func18 rfl (by kernel_rfl) (hA') ?_
         refine AList.move rfl rfl rfl ?_
         refine AList.extract rfl rfl rfl rfl ?_
         refine AList.extract rfl rfl rfl rfl ?_
         refine AList.alloc tyOk rfl rfl rfl rfl rfl ?_
         refine AList.store tyOk rfl rfl rfl rfl rfl rfl rfl rfl oM oM ?_
         refine AList.assign rfl rfl rfl ?_
         refine AList.nil ⟨by kernel_rfl, ?_⟩)
      | (refine AWp.region (id := 5) ?_
         refine AList.loadA tyOk rfl rfl rfl rfl rfl rfl rfl oM oM ?_
         refine AList.loadA tyOk rfl rfl rfl rfl rfl rfl rfl oM oM ?_
         refine AList.loadA tyOk rfl rfl rfl rfl rfl rfl rfl oM oM ?_
         refine AList.call rfl rfl rfl rfl Try.func20 rfl (by kernel_rfl) (hE) ?_
         refine AList.move rfl rfl rfl ?_
         refine AList.extract rfl rfl rfl rfl ?_
         refine AList.extract rfl rfl rfl rfl ?_
         refine AList.alloc tyOk rfl rfl rfl rfl rfl ?_
         refine AList.store tyOk rfl rfl rfl rfl rfl rfl rfl rfl oM oM ?_
         refine AList.assign rfl rfl rfl ?_
         refine AList.nil ?_)
      | (refine AWp.region (id := 6) ?_
         refine AList.fieldPt tyOk rfl rfl rfl rfl rfl rfl rfl ?_
         refine AList.load1 tyOk rfl rfl rfl rfl rfl rfl rfl oM oM ?_
         refine AList.call rfl rfl rfl rfl Try.func22 rfl (by kernel_rfl) (hSh) ?_
         refine AList.lenLs tyOk rfl rfl rfl rfl rfl ?_
         refine AList.move rfl rfl rfl ?_
         refine AList.nil ?_))
    refine AWp.round (fun i : Nat => mkSt 120 [(9, .c (bC true)), (11, .c (.pt 11 3 0 0)), (12, .c (.pt 12 4 0 0)), (13, .c (.pt 13 3 0 0)), (15, .c (.pt 15 4 0 0)), (16, .c (bC false)), (52, .c (.ls (shL m).length 2 (rowF mvC mvZ (shL m)))), (53, .c (iC (shL m).length)), (54, .c (iC i))]
                                       [(11, ⟨false, 1, 3, 39, lF (bpC b)⟩), (12, ⟨false, 1, 4, 24, lF (bgC x)⟩), (13, ⟨false, 1, 3, 43, lF (ipC y)⟩), (15, ⟨false, 1, 4, 52, lF (mcC ⟨0, 0, 0, 0⟩)⟩)] [11, 12, 13, 15]
      ) (fun i => i ≤ (shL m).length) (fun i => (shL m).length - i) 0 (Nat.zero_le _) ?_ (fun i hi => ?_)
    · refine Wk.mk [(11, some 11), (12, some 12), (13, some 13), (15, some 15)] rfl rfl rfl ?_ ?_
      · repeat (first | exact trivial | refine ⟨⟨_, rfl, by first | exact LeA.c (LeC.refl _ rfl) | exact LeA.c (LeC.ow _ _ rfl) | exact LeA.c (LeC.pt _ _ _ _ _ rfl) | exact LeA.c (LeC.nil _ rfl) | exact LeA.c (LeC.nils _ _) | (refine LeA.int ?_; omega) | (refine LeA.int ?_; dsimp only; omega) | exact LeA.c (LeC.fz rfl rfl (by first | rfl | omega) (fun i _ j _ => ⟨rfl, by first | rfl | exact rowN_imm (fun _ => rfl) _ i j | exact rowF_imm (fun _ => rfl) _ i j⟩))⟩, ?_⟩)
      · repeat (first | exact trivial | refine ⟨by first | exact HeapOk.same rfl rfl rfl rfl | exact HeapOk.lent rfl rfl rfl rfl | exact HeapOk.nil rfl rfl | exact HeapOk.row rfl rfl (by first | rfl | omega) (fun i _ j _ => ⟨rfl, by first | rfl | exact rowN_imm (fun _ => rfl) _ i j | exact rowF_imm (fun _ => rfl) _ i j⟩) | exact HeapOk.box rfl rfl (by repeat (first | exact trivial | refine ⟨by first | exact LeC.refl _ rfl | exact LeC.ow _ _ rfl | exact LeC.nil _ rfl | exact LeC.nils _ _ | exact LeC.fz rfl rfl (by first | rfl | omega) (fun i _ j _ => ⟨rfl, by first | rfl | exact rowN_imm (fun _ => rfl) _ i j | exact rowF_imm (fun _ => rfl) _ i j⟩) | exact LeC.int (by omega), ?_⟩)) rfl, ?_⟩)
    · by_cases hlt : i < (shL m).length
      · have hF := iFits_A y b ((shL m).getD i mvZ).1 ((shL m).getD i mvZ).2 hyn
        rcases exB_cases (hno i hlt) with g1 | ⟨g1, g2⟩ | ⟨g1, g2, g3⟩
        · rw [fitV, decide_eq_false g1] at hF
          repeat (first
            | refine AWp.seq ?_
            | refine thenA_n ?_
            | refine AWp.block ?_
            | refine AWp.skip ?_
            | refine inBlk_n ?_
            | refine AWp.condT rfl (by first | rfl | assumption | exact cmT) ?_
            | refine AWp.condF rfl (by first | rfl | assumption | exact cmF) ?_
            | (refine AWp.region (id := 7) ?_
               refine AList.cmpT rfl rfl rfl rfl rfl cmT ?_
               refine AList.nil ?_)
            | (refine AWp.region (id := 8) ?_
               refine AList.idx (k := i) tyOk rfl rfl rfl rfl rfl rfl rfl rfl (by first | rfl | omega) oM oM ?_
               refine AList.loadAl tyOk rfl rfl rfl rfl rfl oM ?_
               refine AList.alloc tyOk rfl rfl rfl rfl rfl ?_
               refine AList.store tyOk rfl rfl rfl rfl rfl rfl rfl rfl oM oM ?_
               refine AList.nil ?_)
            | (refine AWp.region (id := 9) ?_
               refine AList.loadA tyOk rfl rfl rfl rfl rfl rfl rfl oM oM ?_
               refine AList.loadA tyOk rfl rfl rfl rfl rfl rfl rfl oM oM ?_
               refine AList.fieldPt tyOk rfl rfl rfl rfl rfl rfl rfl ?_
               refine AList.load1 tyOk rfl rfl rfl rfl rfl rfl rfl oM oM ?_
               refine AList.fieldPt tyOk rfl rfl rfl rfl rfl rfl rfl ?_
               refine AList.load1 tyOk rfl rfl rfl rfl rfl rfl rfl oM oM ?_
               refine AList.call rfl rfl rfl rfl Try.func23 rfl (by kernel_rfl) (hF) ?_
               refine AList.move rfl rfl rfl ?_
               refine AList.extract rfl rfl rfl rfl ?_
               refine AList.extract rfl rfl rfl rfl ?_
               refine AList.extract rfl rfl rfl rfl ?_
               refine AList.assign rfl rfl rfl ?_
               refine AList.assign rfl rfl rfl ?_
               refine AList.assign rfl rfl rfl ?_
               refine AList.nil ?_)
            | (refine AWp.region (id := 10) ?_
               refine AList.move rfl rfl rfl ?_
               refine AList.move rfl rfl rfl ?_
               refine AList.skip rfl rfl ?_
               refine AList.skip rfl rfl ?_
               refine AList.skip rfl rfl ?_
               refine AList.skip rfl rfl ?_
               refine AList.pickF rfl rfl rfl rfl ?_
               refine AList.move rfl rfl rfl ?_
               refine AList.skip rfl rfl ?_
               refine AList.skip rfl rfl ?_
               refine AList.skip rfl rfl ?_
               refine AList.skip rfl rfl ?_
               refine AList.pickF rfl rfl rfl rfl ?_
               refine AList.assign rfl rfl rfl ?_
               refine AList.nil ?_)
            | (refine AWp.region (id := 11) ?_
               refine AList.move rfl rfl rfl ?_
               refine AList.move rfl rfl rfl ?_
               refine AList.skip rfl rfl ?_
               refine AList.skip rfl rfl ?_
               refine AList.skip rfl rfl ?_
               refine AList.skip rfl rfl ?_
               refine AList.skip rfl rfl ?_
               refine AList.pickF rfl rfl rfl rfl ?_
               refine AList.move rfl rfl rfl ?_
               refine AList.skip rfl rfl ?_
               refine AList.skip rfl rfl ?_
               refine AList.skip rfl rfl ?_
               refine AList.skip rfl rfl ?_
               refine AList.skip rfl rfl ?_
               refine AList.pickF rfl rfl rfl rfl ?_
               refine AList.nil ?_)
            | (refine AWp.region (id := 13) ?_
               refine AList.move rfl rfl rfl ?_
               refine AList.nil ?_)
            | (refine AWp.region (id := 15) ?_
               refine AList.add rfl rfl rfl rfl (by omega) (by omega) ?_
               refine AList.move rfl rfl rfl ?_
               refine AList.nil ?_))
          refine ⟨i + 1, by omega, Wk.mk [(11, some 11), (12, some 12), (13, some 13), (15, some 15)] rfl rfl rfl ?_ ?_, by omega⟩
          · repeat (first | exact trivial | refine ⟨⟨_, rfl, by first | exact LeA.c (LeC.refl _ rfl) | exact LeA.c (LeC.ow _ _ rfl) | exact LeA.c (LeC.pt _ _ _ _ _ rfl) | exact LeA.c (LeC.nil _ rfl) | exact LeA.c (LeC.nils _ _) | (refine LeA.int ?_; omega) | (refine LeA.int ?_; dsimp only; omega) | exact LeA.c (LeC.fz rfl rfl (by first | rfl | omega) (fun i _ j _ => ⟨rfl, by first | rfl | exact rowN_imm (fun _ => rfl) _ i j | exact rowF_imm (fun _ => rfl) _ i j⟩))⟩, ?_⟩)
          · repeat (first | exact trivial | refine ⟨by first | exact HeapOk.same rfl rfl rfl rfl | exact HeapOk.lent rfl rfl rfl rfl | exact HeapOk.nil rfl rfl | exact HeapOk.row rfl rfl (by first | rfl | omega) (fun i _ j _ => ⟨rfl, by first | rfl | exact rowN_imm (fun _ => rfl) _ i j | exact rowF_imm (fun _ => rfl) _ i j⟩) | exact HeapOk.box rfl rfl (by repeat (first | exact trivial | refine ⟨by first | exact LeC.refl _ rfl | exact LeC.ow _ _ rfl | exact LeC.nil _ rfl | exact LeC.nils _ _ | exact LeC.fz rfl rfl (by first | rfl | omega) (fun i _ j _ => ⟨rfl, by first | rfl | exact rowN_imm (fun _ => rfl) _ i j | exact rowF_imm (fun _ => rfl) _ i j⟩) | exact LeC.int (by omega), ?_⟩)) rfl, ?_⟩)
        all_goals
          rw [fitV, decide_eq_true g1] at hF
          repeat (first
            | refine AWp.seq ?_
            | refine thenA_n ?_
            | refine AWp.block ?_
            | refine AWp.skip ?_
            | refine inBlk_n ?_
            | refine AWp.condT rfl (by first | rfl | assumption | exact cmT) ?_
            | refine AWp.condF rfl (by first | rfl | assumption | exact cmF) ?_
            | (refine AWp.region (id := 7) ?_
               refine AList.cmpT rfl rfl rfl rfl rfl cmT ?_
               refine AList.nil ?_)
            | (refine AWp.region (id := 8) ?_
               refine AList.idx (k := i) tyOk rfl rfl rfl rfl rfl rfl rfl rfl (by first | rfl | omega) oM oM ?_
               refine AList.loadAl tyOk rfl rfl rfl rfl rfl oM ?_
               refine AList.alloc tyOk rfl rfl rfl rfl rfl ?_
               refine AList.store tyOk rfl rfl rfl rfl rfl rfl rfl rfl oM oM ?_
               refine AList.nil ?_)
            | (refine AWp.region (id := 9) ?_
               refine AList.loadA tyOk rfl rfl rfl rfl rfl rfl rfl oM oM ?_
               refine AList.loadA tyOk rfl rfl rfl rfl rfl rfl rfl oM oM ?_
               refine AList.fieldPt tyOk rfl rfl rfl rfl rfl rfl rfl ?_
               refine AList.load1 tyOk rfl rfl rfl rfl rfl rfl rfl oM oM ?_
               refine AList.fieldPt tyOk rfl rfl rfl rfl rfl rfl rfl ?_
               refine AList.load1 tyOk rfl rfl rfl rfl rfl rfl rfl oM oM ?_
               refine AList.call rfl rfl rfl rfl Try.func23 rfl (by kernel_rfl) (hF) ?_
               refine AList.move rfl rfl rfl ?_
               refine AList.extract rfl rfl rfl rfl ?_
               refine AList.extract rfl rfl rfl rfl ?_
               refine AList.extract rfl rfl rfl rfl ?_
               refine AList.assign rfl rfl rfl ?_
               refine AList.assign rfl rfl rfl ?_
               refine AList.assign rfl rfl rfl ?_
               refine AList.nil ?_)
            | (refine AWp.region (id := 10) ?_
               refine AList.move rfl rfl rfl ?_
               refine AList.move rfl rfl rfl ?_
               refine AList.move rfl rfl rfl ?_
               refine AList.fieldPt tyOk rfl rfl rfl rfl rfl rfl rfl ?_
               refine AList.load1 tyOk rfl rfl rfl rfl rfl rfl rfl oM oM ?_
               first | refine AList.cmpT rfl rfl rfl rfl rfl cmT ?_ | refine AList.cmpF rfl rfl rfl rfl rfl cmF ?_
               refine AList.pickT rfl rfl rfl rfl ?_
               refine AList.move rfl rfl rfl ?_
               first | refine AList.skip rfl rfl ?_ | refine AList.move rfl rfl rfl ?_
               first | refine AList.skip rfl rfl ?_ | refine AList.fieldPt tyOk rfl rfl rfl rfl rfl rfl rfl ?_
               first | refine AList.skip rfl rfl ?_ | refine AList.load1 tyOk rfl rfl rfl rfl rfl rfl rfl oM oM ?_
               first | refine AList.skip rfl rfl ?_ | refine AList.cmpF rfl rfl rfl rfl rfl cmF ?_
               first | refine AList.pickT rfl rfl rfl rfl ?_ | refine AList.pickF rfl rfl rfl rfl ?_
               refine AList.assign rfl rfl rfl ?_
               refine AList.nil ?_)
            | (refine AWp.region (id := 11) ?_
               refine AList.move rfl rfl rfl ?_
               refine AList.move rfl rfl rfl ?_
               refine AList.skip rfl rfl ?_
               refine AList.skip rfl rfl ?_
               refine AList.skip rfl rfl ?_
               refine AList.skip rfl rfl ?_
               refine AList.skip rfl rfl ?_
               refine AList.pickF rfl rfl rfl rfl ?_
               refine AList.move rfl rfl rfl ?_
               refine AList.skip rfl rfl ?_
               refine AList.skip rfl rfl ?_
               refine AList.skip rfl rfl ?_
               refine AList.skip rfl rfl ?_
               refine AList.skip rfl rfl ?_
               refine AList.pickF rfl rfl rfl rfl ?_
               refine AList.nil ?_)
            | (refine AWp.region (id := 13) ?_
               refine AList.move rfl rfl rfl ?_
               refine AList.nil ?_)
            | (refine AWp.region (id := 15) ?_
               refine AList.add rfl rfl rfl rfl (by omega) (by omega) ?_
               refine AList.move rfl rfl rfl ?_
               refine AList.nil ?_))
          refine ⟨i + 1, by omega, Wk.mk [(11, some 11), (12, some 12), (13, some 13), (15, some 15)] rfl rfl rfl ?_ ?_, by omega⟩
          · repeat (first | exact trivial | refine ⟨⟨_, rfl, by first | exact LeA.c (LeC.refl _ rfl) | exact LeA.c (LeC.ow _ _ rfl) | exact LeA.c (LeC.pt _ _ _ _ _ rfl) | exact LeA.c (LeC.nil _ rfl) | exact LeA.c (LeC.nils _ _) | (refine LeA.int ?_; omega) | (refine LeA.int ?_; dsimp only; omega) | exact LeA.c (LeC.fz rfl rfl (by first | rfl | omega) (fun i _ j _ => ⟨rfl, by first | rfl | exact rowN_imm (fun _ => rfl) _ i j | exact rowF_imm (fun _ => rfl) _ i j⟩))⟩, ?_⟩)
          · repeat (first | exact trivial | refine ⟨by first | exact HeapOk.same rfl rfl rfl rfl | exact HeapOk.lent rfl rfl rfl rfl | exact HeapOk.nil rfl rfl | exact HeapOk.row rfl rfl (by first | rfl | omega) (fun i _ j _ => ⟨rfl, by first | rfl | exact rowN_imm (fun _ => rfl) _ i j | exact rowF_imm (fun _ => rfl) _ i j⟩) | exact HeapOk.box rfl rfl (by repeat (first | exact trivial | refine ⟨by first | exact LeC.refl _ rfl | exact LeC.ow _ _ rfl | exact LeC.nil _ rfl | exact LeC.nils _ _ | exact LeC.fz rfl rfl (by first | rfl | omega) (fun i _ j _ => ⟨rfl, by first | rfl | exact rowN_imm (fun _ => rfl) _ i j | exact rowF_imm (fun _ => rfl) _ i j⟩) | exact LeC.int (by omega), ?_⟩)) rfl, ?_⟩)
      · obtain rfl : i = (shL m).length := by omega
        repeat (first
          | refine AWp.seq ?_
          | refine thenA_n ?_
          | refine AWp.exit ?_
          | refine AWp.ret ?_
          | refine AWp.condF rfl (by first | rfl | assumption | exact cmF) ?_
          | (refine AWp.region (id := 7) ?_
             refine AList.cmpF rfl rfl rfl rfl rfl cmF ?_
             refine AList.nil ?_)
          | (refine AWp.region (id := 16) ?_
             refine AList.move rfl rfl rfl ?_
             refine AList.move rfl rfl rfl ?_
             refine AList.move rfl rfl rfl ?_
             refine AList.notB rfl rfl rfl ?_
             refine AList.pickT rfl rfl rfl rfl ?_
             refine AList.assign rfl rfl rfl ?_
             refine AList.nil ?_))
        refine ⟨_, rfl, mkSt 120 [(8, .c (bC true))] [] [], [], Wk.mk [] rfl rfl rfl ?_ trivial, rfl, rfl, ARets.one (x := .c _) (ARes.tmp rfl rfl)⟩
        repeat (first | exact trivial | refine ⟨⟨_, rfl, by first | exact LeA.c (LeC.refl _ rfl) | exact LeA.c (LeC.ow _ _ rfl) | exact LeA.c (LeC.pt _ _ _ _ _ rfl) | exact LeA.c (LeC.nil _ rfl) | exact LeA.c (LeC.nils _ _) | (refine LeA.int ?_; omega) | (refine LeA.int ?_; dsimp only; omega) | exact LeA.c (LeC.fz rfl rfl (by first | rfl | omega) (fun i _ j _ => ⟨rfl, by first | rfl | exact rowN_imm (fun _ => rfl) _ i j | exact rowF_imm (fun _ => rfl) _ i j⟩))⟩, ?_⟩)
  · obtain ⟨mc, hmc⟩ : ∃ mc : Mc, mc = ⟨((shL m).getD k mvZ).1, ((shL m).getD k mvZ).2, fitN y b ((shL m).getD k mvZ).1 ((shL m).getD k mvZ).2 0 1, fitN y b ((shL m).getD k mvZ).1 ((shL m).getD k mvZ).2 1 0⟩ := ⟨_, rfl⟩
    rw [exV_hit (k := k) (by rw [hxl]; exact hk) (by rw [hlx, hxl]; exact hb1) (by rw [hlx, hxl]; exact hno), hxl, ← hmc] at hE
    repeat (first
      | refine AWp.seq ?_
      | refine thenA_n ?_
      | refine AWp.block ?_
      | (refine AWp.region (id := 3) ?_
         refine AList.move rfl rfl rfl ?_
         refine AList.call rfl rfl rfl rfl Try.func11 rfl (by kernel_rfl) (hC4) ?_
         refine AList.call rfl rfl rfl rfl Try.func17 rfl (by kernel_rfl) (hBud) ?_
         refine AList.alloc tyOk rfl rfl rfl rfl rfl ?_
         refine AList.store tyOk rfl rfl rfl rfl rfl rfl rfl rfl oM oM ?_
         refine AList.nil ?_)
      | (refine AWp.draw (id := 4) mixed ?_
         refine AList.loadA tyOk rfl rfl rfl rfl rfl rfl rfl oM oM ?_
         refine AList.move rfl rfl rfl ?_
         refine AList.call rfl rfl rfl rfl Try.func11 rfl (by kernel_rfl) (hC3) ?_
         refine AList.loadA tyOk rfl rfl rfl rfl rfl rfl rfl oM oM ?_
         refine AList.loadA tyOk rfl rfl rfl rfl rfl rfl rfl oM oM ?_
         refine AList.call rfl rfl rfl rfl Try.func19 rfl (by kernel_rfl) (hH) ?_
         refine AList.call rfl rfl rfl rfl Try.func18 rfl (by kernel_rfl) (hA') ?_
         refine AList.move rfl rfl rfl ?_
         refine AList.extract rfl rfl rfl rfl ?_
         refine AList.extract rfl rfl rfl rfl ?_
         refine AList.alloc tyOk rfl rfl rfl rfl rfl ?_
         refine AList.store tyOk rfl rfl rfl rfl rfl rfl rfl rfl oM oM ?_
         refine AList.assign rfl rfl rfl ?_
         refine AList.nil ⟨by kernel_rfl, ?_⟩)
      | (refine AWp.region (id := 5) ?_
         refine AList.loadA tyOk rfl rfl rfl rfl rfl rfl rfl oM oM ?_
         refine AList.loadA tyOk rfl rfl rfl rfl rfl rfl rfl oM oM ?_
         refine AList.loadA tyOk rfl rfl rfl rfl rfl rfl rfl oM oM ?_
         refine AList.call rfl rfl rfl rfl Try.func20 rfl (by kernel_rfl) (hE) ?_
         refine AList.move rfl rfl rfl ?_
         refine AList.extract rfl rfl rfl rfl ?_
         refine AList.extract rfl rfl rfl rfl ?_
         refine AList.alloc tyOk rfl rfl rfl rfl rfl ?_
         refine AList.store tyOk rfl rfl rfl rfl rfl rfl rfl rfl oM oM ?_
         refine AList.assign rfl rfl rfl ?_
         refine AList.nil ?_)
      | (refine AWp.region (id := 6) ?_
         refine AList.fieldPt tyOk rfl rfl rfl rfl rfl rfl rfl ?_
         refine AList.load1 tyOk rfl rfl rfl rfl rfl rfl rfl oM oM ?_
         refine AList.call rfl rfl rfl rfl Try.func22 rfl (by kernel_rfl) (hSh) ?_
         refine AList.lenLs tyOk rfl rfl rfl rfl rfl ?_
         refine AList.move rfl rfl rfl ?_
         refine AList.nil ?_))
    refine AWp.round (fun i : Nat => mkSt 120 [(9, .c (bC true)), (11, .c (.pt 11 3 0 0)), (12, .c (.pt 12 4 0 0)), (13, .c (.pt 13 3 0 0)), (15, .c (.pt 15 4 0 0)), (16, .c (bC true)), (52, .c (.ls (shL m).length 2 (rowF mvC mvZ (shL m)))), (53, .c (iC (shL m).length)), (54, .c (iC i))]
                                       [(11, ⟨false, 1, 3, 39, lF (bpC b)⟩), (12, ⟨false, 1, 4, 24, lF (bgC x)⟩), (13, ⟨false, 1, 3, 43, lF (ipC y)⟩), (15, ⟨false, 1, 4, 52, lF (mcC mc)⟩)] [11, 12, 13, 15]
      ) (fun i => i ≤ k) (fun i => k - i) 0 (Nat.zero_le _) ?_ (fun i hi => ?_)
    · refine Wk.mk [(11, some 11), (12, some 12), (13, some 13), (15, some 15)] rfl rfl rfl ?_ ?_
      · repeat (first | exact trivial | refine ⟨⟨_, rfl, by first | exact LeA.c (LeC.refl _ rfl) | exact LeA.c (LeC.ow _ _ rfl) | exact LeA.c (LeC.pt _ _ _ _ _ rfl) | exact LeA.c (LeC.nil _ rfl) | exact LeA.c (LeC.nils _ _) | (refine LeA.int ?_; omega) | (refine LeA.int ?_; dsimp only; omega) | exact LeA.c (LeC.fz rfl rfl (by first | rfl | omega) (fun i _ j _ => ⟨rfl, by first | rfl | exact rowN_imm (fun _ => rfl) _ i j | exact rowF_imm (fun _ => rfl) _ i j⟩))⟩, ?_⟩)
      · repeat (first | exact trivial | refine ⟨by first | exact HeapOk.same rfl rfl rfl rfl | exact HeapOk.lent rfl rfl rfl rfl | exact HeapOk.nil rfl rfl | exact HeapOk.row rfl rfl (by first | rfl | omega) (fun i _ j _ => ⟨rfl, by first | rfl | exact rowN_imm (fun _ => rfl) _ i j | exact rowF_imm (fun _ => rfl) _ i j⟩) | exact HeapOk.box rfl rfl (by repeat (first | exact trivial | refine ⟨by first | exact LeC.refl _ rfl | exact LeC.ow _ _ rfl | exact LeC.nil _ rfl | exact LeC.nils _ _ | exact LeC.fz rfl rfl (by first | rfl | omega) (fun i _ j _ => ⟨rfl, by first | rfl | exact rowN_imm (fun _ => rfl) _ i j | exact rowF_imm (fun _ => rfl) _ i j⟩) | exact LeC.int (by omega), ?_⟩)) rfl, ?_⟩)
    · have hF := iFits_A y b ((shL m).getD i mvZ).1 ((shL m).getD i mvZ).2 hyn
      by_cases hik : i = k
      · subst hik
        obtain ⟨g1, g2, g3⟩ := of_decide_eq_true hb1
        rw [fitV, decide_eq_true g1] at hF
        subst hmc
        repeat (first
          | refine AWp.seq ?_
          | refine thenA_n ?_
          | refine AWp.block ?_
          | refine AWp.skip ?_
          | refine AWp.ret ?_
          | refine thenA_r ?_
          | refine inBlk_r ?_
          | refine AWp.condT rfl (by first | rfl | assumption | exact cmT) ?_
          | (refine AWp.region (id := 7) ?_
             refine AList.cmpT rfl rfl rfl rfl rfl cmT ?_
             refine AList.nil ?_)
          | (refine AWp.region (id := 8) ?_
             refine AList.idx (k := i) tyOk rfl rfl rfl rfl rfl rfl rfl rfl (by first | rfl | omega) oM oM ?_
             refine AList.loadAl tyOk rfl rfl rfl rfl rfl oM ?_
             refine AList.alloc tyOk rfl rfl rfl rfl rfl ?_
             refine AList.store tyOk rfl rfl rfl rfl rfl rfl rfl rfl oM oM ?_
             refine AList.nil ?_)
          | (refine AWp.region (id := 9) ?_
             refine AList.loadA tyOk rfl rfl rfl rfl rfl rfl rfl oM oM ?_
             refine AList.loadA tyOk rfl rfl rfl rfl rfl rfl rfl oM oM ?_
             refine AList.fieldPt tyOk rfl rfl rfl rfl rfl rfl rfl ?_
             refine AList.load1 tyOk rfl rfl rfl rfl rfl rfl rfl oM oM ?_
             refine AList.fieldPt tyOk rfl rfl rfl rfl rfl rfl rfl ?_
             refine AList.load1 tyOk rfl rfl rfl rfl rfl rfl rfl oM oM ?_
             refine AList.call rfl rfl rfl rfl Try.func23 rfl (by kernel_rfl) (hF) ?_
             refine AList.move rfl rfl rfl ?_
             refine AList.extract rfl rfl rfl rfl ?_
             refine AList.extract rfl rfl rfl rfl ?_
             refine AList.extract rfl rfl rfl rfl ?_
             refine AList.assign rfl rfl rfl ?_
             refine AList.assign rfl rfl rfl ?_
             refine AList.assign rfl rfl rfl ?_
             refine AList.nil ?_)
          | (refine AWp.region (id := 10) ?_
             refine AList.move rfl rfl rfl ?_
             refine AList.move rfl rfl rfl ?_
             refine AList.move rfl rfl rfl ?_
             refine AList.fieldPt tyOk rfl rfl rfl rfl rfl rfl rfl ?_
             refine AList.load1 tyOk rfl rfl rfl rfl rfl rfl rfl oM oM ?_
             refine AList.cmpT rfl rfl rfl rfl rfl cmT ?_
             refine AList.pickT rfl rfl rfl rfl ?_
             refine AList.move rfl rfl rfl ?_
             refine AList.move rfl rfl rfl ?_
             refine AList.fieldPt tyOk rfl rfl rfl rfl rfl rfl rfl ?_
             refine AList.load1 tyOk rfl rfl rfl rfl rfl rfl rfl oM oM ?_
             refine AList.cmpT rfl rfl rfl rfl rfl cmT ?_
             refine AList.pickT rfl rfl rfl rfl ?_
             refine AList.assign rfl rfl rfl ?_
             refine AList.nil ?_)
          | (refine AWp.region (id := 11) ?_
             refine AList.move rfl rfl rfl ?_
             refine AList.move rfl rfl rfl ?_
             refine AList.fieldPt tyOk rfl rfl rfl rfl rfl rfl rfl ?_
             refine AList.load1 tyOk rfl rfl rfl rfl rfl rfl rfl oM oM ?_
             refine AList.fieldPt tyOk rfl rfl rfl rfl rfl rfl rfl ?_
             refine AList.load1 tyOk rfl rfl rfl rfl rfl rfl rfl oM oM ?_
             refine AList.cmpT rfl rfl rfl rfl rfl (by simp only [cmpP, eq_self, decide_true]) ?_
             refine AList.pickT rfl rfl rfl rfl ?_
             refine AList.move rfl rfl rfl ?_
             refine AList.fieldPt tyOk rfl rfl rfl rfl rfl rfl rfl ?_
             refine AList.load1 tyOk rfl rfl rfl rfl rfl rfl rfl oM oM ?_
             refine AList.fieldPt tyOk rfl rfl rfl rfl rfl rfl rfl ?_
             refine AList.load1 tyOk rfl rfl rfl rfl rfl rfl rfl oM oM ?_
             refine AList.cmpT rfl rfl rfl rfl rfl (by simp only [cmpP, eq_self, decide_true]) ?_
             refine AList.pickT rfl rfl rfl rfl ?_
             refine AList.nil ?_)
          | (refine AWp.region (id := 12) ?_
             refine AList.move rfl rfl rfl ?_
             refine AList.move rfl rfl rfl ?_
             refine AList.move rfl rfl rfl ?_
             refine AList.pickT rfl rfl rfl rfl ?_
             refine AList.move rfl rfl rfl ?_
             refine AList.move rfl rfl rfl ?_
             refine AList.fieldPt tyOk rfl rfl rfl rfl rfl rfl rfl ?_
             refine AList.load1 tyOk rfl rfl rfl rfl rfl rfl rfl oM oM ?_
             refine AList.cmpT rfl rfl rfl rfl rfl (by simp only [cmpP, eq_self, decide_true]) ?_
             refine AList.pickT rfl rfl rfl rfl ?_
             refine AList.move rfl rfl rfl ?_
             refine AList.move rfl rfl rfl ?_
             refine AList.fieldPt tyOk rfl rfl rfl rfl rfl rfl rfl ?_
             refine AList.load1 tyOk rfl rfl rfl rfl rfl rfl rfl oM oM ?_
             refine AList.cmpT rfl rfl rfl rfl rfl (by simp only [cmpP, eq_self, decide_true]) ?_
             refine AList.pickT rfl rfl rfl rfl ?_
             refine AList.assign rfl rfl rfl ?_
             refine AList.nil ?_))
        refine ⟨_, rfl, mkSt 120 [(8, .c (bC true))] [] [], [], Wk.mk [] rfl rfl rfl ?_ trivial, rfl, rfl, ARets.one (x := .c _) (ARes.tmp rfl rfl)⟩
        repeat (first | exact trivial | refine ⟨⟨_, rfl, by first | exact LeA.c (LeC.refl _ rfl) | exact LeA.c (LeC.ow _ _ rfl) | exact LeA.c (LeC.pt _ _ _ _ _ rfl) | exact LeA.c (LeC.nil _ rfl) | exact LeA.c (LeC.nils _ _) | (refine LeA.int ?_; omega) | (refine LeA.int ?_; dsimp only; omega) | exact LeA.c (LeC.fz rfl rfl (by first | rfl | omega) (fun i _ j _ => ⟨rfl, by first | rfl | exact rowN_imm (fun _ => rfl) _ i j | exact rowF_imm (fun _ => rfl) _ i j⟩))⟩, ?_⟩)
      · have hlt : i < k := by omega
        have hlt2 : i < (shL m).length := by omega
        have hmx : mc.dx = ((shL m).getD k mvZ).1 := by rw [hmc]
        have hmy : mc.dy = ((shL m).getD k mvZ).2 := by rw [hmc]
        rcases pair_ne (sh_ne (by omega) hk hlt) with q1 | ⟨q1, q2⟩
        all_goals
          rcases exB_cases (hno i hlt) with g1 | ⟨g1, g2⟩ | ⟨g1, g2, g3⟩
          · rw [fitV, decide_eq_false g1] at hF
            repeat (first
              | refine AWp.seq ?_
              | refine thenA_n ?_
              | refine AWp.block ?_
              | refine AWp.skip ?_
              | refine inBlk_n ?_
              | refine AWp.condT rfl (by first | rfl | assumption | exact cmT) ?_
              | refine AWp.condF rfl (by first | rfl | assumption | exact cmF) ?_
              | (refine AWp.region (id := 7) ?_
                 refine AList.cmpT rfl rfl rfl rfl rfl cmT ?_
                 refine AList.nil ?_)
              | (refine AWp.region (id := 8) ?_
                 refine AList.idx (k := i) tyOk rfl rfl rfl rfl rfl rfl rfl rfl (by first | rfl | omega) oM oM ?_
                 refine AList.loadAl tyOk rfl rfl rfl rfl rfl oM ?_
                 refine AList.alloc tyOk rfl rfl rfl rfl rfl ?_
                 refine AList.store tyOk rfl rfl rfl rfl rfl rfl rfl rfl oM oM ?_
                 refine AList.nil ?_)
              | (refine AWp.region (id := 9) ?_
                 refine AList.loadA tyOk rfl rfl rfl rfl rfl rfl rfl oM oM ?_
                 refine AList.loadA tyOk rfl rfl rfl rfl rfl rfl rfl oM oM ?_
                 refine AList.fieldPt tyOk rfl rfl rfl rfl rfl rfl rfl ?_
                 refine AList.load1 tyOk rfl rfl rfl rfl rfl rfl rfl oM oM ?_
                 refine AList.fieldPt tyOk rfl rfl rfl rfl rfl rfl rfl ?_
                 refine AList.load1 tyOk rfl rfl rfl rfl rfl rfl rfl oM oM ?_
                 refine AList.call rfl rfl rfl rfl Try.func23 rfl (by kernel_rfl) (hF) ?_
                 refine AList.move rfl rfl rfl ?_
                 refine AList.extract rfl rfl rfl rfl ?_
                 refine AList.extract rfl rfl rfl rfl ?_
                 refine AList.extract rfl rfl rfl rfl ?_
                 refine AList.assign rfl rfl rfl ?_
                 refine AList.assign rfl rfl rfl ?_
                 refine AList.assign rfl rfl rfl ?_
                 refine AList.nil ?_)
              | (refine AWp.region (id := 10) ?_
                 refine AList.move rfl rfl rfl ?_
                 refine AList.move rfl rfl rfl ?_
                 refine AList.skip rfl rfl ?_
                 refine AList.skip rfl rfl ?_
                 refine AList.skip rfl rfl ?_
                 refine AList.skip rfl rfl ?_
                 refine AList.pickF rfl rfl rfl rfl ?_
                 refine AList.move rfl rfl rfl ?_
                 refine AList.skip rfl rfl ?_
                 refine AList.skip rfl rfl ?_
                 refine AList.skip rfl rfl ?_
                 refine AList.skip rfl rfl ?_
                 refine AList.pickF rfl rfl rfl rfl ?_
                 refine AList.assign rfl rfl rfl ?_
                 refine AList.nil ?_)
              | (refine AWp.region (id := 11) ?_
                 refine AList.move rfl rfl rfl ?_
                 refine AList.move rfl rfl rfl ?_
                 refine AList.fieldPt tyOk rfl rfl rfl rfl rfl rfl rfl ?_
                 refine AList.load1 tyOk rfl rfl rfl rfl rfl rfl rfl oM oM ?_
                 refine AList.fieldPt tyOk rfl rfl rfl rfl rfl rfl rfl ?_
                 refine AList.load1 tyOk rfl rfl rfl rfl rfl rfl rfl oM oM ?_
                 first | refine AList.cmpT rfl rfl rfl rfl rfl cmT ?_ | refine AList.cmpF rfl rfl rfl rfl rfl cmF ?_
                 refine AList.pickT rfl rfl rfl rfl ?_
                 refine AList.move rfl rfl rfl ?_
                 first | refine AList.skip rfl rfl ?_ | refine AList.fieldPt tyOk rfl rfl rfl rfl rfl rfl rfl ?_
                 first | refine AList.skip rfl rfl ?_ | refine AList.load1 tyOk rfl rfl rfl rfl rfl rfl rfl oM oM ?_
                 first | refine AList.skip rfl rfl ?_ | refine AList.fieldPt tyOk rfl rfl rfl rfl rfl rfl rfl ?_
                 first | refine AList.skip rfl rfl ?_ | refine AList.load1 tyOk rfl rfl rfl rfl rfl rfl rfl oM oM ?_
                 first | refine AList.skip rfl rfl ?_ | refine AList.cmpF rfl rfl rfl rfl rfl cmF ?_
                 first | refine AList.pickT rfl rfl rfl rfl ?_ | refine AList.pickF rfl rfl rfl rfl ?_
                 refine AList.nil ?_)
              | (refine AWp.region (id := 13) ?_
                 refine AList.move rfl rfl rfl ?_
                 refine AList.nil ?_)
              | (refine AWp.region (id := 15) ?_
                 refine AList.add rfl rfl rfl rfl (by omega) (by omega) ?_
                 refine AList.move rfl rfl rfl ?_
                 refine AList.nil ?_))
            refine ⟨i + 1, by omega, Wk.mk [(11, some 11), (12, some 12), (13, some 13), (15, some 15)] rfl rfl rfl ?_ ?_, by omega⟩
            · repeat (first | exact trivial | refine ⟨⟨_, rfl, by first | exact LeA.c (LeC.refl _ rfl) | exact LeA.c (LeC.ow _ _ rfl) | exact LeA.c (LeC.pt _ _ _ _ _ rfl) | exact LeA.c (LeC.nil _ rfl) | exact LeA.c (LeC.nils _ _) | (refine LeA.int ?_; omega) | (refine LeA.int ?_; dsimp only; omega) | exact LeA.c (LeC.fz rfl rfl (by first | rfl | omega) (fun i _ j _ => ⟨rfl, by first | rfl | exact rowN_imm (fun _ => rfl) _ i j | exact rowF_imm (fun _ => rfl) _ i j⟩))⟩, ?_⟩)
            · repeat (first | exact trivial | refine ⟨by first | exact HeapOk.same rfl rfl rfl rfl | exact HeapOk.lent rfl rfl rfl rfl | exact HeapOk.nil rfl rfl | exact HeapOk.row rfl rfl (by first | rfl | omega) (fun i _ j _ => ⟨rfl, by first | rfl | exact rowN_imm (fun _ => rfl) _ i j | exact rowF_imm (fun _ => rfl) _ i j⟩) | exact HeapOk.box rfl rfl (by repeat (first | exact trivial | refine ⟨by first | exact LeC.refl _ rfl | exact LeC.ow _ _ rfl | exact LeC.nil _ rfl | exact LeC.nils _ _ | exact LeC.fz rfl rfl (by first | rfl | omega) (fun i _ j _ => ⟨rfl, by first | rfl | exact rowN_imm (fun _ => rfl) _ i j | exact rowF_imm (fun _ => rfl) _ i j⟩) | exact LeC.int (by omega), ?_⟩)) rfl, ?_⟩)
          all_goals
            rw [fitV, decide_eq_true g1] at hF
            repeat (first
              | refine AWp.seq ?_
              | refine thenA_n ?_
              | refine AWp.block ?_
              | refine AWp.skip ?_
              | refine inBlk_n ?_
              | refine AWp.condT rfl (by first | rfl | assumption | exact cmT) ?_
              | refine AWp.condF rfl (by first | rfl | assumption | exact cmF) ?_
              | (refine AWp.region (id := 7) ?_
                 refine AList.cmpT rfl rfl rfl rfl rfl cmT ?_
                 refine AList.nil ?_)
              | (refine AWp.region (id := 8) ?_
                 refine AList.idx (k := i) tyOk rfl rfl rfl rfl rfl rfl rfl rfl (by first | rfl | omega) oM oM ?_
                 refine AList.loadAl tyOk rfl rfl rfl rfl rfl oM ?_
                 refine AList.alloc tyOk rfl rfl rfl rfl rfl ?_
                 refine AList.store tyOk rfl rfl rfl rfl rfl rfl rfl rfl oM oM ?_
                 refine AList.nil ?_)
              | (refine AWp.region (id := 9) ?_
                 refine AList.loadA tyOk rfl rfl rfl rfl rfl rfl rfl oM oM ?_
                 refine AList.loadA tyOk rfl rfl rfl rfl rfl rfl rfl oM oM ?_
                 refine AList.fieldPt tyOk rfl rfl rfl rfl rfl rfl rfl ?_
                 refine AList.load1 tyOk rfl rfl rfl rfl rfl rfl rfl oM oM ?_
                 refine AList.fieldPt tyOk rfl rfl rfl rfl rfl rfl rfl ?_
                 refine AList.load1 tyOk rfl rfl rfl rfl rfl rfl rfl oM oM ?_
                 refine AList.call rfl rfl rfl rfl Try.func23 rfl (by kernel_rfl) (hF) ?_
                 refine AList.move rfl rfl rfl ?_
                 refine AList.extract rfl rfl rfl rfl ?_
                 refine AList.extract rfl rfl rfl rfl ?_
                 refine AList.extract rfl rfl rfl rfl ?_
                 refine AList.assign rfl rfl rfl ?_
                 refine AList.assign rfl rfl rfl ?_
                 refine AList.assign rfl rfl rfl ?_
                 refine AList.nil ?_)
              | (refine AWp.region (id := 10) ?_
                 refine AList.move rfl rfl rfl ?_
                 refine AList.move rfl rfl rfl ?_
                 refine AList.move rfl rfl rfl ?_
                 refine AList.fieldPt tyOk rfl rfl rfl rfl rfl rfl rfl ?_
                 refine AList.load1 tyOk rfl rfl rfl rfl rfl rfl rfl oM oM ?_
                 first | refine AList.cmpT rfl rfl rfl rfl rfl cmT ?_ | refine AList.cmpF rfl rfl rfl rfl rfl cmF ?_
                 refine AList.pickT rfl rfl rfl rfl ?_
                 refine AList.move rfl rfl rfl ?_
                 first | refine AList.skip rfl rfl ?_ | refine AList.move rfl rfl rfl ?_
                 first | refine AList.skip rfl rfl ?_ | refine AList.fieldPt tyOk rfl rfl rfl rfl rfl rfl rfl ?_
                 first | refine AList.skip rfl rfl ?_ | refine AList.load1 tyOk rfl rfl rfl rfl rfl rfl rfl oM oM ?_
                 first | refine AList.skip rfl rfl ?_ | refine AList.cmpF rfl rfl rfl rfl rfl cmF ?_
                 first | refine AList.pickT rfl rfl rfl rfl ?_ | refine AList.pickF rfl rfl rfl rfl ?_
                 refine AList.assign rfl rfl rfl ?_
                 refine AList.nil ?_)
              | (refine AWp.region (id := 11) ?_
                 refine AList.move rfl rfl rfl ?_
                 refine AList.move rfl rfl rfl ?_
                 refine AList.fieldPt tyOk rfl rfl rfl rfl rfl rfl rfl ?_
                 refine AList.load1 tyOk rfl rfl rfl rfl rfl rfl rfl oM oM ?_
                 refine AList.fieldPt tyOk rfl rfl rfl rfl rfl rfl rfl ?_
                 refine AList.load1 tyOk rfl rfl rfl rfl rfl rfl rfl oM oM ?_
                 first | refine AList.cmpT rfl rfl rfl rfl rfl cmT ?_ | refine AList.cmpF rfl rfl rfl rfl rfl cmF ?_
                 refine AList.pickT rfl rfl rfl rfl ?_
                 refine AList.move rfl rfl rfl ?_
                 first | refine AList.skip rfl rfl ?_ | refine AList.fieldPt tyOk rfl rfl rfl rfl rfl rfl rfl ?_
                 first | refine AList.skip rfl rfl ?_ | refine AList.load1 tyOk rfl rfl rfl rfl rfl rfl rfl oM oM ?_
                 first | refine AList.skip rfl rfl ?_ | refine AList.fieldPt tyOk rfl rfl rfl rfl rfl rfl rfl ?_
                 first | refine AList.skip rfl rfl ?_ | refine AList.load1 tyOk rfl rfl rfl rfl rfl rfl rfl oM oM ?_
                 first | refine AList.skip rfl rfl ?_ | refine AList.cmpF rfl rfl rfl rfl rfl cmF ?_
                 first | refine AList.pickT rfl rfl rfl rfl ?_ | refine AList.pickF rfl rfl rfl rfl ?_
                 refine AList.nil ?_)
              | (refine AWp.region (id := 13) ?_
                 refine AList.move rfl rfl rfl ?_
                 refine AList.nil ?_)
              | (refine AWp.region (id := 15) ?_
                 refine AList.add rfl rfl rfl rfl (by omega) (by omega) ?_
                 refine AList.move rfl rfl rfl ?_
                 refine AList.nil ?_))
            refine ⟨i + 1, by omega, Wk.mk [(11, some 11), (12, some 12), (13, some 13), (15, some 15)] rfl rfl rfl ?_ ?_, by omega⟩
            · repeat (first | exact trivial | refine ⟨⟨_, rfl, by first | exact LeA.c (LeC.refl _ rfl) | exact LeA.c (LeC.ow _ _ rfl) | exact LeA.c (LeC.pt _ _ _ _ _ rfl) | exact LeA.c (LeC.nil _ rfl) | exact LeA.c (LeC.nils _ _) | (refine LeA.int ?_; omega) | (refine LeA.int ?_; dsimp only; omega) | exact LeA.c (LeC.fz rfl rfl (by first | rfl | omega) (fun i _ j _ => ⟨rfl, by first | rfl | exact rowN_imm (fun _ => rfl) _ i j | exact rowF_imm (fun _ => rfl) _ i j⟩))⟩, ?_⟩)
            · repeat (first | exact trivial | refine ⟨by first | exact HeapOk.same rfl rfl rfl rfl | exact HeapOk.lent rfl rfl rfl rfl | exact HeapOk.nil rfl rfl | exact HeapOk.row rfl rfl (by first | rfl | omega) (fun i _ j _ => ⟨rfl, by first | rfl | exact rowN_imm (fun _ => rfl) _ i j | exact rowF_imm (fun _ => rfl) _ i j⟩) | exact HeapOk.box rfl rfl (by repeat (first | exact trivial | refine ⟨by first | exact LeC.refl _ rfl | exact LeC.ow _ _ rfl | exact LeC.nil _ rfl | exact LeC.nils _ _ | exact LeC.fz rfl rfl (by first | rfl | omega) (fun i _ j _ => ⟨rfl, by first | rfl | exact rowN_imm (fun _ => rfl) _ i j | exact rowF_imm (fun _ => rfl) _ i j⟩) | exact LeC.int (by omega), ?_⟩)) rfl, ?_⟩)
end Go.Proofs.Ytclaanggpcjnbaa
end

section
/- DamageFirst: the statement. No condition. -/
namespace Go.Proofs.Ytclaanggpcjnbaa.damageFirst
open Go.ChangeShapes Go.WideShapes Go.ChangeAt Go.RowKit Go.Flow Go.AV
theorem contract (H : Type) (enc : TypeId × Value → H) (W : World) (base : Nat) (args : Array Value) (ds gs : List (DataW H)) (before : List MemPlace)
    (hval : ∀ (j : Nat) t v, Try.f6.params[j]? = some t → args[j]? = some v → Value.okWide Try.prog W .any base t v)
    (hW : DataW.Whole enc Try.prog Try.f6.params.toList Rows.damageFirstSpec.vars false W args.toList ds gs before)
    (hsz : (DataW.weightsEach Try.prog (Try.f6.params.toList ++ (OpenSpec.ofChange Rows.damageFirstSpec).bare.plain.varTypes Try.prog) (ds ++ gs)).all (· ≤ reachBytes) = true) :
    Calls Try.prog 6 args W fun e W' => ∃ v, e = .returned v ∧ Rows.damageFirstSpec.post enc Try.prog Try.f6 false true false false W args v W' := by
  have hW' := hW
  obtain ⟨p, q, hA0, hV, rfl, hfz, hnd⟩ := hW
  have hA : DataW.TrodAll enc Try.prog W 0 (fun _ => true) true Try.f6.params.toList args.toList ds p := hA0
  have hAk := hA0
  rw [Try.params6] at hA hval hsz
  obtain ⟨rfl, rfl⟩ := trodVars_none hV
  obtain ⟨v0, vs0, d0, ds0, p0, q0, hargs, rfl, rfl, h0, t0⟩ := trodAll_cons hA
  obtain ⟨v1, vs1, d1, ds1, p1, q1, rfl, rfl, rfl, h1, t1⟩ := trodAll_cons t0
  obtain ⟨v2, vs2, d2, ds2, p2, q2, rfl, rfl, rfl, h2, t2⟩ := trodAll_cons t1
  obtain ⟨v3, vs3, d3, ds3, p3, q3, rfl, rfl, rfl, h3, t3⟩ := trodAll_cons t2
  obtain ⟨rfl, rfl, rfl⟩ := trodAll_nil t3
  obtain rfl : args = #[v0, v1, v2, v3] := by rw [← Array.toList_inj]; exact hargs
  have hlt := fun x hx => hW'.lt x hx
  simp only [List.append_nil] at hW'
  rw [List.append_nil] at hsz
  obtain ⟨a0, ok0, r0⟩ := opn_ints.argC (cells_slice Try.underlying22 (hval 0 22 v0 rfl rfl)) h0 (weigh hsz 0 (t := 22) (d := d0) rfl rfl)
  obtain ⟨a1, ok1, r1⟩ := opn_ints.argC (cells_slice Try.underlying22 (hval 1 22 v1 rfl rfl)) h1 (weigh hsz 1 (t := 22) (d := d1) rfl rfl)
  obtain ⟨a2, ok2, r2⟩ := opn_ints.argC (cells_slice Try.underlying22 (hval 2 22 v2 rfl rfl)) h2 (weigh hsz 2 (t := 22) (d := d2) rfl rfl)
  obtain ⟨a3, ok3, r3⟩ := opn_ints.argC (cells_slice Try.underlying22 (hval 3 22 v3 rfl rfl)) h3 (weigh hsz 3 (t := 22) (d := d3) rfl rfl)
  refine ((DamageFirst_A a0.length (fun k => a0.getD k 0) a1.length (fun k => a1.getD k 0) a2.length (fun k => a2.getD k 0) a3.length (fun k => a3.getD k 0) ok0.1 ok1.1 ok2.1 ok3.1) O0 W [_, _, _, _] (fun b h => h.elim) ⟨r0, r1, r2, r3, trivial⟩).mono fun e W' ⟨v, r, he, hr, hv, hE⟩ => ?_
  subst hr
  obtain rfl : v = .bool true := hv.2
  subst he
  exact ⟨_, rfl, post_below (pv := []) hW' (fun _ _ _ => trodAll_cons_mk (shut_bool Try.underlying4 _) trodAll_mk0)
    (fun sp hsp => trodAll_below laidOut hE (by rw [Try.params6]; intro t ht; simp only [List.mem_cons, List.not_mem_nil, or_false] at ht; rcases ht with rfl | rfl | rfl | rfl <;> exact ⟨by kernel_rfl, of_decide_eq_true (by kernel_rfl)⟩) hAk (fun x hx => hlt x (by rw [List.append_nil]; exact hx)) sp (fun x hx => hsp x (by simpa only [List.append_nil] using hx)))
    (fun _ _ => rfl) (by simp) hE (ok_one (by kernel_rfl) rfl (okWide_bool_mk Try.underlying4 _))⟩
theorem own : ownKnob Try.prog.godebug = none := by kernel_rfl
set_option maxRecDepth 100000 in
theorem lifted (os : Os) (started : os.Started) (H : Type) (enc : TypeId × Value → H) :
    ReturnsInHanded {} Try.checked os 6 .any (Rows.damageFirstSpec.pre6 enc Try.prog Try.f6 Rows.damageFirstRow.domain false) (Rows.damageFirstSpec.post enc Try.prog Try.f6 false true false false) := by
  refine returnsInHanded_of_change_sized (C := Try.checked) own started (by kernel_rfl) Try.func6
    (ChangeSpec.witness6 (enc := enc) (C := Try.checked) false ⟨#[], #[.slice none 0 0, .slice none 0 0, .slice none 0 0, .slice none 0 0], []⟩ 8 (by kernel_rfl) (by kernel_rfl) (by kernel_rfl) (by kernel_rfl)) ?_
  intro W base args ds gs before hval hW _ hsz _
  exact contract H enc W base args ds gs before hval hW hsz
theorem said : Rows.DamageFirstSaid :=
  OpenClaim.holds_of_wide 6 Try.f6 rfl rfl rfl rfl rfl rfl rfl ⟨rfl, rfl, rfl, rfl, rfl⟩ rfl rfl rfl rfl rfl (by kernel_rfl) Try.func6 (by kernel_rfl)
    (of_decide_eq_true (by kernel_rfl)) (by unfold Func.isWrapper; first | (rw [if_pos (by decide +kernel)]; kernel_rfl) | (rw [if_neg (by decide +kernel)]; exact ⟨rfl, rfl⟩))
    (fun os started H enc _ => lifted os started H enc)
end Go.Proofs.Ytclaanggpcjnbaa.damageFirst
end
