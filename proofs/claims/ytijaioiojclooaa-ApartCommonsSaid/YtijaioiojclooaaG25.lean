/- Parts of the proof: A24t, A24u, A24v. -/
import Derived.Test.YtijaioiojclooaaG24
set_option linter.unusedSimpArgs false
set_option linter.unusedVariables false
section
namespace Go.Proofs.Ytijaioiojclooaa
open Go.RowKit Go.Flow Go.AV Go.Plain
theorem mo_ne (r s : Int × Int) (w : World) : (Go.binOp .neq 48 (.agg #[.int .i64 r.1, .int .i64 r.2]) (.agg #[.int .i64 s.1, .int .i64 s.2])).run Try.prog w = .ok (.bool (!decide (r = s))) w := by
  have hp : Try.prog.stoodInHeld 48 = false := by kernel_rfl
  obtain ⟨a0, a1⟩ := r
  obtain ⟨b0, b1⟩ := s
  go_simp
  by_cases e0 : a0 = b0 <;> by_cases e1 : a1 = b1 <;> simp [e0, e1]
theorem mo_eq (r s : Int × Int) (w : World) : (Go.binOp .eql 48 (.agg #[.int .i64 r.1, .int .i64 r.2]) (.agg #[.int .i64 s.1, .int .i64 s.2])).run Try.prog w = .ok (.bool (decide (r = s))) w := by
  have hp : Try.prog.stoodInHeld 48 = false := by kernel_rfl
  obtain ⟨a0, a1⟩ := r
  obtain ⟨b0, b1⟩ := s
  go_simp
  by_cases e0 : a0 = b0 <;> by_cases e1 : a1 = b1 <;> simp [e0, e1]
theorem cl_eq (r s : Cl) (w : World) : (Go.binOp .eql 40 (.agg #[.int .i64 r.dx, .int .i64 r.dy, .int .i64 r.col]) (.agg #[.int .i64 s.dx, .int .i64 s.dy, .int .i64 s.col])).run Try.prog w = .ok (.bool (decide (r = s))) w := by
  have hp : Try.prog.stoodInHeld 40 = false := by kernel_rfl
  obtain ⟨a0, a1, a2⟩ := r
  obtain ⟨b0, b1, b2⟩ := s
  go_simp
  by_cases e0 : a0 = b0 <;> by_cases e1 : a1 = b1 <;> by_cases e2 : a2 = b2 <;> simp [e0, e1, e2]
set_option maxRecDepth 100000 in
theorem Index_A (L : List (Int × Int)) (d : Int × Int) (hl : L.length ≤ 1000) : ∃ i : Int, (0 ≤ i ↔ d ∈ L) ∧ ACalls Try.prog 89 [.c (.ls L.length 2 (rowF mvC mvZ L)), .ag (mvC d)] (.c (iC i)) := by
  have hmem : ∀ i, i < L.length → L.getD i mvZ ∈ L := fun i hi => by
    rw [List.getD_eq_getElem?_getD, List.getElem?_eq_getElem hi]
    exact List.getElem_mem hi
  rcases first_hit (fun i => decide (d = L.getD i mvZ)) L.length with hno | ⟨k0, hk0, hb, hno⟩
  · refine ⟨-1, ⟨fun h => by omega, fun h => ?_⟩, ?_⟩
    · obtain ⟨j, hj, e⟩ := List.getElem_of_mem h
      have := of_decide_eq_false (hno j hj)
      rw [List.getD_eq_getElem?_getD, List.getElem?_eq_getElem hj] at this
      exact absurd e.symm this
    · obtain ⟨n, hn⟩ : ∃ n, L.length = n := ⟨_, rfl⟩
      rw [hn] at hl hno ⊢
      refine acalls_at Try.func89 rfl rfl Try.ntmps89 rfl ?_
      repeat (first
        | refine AWp.seq ?_
        | refine thenA_n ?_
        | refine AWp.block ?_
        | (refine AWp.region (id := 0) ?_; refine AList.box rfl rfl rfl rfl rfl ?_; refine AList.assign rfl rfl rfl ?_; refine AList.nil ?_)
        | (refine AWp.region (id := 1) ?_; refine AList.move rfl rfl rfl ?_; refine AList.lenLs tyOk rfl rfl rfl rfl rfl ?_; refine AList.move rfl rfl rfl ?_; refine AList.nil ?_))
      refine AWp.round (fun k : Nat => mkSt 19 [(0, .c (.ls n 2 (rowF mvC mvZ L))), (3, .c (.pt 3 2 0 0)), (7, .c (iC n)), (8, .c (iC k))] [(3, ⟨false, 1, 2, 48, lF (mvC d)⟩)] [3]) (fun k => k ≤ n) (fun k => n - k) 0 (Nat.zero_le _) ?_ (fun k hk => ?_)
      · refine Wk.mk [(3, some 3)] rfl rfl rfl ?_ ?_
        · repeat (first | exact trivial | refine ⟨⟨_, rfl, by first | exact LeA.c (LeC.refl _ rfl) | exact LeA.c (LeC.ow _ _ rfl) | exact LeA.c (LeC.pt _ _ _ _ _ rfl) | exact LeA.c (LeC.nil _ rfl) | exact LeA.c (LeC.nils _ _) | (refine LeA.int ?_; omega) | (refine LeA.int ?_; dsimp only; omega) | exact LeA.c (LeC.fz rfl rfl (by first | rfl | omega) (fun i _ j _ => ⟨rfl, by first | rfl | exact rowN_imm (fun _ => rfl) _ i j | exact rowF_imm (fun _ => rfl) _ i j⟩))⟩, ?_⟩)
        · repeat (first | exact trivial | refine ⟨by first | exact HeapOk.same rfl rfl rfl rfl | exact HeapOk.lent rfl rfl rfl rfl | exact HeapOk.nil rfl rfl | exact HeapOk.row rfl rfl (by first | rfl | omega) (fun i _ j _ => ⟨rfl, by first | rfl | exact rowN_imm (fun _ => rfl) _ i j | exact rowF_imm (fun _ => rfl) _ i j⟩) | exact HeapOk.box rfl rfl (by repeat (first | exact trivial | refine ⟨by first | exact LeC.refl _ rfl | exact LeC.ow _ _ rfl | exact LeC.nil _ rfl | exact LeC.nils _ _ | exact LeC.fz rfl rfl (by first | rfl | omega) (fun i _ j _ => ⟨rfl, by first | rfl | exact rowN_imm (fun _ => rfl) _ i j | exact rowF_imm (fun _ => rfl) _ i j⟩) | exact LeC.int (by omega), ?_⟩)) rfl, ?_⟩)
      · by_cases hkn : k < n
        · have he : ¬ d = L.getD k mvZ := of_decide_eq_false (hno k hkn)
          have hne : ∀ w, (Go.binOp .eql 48 _ _).run Try.prog w = .ok (.bool false) w := fun w => (mo_eq d (L.getD k mvZ) w).trans (by rw [decide_eq_false he])
          repeat (first
            | refine AWp.seq ?_
            | refine thenA_n ?_
            | refine AWp.block ?_
            | refine AWp.skip ?_
            | refine inBlk_n ?_
            | refine AWp.condT rfl (by first | rfl | assumption | exact cmT) ?_
            | refine AWp.condF rfl (by first | rfl | assumption | exact cmF) ?_
            | (refine AWp.region (id := 2) ?_; refine AList.cmpT rfl rfl rfl rfl rfl cmT ?_; refine AList.nil ?_)
            | (refine AWp.region (id := 3) ?_; refine AList.move rfl rfl rfl ?_; refine AList.assign rfl rfl rfl ?_; refine AList.nil ?_)
            | (refine AWp.draw (id := 4) mixed ?_; refine AList.loadA tyOk rfl rfl rfl rfl rfl rfl rfl oM oM ?_; refine AList.move rfl rfl rfl ?_; refine AList.move rfl rfl rfl ?_; refine AList.idx tyOk rfl rfl rfl rfl rfl rfl rfl rfl rfl oM oM ?_; refine AList.loadAl tyOk rfl rfl rfl rfl rfl oM ?_; refine AList.binAg rfl rfl rfl rfl rfl rfl (by kernel_rfl) (hne) ?_; refine AList.nil ⟨by kernel_rfl, ?_⟩)
            | (refine AWp.region (id := 6) ?_; refine AList.add rfl rfl rfl rfl (by omega) (by omega) ?_; refine AList.move rfl rfl rfl ?_; refine AList.nil ?_))
          refine ⟨k + 1, hkn, Wk.mk [(3, some 3)] rfl rfl rfl ?_ ?_, by omega⟩
          · repeat (first | exact trivial | refine ⟨⟨_, rfl, by first | exact LeA.c (LeC.refl _ rfl) | exact LeA.c (LeC.ow _ _ rfl) | exact LeA.c (LeC.pt _ _ _ _ _ rfl) | exact LeA.c (LeC.nil _ rfl) | exact LeA.c (LeC.nils _ _) | (refine LeA.int ?_; omega) | (refine LeA.int ?_; dsimp only; omega) | exact LeA.c (LeC.fz rfl rfl (by first | rfl | omega) (fun i _ j _ => ⟨rfl, by first | rfl | exact rowN_imm (fun _ => rfl) _ i j | exact rowF_imm (fun _ => rfl) _ i j⟩))⟩, ?_⟩)
          · repeat (first | exact trivial | refine ⟨by first | exact HeapOk.same rfl rfl rfl rfl | exact HeapOk.lent rfl rfl rfl rfl | exact HeapOk.nil rfl rfl | exact HeapOk.row rfl rfl (by first | rfl | omega) (fun i _ j _ => ⟨rfl, by first | rfl | exact rowN_imm (fun _ => rfl) _ i j | exact rowF_imm (fun _ => rfl) _ i j⟩) | exact HeapOk.box rfl rfl (by repeat (first | exact trivial | refine ⟨by first | exact LeC.refl _ rfl | exact LeC.ow _ _ rfl | exact LeC.nil _ rfl | exact LeC.nils _ _ | exact LeC.fz rfl rfl (by first | rfl | omega) (fun i _ j _ => ⟨rfl, by first | rfl | exact rowN_imm (fun _ => rfl) _ i j | exact rowF_imm (fun _ => rfl) _ i j⟩) | exact LeC.int (by omega), ?_⟩)) rfl, ?_⟩)
        · obtain rfl : k = n := by omega
          repeat (first
            | refine AWp.seq ?_
            | refine thenA_n ?_
            | refine AWp.exit ?_
            | refine AWp.ret ?_
            | refine AWp.condF rfl (by first | rfl | assumption | exact cmF) ?_
            | (refine AWp.region (id := 2) ?_; refine AList.cmpF rfl rfl rfl rfl rfl cmF ?_; refine AList.nil ?_)
            | (refine AWp.region (id := 7) ?_; refine AList.assign rfl rfl rfl ?_; refine AList.nil ?_))
          refine ⟨mkSt 19 [(4, .c (iC (-1)))] [] [], [], Wk.mk [] rfl rfl rfl ?_ trivial, rfl, rfl, ARets.one (x := .c _) (ARes.tmp rfl rfl)⟩
          repeat (first | exact trivial | refine ⟨⟨_, rfl, by first | exact LeA.c (LeC.refl _ rfl) | exact LeA.c (LeC.ow _ _ rfl) | exact LeA.c (LeC.pt _ _ _ _ _ rfl) | exact LeA.c (LeC.nil _ rfl) | exact LeA.c (LeC.nils _ _) | (refine LeA.int ?_; omega) | (refine LeA.int ?_; dsimp only; omega) | exact LeA.c (LeC.fz rfl rfl (by first | rfl | omega) (fun i _ j _ => ⟨rfl, by first | rfl | exact rowN_imm (fun _ => rfl) _ i j | exact rowF_imm (fun _ => rfl) _ i j⟩))⟩, ?_⟩)
  · refine ⟨k0, ⟨fun _ => by rw [of_decide_eq_true hb]; exact hmem k0 hk0, fun _ => by omega⟩, ?_⟩
    have hb' : d = L.getD k0 mvZ := of_decide_eq_true hb
    obtain ⟨n, hn⟩ : ∃ n, L.length = n := ⟨_, rfl⟩
    rw [hn] at hl hk0 ⊢
    refine acalls_at Try.func89 rfl rfl Try.ntmps89 rfl ?_
    repeat (first
      | refine AWp.seq ?_
      | refine thenA_n ?_
      | refine AWp.block ?_
      | (refine AWp.region (id := 0) ?_; refine AList.box rfl rfl rfl rfl rfl ?_; refine AList.assign rfl rfl rfl ?_; refine AList.nil ?_)
      | (refine AWp.region (id := 1) ?_; refine AList.move rfl rfl rfl ?_; refine AList.lenLs tyOk rfl rfl rfl rfl rfl ?_; refine AList.move rfl rfl rfl ?_; refine AList.nil ?_))
    refine AWp.round (fun k : Nat => mkSt 19 [(0, .c (.ls n 2 (rowF mvC mvZ L))), (3, .c (.pt 3 2 0 0)), (7, .c (iC n)), (8, .c (iC k))] [(3, ⟨false, 1, 2, 48, lF (mvC d)⟩)] [3]) (fun k => k ≤ k0) (fun k => n - k) 0 (Nat.zero_le _) ?_ (fun k hk => ?_)
    · refine Wk.mk [(3, some 3)] rfl rfl rfl ?_ ?_
      · repeat (first | exact trivial | refine ⟨⟨_, rfl, by first | exact LeA.c (LeC.refl _ rfl) | exact LeA.c (LeC.ow _ _ rfl) | exact LeA.c (LeC.pt _ _ _ _ _ rfl) | exact LeA.c (LeC.nil _ rfl) | exact LeA.c (LeC.nils _ _) | (refine LeA.int ?_; omega) | (refine LeA.int ?_; dsimp only; omega) | exact LeA.c (LeC.fz rfl rfl (by first | rfl | omega) (fun i _ j _ => ⟨rfl, by first | rfl | exact rowN_imm (fun _ => rfl) _ i j | exact rowF_imm (fun _ => rfl) _ i j⟩))⟩, ?_⟩)
      · repeat (first | exact trivial | refine ⟨by first | exact HeapOk.same rfl rfl rfl rfl | exact HeapOk.lent rfl rfl rfl rfl | exact HeapOk.nil rfl rfl | exact HeapOk.row rfl rfl (by first | rfl | omega) (fun i _ j _ => ⟨rfl, by first | rfl | exact rowN_imm (fun _ => rfl) _ i j | exact rowF_imm (fun _ => rfl) _ i j⟩) | exact HeapOk.box rfl rfl (by repeat (first | exact trivial | refine ⟨by first | exact LeC.refl _ rfl | exact LeC.ow _ _ rfl | exact LeC.nil _ rfl | exact LeC.nils _ _ | exact LeC.fz rfl rfl (by first | rfl | omega) (fun i _ j _ => ⟨rfl, by first | rfl | exact rowN_imm (fun _ => rfl) _ i j | exact rowF_imm (fun _ => rfl) _ i j⟩) | exact LeC.int (by omega), ?_⟩)) rfl, ?_⟩)
    · have hkn : k < n := by omega
      by_cases hkk : k < k0
      · have he : ¬ d = L.getD k mvZ := of_decide_eq_false (hno k hkk)
        have hne : ∀ w, (Go.binOp .eql 48 _ _).run Try.prog w = .ok (.bool false) w := fun w => (mo_eq d (L.getD k mvZ) w).trans (by rw [decide_eq_false he])
        repeat (first
          | refine AWp.seq ?_
          | refine thenA_n ?_
          | refine AWp.block ?_
          | refine AWp.skip ?_
          | refine inBlk_n ?_
          | refine AWp.condT rfl (by first | rfl | assumption | exact cmT) ?_
          | refine AWp.condF rfl (by first | rfl | assumption | exact cmF) ?_
          | (refine AWp.region (id := 2) ?_; refine AList.cmpT rfl rfl rfl rfl rfl cmT ?_; refine AList.nil ?_)
          | (refine AWp.region (id := 3) ?_; refine AList.move rfl rfl rfl ?_; refine AList.assign rfl rfl rfl ?_; refine AList.nil ?_)
          | (refine AWp.draw (id := 4) mixed ?_; refine AList.loadA tyOk rfl rfl rfl rfl rfl rfl rfl oM oM ?_; refine AList.move rfl rfl rfl ?_; refine AList.move rfl rfl rfl ?_; refine AList.idx tyOk rfl rfl rfl rfl rfl rfl rfl rfl rfl oM oM ?_; refine AList.loadAl tyOk rfl rfl rfl rfl rfl oM ?_; refine AList.binAg rfl rfl rfl rfl rfl rfl (by kernel_rfl) (hne) ?_; refine AList.nil ⟨by kernel_rfl, ?_⟩)
          | (refine AWp.region (id := 6) ?_; refine AList.add rfl rfl rfl rfl (by omega) (by omega) ?_; refine AList.move rfl rfl rfl ?_; refine AList.nil ?_))
        refine ⟨k + 1, hkk, Wk.mk [(3, some 3)] rfl rfl rfl ?_ ?_, by omega⟩
        · repeat (first | exact trivial | refine ⟨⟨_, rfl, by first | exact LeA.c (LeC.refl _ rfl) | exact LeA.c (LeC.ow _ _ rfl) | exact LeA.c (LeC.pt _ _ _ _ _ rfl) | exact LeA.c (LeC.nil _ rfl) | exact LeA.c (LeC.nils _ _) | (refine LeA.int ?_; omega) | (refine LeA.int ?_; dsimp only; omega) | exact LeA.c (LeC.fz rfl rfl (by first | rfl | omega) (fun i _ j _ => ⟨rfl, by first | rfl | exact rowN_imm (fun _ => rfl) _ i j | exact rowF_imm (fun _ => rfl) _ i j⟩))⟩, ?_⟩)
        · repeat (first | exact trivial | refine ⟨by first | exact HeapOk.same rfl rfl rfl rfl | exact HeapOk.lent rfl rfl rfl rfl | exact HeapOk.nil rfl rfl | exact HeapOk.row rfl rfl (by first | rfl | omega) (fun i _ j _ => ⟨rfl, by first | rfl | exact rowN_imm (fun _ => rfl) _ i j | exact rowF_imm (fun _ => rfl) _ i j⟩) | exact HeapOk.box rfl rfl (by repeat (first | exact trivial | refine ⟨by first | exact LeC.refl _ rfl | exact LeC.ow _ _ rfl | exact LeC.nil _ rfl | exact LeC.nils _ _ | exact LeC.fz rfl rfl (by first | rfl | omega) (fun i _ j _ => ⟨rfl, by first | rfl | exact rowN_imm (fun _ => rfl) _ i j | exact rowF_imm (fun _ => rfl) _ i j⟩) | exact LeC.int (by omega), ?_⟩)) rfl, ?_⟩)
      · obtain rfl : k = k0 := by omega
        have hne : ∀ w, (Go.binOp .eql 48 _ _).run Try.prog w = .ok (.bool true) w := fun w => (mo_eq d (L.getD k mvZ) w).trans (by rw [decide_eq_true hb'])
        repeat (first
          | refine AWp.seq ?_
          | refine thenA_n ?_
          | refine AWp.block ?_
          | refine AWp.skip ?_
          | refine AWp.ret ?_
          | refine thenA_r ?_
          | refine inBlk_r ?_
          | refine AWp.condT rfl (by first | rfl | assumption | exact cmT) ?_
          | (refine AWp.region (id := 2) ?_; refine AList.cmpT rfl rfl rfl rfl rfl cmT ?_; refine AList.nil ?_)
          | (refine AWp.region (id := 3) ?_; refine AList.move rfl rfl rfl ?_; refine AList.assign rfl rfl rfl ?_; refine AList.nil ?_)
          | (refine AWp.draw (id := 4) mixed ?_; refine AList.loadA tyOk rfl rfl rfl rfl rfl rfl rfl oM oM ?_; refine AList.move rfl rfl rfl ?_; refine AList.move rfl rfl rfl ?_; refine AList.idx tyOk rfl rfl rfl rfl rfl rfl rfl rfl rfl oM oM ?_; refine AList.loadAl tyOk rfl rfl rfl rfl rfl oM ?_; refine AList.binAg rfl rfl rfl rfl rfl rfl (by kernel_rfl) (hne) ?_; refine AList.nil ⟨by kernel_rfl, ?_⟩)
          | (refine AWp.region (id := 5) ?_; refine AList.move rfl rfl rfl ?_; refine AList.assign rfl rfl rfl ?_; refine AList.nil ?_))
        refine ⟨mkSt 19 [(4, .c (iC k))] [] [], [], Wk.mk [] rfl rfl rfl ?_ trivial, rfl, rfl, ARets.one (x := .c _) (ARes.tmp rfl rfl)⟩
        repeat (first | exact trivial | refine ⟨⟨_, rfl, by first | exact LeA.c (LeC.refl _ rfl) | exact LeA.c (LeC.ow _ _ rfl) | exact LeA.c (LeC.pt _ _ _ _ _ rfl) | exact LeA.c (LeC.nil _ rfl) | exact LeA.c (LeC.nils _ _) | (refine LeA.int ?_; omega) | (refine LeA.int ?_; dsimp only; omega) | exact LeA.c (LeC.fz rfl rfl (by first | rfl | omega) (fun i _ j _ => ⟨rfl, by first | rfl | exact rowN_imm (fun _ => rfl) _ i j | exact rowF_imm (fun _ => rfl) _ i j⟩))⟩, ?_⟩)
set_option maxRecDepth 100000 in
theorem Contains_A (L : List (Int × Int)) (d : Int × Int) (hl : L.length ≤ 1000) : ACalls Try.prog 75 [.c (.ls L.length 2 (rowF mvC mvZ L)), .ag (mvC d)] (.c (bC (decide (d ∈ L)))) := by
  obtain ⟨i, hi, hI⟩ := Index_A L d hl
  obtain ⟨n, hn⟩ : ∃ n, L.length = n := ⟨_, rfl⟩
  rw [hn] at hl hI ⊢
  by_cases h : d ∈ L
  · have h0 := hi.2 h
    rw [decide_eq_true h]
    refine acalls_at Try.func75 rfl rfl Try.ntmps75 rfl ?_
    repeat (first
      | refine AWp.seq ?_
      | refine thenA_n ?_
      | refine AWp.ret ?_
      | (refine AWp.region (id := 0) ?_; refine AList.box rfl rfl rfl rfl rfl ?_; refine AList.assign rfl rfl rfl ?_; refine AList.nil ?_)
      | (refine AWp.region (id := 1) ?_; refine AList.move rfl rfl rfl ?_; refine AList.loadA tyOk rfl rfl rfl rfl rfl rfl rfl oM oM ?_; refine AList.call rfl rfl rfl rfl Try.func89 rfl (by kernel_rfl) (hI) ?_; refine AList.cmpT rfl rfl rfl rfl rfl cmT ?_; refine AList.assign rfl rfl rfl ?_; refine AList.nil ?_))
    refine ⟨mkSt 9 [(4, .c (bC true))] [] [], [], Wk.mk [] rfl rfl rfl ?_ trivial, rfl, rfl, ARets.one (x := .c _) (ARes.tmp rfl rfl)⟩
    repeat (first | exact trivial | refine ⟨⟨_, rfl, by first | exact LeA.c (LeC.refl _ rfl) | exact LeA.c (LeC.ow _ _ rfl) | exact LeA.c (LeC.pt _ _ _ _ _ rfl) | exact LeA.c (LeC.nil _ rfl) | exact LeA.c (LeC.nils _ _) | (refine LeA.int ?_; omega) | (refine LeA.int ?_; dsimp only; omega) | exact LeA.c (LeC.fz rfl rfl (by first | rfl | omega) (fun i _ j _ => ⟨rfl, by first | rfl | exact rowN_imm (fun _ => rfl) _ i j | exact rowF_imm (fun _ => rfl) _ i j⟩))⟩, ?_⟩)
  · have h0 : ¬ 0 ≤ i := fun h1 => h (hi.1 h1)
    rw [decide_eq_false h]
    refine acalls_at Try.func75 rfl rfl Try.ntmps75 rfl ?_
    repeat (first
      | refine AWp.seq ?_
      | refine thenA_n ?_
      | refine AWp.ret ?_
      | (refine AWp.region (id := 0) ?_; refine AList.box rfl rfl rfl rfl rfl ?_; refine AList.assign rfl rfl rfl ?_; refine AList.nil ?_)
      | (refine AWp.region (id := 1) ?_; refine AList.move rfl rfl rfl ?_; refine AList.loadA tyOk rfl rfl rfl rfl rfl rfl rfl oM oM ?_; refine AList.call rfl rfl rfl rfl Try.func89 rfl (by kernel_rfl) (hI) ?_; refine AList.cmpF rfl rfl rfl rfl rfl cmF ?_; refine AList.assign rfl rfl rfl ?_; refine AList.nil ?_))
    refine ⟨mkSt 9 [(4, .c (bC false))] [] [], [], Wk.mk [] rfl rfl rfl ?_ trivial, rfl, rfl, ARets.one (x := .c _) (ARes.tmp rfl rfl)⟩
    repeat (first | exact trivial | refine ⟨⟨_, rfl, by first | exact LeA.c (LeC.refl _ rfl) | exact LeA.c (LeC.ow _ _ rfl) | exact LeA.c (LeC.pt _ _ _ _ _ rfl) | exact LeA.c (LeC.nil _ rfl) | exact LeA.c (LeC.nils _ _) | (refine LeA.int ?_; omega) | (refine LeA.int ?_; dsimp only; omega) | exact LeA.c (LeC.fz rfl rfl (by first | rfl | omega) (fun i _ j _ => ⟨rfl, by first | rfl | exact rowN_imm (fun _ => rfl) _ i j | exact rowF_imm (fun _ => rfl) _ i j⟩))⟩, ?_⟩)
/-- Whether something is a clash. -/
def isB (a b : Bp) (x y : Bg) (c : Cl) : Bool := decide (c ∈ alL a.W x y) && decide (xsV a b x y c ≤ 0)
theorem mem_al {w : Int} {x y : Bg} {c : Cl} : c ∈ alL w x y ↔ (c.dx, c.dy) ∈ shL (shN x y) ∧ ∃ i, i < alM w x y ∧ c.col = (i : Int) - 4 := by
  unfold alL alK alI
  simp only [List.mem_flatMap, List.mem_map, List.mem_range]
  constructor
  · rintro ⟨d, hd, i, hi, rfl⟩
    exact ⟨hd, i, hi, rfl⟩
  · rintro ⟨hd, i, hi, e⟩
    refine ⟨_, hd, i, hi, ?_⟩
    rw [← e]
end Go.Proofs.Ytijaioiojclooaa
end

section
namespace Go.Proofs.Ytijaioiojclooaa
open Go.RowKit Go.Flow Go.AV Go.Plain
def isBx (v : Bool) : List AB := [⟨false, 1, 1, 4, lF [bC v]⟩]
theorem isBx_plain (v : Bool) : (isBx v).length = [4].length ∧ ∀ B ∈ isBx v, PlainB B := ⟨rfl, fun B hB => by
  rcases List.mem_cons.1 hB with rfl | hB
  · exact PlainB.box [.bool v] rfl rfl
  · cases hB⟩
theorem shN_lim (x y : Bg) : shN (lim4 x) (lim4 y) = shN x y := by
  have h1 := (shN_eq (lim4 x) (lim4 y)).1
  have h2 := (shN_eq x y).1
  rw [lim_idem, lim_idem] at h1
  omega
theorem shd_bd {x y : Bg} {d : Int × Int} (h : d ∈ shL (shN x y)) : (-4 ≤ d.1 ∧ d.1 ≤ 4) ∧ -4 ≤ d.2 ∧ d.2 ≤ 4 := by
  obtain ⟨j, hj, rfl⟩ := List.getElem_of_mem h
  have := shN_bd (x := x) (y := y) hj
  rwa [List.getD_eq_getElem?_getD, List.getElem?_eq_getElem hj] at this
set_option maxHeartbeats 2000000 in
set_option maxRecDepth 100000 in
theorem pis_A (a b : Bp) (x y : Bg) (c : Cl) (hok : cmpOk a b) : ACalls Try.prog 46 [.ag (prC a b (lim4 x) (lim4 y)), .ag (clC c)] (.c (bC (isB a b x y c))) := by
  have hSh := aShifts_A (lim4 x) (lim4 y)
  rw [shN_lim] at hSh
  have hSl : (shL (shN x y)).length ≤ 81 := by
    obtain ⟨-, hm4⟩ := shN_eq x y
    rw [shL_len hm4]
    have := Nat.mul_le_mul (show 2 * shN x y + 1 ≤ 9 by omega) (show 2 * shN x y + 1 ≤ 9 by omega)
    omega
  have hCn := Contains_A (shL (shN x y)) (c.dx, c.dy) (by omega)
  have hst : (c.dx, c.dy) ∈ shL (shN x y) → _ := fun h => strips_any a b x y (c.dx, c.dy) hok (shd_bd h)
  unfold isB
  by_cases hd : (c.dx, c.dy) ∈ shL (shN x y)
  · rw [decide_eq_true hd] at hCn
    obtain ⟨n', c0, c1, t0, t1, hS, hIt⟩ := hst hd
    have hmem : c ∈ alL a.W x y ↔ ∃ i, i < alM a.W x y ∧ c.col = (i : Int) - 4 := by rw [mem_al]; exact ⟨fun h => h.2, fun h => ⟨hd, h⟩⟩
    obtain ⟨M, hM⟩ : ∃ M, alM a.W x y = M := ⟨_, rfl⟩
    rw [hM] at hmem hIt
    generalize shL (shN x y) = S at *
    obtain ⟨n, hnl⟩ : ∃ n, S.length = n := ⟨_, rfl⟩
    rw [hnl] at hSh hCn
    by_cases hc : c ∈ alL a.W x y
    · rw [decide_eq_true hc, Bool.true_and]
      obtain ⟨i0, hi0, hcol⟩ := hmem.1 hc
      have hce : xsV a b x y c = xsV a b x y ⟨c.dx, c.dy, (i0 : Int) - 4⟩ := by rw [← hcol]
      obtain ⟨v, hv⟩ : ∃ v, decide (xsV a b x y c ≤ 0) = v := ⟨_, rfl⟩
      rw [hv]
      refine acalls_at Try.func46 rfl rfl Try.ntmps46 rfl ?_
      repeat (first
        | refine AWp.seq ?_
        | refine thenA_n ?_
        | refine AWp.block ?_
        | refine AWp.skip ?_
        | refine AWp.condF rfl (by first | rfl | assumption | exact cmF) ?_
        | (refine AWp.region (id := 0) ?_; refine AList.box rfl rfl rfl rfl rfl ?_; refine AList.box rfl rfl rfl rfl rfl ?_; refine AList.alloc tyOk rfl rfl rfl rfl rfl ?_; refine AList.nil ?_)
        | (refine AWp.region (id := 1) ?_; refine AList.fieldPt tyOk rfl rfl rfl rfl rfl rfl rfl ?_; refine AList.load1 tyOk rfl rfl rfl rfl rfl rfl rfl oM oM ?_; refine AList.fieldPt tyOk rfl rfl rfl rfl rfl rfl rfl ?_; refine AList.load1 tyOk rfl rfl rfl rfl rfl rfl rfl oM oM ?_; refine AList.buildSt tyOk rfl rfl rfl rfl rfl rfl rfl rfl ?_; refine AList.alloc tyOk rfl rfl rfl rfl rfl ?_; refine AList.store tyOk rfl rfl rfl rfl rfl rfl rfl rfl oM oM ?_; refine AList.nil ?_)
        | (refine AWp.draw (id := 2) mixed ?_; refine AList.fieldPt tyOk rfl rfl rfl rfl rfl rfl rfl ?_; refine AList.loadA tyOk rfl rfl rfl rfl rfl rfl rfl oM oM ?_; refine AList.fieldPt tyOk rfl rfl rfl rfl rfl rfl rfl ?_; refine AList.loadA tyOk rfl rfl rfl rfl rfl rfl rfl oM oM ?_; refine AList.call rfl rfl rfl rfl Try.func17 rfl (by kernel_rfl) (hSh) ?_; refine AList.loadA tyOk rfl rfl rfl rfl rfl rfl rfl oM oM ?_; refine AList.call rfl rfl rfl rfl Try.func75 rfl (by kernel_rfl) (hCn) ?_; refine AList.notB rfl rfl rfl ?_; refine AList.nil ⟨by kernel_rfl, ?_⟩)
        | (refine AWp.region (id := 4) ?_; refine AList.loadA tyOk rfl rfl rfl rfl rfl rfl rfl oM oM ?_; refine AList.loadA tyOk rfl rfl rfl rfl rfl rfl rfl oM oM ?_; refine AList.call rfl rfl rfl rfl Try.func34 rfl (by kernel_rfl) (hS) ?_; refine AList.nil ?_))
      refine AWp.range (N := i0 + 1) (stop := true) (eS := .ret) (ids := [4]) (bsI := fun i => if i ≤ i0 then isBx false else isBx v) (ts := [(3, .c (.pl 1 3 (lF (clC c)) 0 0)), (4, .c (.pt 1000 1 0 0))]) (ys := stYs a b x y n' c0 c1 t0 t1) (xs := clX a b x y (c.dx, c.dy)) rfl (enters_of Try.func69 (by kernel_rfl) rfl) ⟨ViewC.imm _ rfl, ViewC.imm _ rfl, ViewC.imm _ rfl, trivial⟩ rfl hIt (fun _ h => h) (fun _ => ⟨by omega, by omega⟩) (fun h => by cases h) rfl ?_ (fun i hi => ?_) ?_ rfl (fun i hi => ⟨rfl, clX_one a b x y _ i⟩) (.inl rfl) (fun i hi => ?_) ?_
      · exact LendOk.box rfl rfl rfl trivial
      · by_cases h : i ≤ i0
        · rw [if_pos h]; exact isBx_plain _
        · rw [if_neg h]; exact isBx_plain _
      · repeat (first | exact trivial | refine ⟨⟨_, rfl, by first | exact ViewA.c (ViewC.imm _ rfl) | exact ViewA.c (ViewC.lend _ _ _ _ _ rfl) | exact ViewA.c (ViewC.roBox rfl rfl rfl rfl)⟩, ?_⟩)
      · rw [if_pos (by omega : i ≤ i0)]
        by_cases hik : i = i0
        · subst hik
          have heq : (i : Int) - 4 = c.col := hcol.symm
          rw [goes_at i, if_neg (by omega : ¬ i + 1 ≤ i)]
          cases v with
          | false =>
            have hx : ¬ xsV a b x y ⟨c.dx, c.dy, (i : Int) - 4⟩ ≤ 0 := by rw [← hce]; exact of_decide_eq_false hv
            repeat (first
              | refine AWp.seq ?_
              | refine thenA_n ?_
              | (refine AWp.region (id := 5) ?_; refine AList.assign rfl rfl rfl ?_; refine AList.nil ?_)
              | (refine AWp.region (id := 6) ?_; refine AList.assign rfl rfl rfl ?_; refine AList.nil ?_))
            refine ⟨rfl, ?_⟩
            repeat (first
              | refine AWp.seq ?_
              | refine thenA_n ?_
              | refine AWp.block ?_
              | refine AWp.ret ?_
              | refine inBlk_r ?_
              | refine AWp.condT rfl (by first | rfl | assumption | exact cmT) ?_
              | (refine AWp.region (id := 7) ?_; refine AList.move rfl rfl rfl ?_; refine AList.fieldPl tyOk rfl rfl rfl rfl rfl rfl rfl ?_; refine AList.load1l tyOk rfl rfl rfl rfl rfl oM ?_; refine AList.cmpT rfl rfl rfl rfl rfl cmT ?_; refine AList.nil ?_)
              | (refine AWp.region (id := 8) ?_; refine AList.move rfl rfl rfl ?_; refine AList.cmpF rfl rfl rfl rfl rfl cmF ?_; refine AList.store tyOk rfl rfl rfl rfl rfl rfl rfl rfl oM oM ?_; refine AList.nil ?_))
            refine ⟨rfl, mkG (fun _ => True) 0 true 32 1 [] (lentL 0 (isBx false)) [], [], Wk.mkG [] rfl rfl rfl rfl rfl trivial ?_, rfl, rfl⟩
            repeat (first | exact trivial | refine ⟨by first | exact HeapOk.same rfl rfl rfl rfl | exact HeapOk.lent rfl rfl rfl rfl | exact HeapOk.nil rfl rfl | exact HeapOk.row rfl rfl (by first | rfl | omega) (fun i _ j _ => ⟨rfl, by first | rfl | exact rowN_imm (fun _ => rfl) _ i j | exact rowF_imm (fun _ => rfl) _ i j⟩) | exact HeapOk.box rfl rfl (by repeat (first | exact trivial | refine ⟨by first | exact LeC.refl _ rfl | exact LeC.ow _ _ rfl | exact LeC.nil _ rfl | exact LeC.nils _ _ | exact LeC.fz rfl rfl (by first | rfl | omega) (fun i _ j _ => ⟨rfl, by first | rfl | exact rowN_imm (fun _ => rfl) _ i j | exact rowF_imm (fun _ => rfl) _ i j⟩) | exact LeC.int (by omega), ?_⟩)) rfl, ?_⟩)
          | true =>
            have hx : xsV a b x y ⟨c.dx, c.dy, (i : Int) - 4⟩ ≤ 0 := by rw [← hce]; exact of_decide_eq_true hv
            repeat (first
              | refine AWp.seq ?_
              | refine thenA_n ?_
              | (refine AWp.region (id := 5) ?_; refine AList.assign rfl rfl rfl ?_; refine AList.nil ?_)
              | (refine AWp.region (id := 6) ?_; refine AList.assign rfl rfl rfl ?_; refine AList.nil ?_))
            refine ⟨rfl, ?_⟩
            repeat (first
              | refine AWp.seq ?_
              | refine thenA_n ?_
              | refine AWp.block ?_
              | refine AWp.ret ?_
              | refine inBlk_r ?_
              | refine AWp.condT rfl (by first | rfl | assumption | exact cmT) ?_
              | (refine AWp.region (id := 7) ?_; refine AList.move rfl rfl rfl ?_; refine AList.fieldPl tyOk rfl rfl rfl rfl rfl rfl rfl ?_; refine AList.load1l tyOk rfl rfl rfl rfl rfl oM ?_; refine AList.cmpT rfl rfl rfl rfl rfl cmT ?_; refine AList.nil ?_)
              | (refine AWp.region (id := 8) ?_; refine AList.move rfl rfl rfl ?_; refine AList.cmpT rfl rfl rfl rfl rfl cmT ?_; refine AList.store tyOk rfl rfl rfl rfl rfl rfl rfl rfl oM oM ?_; refine AList.nil ?_))
            refine ⟨rfl, mkG (fun _ => True) 0 true 32 1 [] (lentL 0 (isBx true)) [], [], Wk.mkG [] rfl rfl rfl rfl rfl trivial ?_, rfl, rfl⟩
            repeat (first | exact trivial | refine ⟨by first | exact HeapOk.same rfl rfl rfl rfl | exact HeapOk.lent rfl rfl rfl rfl | exact HeapOk.nil rfl rfl | exact HeapOk.row rfl rfl (by first | rfl | omega) (fun i _ j _ => ⟨rfl, by first | rfl | exact rowN_imm (fun _ => rfl) _ i j | exact rowF_imm (fun _ => rfl) _ i j⟩) | exact HeapOk.box rfl rfl (by repeat (first | exact trivial | refine ⟨by first | exact LeC.refl _ rfl | exact LeC.ow _ _ rfl | exact LeC.nil _ rfl | exact LeC.nils _ _ | exact LeC.fz rfl rfl (by first | rfl | omega) (fun i _ j _ => ⟨rfl, by first | rfl | exact rowN_imm (fun _ => rfl) _ i j | exact rowF_imm (fun _ => rfl) _ i j⟩) | exact LeC.int (by omega), ?_⟩)) rfl, ?_⟩)
        · have hne : ¬ (i : Int) - 4 = c.col := by omega
          rw [goes_bef (by omega : i < i0), if_pos (by omega : i + 1 ≤ i0)]
          repeat (first
            | refine AWp.seq ?_
            | refine thenA_n ?_
            | (refine AWp.region (id := 5) ?_; refine AList.assign rfl rfl rfl ?_; refine AList.nil ?_)
            | (refine AWp.region (id := 6) ?_; refine AList.assign rfl rfl rfl ?_; refine AList.nil ?_))
          refine ⟨rfl, ?_⟩
          repeat (first
            | refine AWp.seq ?_
            | refine thenA_n ?_
            | refine AWp.block ?_
            | refine AWp.skip ?_
            | refine inBlk_n ?_
            | refine AWp.condF rfl (by first | rfl | assumption | exact cmF) ?_
            | (refine AWp.region (id := 7) ?_; refine AList.move rfl rfl rfl ?_; refine AList.fieldPl tyOk rfl rfl rfl rfl rfl rfl rfl ?_; refine AList.load1l tyOk rfl rfl rfl rfl rfl oM ?_; refine AList.cmpF rfl rfl rfl rfl rfl cmF ?_; refine AList.nil ?_))
          refine ⟨rfl, mkG (fun _ => True) 0 true 32 1 [] (lentL 0 (isBx false)) [], [], Wk.mkG [] rfl rfl rfl rfl rfl trivial ?_, rfl, rfl⟩
          repeat (first | exact trivial | refine ⟨by first | exact HeapOk.same rfl rfl rfl rfl | exact HeapOk.lent rfl rfl rfl rfl | exact HeapOk.nil rfl rfl | exact HeapOk.row rfl rfl (by first | rfl | omega) (fun i _ j _ => ⟨rfl, by first | rfl | exact rowN_imm (fun _ => rfl) _ i j | exact rowF_imm (fun _ => rfl) _ i j⟩) | exact HeapOk.box rfl rfl (by repeat (first | exact trivial | refine ⟨by first | exact LeC.refl _ rfl | exact LeC.ow _ _ rfl | exact LeC.nil _ rfl | exact LeC.nils _ _ | exact LeC.fz rfl rfl (by first | rfl | omega) (fun i _ j _ => ⟨rfl, by first | rfl | exact rowN_imm (fun _ => rfl) _ i j | exact rowF_imm (fun _ => rfl) _ i j⟩) | exact LeC.int (by omega), ?_⟩)) rfl, ?_⟩)
      · rw [if_neg (by omega : ¬ i0 + 1 ≤ i0)]
        repeat (first
          | refine thenA_r ?_
          | refine inBlk_r ?_)
        refine ⟨mkSt 32 [(4, .c (.pt 4 1 0 0))] [(4, ⟨false, 1, 1, 4, lF [bC v]⟩)] [4], [(4, ⟨false, 1, 1, 4, lF [bC v]⟩)], Wk.mk [(4, some 4)] rfl rfl rfl ?_ ?_, rfl, rfl, ARets.one (x := .c _) (ARes.box1 tyOk rfl rfl rfl rfl rfl rfl)⟩
        · repeat (first | exact trivial | refine ⟨⟨_, rfl, by first | exact LeA.c (LeC.refl _ rfl) | exact LeA.c (LeC.ow _ _ rfl) | exact LeA.c (LeC.pt _ _ _ _ _ rfl) | exact LeA.c (LeC.nil _ rfl) | exact LeA.c (LeC.nils _ _) | (refine LeA.int ?_; omega) | (refine LeA.int ?_; dsimp only; omega) | exact LeA.c (LeC.fz rfl rfl (by first | rfl | omega) (fun i _ j _ => ⟨rfl, by first | rfl | exact rowN_imm (fun _ => rfl) _ i j | exact rowF_imm (fun _ => rfl) _ i j⟩))⟩, ?_⟩)
        · repeat (first | exact trivial | refine ⟨by first | exact HeapOk.same rfl rfl rfl rfl | exact HeapOk.lent rfl rfl rfl rfl | exact HeapOk.nil rfl rfl | exact HeapOk.row rfl rfl (by first | rfl | omega) (fun i _ j _ => ⟨rfl, by first | rfl | exact rowN_imm (fun _ => rfl) _ i j | exact rowF_imm (fun _ => rfl) _ i j⟩) | exact HeapOk.box rfl rfl (by repeat (first | exact trivial | refine ⟨by first | exact LeC.refl _ rfl | exact LeC.ow _ _ rfl | exact LeC.nil _ rfl | exact LeC.nils _ _ | exact LeC.fz rfl rfl (by first | rfl | omega) (fun i _ j _ => ⟨rfl, by first | rfl | exact rowN_imm (fun _ => rfl) _ i j | exact rowF_imm (fun _ => rfl) _ i j⟩) | exact LeC.int (by omega), ?_⟩)) rfl, ?_⟩)
    · rw [decide_eq_false hc, Bool.false_and]
      refine acalls_at Try.func46 rfl rfl Try.ntmps46 rfl ?_
      repeat (first
        | refine AWp.seq ?_
        | refine thenA_n ?_
        | refine AWp.block ?_
        | refine AWp.skip ?_
        | refine AWp.condF rfl (by first | rfl | assumption | exact cmF) ?_
        | (refine AWp.region (id := 0) ?_; refine AList.box rfl rfl rfl rfl rfl ?_; refine AList.box rfl rfl rfl rfl rfl ?_; refine AList.alloc tyOk rfl rfl rfl rfl rfl ?_; refine AList.nil ?_)
        | (refine AWp.region (id := 1) ?_; refine AList.fieldPt tyOk rfl rfl rfl rfl rfl rfl rfl ?_; refine AList.load1 tyOk rfl rfl rfl rfl rfl rfl rfl oM oM ?_; refine AList.fieldPt tyOk rfl rfl rfl rfl rfl rfl rfl ?_; refine AList.load1 tyOk rfl rfl rfl rfl rfl rfl rfl oM oM ?_; refine AList.buildSt tyOk rfl rfl rfl rfl rfl rfl rfl rfl ?_; refine AList.alloc tyOk rfl rfl rfl rfl rfl ?_; refine AList.store tyOk rfl rfl rfl rfl rfl rfl rfl rfl oM oM ?_; refine AList.nil ?_)
        | (refine AWp.draw (id := 2) mixed ?_; refine AList.fieldPt tyOk rfl rfl rfl rfl rfl rfl rfl ?_; refine AList.loadA tyOk rfl rfl rfl rfl rfl rfl rfl oM oM ?_; refine AList.fieldPt tyOk rfl rfl rfl rfl rfl rfl rfl ?_; refine AList.loadA tyOk rfl rfl rfl rfl rfl rfl rfl oM oM ?_; refine AList.call rfl rfl rfl rfl Try.func17 rfl (by kernel_rfl) (hSh) ?_; refine AList.loadA tyOk rfl rfl rfl rfl rfl rfl rfl oM oM ?_; refine AList.call rfl rfl rfl rfl Try.func75 rfl (by kernel_rfl) (hCn) ?_; refine AList.notB rfl rfl rfl ?_; refine AList.nil ⟨by kernel_rfl, ?_⟩)
        | (refine AWp.region (id := 4) ?_; refine AList.loadA tyOk rfl rfl rfl rfl rfl rfl rfl oM oM ?_; refine AList.loadA tyOk rfl rfl rfl rfl rfl rfl rfl oM oM ?_; refine AList.call rfl rfl rfl rfl Try.func34 rfl (by kernel_rfl) (hS) ?_; refine AList.nil ?_))
      refine AWp.range (N := M) (stop := false) (eS := .ret) (ids := [4]) (bsI := fun i => isBx false) (ts := [(3, .c (.pl 1 3 (lF (clC c)) 0 0)), (4, .c (.pt 1000 1 0 0))]) (ys := stYs a b x y n' c0 c1 t0 t1) (xs := clX a b x y (c.dx, c.dy)) rfl (enters_of Try.func69 (by kernel_rfl) rfl) ⟨ViewC.imm _ rfl, ViewC.imm _ rfl, ViewC.imm _ rfl, trivial⟩ rfl hIt (fun _ h => h) (fun h => by cases h) (fun _ => rfl) rfl ?_ (fun i hi => isBx_plain _) ?_ rfl (fun i hi => ⟨rfl, clX_one a b x y _ i⟩) (.inl rfl) (fun i hi => ?_) ?_
      · exact LendOk.box rfl rfl rfl trivial
      · repeat (first | exact trivial | refine ⟨⟨_, rfl, by first | exact ViewA.c (ViewC.imm _ rfl) | exact ViewA.c (ViewC.lend _ _ _ _ _ rfl) | exact ViewA.c (ViewC.roBox rfl rfl rfl rfl)⟩, ?_⟩)
      · have hne : ¬ (i : Int) - 4 = c.col := fun h => hc (hmem.2 ⟨i, hi, h.symm⟩)
        repeat (first
          | refine AWp.seq ?_
          | refine thenA_n ?_
          | (refine AWp.region (id := 5) ?_; refine AList.assign rfl rfl rfl ?_; refine AList.nil ?_)
          | (refine AWp.region (id := 6) ?_; refine AList.assign rfl rfl rfl ?_; refine AList.nil ?_))
        refine ⟨rfl, ?_⟩
        repeat (first
          | refine AWp.seq ?_
          | refine thenA_n ?_
          | refine AWp.block ?_
          | refine AWp.skip ?_
          | refine inBlk_n ?_
          | refine AWp.condF rfl (by first | rfl | assumption | exact cmF) ?_
          | (refine AWp.region (id := 7) ?_; refine AList.move rfl rfl rfl ?_; refine AList.fieldPl tyOk rfl rfl rfl rfl rfl rfl rfl ?_; refine AList.load1l tyOk rfl rfl rfl rfl rfl oM ?_; refine AList.cmpF rfl rfl rfl rfl rfl cmF ?_; refine AList.nil ?_))
        refine ⟨rfl, mkG (fun _ => True) 0 true 32 1 [] (lentL 0 (isBx false)) [], [], Wk.mkG [] rfl rfl rfl rfl rfl trivial ?_, rfl, rfl⟩
        repeat (first | exact trivial | refine ⟨by first | exact HeapOk.same rfl rfl rfl rfl | exact HeapOk.lent rfl rfl rfl rfl | exact HeapOk.nil rfl rfl | exact HeapOk.row rfl rfl (by first | rfl | omega) (fun i _ j _ => ⟨rfl, by first | rfl | exact rowN_imm (fun _ => rfl) _ i j | exact rowF_imm (fun _ => rfl) _ i j⟩) | exact HeapOk.box rfl rfl (by repeat (first | exact trivial | refine ⟨by first | exact LeC.refl _ rfl | exact LeC.ow _ _ rfl | exact LeC.nil _ rfl | exact LeC.nils _ _ | exact LeC.fz rfl rfl (by first | rfl | omega) (fun i _ j _ => ⟨rfl, by first | rfl | exact rowN_imm (fun _ => rfl) _ i j | exact rowF_imm (fun _ => rfl) _ i j⟩) | exact LeC.int (by omega), ?_⟩)) rfl, ?_⟩)
      · repeat (first
          | refine AWp.seq ?_
          | refine thenA_n ?_
          | refine AWp.ret ?_
          | (refine AWp.region (id := 9) ?_; refine AList.store tyOk rfl rfl rfl rfl rfl rfl rfl rfl oM oM ?_; refine AList.nil ?_))
        refine ⟨mkSt 32 [(4, .c (.pt 4 1 0 0))] [(4, ⟨false, 1, 1, 4, lF [bC false]⟩)] [4], [(4, ⟨false, 1, 1, 4, lF [bC false]⟩)], Wk.mk [(4, some 4)] rfl rfl rfl ?_ ?_, rfl, rfl, ARets.one (x := .c _) (ARes.box1 tyOk rfl rfl rfl rfl rfl rfl)⟩
        · repeat (first | exact trivial | refine ⟨⟨_, rfl, by first | exact LeA.c (LeC.refl _ rfl) | exact LeA.c (LeC.ow _ _ rfl) | exact LeA.c (LeC.pt _ _ _ _ _ rfl) | exact LeA.c (LeC.nil _ rfl) | exact LeA.c (LeC.nils _ _) | (refine LeA.int ?_; omega) | (refine LeA.int ?_; dsimp only; omega) | exact LeA.c (LeC.fz rfl rfl (by first | rfl | omega) (fun i _ j _ => ⟨rfl, by first | rfl | exact rowN_imm (fun _ => rfl) _ i j | exact rowF_imm (fun _ => rfl) _ i j⟩))⟩, ?_⟩)
        · repeat (first | exact trivial | refine ⟨by first | exact HeapOk.same rfl rfl rfl rfl | exact HeapOk.lent rfl rfl rfl rfl | exact HeapOk.nil rfl rfl | exact HeapOk.row rfl rfl (by first | rfl | omega) (fun i _ j _ => ⟨rfl, by first | rfl | exact rowN_imm (fun _ => rfl) _ i j | exact rowF_imm (fun _ => rfl) _ i j⟩) | exact HeapOk.box rfl rfl (by repeat (first | exact trivial | refine ⟨by first | exact LeC.refl _ rfl | exact LeC.ow _ _ rfl | exact LeC.nil _ rfl | exact LeC.nils _ _ | exact LeC.fz rfl rfl (by first | rfl | omega) (fun i _ j _ => ⟨rfl, by first | rfl | exact rowN_imm (fun _ => rfl) _ i j | exact rowF_imm (fun _ => rfl) _ i j⟩) | exact LeC.int (by omega), ?_⟩)) rfl, ?_⟩)
  · rw [decide_eq_false hd] at hCn
    have hc : c ∉ alL a.W x y := fun h => hd (mem_al.1 h).1
    rw [decide_eq_false hc, Bool.false_and]
    generalize shL (shN x y) = S at *
    refine acalls_at Try.func46 rfl rfl Try.ntmps46 rfl ?_
    repeat (first
      | refine AWp.seq ?_
      | refine thenA_n ?_
      | refine AWp.ret ?_
      | refine thenA_r ?_
      | refine AWp.condT rfl (by first | rfl | assumption | exact cmT) ?_
      | (refine AWp.region (id := 0) ?_; refine AList.box rfl rfl rfl rfl rfl ?_; refine AList.box rfl rfl rfl rfl rfl ?_; refine AList.alloc tyOk rfl rfl rfl rfl rfl ?_; refine AList.nil ?_)
      | (refine AWp.region (id := 1) ?_; refine AList.fieldPt tyOk rfl rfl rfl rfl rfl rfl rfl ?_; refine AList.load1 tyOk rfl rfl rfl rfl rfl rfl rfl oM oM ?_; refine AList.fieldPt tyOk rfl rfl rfl rfl rfl rfl rfl ?_; refine AList.load1 tyOk rfl rfl rfl rfl rfl rfl rfl oM oM ?_; refine AList.buildSt tyOk rfl rfl rfl rfl rfl rfl rfl rfl ?_; refine AList.alloc tyOk rfl rfl rfl rfl rfl ?_; refine AList.store tyOk rfl rfl rfl rfl rfl rfl rfl rfl oM oM ?_; refine AList.nil ?_)
      | (refine AWp.draw (id := 2) mixed ?_; refine AList.fieldPt tyOk rfl rfl rfl rfl rfl rfl rfl ?_; refine AList.loadA tyOk rfl rfl rfl rfl rfl rfl rfl oM oM ?_; refine AList.fieldPt tyOk rfl rfl rfl rfl rfl rfl rfl ?_; refine AList.loadA tyOk rfl rfl rfl rfl rfl rfl rfl oM oM ?_; refine AList.call rfl rfl rfl rfl Try.func17 rfl (by kernel_rfl) (hSh) ?_; refine AList.loadA tyOk rfl rfl rfl rfl rfl rfl rfl oM oM ?_; refine AList.call rfl rfl rfl rfl Try.func75 rfl (by kernel_rfl) (hCn) ?_; refine AList.notB rfl rfl rfl ?_; refine AList.nil ⟨by kernel_rfl, ?_⟩)
      | (refine AWp.region (id := 3) ?_; refine AList.store tyOk rfl rfl rfl rfl rfl rfl rfl rfl oM oM ?_; refine AList.nil ?_))
    refine ⟨mkSt 32 [(4, .c (.pt 4 1 0 0))] [(4, ⟨false, 1, 1, 4, lF [bC false]⟩)] [4], [(4, ⟨false, 1, 1, 4, lF [bC false]⟩)], Wk.mk [(4, some 4)] rfl rfl rfl ?_ ?_, rfl, rfl, ARets.one (x := .c _) (ARes.box1 tyOk rfl rfl rfl rfl rfl rfl)⟩
    · repeat (first | exact trivial | refine ⟨⟨_, rfl, by first | exact LeA.c (LeC.refl _ rfl) | exact LeA.c (LeC.ow _ _ rfl) | exact LeA.c (LeC.pt _ _ _ _ _ rfl) | exact LeA.c (LeC.nil _ rfl) | exact LeA.c (LeC.nils _ _) | (refine LeA.int ?_; omega) | (refine LeA.int ?_; dsimp only; omega) | exact LeA.c (LeC.fz rfl rfl (by first | rfl | omega) (fun i _ j _ => ⟨rfl, by first | rfl | exact rowN_imm (fun _ => rfl) _ i j | exact rowF_imm (fun _ => rfl) _ i j⟩))⟩, ?_⟩)
    · repeat (first | exact trivial | refine ⟨by first | exact HeapOk.same rfl rfl rfl rfl | exact HeapOk.lent rfl rfl rfl rfl | exact HeapOk.nil rfl rfl | exact HeapOk.row rfl rfl (by first | rfl | omega) (fun i _ j _ => ⟨rfl, by first | rfl | exact rowN_imm (fun _ => rfl) _ i j | exact rowF_imm (fun _ => rfl) _ i j⟩) | exact HeapOk.box rfl rfl (by repeat (first | exact trivial | refine ⟨by first | exact LeC.refl _ rfl | exact LeC.ow _ _ rfl | exact LeC.nil _ rfl | exact LeC.nils _ _ | exact LeC.fz rfl rfl (by first | rfl | omega) (fun i _ j _ => ⟨rfl, by first | rfl | exact rowN_imm (fun _ => rfl) _ i j | exact rowF_imm (fun _ => rfl) _ i j⟩) | exact LeC.int (by omega), ?_⟩)) rfl, ?_⟩)
set_option maxRecDepth 100000 in
theorem Or_A (e f : Int) : ACalls Try.prog 44 [.c (.ls 2 1 (sF [iC e, iC f] 1))] (.c (iC (if e = 0 then f else e))) := by
  refine acalls_at Try.func44 rfl rfl Try.ntmps44 rfl ?_
  repeat (first
    | refine AWp.seq ?_
    | refine thenA_n ?_
    | refine AWp.block ?_
    | (refine AWp.region (id := 0) ?_; refine AList.assign rfl rfl rfl ?_; refine AList.nil ?_)
    | (refine AWp.region (id := 1) ?_; refine AList.assign rfl rfl rfl ?_; refine AList.nil ?_)
    | (refine AWp.region (id := 2) ?_; refine AList.move rfl rfl rfl ?_; refine AList.lenLs tyOk rfl rfl rfl rfl rfl ?_; refine AList.move rfl rfl rfl ?_; refine AList.nil ?_))
  refine AWp.round (fun k : Nat => mkSt 18 [(3, .c (iC 0)), (6, .c (.ls 2 1 (sF [iC e, iC f] 1))), (7, .c (iC 2)), (8, .c (iC k))] [] [])
    (fun k => k = 0 ∨ (k = 1 ∧ e = 0) ∨ (k = 2 ∧ e = 0 ∧ f = 0)) (fun k => 2 - k) 0 (.inl rfl) ?_ (fun k hk => ?_)
  · refine Wk.mk [] rfl rfl rfl ?_ trivial
    repeat (first | exact trivial | refine ⟨⟨_, rfl, by first | exact LeA.c (LeC.refl _ rfl) | exact LeA.c (LeC.ow _ _ rfl) | exact LeA.c (LeC.pt _ _ _ _ _ rfl) | exact LeA.c (LeC.nil _ rfl) | exact LeA.c (LeC.nils _ _) | (refine LeA.int ?_; omega) | (refine LeA.int ?_; dsimp only; omega) | exact LeA.c (LeC.fz rfl rfl (by first | rfl | omega) (fun i _ j _ => ⟨rfl, by first | rfl | exact rowN_imm (fun _ => rfl) _ i j | exact rowF_imm (fun _ => rfl) _ i j⟩))⟩, ?_⟩)
  · rcases hk with rfl | ⟨rfl, he⟩ | ⟨rfl, he, hf⟩
    · by_cases he : e = 0
      · repeat (first
          | refine AWp.seq ?_
          | refine thenA_n ?_
          | refine AWp.block ?_
          | refine AWp.skip ?_
          | refine inBlk_n ?_
          | refine AWp.condT rfl (by first | rfl | assumption | exact cmT) ?_
          | refine AWp.condF rfl (by first | rfl | assumption | exact cmF) ?_
          | (refine AWp.region (id := 3) ?_; refine AList.cmpT rfl rfl rfl rfl rfl cmT ?_; refine AList.nil ?_)
          | (refine AWp.region (id := 4) ?_; refine AList.idx (k := 0) tyOk rfl rfl rfl rfl rfl rfl rfl rfl (by first | rfl | omega) oM oM ?_; refine AList.load1l tyOk rfl rfl rfl rfl rfl oM ?_; refine AList.assign rfl rfl rfl ?_; refine AList.nil ?_)
          | (refine AWp.region (id := 5) ?_; refine AList.move rfl rfl rfl ?_; refine AList.move rfl rfl rfl ?_; refine AList.cmpF rfl rfl rfl rfl rfl cmF ?_; refine AList.nil ?_)
          | (refine AWp.region (id := 7) ?_; refine AList.add rfl rfl rfl rfl (by omega) (by omega) ?_; refine AList.move rfl rfl rfl ?_; refine AList.nil ?_))
        refine ⟨1, .inr (.inl ⟨rfl, he⟩), Wk.mk [] rfl rfl rfl ?_ trivial, by omega⟩
        repeat (first | exact trivial | refine ⟨⟨_, rfl, by first | exact LeA.c (LeC.refl _ rfl) | exact LeA.c (LeC.ow _ _ rfl) | exact LeA.c (LeC.pt _ _ _ _ _ rfl) | exact LeA.c (LeC.nil _ rfl) | exact LeA.c (LeC.nils _ _) | (refine LeA.int ?_; omega) | (refine LeA.int ?_; dsimp only; omega) | exact LeA.c (LeC.fz rfl rfl (by first | rfl | omega) (fun i _ j _ => ⟨rfl, by first | rfl | exact rowN_imm (fun _ => rfl) _ i j | exact rowF_imm (fun _ => rfl) _ i j⟩))⟩, ?_⟩)
      · rw [if_neg he]
        repeat (first
          | refine AWp.seq ?_
          | refine thenA_n ?_
          | refine AWp.block ?_
          | refine AWp.skip ?_
          | refine AWp.ret ?_
          | refine thenA_r ?_
          | refine inBlk_r ?_
          | refine AWp.condT rfl (by first | rfl | assumption | exact cmT) ?_
          | (refine AWp.region (id := 3) ?_; refine AList.cmpT rfl rfl rfl rfl rfl cmT ?_; refine AList.nil ?_)
          | (refine AWp.region (id := 4) ?_; refine AList.idx (k := 0) tyOk rfl rfl rfl rfl rfl rfl rfl rfl (by first | rfl | omega) oM oM ?_; refine AList.load1l tyOk rfl rfl rfl rfl rfl oM ?_; refine AList.assign rfl rfl rfl ?_; refine AList.nil ?_)
          | (refine AWp.region (id := 5) ?_; refine AList.move rfl rfl rfl ?_; refine AList.move rfl rfl rfl ?_; refine AList.cmpT rfl rfl rfl rfl rfl cmT ?_; refine AList.nil ?_)
          | (refine AWp.region (id := 6) ?_; refine AList.move rfl rfl rfl ?_; refine AList.assign rfl rfl rfl ?_; refine AList.nil ?_))
        refine ⟨mkSt 18 [(2, .c (iC e))] [] [], [], Wk.mk [] rfl rfl rfl ?_ trivial, rfl, rfl, ARets.one (x := .c _) (ARes.tmp rfl rfl)⟩
        repeat (first | exact trivial | refine ⟨⟨_, rfl, by first | exact LeA.c (LeC.refl _ rfl) | exact LeA.c (LeC.ow _ _ rfl) | exact LeA.c (LeC.pt _ _ _ _ _ rfl) | exact LeA.c (LeC.nil _ rfl) | exact LeA.c (LeC.nils _ _) | (refine LeA.int ?_; omega) | (refine LeA.int ?_; dsimp only; omega) | exact LeA.c (LeC.fz rfl rfl (by first | rfl | omega) (fun i _ j _ => ⟨rfl, by first | rfl | exact rowN_imm (fun _ => rfl) _ i j | exact rowF_imm (fun _ => rfl) _ i j⟩))⟩, ?_⟩)
    · rw [if_pos he]
      by_cases hf : f = 0
      · repeat (first
          | refine AWp.seq ?_
          | refine thenA_n ?_
          | refine AWp.block ?_
          | refine AWp.skip ?_
          | refine inBlk_n ?_
          | refine AWp.condT rfl (by first | rfl | assumption | exact cmT) ?_
          | refine AWp.condF rfl (by first | rfl | assumption | exact cmF) ?_
          | (refine AWp.region (id := 3) ?_; refine AList.cmpT rfl rfl rfl rfl rfl cmT ?_; refine AList.nil ?_)
          | (refine AWp.region (id := 4) ?_; refine AList.idx (k := 1) tyOk rfl rfl rfl rfl rfl rfl rfl rfl (by first | rfl | omega) oM oM ?_; refine AList.load1l tyOk rfl rfl rfl rfl rfl oM ?_; refine AList.assign rfl rfl rfl ?_; refine AList.nil ?_)
          | (refine AWp.region (id := 5) ?_; refine AList.move rfl rfl rfl ?_; refine AList.move rfl rfl rfl ?_; refine AList.cmpF rfl rfl rfl rfl rfl cmF ?_; refine AList.nil ?_)
          | (refine AWp.region (id := 7) ?_; refine AList.add rfl rfl rfl rfl (by omega) (by omega) ?_; refine AList.move rfl rfl rfl ?_; refine AList.nil ?_))
        refine ⟨2, .inr (.inr ⟨rfl, he, hf⟩), Wk.mk [] rfl rfl rfl ?_ trivial, by omega⟩
        repeat (first | exact trivial | refine ⟨⟨_, rfl, by first | exact LeA.c (LeC.refl _ rfl) | exact LeA.c (LeC.ow _ _ rfl) | exact LeA.c (LeC.pt _ _ _ _ _ rfl) | exact LeA.c (LeC.nil _ rfl) | exact LeA.c (LeC.nils _ _) | (refine LeA.int ?_; omega) | (refine LeA.int ?_; dsimp only; omega) | exact LeA.c (LeC.fz rfl rfl (by first | rfl | omega) (fun i _ j _ => ⟨rfl, by first | rfl | exact rowN_imm (fun _ => rfl) _ i j | exact rowF_imm (fun _ => rfl) _ i j⟩))⟩, ?_⟩)
      · repeat (first
          | refine AWp.seq ?_
          | refine thenA_n ?_
          | refine AWp.block ?_
          | refine AWp.skip ?_
          | refine AWp.ret ?_
          | refine thenA_r ?_
          | refine inBlk_r ?_
          | refine AWp.condT rfl (by first | rfl | assumption | exact cmT) ?_
          | (refine AWp.region (id := 3) ?_; refine AList.cmpT rfl rfl rfl rfl rfl cmT ?_; refine AList.nil ?_)
          | (refine AWp.region (id := 4) ?_; refine AList.idx (k := 1) tyOk rfl rfl rfl rfl rfl rfl rfl rfl (by first | rfl | omega) oM oM ?_; refine AList.load1l tyOk rfl rfl rfl rfl rfl oM ?_; refine AList.assign rfl rfl rfl ?_; refine AList.nil ?_)
          | (refine AWp.region (id := 5) ?_; refine AList.move rfl rfl rfl ?_; refine AList.move rfl rfl rfl ?_; refine AList.cmpT rfl rfl rfl rfl rfl cmT ?_; refine AList.nil ?_)
          | (refine AWp.region (id := 6) ?_; refine AList.move rfl rfl rfl ?_; refine AList.assign rfl rfl rfl ?_; refine AList.nil ?_))
        refine ⟨mkSt 18 [(2, .c (iC f))] [] [], [], Wk.mk [] rfl rfl rfl ?_ trivial, rfl, rfl, ARets.one (x := .c _) (ARes.tmp rfl rfl)⟩
        repeat (first | exact trivial | refine ⟨⟨_, rfl, by first | exact LeA.c (LeC.refl _ rfl) | exact LeA.c (LeC.ow _ _ rfl) | exact LeA.c (LeC.pt _ _ _ _ _ rfl) | exact LeA.c (LeC.nil _ rfl) | exact LeA.c (LeC.nils _ _) | (refine LeA.int ?_; omega) | (refine LeA.int ?_; dsimp only; omega) | exact LeA.c (LeC.fz rfl rfl (by first | rfl | omega) (fun i _ j _ => ⟨rfl, by first | rfl | exact rowN_imm (fun _ => rfl) _ i j | exact rowF_imm (fun _ => rfl) _ i j⟩))⟩, ?_⟩)
    · rw [if_pos he, hf]
      repeat (first
        | refine AWp.seq ?_
        | refine thenA_n ?_
        | refine AWp.exit ?_
        | refine AWp.ret ?_
        | refine AWp.condF rfl (by first | rfl | assumption | exact cmF) ?_
        | (refine AWp.region (id := 3) ?_; refine AList.cmpF rfl rfl rfl rfl rfl cmF ?_; refine AList.nil ?_)
        | (refine AWp.region (id := 8) ?_; refine AList.move rfl rfl rfl ?_; refine AList.assign rfl rfl rfl ?_; refine AList.nil ?_))
      refine ⟨mkSt 18 [(2, .c (iC 0))] [] [], [], Wk.mk [] rfl rfl rfl ?_ trivial, rfl, rfl, ARets.one (x := .c _) (ARes.tmp rfl rfl)⟩
      repeat (first | exact trivial | refine ⟨⟨_, rfl, by first | exact LeA.c (LeC.refl _ rfl) | exact LeA.c (LeC.ow _ _ rfl) | exact LeA.c (LeC.pt _ _ _ _ _ rfl) | exact LeA.c (LeC.nil _ rfl) | exact LeA.c (LeC.nils _ _) | (refine LeA.int ?_; omega) | (refine LeA.int ?_; dsimp only; omega) | exact LeA.c (LeC.fz rfl rfl (by first | rfl | omega) (fun i _ j _ => ⟨rfl, by first | rfl | exact rowN_imm (fun _ => rfl) _ i j | exact rowF_imm (fun _ => rfl) _ i j⟩))⟩, ?_⟩)
end Go.Proofs.Ytijaioiojclooaa
end

section
namespace Go.Proofs.Ytijaioiojclooaa
open Go.RowKit Go.Flow Go.AV Go.Plain
/-- One pixel, and how many dots may still be lost. -/
def cmQ (ia ib u : Bool) (l : Int × Int) : Int × (Int × Int) :=
  if u then (2, l) else if ia && ib then (1, l) else if ia then (if l.1 = 0 then (1, l) else (0, (l.1 - 1, l.2))) else if ib then (if l.2 = 0 then (1, l) else (0, (l.1, l.2 - 1))) else (0, l)
def cmL (ia ib u : Nat → Bool) (l : Int × Int) : Nat → Int × Int
  | 0 => l
  | k + 1 => (cmQ (ia k) (ib k) (u k) (cmL ia ib u l k)).2
def cmP (ia ib u : Nat → Bool) (l : Int × Int) (k : Nat) : Int := (cmQ (ia k) (ib k) (u k) (cmL ia ib u l k)).1
theorem cmQ_bd {ia ib u : Bool} {l : Int × Int} (h : (0 ≤ l.1 ∧ l.1 ≤ 200) ∧ 0 ≤ l.2 ∧ l.2 ≤ 200) : (0 ≤ (cmQ ia ib u l).2.1 ∧ (cmQ ia ib u l).2.1 ≤ 200) ∧ 0 ≤ (cmQ ia ib u l).2.2 ∧ (cmQ ia ib u l).2.2 ≤ 200 := by
  unfold cmQ
  repeat' split
  all_goals (dsimp only; omega)
theorem cmL_bd {ia ib u : Nat → Bool} {l : Int × Int} (h : (0 ≤ l.1 ∧ l.1 ≤ 200) ∧ 0 ≤ l.2 ∧ l.2 ≤ 200) : ∀ k, (0 ≤ (cmL ia ib u l k).1 ∧ (cmL ia ib u l k).1 ≤ 200) ∧ 0 ≤ (cmL ia ib u l k).2 ∧ (cmL ia ib u l k).2 ≤ 200
  | 0 => h
  | k + 1 => cmQ_bd (cmL_bd h k)
/-- How far b lies off, and a. -/
def cmp1 (y : Bg) (n : Int) : Int := max (-(lim4 y).sh) (min (lim4 y).sh n)
def cmIn (b : Bp) (w dx dy : Int) (k : Nat) : Bool := hasB b.W b.H b.d ((k : Int) % (w + 4) - 2 - dx) ((k : Int) / (w + 4) - 2 - dy)
def cmU (w f t : Int) (k : Nat) : Bool := decide (f ≤ (k : Int) % (w + 4)) && decide ((k : Int) % (w + 4) < t)
def cmPx (a b : Bp) (x y : Bg) (c : Cl) : Nat → Int :=
  cmP (cmIn a a.W (cmp1 y c.dx - c.dx) (cmp1 y c.dy - c.dy)) (cmIn b a.W (cmp1 y c.dx) (cmp1 y c.dy)) (cmU a.W (c.col + 2 + (cmp1 y c.dx - c.dx)) (c.col + 2 + (cmp1 y c.dx - c.dx) + stN a.W x y)) ((lim4 x).lo, (lim4 y).lo)
abbrev ipZ : Ip := ⟨0, 0, 0, fun _ => 0⟩
def cmImg (a b : Bp) (x y : Bg) (c : Cl) : Ip := ⟨a.W + 4, a.H + 4, ((a.W + 4) * (a.H + 4)).toNat, cmPx a b x y c⟩
def cmV (a b : Bp) (x y : Bg) (c : Cl) : Ip × Int :=
  if ¬ chk a.W a.H a.n = 0 then (ipZ, chk a.W a.H a.n) else if ¬ chk b.W b.H b.n = 0 then (ipZ, chk b.W b.H b.n) else if ¬ cmpOk a b then (ipZ, 13) else if isB a b x y c = true then (cmImg a b x y c, 0) else (ipZ, 60)
theorem AWp.cut {P : Program} {x : Code} {Q : Exit → St → Prop} {S : St} (S1 : St) (h : AWp P x (fun e S' => e = .normal ∧ Wk S' S1) S) (hz : ∀ S', Wk S' S1 → Q .normal S') : AWp P x Q S :=
  h.mono fun e S' h => by obtain ⟨rfl, hw⟩ := h; exact hz S' hw
theorem cl_mem_bd {w : Int} {x y : Bg} {c : Cl} (hw : 0 ≤ w ∧ w ≤ 96) (h : c ∈ alL w x y) : ((-4 ≤ c.dx ∧ c.dx ≤ 4) ∧ -4 ≤ c.dy ∧ c.dy ≤ 4) ∧ -4 ≤ c.col ∧ c.col ≤ 105 := by
  obtain ⟨j, hj, e⟩ := List.getElem_of_mem h
  have h1 := al_bd (x := x) (y := y) hw hj
  rwa [List.getD_eq_getElem?_getD, List.getElem?_eq_getElem hj, Option.getD_some, e] at h1
end Go.Proofs.Ytijaioiojclooaa
end
