/- Parts of the proof: A23n, A23o. -/
import Derived.Test.YtclaanggpcjnbaaG25
set_option linter.unusedSimpArgs false
set_option linter.unusedVariables false
section
/- Chapter 23 over plain values: the reference's Shifts. -/
namespace Go.Proofs.Ytclaanggpcjnbaa
open Go.RowKit Go.Flow Go.AV Go.Plain
abbrev mvC (p : Int × Int) : List CV := [iC p.1, iC p.2]
abbrev mvZ : Int × Int := (0, 0)
theorem mvC_imm (p : Int × Int) : (mvC p).all immC = true := rfl
def shB (m s i j : Nat) : Bool := decide (max ((j : Int) - m) (-((j : Int) - m)) + max ((i : Int) - m) (-((i : Int) - m)) = (s : Int))
def shJ (m s i k : Nat) : List (Int × Int) := (List.range k).flatMap fun j => if shB m s i j then [((j : Int) - m, (i : Int) - m)] else []
def shM (m s k : Nat) : List (Int × Int) := (List.range k).flatMap fun i => shJ m s i (2 * m + 1)
def shS (m k : Nat) : List (Int × Int) := (List.range k).flatMap fun s => shM m s (2 * m + 1)
theorem flat_succ {α : Type} (f : Nat → List α) (k : Nat) : (List.range (k + 1)).flatMap f = (List.range k).flatMap f ++ f k := by
  rw [List.range_succ, List.flatMap_append]
  simp
/-- All shifts up to m, in order. -/
def shL (m : Nat) : List (Int × Int) := shS m (2 * m + 1)
set_option maxHeartbeats 1000000 in
set_option maxRecDepth 100000 in
theorem Shifts_A (m : Nat) (hm : m ≤ 2) : ACalls Try.prog 22 [.c (iC m)] (.c (.ls (shL m).length 2 (rowF mvC mvZ (shL m)))) := by
  refine acalls_at Try.func22 rfl rfl Try.ntmps22 rfl ?_
  repeat (first
    | refine AWp.seq ?_
    | refine thenA_n ?_
    | refine AWp.block ?_
    | (refine AWp.region (id := 0) ?_
       refine AList.assign rfl rfl rfl ?_
       refine AList.nil ?_)
    | (refine AWp.region (id := 1) ?_
       refine AList.assign rfl rfl rfl ?_
       refine AList.nil ?_)
    | (refine AWp.region (id := 2) ?_
       refine AList.assign rfl rfl rfl ?_
       refine AList.nil ?_))
  refine AWp.round (fun t : Nat × List (Int × Int) => mkSt 45 [(0, .c (iC m)), (3, .c (.ow 20)), (4, .c (iC t.1))] [(20, ⟨true, t.2.length, 2, 61, rowF mvC mvZ t.2⟩)] [20])
    (fun t => t.1 ≤ 2 * m + 1 ∧ t.2 = shS m t.1 ∧ t.2.length ≤ 25 * t.1) (fun t => 2 * m + 1 - t.1) (0, []) ⟨Nat.zero_le _, rfl, Nat.zero_le _⟩ ?_ (fun t ht => ?_)
  · refine Wk.mk [(20, none)] rfl rfl rfl ?_ ?_
    · repeat (first | exact trivial | refine ⟨⟨_, rfl, by first | exact LeA.c (LeC.refl _ rfl) | exact LeA.c (LeC.ow _ _ rfl) | exact LeA.c (LeC.pt _ _ _ _ _ rfl) | exact LeA.c (LeC.nil _ rfl) | exact LeA.c (LeC.nils _ _) | (refine LeA.int ?_; omega) | (refine LeA.int ?_; dsimp only; omega) | exact LeA.c (LeC.fz rfl rfl (by first | rfl | omega) (fun i _ j _ => ⟨rfl, by first | rfl | exact rowN_imm (fun _ => rfl) _ i j | exact rowF_imm (fun _ => rfl) _ i j⟩))⟩, ?_⟩)
    · repeat (first | exact trivial | refine ⟨by first | exact HeapOk.same rfl rfl rfl rfl | exact HeapOk.lent rfl rfl rfl rfl | exact HeapOk.nil rfl rfl | exact HeapOk.row rfl rfl (by first | rfl | omega) (fun i _ j _ => ⟨rfl, by first | rfl | exact rowN_imm (fun _ => rfl) _ i j | exact rowF_imm (fun _ => rfl) _ i j⟩) | exact HeapOk.box rfl rfl (by repeat (first | exact trivial | refine ⟨by first | exact LeC.refl _ rfl | exact LeC.ow _ _ rfl | exact LeC.nil _ rfl | exact LeC.nils _ _ | exact LeC.fz rfl rfl (by first | rfl | omega) (fun i _ j _ => ⟨rfl, by first | rfl | exact rowN_imm (fun _ => rfl) _ i j | exact rowF_imm (fun _ => rfl) _ i j⟩) | exact LeC.int (by omega), ?_⟩)) rfl, ?_⟩)
  · obtain ⟨s, L⟩ := t
    obtain ⟨hs, hL, hl⟩ := ht
    dsimp only at hs hL hl
    dsimp only
    by_cases hlts : s < 2 * m + 1
    · repeat (first
        | refine AWp.seq ?_
        | refine thenA_n ?_
        | refine AWp.block ?_
        | refine AWp.skip ?_
        | refine AWp.condT rfl (by first | rfl | assumption | exact cmT) ?_
        | (refine AWp.region (id := 3) ?_
           refine AList.move rfl rfl rfl ?_
           refine AList.move rfl rfl rfl ?_
           refine AList.mul rfl rfl rfl rfl (by omega) (by omega) ?_
           refine AList.cmpT rfl rfl rfl rfl rfl cmT ?_
           refine AList.nil ?_)
        | (refine AWp.region (id := 5) ?_
           refine AList.move rfl rfl rfl ?_
           refine AList.neg rfl rfl rfl (by omega) (by omega) ?_
           refine AList.assign rfl rfl rfl ?_
           refine AList.nil ?_))
      refine AWp.round (fun t : Nat × List (Int × Int) => mkSt 45 [(0, .c (iC m)), (3, .c (.ow 20)), (4, .c (iC s)), (5, .c (iC ((t.1 : Int) - m)))] [(20, ⟨true, t.2.length, 2, 61, rowF mvC mvZ t.2⟩)] [20])
        (fun t => t.1 ≤ 2 * m + 1 ∧ t.2 = shS m s ++ shM m s t.1 ∧ t.2.length ≤ 25 * s + 5 * t.1) (fun t => 2 * m + 1 - t.1) (0, L) ⟨Nat.zero_le _, by rw [hL]; exact (List.append_nil _).symm, by dsimp only; omega⟩ ?_ (fun t ht => ?_)
      · refine Wk.mk [(20, some 20)] rfl rfl rfl ?_ ?_
        · repeat (first | exact trivial | refine ⟨⟨_, rfl, by first | exact LeA.c (LeC.refl _ rfl) | exact LeA.c (LeC.ow _ _ rfl) | exact LeA.c (LeC.pt _ _ _ _ _ rfl) | exact LeA.c (LeC.nil _ rfl) | exact LeA.c (LeC.nils _ _) | (refine LeA.int ?_; omega) | (refine LeA.int ?_; dsimp only; omega) | exact LeA.c (LeC.fz rfl rfl (by first | rfl | omega) (fun i _ j _ => ⟨rfl, by first | rfl | exact rowN_imm (fun _ => rfl) _ i j | exact rowF_imm (fun _ => rfl) _ i j⟩))⟩, ?_⟩)
        · repeat (first | exact trivial | refine ⟨by first | exact HeapOk.same rfl rfl rfl rfl | exact HeapOk.lent rfl rfl rfl rfl | exact HeapOk.nil rfl rfl | exact HeapOk.row rfl rfl (by first | rfl | omega) (fun i _ j _ => ⟨rfl, by first | rfl | exact rowN_imm (fun _ => rfl) _ i j | exact rowF_imm (fun _ => rfl) _ i j⟩) | exact HeapOk.box rfl rfl (by repeat (first | exact trivial | refine ⟨by first | exact LeC.refl _ rfl | exact LeC.ow _ _ rfl | exact LeC.nil _ rfl | exact LeC.nils _ _ | exact LeC.fz rfl rfl (by first | rfl | omega) (fun i _ j _ => ⟨rfl, by first | rfl | exact rowN_imm (fun _ => rfl) _ i j | exact rowF_imm (fun _ => rfl) _ i j⟩) | exact LeC.int (by omega), ?_⟩)) rfl, ?_⟩)
      · obtain ⟨i, L2⟩ := t
        obtain ⟨hi, hL2, hl2⟩ := ht
        dsimp only at hi hL2 hl2
        dsimp only
        by_cases hlti : i < 2 * m + 1
        · repeat (first
            | refine AWp.seq ?_
            | refine thenA_n ?_
            | refine AWp.block ?_
            | refine AWp.skip ?_
            | refine AWp.condT rfl (by first | rfl | assumption | exact cmT) ?_
            | (refine AWp.region (id := 6) ?_
               refine AList.move rfl rfl rfl ?_
               refine AList.move rfl rfl rfl ?_
               refine AList.cmpT rfl rfl rfl rfl rfl cmT ?_
               refine AList.nil ?_)
            | (refine AWp.region (id := 8) ?_
               refine AList.move rfl rfl rfl ?_
               refine AList.neg rfl rfl rfl (by omega) (by omega) ?_
               refine AList.assign rfl rfl rfl ?_
               refine AList.nil ?_))
          refine AWp.round (fun t : Nat × List (Int × Int) => mkSt 45 [(0, .c (iC m)), (3, .c (.ow 20)), (4, .c (iC s)), (5, .c (iC ((i : Int) - m))), (6, .c (iC ((t.1 : Int) - m)))] [(20, ⟨true, t.2.length, 2, 61, rowF mvC mvZ t.2⟩)] [20])
            (fun t => t.1 ≤ 2 * m + 1 ∧ t.2 = (shS m s ++ shM m s i) ++ shJ m s i t.1 ∧ t.2.length ≤ 25 * s + 5 * i + t.1) (fun t => 2 * m + 1 - t.1) (0, L2) ⟨Nat.zero_le _, by rw [hL2]; exact (List.append_nil _).symm, by dsimp only; omega⟩ ?_ (fun t ht => ?_)
          · refine Wk.mk [(20, some 20)] rfl rfl rfl ?_ ?_
            · repeat (first | exact trivial | refine ⟨⟨_, rfl, by first | exact LeA.c (LeC.refl _ rfl) | exact LeA.c (LeC.ow _ _ rfl) | exact LeA.c (LeC.pt _ _ _ _ _ rfl) | exact LeA.c (LeC.nil _ rfl) | exact LeA.c (LeC.nils _ _) | (refine LeA.int ?_; omega) | (refine LeA.int ?_; dsimp only; omega) | exact LeA.c (LeC.fz rfl rfl (by first | rfl | omega) (fun i _ j _ => ⟨rfl, by first | rfl | exact rowN_imm (fun _ => rfl) _ i j | exact rowF_imm (fun _ => rfl) _ i j⟩))⟩, ?_⟩)
            · repeat (first | exact trivial | refine ⟨by first | exact HeapOk.same rfl rfl rfl rfl | exact HeapOk.lent rfl rfl rfl rfl | exact HeapOk.nil rfl rfl | exact HeapOk.row rfl rfl (by first | rfl | omega) (fun i _ j _ => ⟨rfl, by first | rfl | exact rowN_imm (fun _ => rfl) _ i j | exact rowF_imm (fun _ => rfl) _ i j⟩) | exact HeapOk.box rfl rfl (by repeat (first | exact trivial | refine ⟨by first | exact LeC.refl _ rfl | exact LeC.ow _ _ rfl | exact LeC.nil _ rfl | exact LeC.nils _ _ | exact LeC.fz rfl rfl (by first | rfl | omega) (fun i _ j _ => ⟨rfl, by first | rfl | exact rowN_imm (fun _ => rfl) _ i j | exact rowF_imm (fun _ => rfl) _ i j⟩) | exact LeC.int (by omega), ?_⟩)) rfl, ?_⟩)
          · obtain ⟨j, L3⟩ := t
            obtain ⟨hj, hL3, hl3⟩ := ht
            dsimp only at hj hL3 hl3
            dsimp only
            by_cases hltj : j < 2 * m + 1
            · have hsu : shJ m s i (j + 1) = shJ m s i j ++ if shB m s i j then [((j : Int) - m, (i : Int) - m)] else [] := flat_succ _ _
              by_cases hb : max ((j : Int) - m) (-((j : Int) - m)) + max ((i : Int) - m) (-((i : Int) - m)) = (s : Int)
              · rw [show shB m s i j = true from decide_eq_true hb, if_pos rfl] at hsu
                have hlen : (L3 ++ [((j : Int) - m, (i : Int) - m)]).length = L3.length + 1 := by simp
                repeat (first
                  | refine AWp.seq ?_
                  | refine thenA_n ?_
                  | refine AWp.block ?_
                  | refine AWp.skip ?_
                  | refine inBlk_n ?_
                  | refine AWp.condT rfl (by first | rfl | assumption | exact cmT) ?_
                  | (refine AWp.region (id := 9) ?_
                     refine AList.move rfl rfl rfl ?_
                     refine AList.move rfl rfl rfl ?_
                     refine AList.cmpT rfl rfl rfl rfl rfl cmT ?_
                     refine AList.nil ?_)
                  | (refine AWp.region (id := 10) ?_
                     refine AList.move rfl rfl rfl ?_
                     refine AList.add rfl rfl rfl rfl (by omega) (by omega) ?_
                     refine AList.assign rfl rfl rfl ?_
                     refine AList.nil ?_)
                  | (refine AWp.region (id := 11) ?_
                     refine AList.move rfl rfl rfl ?_
                     refine AList.move rfl rfl rfl ?_
                     refine AList.neg rfl rfl rfl (by omega) (by omega) ?_
                     refine AList.maxI rfl rfl rfl rfl ?_
                     refine AList.move rfl rfl rfl ?_
                     refine AList.move rfl rfl rfl ?_
                     refine AList.neg rfl rfl rfl (by omega) (by omega) ?_
                     refine AList.maxI rfl rfl rfl rfl ?_
                     refine AList.add rfl rfl rfl rfl (by omega) (by omega) ?_
                     refine AList.move rfl rfl rfl ?_
                     refine AList.cmpT rfl rfl rfl rfl rfl cmT ?_
                     refine AList.nil ?_)
                  | (refine AWp.region (id := 12) ?_
                     refine AList.move rfl rfl rfl ?_
                     refine AList.move rfl rfl rfl ?_
                     refine AList.move rfl rfl rfl ?_
                     refine AList.buildSt tyOk rfl rfl rfl rfl rfl rfl rfl rfl ?_
                     refine AList.litSl tyOk rfl rfl rfl rfl rfl rfl rfl rfl rfl rfl rfl ?_
                     refine AList.appL tyOk rfl rfl rfl rfl rfl rfl rfl rfl rfl rfl oM oM ?_
                     refine AList.assign rfl rfl rfl ?_
                     refine AList.nil ?_))
                refine ⟨(j + 1, L3 ++ [((j : Int) - m, (i : Int) - m)]), ⟨by dsimp only; omega, by rw [hL3, hsu, List.append_assoc], by rw [hlen]; omega⟩, Wk.mk [(20, some 43)] rfl rfl rfl ?_ ?_, by dsimp only; omega⟩
                · repeat (first | exact trivial | refine ⟨⟨_, rfl, by first | exact LeA.c (LeC.refl _ rfl) | exact LeA.c (LeC.ow _ _ rfl) | exact LeA.c (LeC.pt _ _ _ _ _ rfl) | exact LeA.c (LeC.nil _ rfl) | exact LeA.c (LeC.nils _ _) | (refine LeA.int ?_; omega) | (refine LeA.int ?_; dsimp only; omega) | exact LeA.c (LeC.fz rfl rfl (by first | rfl | omega) (fun i _ j _ => ⟨rfl, by first | rfl | exact rowN_imm (fun _ => rfl) _ i j | exact rowF_imm (fun _ => rfl) _ i j⟩))⟩, ?_⟩)
                · exact ⟨HeapOk.row rfl rfl hlen (row_snoc L3 ((j : Int) - m, (i : Int) - m) mvC_imm rfl), trivial⟩
              · rw [show shB m s i j = false from decide_eq_false hb, if_neg (by decide), List.append_nil] at hsu
                repeat (first
                  | refine AWp.seq ?_
                  | refine thenA_n ?_
                  | refine AWp.block ?_
                  | refine AWp.skip ?_
                  | refine inBlk_n ?_
                  | refine AWp.condT rfl (by first | rfl | assumption | exact cmT) ?_
                  | refine AWp.condF rfl (by first | rfl | assumption | exact cmF) ?_
                  | (refine AWp.region (id := 9) ?_
                     refine AList.move rfl rfl rfl ?_
                     refine AList.move rfl rfl rfl ?_
                     refine AList.cmpT rfl rfl rfl rfl rfl cmT ?_
                     refine AList.nil ?_)
                  | (refine AWp.region (id := 10) ?_
                     refine AList.move rfl rfl rfl ?_
                     refine AList.add rfl rfl rfl rfl (by omega) (by omega) ?_
                     refine AList.assign rfl rfl rfl ?_
                     refine AList.nil ?_)
                  | (refine AWp.region (id := 11) ?_
                     refine AList.move rfl rfl rfl ?_
                     refine AList.move rfl rfl rfl ?_
                     refine AList.neg rfl rfl rfl (by omega) (by omega) ?_
                     refine AList.maxI rfl rfl rfl rfl ?_
                     refine AList.move rfl rfl rfl ?_
                     refine AList.move rfl rfl rfl ?_
                     refine AList.neg rfl rfl rfl (by omega) (by omega) ?_
                     refine AList.maxI rfl rfl rfl rfl ?_
                     refine AList.add rfl rfl rfl rfl (by omega) (by omega) ?_
                     refine AList.move rfl rfl rfl ?_
                     refine AList.cmpF rfl rfl rfl rfl rfl cmF ?_
                     refine AList.nil ?_))
                refine ⟨(j + 1, L3), ⟨by dsimp only; omega, by rw [hL3, hsu], by dsimp only; omega⟩, Wk.mk [(20, some 20)] rfl rfl rfl ?_ ?_, by dsimp only; omega⟩
                · repeat (first | exact trivial | refine ⟨⟨_, rfl, by first | exact LeA.c (LeC.refl _ rfl) | exact LeA.c (LeC.ow _ _ rfl) | exact LeA.c (LeC.pt _ _ _ _ _ rfl) | exact LeA.c (LeC.nil _ rfl) | exact LeA.c (LeC.nils _ _) | (refine LeA.int ?_; omega) | (refine LeA.int ?_; dsimp only; omega) | exact LeA.c (LeC.fz rfl rfl (by first | rfl | omega) (fun i _ j _ => ⟨rfl, by first | rfl | exact rowN_imm (fun _ => rfl) _ i j | exact rowF_imm (fun _ => rfl) _ i j⟩))⟩, ?_⟩)
                · repeat (first | exact trivial | refine ⟨by first | exact HeapOk.same rfl rfl rfl rfl | exact HeapOk.lent rfl rfl rfl rfl | exact HeapOk.nil rfl rfl | exact HeapOk.row rfl rfl (by first | rfl | omega) (fun i _ j _ => ⟨rfl, by first | rfl | exact rowN_imm (fun _ => rfl) _ i j | exact rowF_imm (fun _ => rfl) _ i j⟩) | exact HeapOk.box rfl rfl (by repeat (first | exact trivial | refine ⟨by first | exact LeC.refl _ rfl | exact LeC.ow _ _ rfl | exact LeC.nil _ rfl | exact LeC.nils _ _ | exact LeC.fz rfl rfl (by first | rfl | omega) (fun i _ j _ => ⟨rfl, by first | rfl | exact rowN_imm (fun _ => rfl) _ i j | exact rowF_imm (fun _ => rfl) _ i j⟩) | exact LeC.int (by omega), ?_⟩)) rfl, ?_⟩)
            · obtain rfl : j = 2 * m + 1 := by omega
              have hsu : shM m s (i + 1) = shM m s i ++ shJ m s i (2 * m + 1) := flat_succ _ _
              repeat (first
                | refine AWp.seq ?_
                | refine thenA_n ?_
                | refine AWp.exit ?_
                | refine thenA_e ?_
                | refine inBlk_n ?_
                | refine inBlk_hit ?_
                | refine AWp.condF rfl (by first | rfl | assumption | exact cmF) ?_
                | (refine AWp.region (id := 7) ?_
                   refine AList.move rfl rfl rfl ?_
                   refine AList.add rfl rfl rfl rfl (by omega) (by omega) ?_
                   refine AList.assign rfl rfl rfl ?_
                   refine AList.nil ?_)
                | (refine AWp.region (id := 9) ?_
                   refine AList.move rfl rfl rfl ?_
                   refine AList.move rfl rfl rfl ?_
                   refine AList.cmpF rfl rfl rfl rfl rfl cmF ?_
                   refine AList.nil ?_))
              refine ⟨(i + 1, L3), ⟨by dsimp only; omega, by rw [hL3, hsu, List.append_assoc], by dsimp only; omega⟩, Wk.mk [(20, some 20)] rfl rfl rfl ?_ ?_, by dsimp only; omega⟩
              · repeat (first | exact trivial | refine ⟨⟨_, rfl, by first | exact LeA.c (LeC.refl _ rfl) | exact LeA.c (LeC.ow _ _ rfl) | exact LeA.c (LeC.pt _ _ _ _ _ rfl) | exact LeA.c (LeC.nil _ rfl) | exact LeA.c (LeC.nils _ _) | (refine LeA.int ?_; omega) | (refine LeA.int ?_; dsimp only; omega) | exact LeA.c (LeC.fz rfl rfl (by first | rfl | omega) (fun i _ j _ => ⟨rfl, by first | rfl | exact rowN_imm (fun _ => rfl) _ i j | exact rowF_imm (fun _ => rfl) _ i j⟩))⟩, ?_⟩)
              · repeat (first | exact trivial | refine ⟨by first | exact HeapOk.same rfl rfl rfl rfl | exact HeapOk.lent rfl rfl rfl rfl | exact HeapOk.nil rfl rfl | exact HeapOk.row rfl rfl (by first | rfl | omega) (fun i _ j _ => ⟨rfl, by first | rfl | exact rowN_imm (fun _ => rfl) _ i j | exact rowF_imm (fun _ => rfl) _ i j⟩) | exact HeapOk.box rfl rfl (by repeat (first | exact trivial | refine ⟨by first | exact LeC.refl _ rfl | exact LeC.ow _ _ rfl | exact LeC.nil _ rfl | exact LeC.nils _ _ | exact LeC.fz rfl rfl (by first | rfl | omega) (fun i _ j _ => ⟨rfl, by first | rfl | exact rowN_imm (fun _ => rfl) _ i j | exact rowF_imm (fun _ => rfl) _ i j⟩) | exact LeC.int (by omega), ?_⟩)) rfl, ?_⟩)
        · obtain rfl : i = 2 * m + 1 := by omega
          have hsu : shS m (s + 1) = shS m s ++ shM m s (2 * m + 1) := flat_succ _ _
          repeat (first
            | refine AWp.seq ?_
            | refine thenA_n ?_
            | refine AWp.exit ?_
            | refine thenA_e ?_
            | refine inBlk_n ?_
            | refine inBlk_hit ?_
            | refine AWp.condF rfl (by first | rfl | assumption | exact cmF) ?_
            | (refine AWp.region (id := 4) ?_
               refine AList.move rfl rfl rfl ?_
               refine AList.add rfl rfl rfl rfl (by omega) (by omega) ?_
               refine AList.assign rfl rfl rfl ?_
               refine AList.nil ?_)
            | (refine AWp.region (id := 6) ?_
               refine AList.move rfl rfl rfl ?_
               refine AList.move rfl rfl rfl ?_
               refine AList.cmpF rfl rfl rfl rfl rfl cmF ?_
               refine AList.nil ?_))
          refine ⟨(s + 1, L2), ⟨by dsimp only; omega, by rw [hL2, hsu], by dsimp only; omega⟩, Wk.mk [(20, some 20)] rfl rfl rfl ?_ ?_, by dsimp only; omega⟩
          · repeat (first | exact trivial | refine ⟨⟨_, rfl, by first | exact LeA.c (LeC.refl _ rfl) | exact LeA.c (LeC.ow _ _ rfl) | exact LeA.c (LeC.pt _ _ _ _ _ rfl) | exact LeA.c (LeC.nil _ rfl) | exact LeA.c (LeC.nils _ _) | (refine LeA.int ?_; omega) | (refine LeA.int ?_; dsimp only; omega) | exact LeA.c (LeC.fz rfl rfl (by first | rfl | omega) (fun i _ j _ => ⟨rfl, by first | rfl | exact rowN_imm (fun _ => rfl) _ i j | exact rowF_imm (fun _ => rfl) _ i j⟩))⟩, ?_⟩)
          · repeat (first | exact trivial | refine ⟨by first | exact HeapOk.same rfl rfl rfl rfl | exact HeapOk.lent rfl rfl rfl rfl | exact HeapOk.nil rfl rfl | exact HeapOk.row rfl rfl (by first | rfl | omega) (fun i _ j _ => ⟨rfl, by first | rfl | exact rowN_imm (fun _ => rfl) _ i j | exact rowF_imm (fun _ => rfl) _ i j⟩) | exact HeapOk.box rfl rfl (by repeat (first | exact trivial | refine ⟨by first | exact LeC.refl _ rfl | exact LeC.ow _ _ rfl | exact LeC.nil _ rfl | exact LeC.nils _ _ | exact LeC.fz rfl rfl (by first | rfl | omega) (fun i _ j _ => ⟨rfl, by first | rfl | exact rowN_imm (fun _ => rfl) _ i j | exact rowF_imm (fun _ => rfl) _ i j⟩) | exact LeC.int (by omega), ?_⟩)) rfl, ?_⟩)
    · obtain rfl : s = 2 * m + 1 := by omega
      subst hL
      repeat (first
        | refine AWp.seq ?_
        | refine thenA_n ?_
        | refine AWp.exit ?_
        | refine AWp.ret ?_
        | refine AWp.condF rfl (by first | rfl | assumption | exact cmF) ?_
        | (refine AWp.region (id := 3) ?_
           refine AList.move rfl rfl rfl ?_
           refine AList.move rfl rfl rfl ?_
           refine AList.mul rfl rfl rfl rfl (by omega) (by omega) ?_
           refine AList.cmpF rfl rfl rfl rfl rfl cmF ?_
           refine AList.nil ?_)
        | (refine AWp.region (id := 13) ?_
           refine AList.move rfl rfl rfl ?_
           refine AList.assign rfl rfl rfl ?_
           refine AList.nil ?_))
      refine ⟨mkSt 45 [(2, .c (.ls (shL m).length 2 (rowF mvC mvZ (shL m))))] [] [], [], Wk.mk [] rfl rfl rfl ?_ trivial, rfl, rfl, ARets.one (x := .c _) (ARes.tmp rfl rfl)⟩
      unfold shL
      repeat (first | exact trivial | refine ⟨⟨_, rfl, by first | exact LeA.c (LeC.refl _ rfl) | exact LeA.c (LeC.ow _ _ rfl) | exact LeA.c (LeC.pt _ _ _ _ _ rfl) | exact LeA.c (LeC.nil _ rfl) | exact LeA.c (LeC.nils _ _) | (refine LeA.int ?_; omega) | (refine LeA.int ?_; dsimp only; omega) | exact LeA.c (LeC.fz rfl rfl (by first | rfl | omega) (fun i _ j _ => ⟨rfl, by first | rfl | exact rowN_imm (fun _ => rfl) _ i j | exact rowF_imm (fun _ => rfl) _ i j⟩))⟩, ?_⟩)
end Go.Proofs.Ytclaanggpcjnbaa
end

section
/- Chapter 23 over plain values: the reference's Explains. -/
namespace Go.Proofs.Ytclaanggpcjnbaa
open Go.RowKit Go.Flow Go.AV Go.Plain
structure Mc where
  dx : Int
  dy : Int
  lo : Int
  bl : Int
abbrev mcC (x : Mc) : List CV := [iC x.dx, iC x.dy, iC x.lo, iC x.bl]
def exB (x : Ip) (b : Bp) (y : Bg) (p : Int × Int) : Bool := decide (fitOk x b p.1 p.2 ∧ fitN x b p.1 p.2 0 1 ≤ y.lo ∧ fitN x b p.1 p.2 1 0 ≤ y.bl)
def exL (x : Ip) (b : Bp) (y : Bg) : List (Int × Int) := shL (lim4 y).sh.toNat
def exV (x : Ip) (b : Bp) (y : Bg) : Mc × Bool := match (exL x b y).find? (exB x b (lim4 y)) with
  | some p => (⟨p.1, p.2, fitN x b p.1 p.2 0 1, fitN x b p.1 p.2 1 0⟩, true)
  | none => (⟨0, 0, 0, 0⟩, false)
theorem exV_hit {x : Ip} {b : Bp} {y : Bg} {k : Nat} (hk : k < (exL x b y).length) (h : exB x b (lim4 y) ((exL x b y).getD k mvZ) = true) (hn : ∀ i, i < k → exB x b (lim4 y) ((exL x b y).getD i mvZ) = false) :
    exV x b y = (⟨((exL x b y).getD k mvZ).1, ((exL x b y).getD k mvZ).2, fitN x b ((exL x b y).getD k mvZ).1 ((exL x b y).getD k mvZ).2 0 1, fitN x b ((exL x b y).getD k mvZ).1 ((exL x b y).getD k mvZ).2 1 0⟩, true) := by
  have hg : ∀ i (hi : i < (exL x b y).length), (exL x b y).getD i mvZ = (exL x b y)[i] := fun i hi => by rw [List.getD_eq_getElem?_getD, List.getElem?_eq_getElem hi]; rfl
  have : (exL x b y).find? (exB x b (lim4 y)) = some ((exL x b y).getD k mvZ) := by
    rw [List.find?_eq_some_iff_getElem]
    refine ⟨h, k, hk, (hg k hk).symm, fun j hj => ?_⟩
    rw [← hg j (by omega), hn j hj]
    rfl
  unfold exV
  rw [this]
theorem exV_miss {x : Ip} {b : Bp} {y : Bg} (hn : ∀ i, i < (exL x b y).length → exB x b (lim4 y) ((exL x b y).getD i mvZ) = false) : exV x b y = (⟨0, 0, 0, 0⟩, false) := by
  have : (exL x b y).find? (exB x b (lim4 y)) = none := by
    rw [List.find?_eq_none]
    intro p hp
    obtain ⟨i, hi, rfl⟩ := List.getElem_of_mem hp
    have := hn i hi
    rw [List.getD_eq_getElem?_getD, List.getElem?_eq_getElem hi] at this
    exact fun h => by rw [show exB x b (lim4 y) (exL x b y)[i] = false from this] at h; cases h
  unfold exV
  rw [this]
theorem lim_sh (y : Bg) : 0 ≤ (lim4 y).sh ∧ (lim4 y).sh ≤ 2 := by simp only [lim4, lim1]; omega
set_option maxHeartbeats 1000000 in
set_option maxRecDepth 100000 in
theorem rExplains_A (x : Ip) (b : Bp) (y : Bg) (hn : x.n ≤ 4611686018427387904) : ACalls Try.prog 21 [.ag (ipC x), .ag (bpC b), .ag (bgC y)] (.tu [.ag (mcC (exV x b y).1), .c (bC (exV x b y).2)]) := by
  have hL := rlim_A y
  obtain ⟨s0, s1⟩ := lim_sh y
  have hSh := Shifts_A (lim4 y).sh.toNat (by omega)
  have hse : (((lim4 y).sh.toNat : Nat) : Int) = (lim4 y).sh := by omega
  rw [hse] at hSh
  change ACalls Try.prog 22 [.c (iC (lim4 y).sh)] (.c (.ls (exL x b y).length 2 (rowF mvC mvZ (exL x b y)))) at hSh
  have hlb : (exL x b y).length ≤ 4611686018427387904 := by
    unfold exL
    have h : (lim4 y).sh.toNat = 0 ∨ (lim4 y).sh.toNat = 1 ∨ (lim4 y).sh.toNat = 2 := by omega
    rcases h with h | h | h <;> rw [h] <;> decide
  refine acalls_at Try.func21 rfl rfl Try.ntmps21 rfl ?_
  repeat (first
    | refine AWp.seq ?_
    | refine thenA_n ?_
    | refine AWp.block ?_
    | (refine AWp.region (id := 0) ?_
       refine AList.box rfl rfl rfl rfl rfl ?_
       refine AList.box rfl rfl rfl rfl rfl ?_
       refine AList.box rfl rfl rfl rfl rfl ?_
       refine AList.alloc tyOk rfl rfl rfl rfl rfl ?_
       refine AList.assign rfl rfl rfl ?_
       refine AList.nil ?_)
    | (refine AWp.region (id := 1) ?_
       refine AList.loadA tyOk rfl rfl rfl rfl rfl rfl rfl oM oM ?_
       refine AList.call rfl rfl rfl rfl Try.func31 rfl (by kernel_rfl) (hL) ?_
       refine AList.store tyOk rfl rfl rfl rfl rfl rfl rfl rfl oM oM ?_
       refine AList.nil ?_)
    | (refine AWp.region (id := 2) ?_
       refine AList.fieldPt tyOk rfl rfl rfl rfl rfl rfl rfl ?_
       refine AList.load1 tyOk rfl rfl rfl rfl rfl rfl rfl oM oM ?_
       refine AList.call rfl rfl rfl rfl Try.func22 rfl (by kernel_rfl) (hSh) ?_
       refine AList.assign rfl rfl rfl ?_
       refine AList.nil ?_)
    | (refine AWp.region (id := 3) ?_
       refine AList.assign rfl rfl rfl ?_
       refine AList.nil ?_))
  refine AWp.round (fun k : Nat => mkSt 68 [(3, .c (.pt 3 3 0 0)), (4, .c (.pt 4 3 0 0)), (5, .c (.pt 5 4 0 0)), (6, .c (.pt 6 4 0 0)), (8, .c (.ls (exL x b y).length 2 (rowF mvC mvZ (exL x b y)))), (9, .c (iC k))]
    [(3, ⟨false, 1, 3, 43, lF (ipC x)⟩), (4, ⟨false, 1, 3, 39, lF (bpC b)⟩), (5, ⟨false, 1, 4, 24, lF (bgC (lim4 y))⟩), (6, ⟨false, 1, 4, 52, lF [iC 0, iC 0, iC 0, iC 0]⟩)] [3, 4, 5, 6])
    (fun k => k ≤ (exL x b y).length ∧ ∀ i, i < k → exB x b (lim4 y) ((exL x b y).getD i mvZ) = false) (fun k => (exL x b y).length - k) 0 ⟨Nat.zero_le _, fun i hi => absurd hi (Nat.not_lt_zero _)⟩ ?_ (fun k hk => ?_)
  · refine Wk.mk [(3, some 3), (4, some 4), (5, some 5), (6, some 6)] rfl rfl rfl ?_ ?_
    · repeat (first | exact trivial | refine ⟨⟨_, rfl, by first | exact LeA.c (LeC.refl _ rfl) | exact LeA.c (LeC.ow _ _ rfl) | exact LeA.c (LeC.pt _ _ _ _ _ rfl) | exact LeA.c (LeC.nil _ rfl) | exact LeA.c (LeC.nils _ _) | (refine LeA.int ?_; omega) | (refine LeA.int ?_; dsimp only; omega) | exact LeA.c (LeC.fz rfl rfl (by first | rfl | omega) (fun i _ j _ => ⟨rfl, by first | rfl | exact rowN_imm (fun _ => rfl) _ i j | exact rowF_imm (fun _ => rfl) _ i j⟩))⟩, ?_⟩)
    · repeat (first | exact trivial | refine ⟨by first | exact HeapOk.same rfl rfl rfl rfl | exact HeapOk.lent rfl rfl rfl rfl | exact HeapOk.nil rfl rfl | exact HeapOk.row rfl rfl (by first | rfl | omega) (fun i _ j _ => ⟨rfl, by first | rfl | exact rowN_imm (fun _ => rfl) _ i j | exact rowF_imm (fun _ => rfl) _ i j⟩) | exact HeapOk.box rfl rfl (by repeat (first | exact trivial | refine ⟨by first | exact LeC.refl _ rfl | exact LeC.ow _ _ rfl | exact LeC.nil _ rfl | exact LeC.nils _ _ | exact LeC.fz rfl rfl (by first | rfl | omega) (fun i _ j _ => ⟨rfl, by first | rfl | exact rowN_imm (fun _ => rfl) _ i j | exact rowF_imm (fun _ => rfl) _ i j⟩) | exact LeC.int (by omega), ?_⟩)) rfl, ?_⟩)
  · obtain ⟨hk, hno⟩ := hk
    by_cases hlt : k < (exL x b y).length
    · have hF := rFits_A x b ((exL x b y).getD k mvZ).1 ((exL x b y).getD k mvZ).2 hn
      by_cases hb : exB x b (lim4 y) ((exL x b y).getD k mvZ) = true
      · rw [exV_hit hlt hb hno]
        obtain ⟨g1, g2, g3⟩ := of_decide_eq_true hb
        rw [fitV, decide_eq_true g1] at hF
        repeat (first
          | refine AWp.seq ?_
          | refine thenA_n ?_
          | refine AWp.block ?_
          | refine AWp.skip ?_
          | refine AWp.ret ?_
          | refine thenA_r ?_
          | refine inBlk_r ?_
          | refine AWp.condT rfl (by first | rfl | assumption | exact cmT) ?_
          | (refine AWp.region (id := 4) ?_
             refine AList.move rfl rfl rfl ?_
             refine AList.move rfl rfl rfl ?_
             refine AList.lenLs tyOk rfl rfl rfl rfl rfl ?_
             refine AList.cmpT rfl rfl rfl rfl rfl cmT ?_
             refine AList.nil ?_)
          | (refine AWp.draw (id := 6) mixed ?_
             refine AList.loadA tyOk rfl rfl rfl rfl rfl rfl rfl oM oM ?_
             refine AList.loadA tyOk rfl rfl rfl rfl rfl rfl rfl oM oM ?_
             refine AList.move rfl rfl rfl ?_
             refine AList.move rfl rfl rfl ?_
             refine AList.idx (k := k) tyOk rfl rfl rfl rfl rfl rfl rfl rfl (by first | rfl | omega) oM oM ?_
             refine AList.fieldPl tyOk rfl rfl rfl rfl rfl rfl rfl ?_
             refine AList.load1l tyOk rfl rfl rfl rfl rfl oM ?_
             refine AList.move rfl rfl rfl ?_
             refine AList.move rfl rfl rfl ?_
             refine AList.idx (k := k) tyOk rfl rfl rfl rfl rfl rfl rfl rfl (by first | rfl | omega) oM oM ?_
             refine AList.fieldPl tyOk rfl rfl rfl rfl rfl rfl rfl ?_
             refine AList.load1l tyOk rfl rfl rfl rfl rfl oM ?_
             refine AList.call rfl rfl rfl rfl Try.func37 rfl (by kernel_rfl) (hF) ?_
             refine AList.move rfl rfl rfl ?_
             refine AList.extract rfl rfl rfl rfl ?_
             refine AList.extract rfl rfl rfl rfl ?_
             refine AList.extract rfl rfl rfl rfl ?_
             refine AList.assign rfl rfl rfl ?_
             refine AList.assign rfl rfl rfl ?_
             refine AList.assign rfl rfl rfl ?_
             refine AList.nil ⟨by kernel_rfl, ?_⟩)
          | (refine AWp.region (id := 7) ?_
             refine AList.move rfl rfl rfl ?_
             refine AList.move rfl rfl rfl ?_
             refine AList.move rfl rfl rfl ?_
             refine AList.fieldPt tyOk rfl rfl rfl rfl rfl rfl rfl ?_
             refine AList.load1 tyOk rfl rfl rfl rfl rfl rfl rfl oM oM ?_
             refine AList.cmpT rfl rfl rfl rfl rfl cmT ?_
             refine AList.pickT rfl rfl rfl rfl ?_
             refine AList.move rfl rfl rfl ?_
             refine AList.move rfl rfl rfl ?_
             refine AList.fieldPt tyOk rfl rfl rfl rfl rfl rfl rfl ?_
             refine AList.load1 tyOk rfl rfl rfl rfl rfl rfl rfl oM oM ?_
             refine AList.cmpT rfl rfl rfl rfl rfl cmT ?_
             refine AList.pickT rfl rfl rfl rfl ?_
             refine AList.nil ?_)
          | (refine AWp.draw (id := 8) mixed ?_
             refine AList.move rfl rfl rfl ?_
             refine AList.move rfl rfl rfl ?_
             refine AList.idx (k := k) tyOk rfl rfl rfl rfl rfl rfl rfl rfl (by first | rfl | omega) oM oM ?_
             refine AList.fieldPl tyOk rfl rfl rfl rfl rfl rfl rfl ?_
             refine AList.load1l tyOk rfl rfl rfl rfl rfl oM ?_
             refine AList.move rfl rfl rfl ?_
             refine AList.move rfl rfl rfl ?_
             refine AList.idx (k := k) tyOk rfl rfl rfl rfl rfl rfl rfl rfl (by first | rfl | omega) oM oM ?_
             refine AList.fieldPl tyOk rfl rfl rfl rfl rfl rfl rfl ?_
             refine AList.load1l tyOk rfl rfl rfl rfl rfl oM ?_
             refine AList.move rfl rfl rfl ?_
             refine AList.move rfl rfl rfl ?_
             refine AList.buildSt tyOk rfl rfl rfl rfl rfl rfl rfl rfl ?_
             refine AList.store tyOk rfl rfl rfl rfl rfl rfl rfl rfl oM oM ?_
             refine AList.assign rfl rfl rfl ?_
             refine AList.nil ⟨by kernel_rfl, ?_⟩))
        refine ⟨mkSt 68 [(6, .c (.pt 6 4 0 0)), (7, .c (bC true))] [(6, ⟨false, 1, 4, 52, lF (mcC ⟨((exL x b y).getD k mvZ).1, ((exL x b y).getD k mvZ).2, fitN x b ((exL x b y).getD k mvZ).1 ((exL x b y).getD k mvZ).2 0 1, fitN x b ((exL x b y).getD k mvZ).1 ((exL x b y).getD k mvZ).2 1 0⟩)⟩)] [6], [(6, ⟨false, 1, 4, 52, lF (mcC ⟨((exL x b y).getD k mvZ).1, ((exL x b y).getD k mvZ).2, fitN x b ((exL x b y).getD k mvZ).1 ((exL x b y).getD k mvZ).2 0 1, fitN x b ((exL x b y).getD k mvZ).1 ((exL x b y).getD k mvZ).2 1 0⟩)⟩)], Wk.mk [(6, some 6)] rfl rfl rfl ?_ ?_, rfl, rfl, ARets.two (x := .ag _) (y := .c _) (ARes.box tyOk rfl rfl rfl rfl rfl rfl rfl) (ARes.tmp rfl rfl)⟩
        · repeat (first | exact trivial | refine ⟨⟨_, rfl, by first | exact LeA.c (LeC.refl _ rfl) | exact LeA.c (LeC.ow _ _ rfl) | exact LeA.c (LeC.pt _ _ _ _ _ rfl) | exact LeA.c (LeC.nil _ rfl) | exact LeA.c (LeC.nils _ _) | (refine LeA.int ?_; omega) | (refine LeA.int ?_; dsimp only; omega) | exact LeA.c (LeC.fz rfl rfl (by first | rfl | omega) (fun i _ j _ => ⟨rfl, by first | rfl | exact rowN_imm (fun _ => rfl) _ i j | exact rowF_imm (fun _ => rfl) _ i j⟩))⟩, ?_⟩)
        · repeat (first | exact trivial | refine ⟨by first | exact HeapOk.same rfl rfl rfl rfl | exact HeapOk.lent rfl rfl rfl rfl | exact HeapOk.nil rfl rfl | exact HeapOk.row rfl rfl (by first | rfl | omega) (fun i _ j _ => ⟨rfl, by first | rfl | exact rowN_imm (fun _ => rfl) _ i j | exact rowF_imm (fun _ => rfl) _ i j⟩) | exact HeapOk.box rfl rfl (by repeat (first | exact trivial | refine ⟨by first | exact LeC.refl _ rfl | exact LeC.ow _ _ rfl | exact LeC.nil _ rfl | exact LeC.nils _ _ | exact LeC.fz rfl rfl (by first | rfl | omega) (fun i _ j _ => ⟨rfl, by first | rfl | exact rowN_imm (fun _ => rfl) _ i j | exact rowF_imm (fun _ => rfl) _ i j⟩) | exact LeC.int (by omega), ?_⟩)) rfl, ?_⟩)
      · have hb' : exB x b (lim4 y) ((exL x b y).getD k mvZ) = false := by cases h : exB x b (lim4 y) ((exL x b y).getD k mvZ); rfl; exact absurd h hb
        have hnext : ∀ i, i < k + 1 → exB x b (lim4 y) ((exL x b y).getD i mvZ) = false := fun i hi => by
          by_cases e : i = k
          · subst e; exact hb'
          · exact hno i (by omega)
        have hcs : ¬ fitOk x b ((exL x b y).getD k mvZ).1 ((exL x b y).getD k mvZ).2 ∨ (fitOk x b ((exL x b y).getD k mvZ).1 ((exL x b y).getD k mvZ).2 ∧ ¬ fitN x b ((exL x b y).getD k mvZ).1 ((exL x b y).getD k mvZ).2 0 1 ≤ (lim4 y).lo) ∨ (fitOk x b ((exL x b y).getD k mvZ).1 ((exL x b y).getD k mvZ).2 ∧ fitN x b ((exL x b y).getD k mvZ).1 ((exL x b y).getD k mvZ).2 0 1 ≤ (lim4 y).lo ∧ ¬ fitN x b ((exL x b y).getD k mvZ).1 ((exL x b y).getD k mvZ).2 1 0 ≤ (lim4 y).bl) := by
          have := of_decide_eq_false hb'
          by_cases q1 : fitOk x b ((exL x b y).getD k mvZ).1 ((exL x b y).getD k mvZ).2
          · by_cases q2 : fitN x b ((exL x b y).getD k mvZ).1 ((exL x b y).getD k mvZ).2 0 1 ≤ (lim4 y).lo
            · exact .inr (.inr ⟨q1, q2, fun q3 => this ⟨q1, q2, q3⟩⟩)
            · exact .inr (.inl ⟨q1, q2⟩)
          · exact .inl q1
        rcases hcs with g1 | ⟨g1, g2⟩ | ⟨g1, g2, g3⟩
        · rw [fitV, decide_eq_false g1] at hF
          repeat (first
            | refine AWp.seq ?_
            | refine thenA_n ?_
            | refine AWp.block ?_
            | refine AWp.skip ?_
            | refine inBlk_n ?_
            | refine AWp.condT rfl (by first | rfl | assumption | exact cmT) ?_
            | refine AWp.condF rfl (by first | rfl | assumption | exact cmF) ?_
            | (refine AWp.region (id := 4) ?_
               refine AList.move rfl rfl rfl ?_
               refine AList.move rfl rfl rfl ?_
               refine AList.lenLs tyOk rfl rfl rfl rfl rfl ?_
               refine AList.cmpT rfl rfl rfl rfl rfl cmT ?_
               refine AList.nil ?_)
            | (refine AWp.region (id := 5) ?_
               refine AList.move rfl rfl rfl ?_
               refine AList.add rfl rfl rfl rfl (by omega) (by omega) ?_
               refine AList.assign rfl rfl rfl ?_
               refine AList.nil ?_)
            | (refine AWp.draw (id := 6) mixed ?_
               refine AList.loadA tyOk rfl rfl rfl rfl rfl rfl rfl oM oM ?_
               refine AList.loadA tyOk rfl rfl rfl rfl rfl rfl rfl oM oM ?_
               refine AList.move rfl rfl rfl ?_
               refine AList.move rfl rfl rfl ?_
               refine AList.idx (k := k) tyOk rfl rfl rfl rfl rfl rfl rfl rfl (by first | rfl | omega) oM oM ?_
               refine AList.fieldPl tyOk rfl rfl rfl rfl rfl rfl rfl ?_
               refine AList.load1l tyOk rfl rfl rfl rfl rfl oM ?_
               refine AList.move rfl rfl rfl ?_
               refine AList.move rfl rfl rfl ?_
               refine AList.idx (k := k) tyOk rfl rfl rfl rfl rfl rfl rfl rfl (by first | rfl | omega) oM oM ?_
               refine AList.fieldPl tyOk rfl rfl rfl rfl rfl rfl rfl ?_
               refine AList.load1l tyOk rfl rfl rfl rfl rfl oM ?_
               refine AList.call rfl rfl rfl rfl Try.func37 rfl (by kernel_rfl) (hF) ?_
               refine AList.move rfl rfl rfl ?_
               refine AList.extract rfl rfl rfl rfl ?_
               refine AList.extract rfl rfl rfl rfl ?_
               refine AList.extract rfl rfl rfl rfl ?_
               refine AList.assign rfl rfl rfl ?_
               refine AList.assign rfl rfl rfl ?_
               refine AList.assign rfl rfl rfl ?_
               refine AList.nil ⟨by kernel_rfl, ?_⟩)
            | (refine AWp.region (id := 7) ?_
               refine AList.move rfl rfl rfl ?_
               refine AList.move rfl rfl rfl ?_
               refine AList.skip rfl rfl ?_
               refine AList.skip rfl rfl ?_
               refine AList.skip rfl rfl ?_
               refine AList.skip rfl rfl ?_
               refine AList.pickF rfl rfl rfl rfl ?_
               refine AList.move rfl rfl rfl ?_
               refine AList.skip rfl rfl ?_
               refine AList.skip rfl rfl ?_
               refine AList.skip rfl rfl ?_
               refine AList.skip rfl rfl ?_
               refine AList.pickF rfl rfl rfl rfl ?_
               refine AList.nil ?_))
          refine ⟨k + 1, ⟨by omega, hnext⟩, Wk.mk [(3, some 3), (4, some 4), (5, some 5), (6, some 6)] rfl rfl rfl ?_ ?_, by omega⟩
          · repeat (first | exact trivial | refine ⟨⟨_, rfl, by first | exact LeA.c (LeC.refl _ rfl) | exact LeA.c (LeC.ow _ _ rfl) | exact LeA.c (LeC.pt _ _ _ _ _ rfl) | exact LeA.c (LeC.nil _ rfl) | exact LeA.c (LeC.nils _ _) | (refine LeA.int ?_; omega) | (refine LeA.int ?_; dsimp only; omega) | exact LeA.c (LeC.fz rfl rfl (by first | rfl | omega) (fun i _ j _ => ⟨rfl, by first | rfl | exact rowN_imm (fun _ => rfl) _ i j | exact rowF_imm (fun _ => rfl) _ i j⟩))⟩, ?_⟩)
          · repeat (first | exact trivial | refine ⟨by first | exact HeapOk.same rfl rfl rfl rfl | exact HeapOk.lent rfl rfl rfl rfl | exact HeapOk.nil rfl rfl | exact HeapOk.row rfl rfl (by first | rfl | omega) (fun i _ j _ => ⟨rfl, by first | rfl | exact rowN_imm (fun _ => rfl) _ i j | exact rowF_imm (fun _ => rfl) _ i j⟩) | exact HeapOk.box rfl rfl (by repeat (first | exact trivial | refine ⟨by first | exact LeC.refl _ rfl | exact LeC.ow _ _ rfl | exact LeC.nil _ rfl | exact LeC.nils _ _ | exact LeC.fz rfl rfl (by first | rfl | omega) (fun i _ j _ => ⟨rfl, by first | rfl | exact rowN_imm (fun _ => rfl) _ i j | exact rowF_imm (fun _ => rfl) _ i j⟩) | exact LeC.int (by omega), ?_⟩)) rfl, ?_⟩)
        all_goals
          rw [fitV, decide_eq_true g1] at hF
          repeat (first
            | refine AWp.seq ?_
            | refine thenA_n ?_
            | refine AWp.block ?_
            | refine AWp.skip ?_
            | refine inBlk_n ?_
            | refine AWp.condT rfl (by first | rfl | assumption | exact cmT) ?_
            | refine AWp.condF rfl (by first | rfl | assumption | exact cmF) ?_
            | (refine AWp.region (id := 4) ?_
               refine AList.move rfl rfl rfl ?_
               refine AList.move rfl rfl rfl ?_
               refine AList.lenLs tyOk rfl rfl rfl rfl rfl ?_
               refine AList.cmpT rfl rfl rfl rfl rfl cmT ?_
               refine AList.nil ?_)
            | (refine AWp.region (id := 5) ?_
               refine AList.move rfl rfl rfl ?_
               refine AList.add rfl rfl rfl rfl (by omega) (by omega) ?_
               refine AList.assign rfl rfl rfl ?_
               refine AList.nil ?_)
            | (refine AWp.draw (id := 6) mixed ?_
               refine AList.loadA tyOk rfl rfl rfl rfl rfl rfl rfl oM oM ?_
               refine AList.loadA tyOk rfl rfl rfl rfl rfl rfl rfl oM oM ?_
               refine AList.move rfl rfl rfl ?_
               refine AList.move rfl rfl rfl ?_
               refine AList.idx (k := k) tyOk rfl rfl rfl rfl rfl rfl rfl rfl (by first | rfl | omega) oM oM ?_
               refine AList.fieldPl tyOk rfl rfl rfl rfl rfl rfl rfl ?_
               refine AList.load1l tyOk rfl rfl rfl rfl rfl oM ?_
               refine AList.move rfl rfl rfl ?_
               refine AList.move rfl rfl rfl ?_
               refine AList.idx (k := k) tyOk rfl rfl rfl rfl rfl rfl rfl rfl (by first | rfl | omega) oM oM ?_
               refine AList.fieldPl tyOk rfl rfl rfl rfl rfl rfl rfl ?_
               refine AList.load1l tyOk rfl rfl rfl rfl rfl oM ?_
               refine AList.call rfl rfl rfl rfl Try.func37 rfl (by kernel_rfl) (hF) ?_
               refine AList.move rfl rfl rfl ?_
               refine AList.extract rfl rfl rfl rfl ?_
               refine AList.extract rfl rfl rfl rfl ?_
               refine AList.extract rfl rfl rfl rfl ?_
               refine AList.assign rfl rfl rfl ?_
               refine AList.assign rfl rfl rfl ?_
               refine AList.assign rfl rfl rfl ?_
               refine AList.nil ⟨by kernel_rfl, ?_⟩)
            | (refine AWp.region (id := 7) ?_
               refine AList.move rfl rfl rfl ?_
               refine AList.move rfl rfl rfl ?_
               refine AList.move rfl rfl rfl ?_
               refine AList.fieldPt tyOk rfl rfl rfl rfl rfl rfl rfl ?_
               refine AList.load1 tyOk rfl rfl rfl rfl rfl rfl rfl oM oM ?_
               first | refine AList.cmpT rfl rfl rfl rfl rfl cmT ?_ | refine AList.cmpF rfl rfl rfl rfl rfl cmF ?_
               refine AList.pickT rfl rfl rfl rfl ?_
               refine AList.move rfl rfl rfl ?_
               first | refine AList.skip rfl rfl ?_ | refine AList.move rfl rfl rfl ?_
               first | refine AList.skip rfl rfl ?_ | refine AList.fieldPt tyOk rfl rfl rfl rfl rfl rfl rfl ?_
               first | refine AList.skip rfl rfl ?_ | refine AList.load1 tyOk rfl rfl rfl rfl rfl rfl rfl oM oM ?_
               first | refine AList.skip rfl rfl ?_ | refine AList.cmpF rfl rfl rfl rfl rfl cmF ?_
               first | refine AList.pickT rfl rfl rfl rfl ?_ | refine AList.pickF rfl rfl rfl rfl ?_
               refine AList.nil ?_))
          refine ⟨k + 1, ⟨by omega, hnext⟩, Wk.mk [(3, some 3), (4, some 4), (5, some 5), (6, some 6)] rfl rfl rfl ?_ ?_, by omega⟩
          · repeat (first | exact trivial | refine ⟨⟨_, rfl, by first | exact LeA.c (LeC.refl _ rfl) | exact LeA.c (LeC.ow _ _ rfl) | exact LeA.c (LeC.pt _ _ _ _ _ rfl) | exact LeA.c (LeC.nil _ rfl) | exact LeA.c (LeC.nils _ _) | (refine LeA.int ?_; omega) | (refine LeA.int ?_; dsimp only; omega) | exact LeA.c (LeC.fz rfl rfl (by first | rfl | omega) (fun i _ j _ => ⟨rfl, by first | rfl | exact rowN_imm (fun _ => rfl) _ i j | exact rowF_imm (fun _ => rfl) _ i j⟩))⟩, ?_⟩)
          · repeat (first | exact trivial | refine ⟨by first | exact HeapOk.same rfl rfl rfl rfl | exact HeapOk.lent rfl rfl rfl rfl | exact HeapOk.nil rfl rfl | exact HeapOk.row rfl rfl (by first | rfl | omega) (fun i _ j _ => ⟨rfl, by first | rfl | exact rowN_imm (fun _ => rfl) _ i j | exact rowF_imm (fun _ => rfl) _ i j⟩) | exact HeapOk.box rfl rfl (by repeat (first | exact trivial | refine ⟨by first | exact LeC.refl _ rfl | exact LeC.ow _ _ rfl | exact LeC.nil _ rfl | exact LeC.nils _ _ | exact LeC.fz rfl rfl (by first | rfl | omega) (fun i _ j _ => ⟨rfl, by first | rfl | exact rowN_imm (fun _ => rfl) _ i j | exact rowF_imm (fun _ => rfl) _ i j⟩) | exact LeC.int (by omega), ?_⟩)) rfl, ?_⟩)
    · obtain rfl : k = (exL x b y).length := by omega
      rw [exV_miss hno]
      repeat (first
        | refine AWp.seq ?_
        | refine thenA_n ?_
        | refine AWp.exit ?_
        | refine AWp.ret ?_
        | refine AWp.condF rfl (by first | rfl | assumption | exact cmF) ?_
        | (refine AWp.region (id := 4) ?_
           refine AList.move rfl rfl rfl ?_
           refine AList.move rfl rfl rfl ?_
           refine AList.lenLs tyOk rfl rfl rfl rfl rfl ?_
           refine AList.cmpF rfl rfl rfl rfl rfl cmF ?_
           refine AList.nil ?_)
        | (refine AWp.region (id := 9) ?_
           refine AList.buildSt tyOk rfl rfl rfl rfl rfl rfl rfl rfl ?_
           refine AList.store tyOk rfl rfl rfl rfl rfl rfl rfl rfl oM oM ?_
           refine AList.assign rfl rfl rfl ?_
           refine AList.nil ?_))
      refine ⟨mkSt 68 [(6, .c (.pt 6 4 0 0)), (7, .c (bC false))] [(6, ⟨false, 1, 4, 52, lF [iC 0, iC 0, iC 0, iC 0]⟩)] [6], [(6, ⟨false, 1, 4, 52, lF [iC 0, iC 0, iC 0, iC 0]⟩)], Wk.mk [(6, some 6)] rfl rfl rfl ?_ ?_, rfl, rfl, ARets.two (x := .ag _) (y := .c _) (ARes.box tyOk rfl rfl rfl rfl rfl rfl rfl) (ARes.tmp rfl rfl)⟩
      · repeat (first | exact trivial | refine ⟨⟨_, rfl, by first | exact LeA.c (LeC.refl _ rfl) | exact LeA.c (LeC.ow _ _ rfl) | exact LeA.c (LeC.pt _ _ _ _ _ rfl) | exact LeA.c (LeC.nil _ rfl) | exact LeA.c (LeC.nils _ _) | (refine LeA.int ?_; omega) | (refine LeA.int ?_; dsimp only; omega) | exact LeA.c (LeC.fz rfl rfl (by first | rfl | omega) (fun i _ j _ => ⟨rfl, by first | rfl | exact rowN_imm (fun _ => rfl) _ i j | exact rowF_imm (fun _ => rfl) _ i j⟩))⟩, ?_⟩)
      · repeat (first | exact trivial | refine ⟨by first | exact HeapOk.same rfl rfl rfl rfl | exact HeapOk.lent rfl rfl rfl rfl | exact HeapOk.nil rfl rfl | exact HeapOk.row rfl rfl (by first | rfl | omega) (fun i _ j _ => ⟨rfl, by first | rfl | exact rowN_imm (fun _ => rfl) _ i j | exact rowF_imm (fun _ => rfl) _ i j⟩) | exact HeapOk.box rfl rfl (by repeat (first | exact trivial | refine ⟨by first | exact LeC.refl _ rfl | exact LeC.ow _ _ rfl | exact LeC.nil _ rfl | exact LeC.nils _ _ | exact LeC.fz rfl rfl (by first | rfl | omega) (fun i _ j _ => ⟨rfl, by first | rfl | exact rowN_imm (fun _ => rfl) _ i j | exact rowF_imm (fun _ => rfl) _ i j⟩) | exact LeC.int (by omega), ?_⟩)) rfl, ?_⟩)
end Go.Proofs.Ytclaanggpcjnbaa
end
