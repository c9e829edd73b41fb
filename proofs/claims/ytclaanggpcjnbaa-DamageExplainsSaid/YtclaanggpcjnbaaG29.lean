/- Parts of the proof: A23q, A23s. -/
import Derived.Test.YtclaanggpcjnbaaG26
import Derived.Test.YtclaanggpcjnbaaG28
set_option linter.unusedSimpArgs false
set_option linter.unusedVariables false
section
/- Chapter 23 over plain values: the program's shifts, an iterator. -/
namespace Go.Proofs.Ytclaanggpcjnbaa
open Go.RowKit Go.Flow Go.AV Go.Plain
/-- The iterator's own order: what comes of one dy, of one sum. -/
def pJ (m s k : Nat) : List (Int × Int) := (List.range k).flatMap fun (j : Nat) =>
  let dy : Int := (j : Int) - min (s : Int) m
  let dx : Int := (s : Int) - max dy (-dy)
  if dx > m then [] else if dx > 0 then [(-dx, dy), (dx, dy)] else [(-dx, dy)]
def pS (m k : Nat) : List (Int × Int) := (List.range k).flatMap fun s => pJ m s (2 * min s m + 1)
def pN (m s j : Nat) : Nat := (pS m s).length + (pJ m s j).length
abbrev pdy (m s j : Nat) : Int := (j : Int) - min (s : Int) m
abbrev pdx (m s j : Nat) : Int := (s : Int) - max (pdy m s j) (-pdy m s j)
def pOk (m s j : Nat) : Bool :=
  if pdx m s j > m then decide (pN m s (j + 1) = pN m s j) else
    decide (pN m s j < (shL m).length ∧ (shL m).getD (pN m s j) mvZ = (-pdx m s j, pdy m s j)) && if pdx m s j > 0 then decide (pN m s j + 1 < (shL m).length ∧ (shL m).getD (pN m s j + 1) mvZ = (pdx m s j, pdy m s j) ∧ pN m s (j + 1) = pN m s j + 2) else decide (pN m s (j + 1) = pN m s j + 1)
def pAll : Bool := (List.range 3).all fun m => (List.range (2 * m + 1)).all fun s => decide (pN m s (2 * min s m + 1) = pN m (s + 1) 0) && (List.range (2 * min s m + 1)).all fun j => pOk m s j
set_option maxRecDepth 100000 in
theorem pAll_ok : pAll = true := by decide +kernel
theorem p_facts (m : Nat) (hm : m < 3) (s : Nat) (hs : s < 2 * m + 1) : pN m s (2 * min s m + 1) = pN m (s + 1) 0 ∧ ∀ j, j < 2 * min s m + 1 →
    (pdx m s j > m → pN m s (j + 1) = pN m s j) ∧
    (pdx m s j ≤ m → pN m s j < (shL m).length ∧ (shL m).getD (pN m s j) mvZ = (-pdx m s j, pdy m s j) ∧ (¬ pdx m s j > 0 → pN m s (j + 1) = pN m s j + 1) ∧
      (pdx m s j > 0 → pN m s j + 1 < (shL m).length ∧ (shL m).getD (pN m s j + 1) mvZ = (pdx m s j, pdy m s j) ∧ pN m s (j + 1) = pN m s j + 2)) := by
  have h := pAll_ok
  unfold pAll at h
  have h1 := List.all_eq_true.1 (List.all_eq_true.1 h m (List.mem_range.2 hm)) s (List.mem_range.2 hs)
  rw [Bool.and_eq_true] at h1
  refine ⟨of_decide_eq_true h1.1, fun j hj => ?_⟩
  have h2 := List.all_eq_true.1 h1.2 j (List.mem_range.2 hj)
  unfold pOk at h2
  by_cases hd : pdx m s j > m
  · rw [if_pos hd] at h2
    exact ⟨fun _ => of_decide_eq_true h2, fun h => by omega⟩
  · rw [if_neg hd, Bool.and_eq_true] at h2
    obtain ⟨q1, q2⟩ := of_decide_eq_true h2.1
    refine ⟨fun h => absurd h hd, fun _ => ⟨q1, q2, fun h0 => ?_, fun h0 => ?_⟩⟩
    · have h3 := h2.2
      rw [if_neg h0] at h3
      exact of_decide_eq_true h3
    · have h3 := h2.2
      rw [if_pos h0] at h3
      exact of_decide_eq_true h3
theorem p_end (m : Nat) (hm : m < 3) : pN m (2 * m + 1) 0 = (shL m).length ∧ pN m 0 0 = 0 := by
  obtain rfl | rfl | rfl : m = 0 ∨ m = 1 ∨ m = 2 := by omega
  all_goals decide +kernel
def shX (m i : Nat) : List Value := [.int .i64 ((shL m).getD i mvZ).1, .int .i64 ((shL m).getD i mvZ).2]
theorem goes_false {N i : Nat} {stop : Bool} (h : goesB N stop i = false) : stop = true ∧ i + 1 = N := by
  unfold goesB at h
  rw [Bool.not_eq_false', Bool.and_eq_true] at h
  exact ⟨h.1, Nat.eq_of_beq_eq_true h.2⟩
theorem goes_true {N i : Nat} {stop : Bool} (h : goesB N stop i = true) : stop = true → i + 1 ≠ N := fun hs e => by
  unfold goesB at h
  rw [hs, e, show Nat.beq N N = true from Nat.beq_refl N] at h
  cases h
abbrev plI (i : Int) : CV := .pl 1 1 (fun _ _ => iC i) 0 0
/-- shifts: the function value. -/
theorem shifts_A (m : Int) : ACalls Try.prog 36 [.c (iC m)] (.c (.fn 54 1 fun i => [plI m].getD i .any)) := by
  refine acalls_at Try.func36 rfl rfl Try.ntmps36 rfl ?_
  repeat (first
    | refine AWp.seq ?_
    | refine thenA_n ?_
    | refine AWp.ret ?_
    | (refine AWp.region (id := 0) ?_
       refine AList.box rfl rfl rfl rfl rfl ?_
       refine AList.assign rfl rfl rfl ?_
       refine AList.nil ?_)
    | (refine AWp.region (id := 1) ?_
       refine AList.makeFn rfl rfl rfl rfl rfl ?_
       refine AList.assign rfl rfl rfl ?_
       refine AList.nil ?_))
  refine ⟨mkSt 4 [(2, .c (.fn 54 1 fun i => [plI m].getD i .any))] [] [], [], Wk.mk [] rfl rfl rfl ⟨⟨_, rfl, .c (LeC.fn _ _ _ _ (fun i hi => ?_) (fun i hi => ?_))⟩, trivial⟩ trivial, rfl, rfl, ARets.one (x := .c _) (ARes.fn rfl fun i hi => ?_)⟩
  all_goals
    have hi1 : i < 1 := hi
    obtain rfl : i = 0 := by omega
  · exact ⟨trivial, trivial⟩
  · refine LeC.frzP 1 1 1 0 0 false 3 (lF [iC m]) _ rfl (by omega) (fun k _ j hj => ?_) (fun k _ j hj => ?_) (fun _ h => by cases h) (by omega)
    · obtain rfl : j = 0 := by omega
      rfl
    · obtain rfl : j = 0 := by omega
      rfl
  · rfl
set_option maxHeartbeats 1000000 in
set_option maxRecDepth 100000 in
theorem shiftsIt_A (m : Nat) (hm : m ≤ 2) : ItCalls Try.prog 54 [.c (plI m)] (shX m) (shL m).length := by
  refine itcalls_of Try.func54 rfl rfl Try.ntmps54 rfl fun l N stop hN1 hN2 => ?_
  have hF := p_facts m (by omega)
  obtain ⟨hE, h0⟩ := p_end m (by omega)
  repeat (first
    | refine AWp.seq ?_
    | refine thenA_n ?_
    | refine AWp.block ?_
    | (refine AWp.region (id := 0) ?_
       refine AList.load1l tyOk rfl rfl rfl rfl rfl oM ?_
       refine AList.mul rfl rfl rfl rfl (by omega) (by omega) ?_
       refine AList.add rfl rfl rfl rfl (by omega) (by omega) ?_
       refine AList.move rfl rfl rfl ?_
       refine AList.nil ?_))
  refine AWp.round (fun s : Nat => mkG (itG Try.prog l (shX m) N stop) (pN m s 0) false 50 0 [(0, .c (.p (yv l))), (1, .c (plI m)), (8, .c (iC (2 * (m : Int) + 1))), (9, .c (iC s))] [] [])
    (fun s => s ≤ 2 * m + 1 ∧ (stop = true → pN m s 0 < N)) (fun s => 2 * m + 1 - s) 0 ⟨Nat.zero_le _, fun h => by rw [h0]; exact (hN1 h).1⟩ ?_ (fun s hs => ?_)
  · refine Wk.mkG [] rfl rfl rfl rfl rfl ?_ trivial h0.symm
    repeat (first | exact trivial | refine ⟨⟨_, rfl, by first | exact LeA.c (LeC.refl _ rfl) | exact LeA.c (LeC.ow _ _ rfl) | exact LeA.c (LeC.pt _ _ _ _ _ rfl) | exact LeA.c (LeC.nil _ rfl) | exact LeA.c (LeC.nils _ _) | (refine LeA.int ?_; omega) | (refine LeA.int ?_; dsimp only; omega) | exact LeA.c (LeC.fz rfl rfl (by first | rfl | omega) (fun i _ j _ => ⟨rfl, by first | rfl | exact rowN_imm (fun _ => rfl) _ i j | exact rowF_imm (fun _ => rfl) _ i j⟩))⟩, ?_⟩)
  · obtain ⟨hs, hg⟩ := hs
    by_cases hlt : s < 2 * m + 1
    · obtain ⟨hF1, hF2⟩ := hF s hlt
      repeat (first
        | refine AWp.seq ?_
        | refine thenA_n ?_
        | refine AWp.block ?_
        | refine AWp.skip ?_
        | refine AWp.condT rfl (by first | rfl | assumption | exact cmT) ?_
        | (refine AWp.region (id := 1) ?_
           refine AList.cmpT rfl rfl rfl rfl rfl cmT ?_
           refine AList.nil ?_)
        | (refine AWp.region (id := 2) ?_
           refine AList.move rfl rfl rfl ?_
           refine AList.assign rfl rfl rfl ?_
           refine AList.nil ?_)
        | (refine AWp.region (id := 3) ?_
           refine AList.move rfl rfl rfl ?_
           refine AList.load1l tyOk rfl rfl rfl rfl rfl oM ?_
           refine AList.minI rfl rfl rfl rfl ?_
           refine AList.neg rfl rfl rfl (by omega) (by omega) ?_
           refine AList.assign rfl rfl rfl ?_
           refine AList.nil ?_))
      refine AWp.round (fun j : Nat => mkG (itG Try.prog l (shX m) N stop) (pN m s j) false 50 0 [(0, .c (.p (yv l))), (1, .c (plI m)), (3, .c (iC s)), (4, .c (iC ((j : Int) - min (s : Int) m))), (8, .c (iC (2 * (m : Int) + 1))), (9, .c (iC s))] [] [])
        (fun j => j ≤ 2 * min s m + 1 ∧ (stop = true → pN m s j < N)) (fun j => 2 * min s m + 1 - j) 0 ⟨Nat.zero_le _, hg⟩ ?_ (fun j hj => ?_)
      · refine Wk.mkG [] rfl rfl rfl rfl rfl ?_ trivial
        repeat (first | exact trivial | refine ⟨⟨_, rfl, by first | exact LeA.c (LeC.refl _ rfl) | exact LeA.c (LeC.ow _ _ rfl) | exact LeA.c (LeC.pt _ _ _ _ _ rfl) | exact LeA.c (LeC.nil _ rfl) | exact LeA.c (LeC.nils _ _) | (refine LeA.int ?_; omega) | (refine LeA.int ?_; dsimp only; omega) | exact LeA.c (LeC.fz rfl rfl (by first | rfl | omega) (fun i _ j _ => ⟨rfl, by first | rfl | exact rowN_imm (fun _ => rfl) _ i j | exact rowF_imm (fun _ => rfl) _ i j⟩))⟩, ?_⟩)
      · obtain ⟨hj, hgj⟩ := hj
        by_cases hltj : j < 2 * min s m + 1
        · obtain ⟨hA, hB⟩ := hF2 j hltj
          simp only [pdx, pdy] at hA hB
          by_cases hdx : (s : Int) - max ((j : Int) - min (s : Int) m) (-((j : Int) - min (s : Int) m)) > m
          · repeat (first
              | refine AWp.seq ?_
              | refine thenA_n ?_
              | refine AWp.block ?_
              | refine AWp.skip ?_
              | refine AWp.exit ?_
              | refine thenA_e ?_
              | refine inBlk_hit ?_
              | refine AWp.condT rfl (by first | rfl | assumption | exact cmT) ?_
              | (refine AWp.region (id := 4) ?_
                 refine AList.move rfl rfl rfl ?_
                 refine AList.move rfl rfl rfl ?_
                 refine AList.load1l tyOk rfl rfl rfl rfl rfl oM ?_
                 refine AList.minI rfl rfl rfl rfl ?_
                 refine AList.cmpT rfl rfl rfl rfl rfl cmT ?_
                 refine AList.nil ?_)
              | (refine AWp.region (id := 5) ?_
                 refine AList.move rfl rfl rfl ?_
                 refine AList.add rfl rfl rfl rfl (by omega) (by omega) ?_
                 refine AList.assign rfl rfl rfl ?_
                 refine AList.nil ?_)
              | (refine AWp.region (id := 6) ?_
                 refine AList.move rfl rfl rfl ?_
                 refine AList.move rfl rfl rfl ?_
                 refine AList.move rfl rfl rfl ?_
                 refine AList.neg rfl rfl rfl (by omega) (by omega) ?_
                 refine AList.maxI rfl rfl rfl rfl ?_
                 refine AList.sub rfl rfl rfl rfl (by omega) (by omega) ?_
                 refine AList.assign rfl rfl rfl ?_
                 refine AList.nil ?_)
              | (refine AWp.region (id := 7) ?_
                 refine AList.move rfl rfl rfl ?_
                 refine AList.load1l tyOk rfl rfl rfl rfl rfl oM ?_
                 refine AList.cmpT rfl rfl rfl rfl rfl cmT ?_
                 refine AList.nil ?_))
            refine ⟨j + 1, ⟨by omega, by rw [hA hdx]; exact hgj⟩, Wk.mkG [] rfl rfl rfl rfl rfl ?_ trivial (hA hdx).symm, by omega⟩
            repeat (first | exact trivial | refine ⟨⟨_, rfl, by first | exact LeA.c (LeC.refl _ rfl) | exact LeA.c (LeC.ow _ _ rfl) | exact LeA.c (LeC.pt _ _ _ _ _ rfl) | exact LeA.c (LeC.nil _ rfl) | exact LeA.c (LeC.nils _ _) | (refine LeA.int ?_; omega) | (refine LeA.int ?_; dsimp only; omega) | exact LeA.c (LeC.fz rfl rfl (by first | rfl | omega) (fun i _ j _ => ⟨rfl, by first | rfl | exact rowN_imm (fun _ => rfl) _ i j | exact rowF_imm (fun _ => rfl) _ i j⟩))⟩, ?_⟩)
          · obtain ⟨hB1, hB2, hB3, hB4⟩ := hB (by omega)
            have hiN : pN m s j < N := by
              cases stop with
              | true => exact hgj rfl
              | false => rw [hN2 rfl]; exact hB1
            repeat (first
              | refine AWp.seq ?_
              | refine thenA_n ?_
              | refine AWp.block ?_
              | refine AWp.skip ?_
              | refine AWp.condT rfl (by first | rfl | assumption | exact cmT) ?_
              | refine AWp.condF rfl (by first | rfl | assumption | exact cmF) ?_
              | (refine AWp.region (id := 4) ?_
                 refine AList.move rfl rfl rfl ?_
                 refine AList.move rfl rfl rfl ?_
                 refine AList.load1l tyOk rfl rfl rfl rfl rfl oM ?_
                 refine AList.minI rfl rfl rfl rfl ?_
                 refine AList.cmpT rfl rfl rfl rfl rfl cmT ?_
                 refine AList.nil ?_)
              | (refine AWp.region (id := 6) ?_
                 refine AList.move rfl rfl rfl ?_
                 refine AList.move rfl rfl rfl ?_
                 refine AList.move rfl rfl rfl ?_
                 refine AList.neg rfl rfl rfl (by omega) (by omega) ?_
                 refine AList.maxI rfl rfl rfl rfl ?_
                 refine AList.sub rfl rfl rfl rfl (by omega) (by omega) ?_
                 refine AList.assign rfl rfl rfl ?_
                 refine AList.nil ?_)
              | (refine AWp.region (id := 7) ?_
                 refine AList.move rfl rfl rfl ?_
                 refine AList.load1l tyOk rfl rfl rfl rfl rfl oM ?_
                 refine AList.cmpF rfl rfl rfl rfl rfl cmF ?_
                 refine AList.nil ?_))
            by_cases hd0 : (s : Int) - max ((j : Int) - min (s : Int) m) (-((j : Int) - min (s : Int) m)) > 0
            · obtain ⟨hC1, hC2, hC3⟩ := hB4 hd0
              cases hg1 : goesB N stop (pN m s j) with
              | false =>
                obtain ⟨hst, hN⟩ := goes_false hg1
                refine AWp.text ?_
                refine AText.split 4 ?_
                refine AList.move rfl rfl rfl ?_
                refine AList.move rfl rfl rfl ?_
                refine AList.neg rfl rfl rfl (by omega) (by omega) ?_
                refine AList.move rfl rfl rfl ?_
                refine AList.nil ?_
                refine AText.yield (i := pN m s j) false rfl rfl rfl rfl (fun _ h => h) rfl rfl (hiN) ((by unfold shX; rw [hB2])) (hg1) ?_
                refine AText.all ?_
                refine AList.notB rfl rfl rfl ?_
                refine AList.move rfl rfl rfl ?_
                refine AList.skip rfl rfl ?_
                refine AList.skip rfl rfl ?_
                refine AList.skip rfl rfl ?_
                refine AList.skip rfl rfl ?_
                refine AList.skip rfl rfl ?_
                refine AList.skip rfl rfl ?_
                refine AList.skip rfl rfl ?_
                refine AList.skip rfl rfl ?_
                refine AList.skip rfl rfl ?_
                refine AList.pickT rfl rfl rfl rfl ?_
                refine AList.nil ?_
                repeat (first
                  | refine thenA_n ?_
                  | refine AWp.ret ?_
                  | refine thenA_r ?_
                  | refine inBlk_r ?_
                  | refine AWp.condT rfl (by first | rfl | assumption | exact cmT) ?_)
                exact ⟨hN, hst.symm⟩
              | true =>
                have hi2 : pN m s j + 1 < N := by
                  cases stop with
                  | true => have := goes_true hg1 rfl; omega
                  | false => rw [hN2 rfl]; exact hC1
                cases hg2 : goesB N stop (pN m s j + 1) with
                | false =>
                  obtain ⟨hst, hN⟩ := goes_false hg2
                  refine AWp.text ?_
                  refine AText.split 4 ?_
                  refine AList.move rfl rfl rfl ?_
                  refine AList.move rfl rfl rfl ?_
                  refine AList.neg rfl rfl rfl (by omega) (by omega) ?_
                  refine AList.move rfl rfl rfl ?_
                  refine AList.nil ?_
                  refine AText.yield (i := pN m s j) true rfl rfl rfl rfl (fun _ h => h) rfl rfl (hiN) ((by unfold shX; rw [hB2])) (hg1) ?_
                  refine AText.split 8 ?_
                  refine AList.notB rfl rfl rfl ?_
                  refine AList.move rfl rfl rfl ?_
                  refine AList.move rfl rfl rfl ?_
                  refine AList.cmpT rfl rfl rfl rfl rfl cmT ?_
                  refine AList.move rfl rfl rfl ?_
                  refine AList.move rfl rfl rfl ?_
                  refine AList.move rfl rfl rfl ?_
                  refine AList.move rfl rfl rfl ?_
                  refine AList.nil ?_
                  refine AText.yield (i := pN m s j + 1) false rfl rfl rfl rfl (fun _ h => h) rfl rfl (hi2) ((by unfold shX; rw [hC2])) (hg2) ?_
                  refine AText.all ?_
                  refine AList.notB rfl rfl rfl ?_
                  refine AList.pickT rfl rfl rfl rfl ?_
                  refine AList.pickF rfl rfl rfl rfl ?_
                  refine AList.nil ?_
                  repeat (first
                    | refine thenA_n ?_
                    | refine AWp.ret ?_
                    | refine thenA_r ?_
                    | refine inBlk_r ?_
                    | refine AWp.condT rfl (by first | rfl | assumption | exact cmT) ?_)
                  exact ⟨hN, hst.symm⟩
                | true =>
                  refine AWp.text ?_
                  refine AText.split 4 ?_
                  refine AList.move rfl rfl rfl ?_
                  refine AList.move rfl rfl rfl ?_
                  refine AList.neg rfl rfl rfl (by omega) (by omega) ?_
                  refine AList.move rfl rfl rfl ?_
                  refine AList.nil ?_
                  refine AText.yield (i := pN m s j) true rfl rfl rfl rfl (fun _ h => h) rfl rfl (hiN) ((by unfold shX; rw [hB2])) (hg1) ?_
                  refine AText.split 8 ?_
                  refine AList.notB rfl rfl rfl ?_
                  refine AList.move rfl rfl rfl ?_
                  refine AList.move rfl rfl rfl ?_
                  refine AList.cmpT rfl rfl rfl rfl rfl cmT ?_
                  refine AList.move rfl rfl rfl ?_
                  refine AList.move rfl rfl rfl ?_
                  refine AList.move rfl rfl rfl ?_
                  refine AList.move rfl rfl rfl ?_
                  refine AList.nil ?_
                  refine AText.yield (i := pN m s j + 1) true rfl rfl rfl rfl (fun _ h => h) rfl rfl (hi2) ((by unfold shX; rw [hC2])) (hg2) ?_
                  refine AText.all ?_
                  refine AList.notB rfl rfl rfl ?_
                  refine AList.pickT rfl rfl rfl rfl ?_
                  refine AList.pickF rfl rfl rfl rfl ?_
                  refine AList.nil ?_
                  repeat (first
                    | refine thenA_n ?_
                    | refine AWp.skip ?_
                    | refine inBlk_n ?_
                    | refine AWp.condF rfl (by first | rfl | assumption | exact cmF) ?_
                    | (refine AWp.region (id := 5) ?_
                       refine AList.move rfl rfl rfl ?_
                       refine AList.add rfl rfl rfl rfl (by omega) (by omega) ?_
                       refine AList.assign rfl rfl rfl ?_
                       refine AList.nil ?_))
                  refine ⟨j + 1, ⟨by omega, fun h => ?_⟩, Wk.mkG [] rfl rfl rfl rfl rfl ?_ trivial hC3.symm, by omega⟩
                  · have := goes_true hg2 h; rw [hC3]; omega
                  · repeat (first | exact trivial | refine ⟨⟨_, rfl, by first | exact LeA.c (LeC.refl _ rfl) | exact LeA.c (LeC.ow _ _ rfl) | exact LeA.c (LeC.pt _ _ _ _ _ rfl) | exact LeA.c (LeC.nil _ rfl) | exact LeA.c (LeC.nils _ _) | (refine LeA.int ?_; omega) | (refine LeA.int ?_; dsimp only; omega) | exact LeA.c (LeC.fz rfl rfl (by first | rfl | omega) (fun i _ j _ => ⟨rfl, by first | rfl | exact rowN_imm (fun _ => rfl) _ i j | exact rowF_imm (fun _ => rfl) _ i j⟩))⟩, ?_⟩)
            · cases hg1 : goesB N stop (pN m s j) with
              | false =>
                obtain ⟨hst, hN⟩ := goes_false hg1
                refine AWp.text ?_
                refine AText.split 4 ?_
                refine AList.move rfl rfl rfl ?_
                refine AList.move rfl rfl rfl ?_
                refine AList.neg rfl rfl rfl (by omega) (by omega) ?_
                refine AList.move rfl rfl rfl ?_
                refine AList.nil ?_
                refine AText.yield (i := pN m s j) false rfl rfl rfl rfl (fun _ h => h) rfl rfl (hiN) ((by unfold shX; rw [hB2])) (hg1) ?_
                refine AText.all ?_
                refine AList.notB rfl rfl rfl ?_
                refine AList.move rfl rfl rfl ?_
                refine AList.skip rfl rfl ?_
                refine AList.skip rfl rfl ?_
                refine AList.skip rfl rfl ?_
                refine AList.skip rfl rfl ?_
                refine AList.skip rfl rfl ?_
                refine AList.skip rfl rfl ?_
                refine AList.skip rfl rfl ?_
                refine AList.skip rfl rfl ?_
                refine AList.skip rfl rfl ?_
                refine AList.pickT rfl rfl rfl rfl ?_
                refine AList.nil ?_
                repeat (first
                  | refine thenA_n ?_
                  | refine AWp.ret ?_
                  | refine thenA_r ?_
                  | refine inBlk_r ?_
                  | refine AWp.condT rfl (by first | rfl | assumption | exact cmT) ?_)
                exact ⟨hN, hst.symm⟩
              | true =>
                refine AWp.text ?_
                refine AText.split 4 ?_
                refine AList.move rfl rfl rfl ?_
                refine AList.move rfl rfl rfl ?_
                refine AList.neg rfl rfl rfl (by omega) (by omega) ?_
                refine AList.move rfl rfl rfl ?_
                refine AList.nil ?_
                refine AText.yield (i := pN m s j) true rfl rfl rfl rfl (fun _ h => h) rfl rfl (hiN) ((by unfold shX; rw [hB2])) (hg1) ?_
                refine AText.all ?_
                refine AList.notB rfl rfl rfl ?_
                refine AList.move rfl rfl rfl ?_
                refine AList.move rfl rfl rfl ?_
                refine AList.cmpF rfl rfl rfl rfl rfl cmF ?_
                refine AList.move rfl rfl rfl ?_
                refine AList.skip rfl rfl ?_
                refine AList.skip rfl rfl ?_
                refine AList.skip rfl rfl ?_
                refine AList.skip rfl rfl ?_
                refine AList.skip rfl rfl ?_
                refine AList.pickF rfl rfl rfl rfl ?_
                refine AList.pickF rfl rfl rfl rfl ?_
                refine AList.nil ?_
                repeat (first
                  | refine thenA_n ?_
                  | refine AWp.skip ?_
                  | refine inBlk_n ?_
                  | refine AWp.condF rfl (by first | rfl | assumption | exact cmF) ?_
                  | (refine AWp.region (id := 5) ?_
                     refine AList.move rfl rfl rfl ?_
                     refine AList.add rfl rfl rfl rfl (by omega) (by omega) ?_
                     refine AList.assign rfl rfl rfl ?_
                     refine AList.nil ?_))
                refine ⟨j + 1, ⟨by omega, fun h => ?_⟩, Wk.mkG [] rfl rfl rfl rfl rfl ?_ trivial (hB3 hd0).symm, by omega⟩
                · have := goes_true hg1 h; rw [hB3 hd0]; omega
                · repeat (first | exact trivial | refine ⟨⟨_, rfl, by first | exact LeA.c (LeC.refl _ rfl) | exact LeA.c (LeC.ow _ _ rfl) | exact LeA.c (LeC.pt _ _ _ _ _ rfl) | exact LeA.c (LeC.nil _ rfl) | exact LeA.c (LeC.nils _ _) | (refine LeA.int ?_; omega) | (refine LeA.int ?_; dsimp only; omega) | exact LeA.c (LeC.fz rfl rfl (by first | rfl | omega) (fun i _ j _ => ⟨rfl, by first | rfl | exact rowN_imm (fun _ => rfl) _ i j | exact rowF_imm (fun _ => rfl) _ i j⟩))⟩, ?_⟩)
        · obtain rfl : j = 2 * min s m + 1 := by omega
          repeat (first
            | refine AWp.seq ?_
            | refine thenA_n ?_
            | refine AWp.exit ?_
            | refine thenA_e ?_
            | refine inBlk_n ?_
            | refine inBlk_hit ?_
            | refine AWp.condF rfl (by first | rfl | assumption | exact cmF) ?_
            | (refine AWp.region (id := 4) ?_
               refine AList.move rfl rfl rfl ?_
               refine AList.move rfl rfl rfl ?_
               refine AList.load1l tyOk rfl rfl rfl rfl rfl oM ?_
               refine AList.minI rfl rfl rfl rfl ?_
               refine AList.cmpF rfl rfl rfl rfl rfl cmF ?_
               refine AList.nil ?_)
            | (refine AWp.region (id := 9) ?_
               refine AList.add rfl rfl rfl rfl (by omega) (by omega) ?_
               refine AList.move rfl rfl rfl ?_
               refine AList.nil ?_))
          refine ⟨s + 1, ⟨by omega, by rw [← hF1]; exact hgj⟩, Wk.mkG [] rfl rfl rfl rfl rfl ?_ trivial hF1, by omega⟩
          repeat (first | exact trivial | refine ⟨⟨_, rfl, by first | exact LeA.c (LeC.refl _ rfl) | exact LeA.c (LeC.ow _ _ rfl) | exact LeA.c (LeC.pt _ _ _ _ _ rfl) | exact LeA.c (LeC.nil _ rfl) | exact LeA.c (LeC.nils _ _) | (refine LeA.int ?_; omega) | (refine LeA.int ?_; dsimp only; omega) | exact LeA.c (LeC.fz rfl rfl (by first | rfl | omega) (fun i _ j _ => ⟨rfl, by first | rfl | exact rowN_imm (fun _ => rfl) _ i j | exact rowF_imm (fun _ => rfl) _ i j⟩))⟩, ?_⟩)
    · obtain rfl : s = 2 * m + 1 := by omega
      have hst : stop = false := by
        cases stop with
        | false => rfl
        | true => have := hg rfl; have := (hN1 rfl).2; omega
      repeat (first
        | refine AWp.seq ?_
        | refine AWp.exit ?_
        | refine thenA_e ?_
        | refine inBlk_hit ?_
        | refine AWp.condF rfl (by first | rfl | assumption | exact cmF) ?_
        | (refine AWp.region (id := 1) ?_
           refine AList.cmpF rfl rfl rfl rfl rfl cmF ?_
           refine AList.nil ?_))
      exact ⟨by show pN m (2 * m + 1) 0 = N; rw [hE, hN2 hst], hst.symm⟩
end Go.Proofs.Ytclaanggpcjnbaa
end

section
/- Chapter 23 over plain values: the program's Explains. -/
namespace Go.Proofs.Ytclaanggpcjnbaa
open Go.RowKit Go.Flow Go.AV Go.Plain
theorem first_hit (p : Nat → Bool) : ∀ n : Nat, (∀ i, i < n → p i = false) ∨ ∃ k, k < n ∧ p k = true ∧ ∀ i, i < k → p i = false
  | 0 => .inl fun i hi => absurd hi (Nat.not_lt_zero _)
  | n + 1 => by
    rcases first_hit p n with h | ⟨k, h1, h2, h3⟩
    · cases hp : p n with
      | true => exact .inr ⟨n, by omega, hp, h⟩
      | false => exact .inl fun i hi => if e : i = n then by rw [e]; exact hp else h i (by omega)
    · exact .inr ⟨k, by omega, h2, h3⟩
/-- What the result boxes hold. -/
def exB0 (m : Mc) (b : Bool) : List AB := [⟨false, 1, 4, 52, lF (mcC m)⟩, ⟨false, 1, 1, 4, lF [bC b]⟩]
abbrev exSl (x : Ip) (b : Bp) (y : Bg) : List (Nat × AV) := [(3, .c (.pl 1 3 (lF (ipC x)) 0 0)), (4, .c (.pl 1 3 (lF (bpC b)) 0 0)), (5, .c (.pl 1 4 (lF (bgC y)) 0 0)), (6, .c (.pt 1000 4 0 0)), (7, .c (.pt 1001 1 0 0))]
theorem lF_plain {l : List CV} {n : Nat} (h : ∀ j, j < n → ∃ v, l.getD j .any = .p v) (k : Nat) (hk : k < 1) (j : Nat) (hj : j < n) : ∃ v, lF l k j = .p v := h j hj
theorem exB0_plain (m : Mc) (b : Bool) : (exB0 m b).length = [6, 7].length ∧ ∀ B ∈ exB0 m b, PlainB B := ⟨rfl, fun B hB => by
  rcases List.mem_cons.1 hB with rfl | hB
  · exact PlainB.box [.int .i64 m.dx, .int .i64 m.dy, .int .i64 m.lo, .int .i64 m.bl] rfl rfl
  · rcases List.mem_cons.1 hB with rfl | hB
    · exact PlainB.box [.bool b] rfl rfl
    · cases hB⟩
theorem shX_one (m i : Nat) (v : Value) (hv : v ∈ shX m i) : v.oneCell' = true := by
  rcases List.mem_cons.1 hv with rfl | hv
  · rfl
  · rcases List.mem_cons.1 hv with rfl | hv
    · rfl
    · cases hv
theorem exB_cases {x : Ip} {b : Bp} {y : Bg} {p : Int × Int} (h : exB x b y p = false) : ¬ fitOk x b p.1 p.2 ∨ (fitOk x b p.1 p.2 ∧ ¬ fitN x b p.1 p.2 0 1 ≤ y.lo) ∨ (fitOk x b p.1 p.2 ∧ fitN x b p.1 p.2 0 1 ≤ y.lo ∧ ¬ fitN x b p.1 p.2 1 0 ≤ y.bl) := by
  have := of_decide_eq_false h
  by_cases q1 : fitOk x b p.1 p.2
  · by_cases q2 : fitN x b p.1 p.2 0 1 ≤ y.lo
    · exact .inr (.inr ⟨q1, q2, fun q3 => this ⟨q1, q2, q3⟩⟩)
    · exact .inr (.inl ⟨q1, q2⟩)
  · exact .inl q1
set_option maxHeartbeats 1000000 in
set_option maxRecDepth 100000 in
theorem pExplains_A (x : Ip) (b : Bp) (y : Bg) (hn : x.n ≤ 4611686018427387904) : ACalls Try.prog 20 [.ag (ipC x), .ag (bpC b), .ag (bgC y)] (.tu [.ag (mcC (exV x b y).1), .c (bC (exV x b y).2)]) := by
  have hL := plim_A y
  obtain ⟨s0, s1⟩ := lim_sh y
  obtain ⟨m, hm⟩ : ∃ m, (lim4 y).sh.toNat = m := ⟨_, rfl⟩
  have hse : (lim4 y).sh = (m : Int) := by omega
  have hSh := shifts_A (lim4 y).sh
  have hIt := shiftsIt_A m (by omega)
  rw [← hse] at hIt
  have hxl : exL x b y = shL m := by unfold exL; rw [hm]
  refine acalls_at Try.func20 rfl rfl Try.ntmps20 rfl ?_
  repeat (first
    | refine AWp.seq ?_
    | refine thenA_n ?_
    | refine AWp.block ?_
    | (refine AWp.region (id := 0) ?_
       refine AList.box rfl rfl rfl rfl rfl ?_
       refine AList.box rfl rfl rfl rfl rfl ?_
       refine AList.box rfl rfl rfl rfl rfl ?_
       refine AList.alloc tyOk rfl rfl rfl rfl rfl ?_
       refine AList.alloc tyOk rfl rfl rfl rfl rfl ?_
       refine AList.nil ?_)
    | (refine AWp.region (id := 1) ?_
       refine AList.loadA tyOk rfl rfl rfl rfl rfl rfl rfl oM oM ?_
       refine AList.call rfl rfl rfl rfl Try.func30 rfl (by kernel_rfl) (hL) ?_
       refine AList.store tyOk rfl rfl rfl rfl rfl rfl rfl rfl oM oM ?_
       refine AList.nil ?_)
    | (refine AWp.region (id := 2) ?_
       refine AList.fieldPt tyOk rfl rfl rfl rfl rfl rfl rfl ?_
       refine AList.load1 tyOk rfl rfl rfl rfl rfl rfl rfl oM oM ?_
       refine AList.call rfl rfl rfl rfl Try.func36 rfl (by kernel_rfl) (hSh) ?_
       refine AList.nil ?_))
  rcases first_hit (fun i => exB x b (lim4 y) ((exL x b y).getD i mvZ)) (exL x b y).length with hno | ⟨k, hk, hb, hno⟩
  · rw [exV_miss hno]
    refine AWp.range (N := (shL m).length) (stop := false) (eS := .ret) (ids := [6, 7]) (bsI := fun _ => exB0 ⟨0, 0, 0, 0⟩ false) (ts := exSl x b (lim4 y)) (ys := [plI (lim4 y).sh]) (xs := shX m) rfl (enters_of Try.func54 (by kernel_rfl) rfl) ⟨ViewC.imm _ rfl, trivial⟩ rfl hIt (fun _ h => h) (fun h => by cases h) (fun _ => rfl) rfl ?_ (fun i hi => exB0_plain _ _) ?_ rfl (fun i hi => ⟨rfl, shX_one m i⟩) (.inl rfl) (fun i hi => ?_) ?_
    · exact LendOk.box rfl rfl rfl (LendOk.box rfl rfl rfl trivial)
    · repeat (first | exact trivial | refine ⟨⟨_, rfl, by first | exact ViewA.c (ViewC.imm _ rfl) | exact ViewA.c (ViewC.lend _ _ _ _ _ rfl) | exact ViewA.c (ViewC.roBox rfl rfl rfl rfl)⟩, ?_⟩)
    · have hfa := hno i (by rw [hxl]; exact hi)
      have hFt := iFits_A x b ((shL m).getD i mvZ).1 ((shL m).getD i mvZ).2 hn
      rw [hxl] at hfa
      have hcs := exB_cases hfa
      rcases hcs with g1 | ⟨g1, g2⟩ | ⟨g1, g2, g3⟩
      · rw [fitV, decide_eq_false g1] at hFt
        repeat (first
          | refine AWp.seq ?_
          | refine thenA_n ?_
          | (refine AWp.region (id := 3) ?_
             refine AList.assign rfl rfl rfl ?_
             refine AList.nil ?_)
          | (refine AWp.region (id := 4) ?_
             refine AList.assign rfl rfl rfl ?_
             refine AList.nil ?_))
        refine ⟨rfl, ?_⟩
        repeat (first
          | refine AWp.seq ?_
          | refine thenA_n ?_
          | refine AWp.block ?_
          | refine AWp.skip ?_
          | refine inBlk_n ?_
          | refine AWp.condF rfl (by first | rfl | assumption | exact cmF) ?_
          | (refine AWp.region (id := 5) ?_
             refine AList.loadAl tyOk rfl rfl rfl rfl rfl oM ?_
             refine AList.loadAl tyOk rfl rfl rfl rfl rfl oM ?_
             refine AList.move rfl rfl rfl ?_
             refine AList.move rfl rfl rfl ?_
             refine AList.call rfl rfl rfl rfl Try.func23 rfl (by kernel_rfl) (hFt) ?_
             refine AList.move rfl rfl rfl ?_
             refine AList.extract rfl rfl rfl rfl ?_
             refine AList.extract rfl rfl rfl rfl ?_
             refine AList.extract rfl rfl rfl rfl ?_
             refine AList.assign rfl rfl rfl ?_
             refine AList.assign rfl rfl rfl ?_
             refine AList.assign rfl rfl rfl ?_
             refine AList.nil ?_)
          | (refine AWp.region (id := 6) ?_
             refine AList.move rfl rfl rfl ?_
             refine AList.move rfl rfl rfl ?_
             refine AList.skip rfl rfl ?_
             refine AList.skip rfl rfl ?_
             refine AList.skip rfl rfl ?_
             refine AList.skip rfl rfl ?_
             refine AList.pickF rfl rfl rfl rfl ?_
             refine AList.move rfl rfl rfl ?_
             refine AList.skip rfl rfl ?_
             refine AList.skip rfl rfl ?_
             refine AList.skip rfl rfl ?_
             refine AList.skip rfl rfl ?_
             refine AList.pickF rfl rfl rfl rfl ?_
             refine AList.nil ?_))
        refine ⟨rfl, mkG (fun _ => True) 0 true 48 2 [] (lentL 0 (exB0 ⟨0, 0, 0, 0⟩ false)) [], [], Wk.mkG [] rfl rfl rfl rfl rfl trivial ?_, rfl, rfl⟩
        repeat (first | exact trivial | refine ⟨by first | exact HeapOk.same rfl rfl rfl rfl | exact HeapOk.lent rfl rfl rfl rfl | exact HeapOk.nil rfl rfl | exact HeapOk.row rfl rfl (by first | rfl | omega) (fun i _ j _ => ⟨rfl, by first | rfl | exact rowN_imm (fun _ => rfl) _ i j | exact rowF_imm (fun _ => rfl) _ i j⟩) | exact HeapOk.box rfl rfl (by repeat (first | exact trivial | refine ⟨by first | exact LeC.refl _ rfl | exact LeC.ow _ _ rfl | exact LeC.nil _ rfl | exact LeC.nils _ _ | exact LeC.fz rfl rfl (by first | rfl | omega) (fun i _ j _ => ⟨rfl, by first | rfl | exact rowN_imm (fun _ => rfl) _ i j | exact rowF_imm (fun _ => rfl) _ i j⟩) | exact LeC.int (by omega), ?_⟩)) rfl, ?_⟩)
      all_goals
        rw [fitV, decide_eq_true g1] at hFt
        repeat (first
          | refine AWp.seq ?_
          | refine thenA_n ?_
          | (refine AWp.region (id := 3) ?_
             refine AList.assign rfl rfl rfl ?_
             refine AList.nil ?_)
          | (refine AWp.region (id := 4) ?_
             refine AList.assign rfl rfl rfl ?_
             refine AList.nil ?_))
        refine ⟨rfl, ?_⟩
        repeat (first
          | refine AWp.seq ?_
          | refine thenA_n ?_
          | refine AWp.block ?_
          | refine AWp.skip ?_
          | refine inBlk_n ?_
          | refine AWp.condF rfl (by first | rfl | assumption | exact cmF) ?_
          | (refine AWp.region (id := 5) ?_
             refine AList.loadAl tyOk rfl rfl rfl rfl rfl oM ?_
             refine AList.loadAl tyOk rfl rfl rfl rfl rfl oM ?_
             refine AList.move rfl rfl rfl ?_
             refine AList.move rfl rfl rfl ?_
             refine AList.call rfl rfl rfl rfl Try.func23 rfl (by kernel_rfl) (hFt) ?_
             refine AList.move rfl rfl rfl ?_
             refine AList.extract rfl rfl rfl rfl ?_
             refine AList.extract rfl rfl rfl rfl ?_
             refine AList.extract rfl rfl rfl rfl ?_
             refine AList.assign rfl rfl rfl ?_
             refine AList.assign rfl rfl rfl ?_
             refine AList.assign rfl rfl rfl ?_
             refine AList.nil ?_)
          | (refine AWp.region (id := 6) ?_
             refine AList.move rfl rfl rfl ?_
             refine AList.move rfl rfl rfl ?_
             refine AList.move rfl rfl rfl ?_
             refine AList.fieldPl tyOk rfl rfl rfl rfl rfl rfl rfl ?_
             refine AList.load1l tyOk rfl rfl rfl rfl rfl oM ?_
             first | refine AList.cmpT rfl rfl rfl rfl rfl cmT ?_ | refine AList.cmpF rfl rfl rfl rfl rfl cmF ?_
             refine AList.pickT rfl rfl rfl rfl ?_
             refine AList.move rfl rfl rfl ?_
             first | refine AList.skip rfl rfl ?_ | refine AList.move rfl rfl rfl ?_
             first | refine AList.skip rfl rfl ?_ | refine AList.fieldPl tyOk rfl rfl rfl rfl rfl rfl rfl ?_
             first | refine AList.skip rfl rfl ?_ | refine AList.load1l tyOk rfl rfl rfl rfl rfl oM ?_
             first | refine AList.skip rfl rfl ?_ | refine AList.cmpF rfl rfl rfl rfl rfl cmF ?_
             first | refine AList.pickT rfl rfl rfl rfl ?_ | refine AList.pickF rfl rfl rfl rfl ?_
             refine AList.nil ?_))
        refine ⟨rfl, mkG (fun _ => True) 0 true 48 2 [] (lentL 0 (exB0 ⟨0, 0, 0, 0⟩ false)) [], [], Wk.mkG [] rfl rfl rfl rfl rfl trivial ?_, rfl, rfl⟩
        repeat (first | exact trivial | refine ⟨by first | exact HeapOk.same rfl rfl rfl rfl | exact HeapOk.lent rfl rfl rfl rfl | exact HeapOk.nil rfl rfl | exact HeapOk.row rfl rfl (by first | rfl | omega) (fun i _ j _ => ⟨rfl, by first | rfl | exact rowN_imm (fun _ => rfl) _ i j | exact rowF_imm (fun _ => rfl) _ i j⟩) | exact HeapOk.box rfl rfl (by repeat (first | exact trivial | refine ⟨by first | exact LeC.refl _ rfl | exact LeC.ow _ _ rfl | exact LeC.nil _ rfl | exact LeC.nils _ _ | exact LeC.fz rfl rfl (by first | rfl | omega) (fun i _ j _ => ⟨rfl, by first | rfl | exact rowN_imm (fun _ => rfl) _ i j | exact rowF_imm (fun _ => rfl) _ i j⟩) | exact LeC.int (by omega), ?_⟩)) rfl, ?_⟩)
    · repeat (first
        | refine AWp.seq ?_
        | refine thenA_n ?_
        | refine AWp.ret ?_
        | (refine AWp.region (id := 8) ?_
           refine AList.buildSt tyOk rfl rfl rfl rfl rfl rfl rfl rfl ?_
           refine AList.store tyOk rfl rfl rfl rfl rfl rfl rfl rfl oM oM ?_
           refine AList.store tyOk rfl rfl rfl rfl rfl rfl rfl rfl oM oM ?_
           refine AList.nil ?_))
      refine ⟨mkSt 48 [(6, .c (.pt 6 4 0 0)), (7, .c (.pt 7 1 0 0))] [(6, ⟨false, 1, 4, 52, lF [iC 0, iC 0, iC 0, iC 0]⟩), (7, ⟨false, 1, 1, 4, lF [bC false]⟩)] [6, 7], [(6, ⟨false, 1, 4, 52, lF [iC 0, iC 0, iC 0, iC 0]⟩), (7, ⟨false, 1, 1, 4, lF [bC false]⟩)], Wk.mk [(6, some 6), (7, some 7)] rfl rfl rfl ?_ ?_, rfl, rfl, ARets.two (x := .ag _) (y := .c _) (ARes.box tyOk rfl rfl rfl rfl rfl rfl rfl) (ARes.box1 tyOk rfl rfl rfl rfl rfl rfl)⟩
      · repeat (first | exact trivial | refine ⟨⟨_, rfl, by first | exact LeA.c (LeC.refl _ rfl) | exact LeA.c (LeC.ow _ _ rfl) | exact LeA.c (LeC.pt _ _ _ _ _ rfl) | exact LeA.c (LeC.nil _ rfl) | exact LeA.c (LeC.nils _ _) | (refine LeA.int ?_; omega) | (refine LeA.int ?_; dsimp only; omega) | exact LeA.c (LeC.fz rfl rfl (by first | rfl | omega) (fun i _ j _ => ⟨rfl, by first | rfl | exact rowN_imm (fun _ => rfl) _ i j | exact rowF_imm (fun _ => rfl) _ i j⟩))⟩, ?_⟩)
      · repeat (first | exact trivial | refine ⟨by first | exact HeapOk.same rfl rfl rfl rfl | exact HeapOk.lent rfl rfl rfl rfl | exact HeapOk.nil rfl rfl | exact HeapOk.row rfl rfl (by first | rfl | omega) (fun i _ j _ => ⟨rfl, by first | rfl | exact rowN_imm (fun _ => rfl) _ i j | exact rowF_imm (fun _ => rfl) _ i j⟩) | exact HeapOk.box rfl rfl (by repeat (first | exact trivial | refine ⟨by first | exact LeC.refl _ rfl | exact LeC.ow _ _ rfl | exact LeC.nil _ rfl | exact LeC.nils _ _ | exact LeC.fz rfl rfl (by first | rfl | omega) (fun i _ j _ => ⟨rfl, by first | rfl | exact rowN_imm (fun _ => rfl) _ i j | exact rowF_imm (fun _ => rfl) _ i j⟩) | exact LeC.int (by omega), ?_⟩)) rfl, ?_⟩)
  · rw [exV_hit hk hb hno]
    obtain ⟨mc, hmc⟩ : ∃ mc : Mc, mc = ⟨((exL x b y).getD k mvZ).1, ((exL x b y).getD k mvZ).2, fitN x b ((exL x b y).getD k mvZ).1 ((exL x b y).getD k mvZ).2 0 1, fitN x b ((exL x b y).getD k mvZ).1 ((exL x b y).getD k mvZ).2 1 0⟩ := ⟨_, rfl⟩
    rw [← hmc]
    refine AWp.range (N := k + 1) (stop := true) (eS := .ret) (ids := [6, 7]) (bsI := fun i => if i ≤ k then exB0 ⟨0, 0, 0, 0⟩ false else exB0 mc true) (ts := exSl x b (lim4 y)) (ys := [plI (lim4 y).sh]) (xs := shX m) rfl (enters_of Try.func54 (by kernel_rfl) rfl) ⟨ViewC.imm _ rfl, trivial⟩ rfl hIt (fun _ h => h) (fun _ => ⟨by omega, by rw [← hxl]; omega⟩) (fun h => by cases h) rfl ?_ (fun i hi => ?_) ?_ rfl (fun i hi => ⟨rfl, shX_one m i⟩) (.inl rfl) (fun i hi => ?_) ?_
    · exact LendOk.box rfl rfl rfl (LendOk.box rfl rfl rfl trivial)
    · by_cases h : i ≤ k
      · rw [if_pos h]; exact exB0_plain _ _
      · rw [if_neg h]; exact exB0_plain _ _
    · repeat (first | exact trivial | refine ⟨⟨_, rfl, by first | exact ViewA.c (ViewC.imm _ rfl) | exact ViewA.c (ViewC.lend _ _ _ _ _ rfl) | exact ViewA.c (ViewC.roBox rfl rfl rfl rfl)⟩, ?_⟩)
    · have hFt := iFits_A x b ((shL m).getD i mvZ).1 ((shL m).getD i mvZ).2 hn
      rw [if_pos (by omega : i ≤ k)]
      by_cases hik : i = k
      · subst hik
        rw [hxl] at hb hmc
        obtain ⟨g1, g2, g3⟩ := of_decide_eq_true hb
        have hg : goesB (i + 1) true i = false := by unfold goesB; rw [show Nat.beq (i + 1) (i + 1) = true from Nat.beq_refl _]; rfl
        rw [hg, if_neg (by omega : ¬ i + 1 ≤ i), fitV, decide_eq_true g1] at *
        repeat (first
          | refine AWp.seq ?_
          | refine thenA_n ?_
          | (refine AWp.region (id := 3) ?_
             refine AList.assign rfl rfl rfl ?_
             refine AList.nil ?_)
          | (refine AWp.region (id := 4) ?_
             refine AList.assign rfl rfl rfl ?_
             refine AList.nil ?_))
        refine ⟨rfl, ?_⟩
        repeat (first
          | refine AWp.seq ?_
          | refine thenA_n ?_
          | refine AWp.block ?_
          | refine AWp.ret ?_
          | refine inBlk_r ?_
          | refine AWp.condT rfl (by first | rfl | assumption | exact cmT) ?_
          | (refine AWp.region (id := 5) ?_
             refine AList.loadAl tyOk rfl rfl rfl rfl rfl oM ?_
             refine AList.loadAl tyOk rfl rfl rfl rfl rfl oM ?_
             refine AList.move rfl rfl rfl ?_
             refine AList.move rfl rfl rfl ?_
             refine AList.call rfl rfl rfl rfl Try.func23 rfl (by kernel_rfl) (hFt) ?_
             refine AList.move rfl rfl rfl ?_
             refine AList.extract rfl rfl rfl rfl ?_
             refine AList.extract rfl rfl rfl rfl ?_
             refine AList.extract rfl rfl rfl rfl ?_
             refine AList.assign rfl rfl rfl ?_
             refine AList.assign rfl rfl rfl ?_
             refine AList.assign rfl rfl rfl ?_
             refine AList.nil ?_)
          | (refine AWp.region (id := 6) ?_
             refine AList.move rfl rfl rfl ?_
             refine AList.move rfl rfl rfl ?_
             refine AList.move rfl rfl rfl ?_
             refine AList.fieldPl tyOk rfl rfl rfl rfl rfl rfl rfl ?_
             refine AList.load1l tyOk rfl rfl rfl rfl rfl oM ?_
             refine AList.cmpT rfl rfl rfl rfl rfl cmT ?_
             refine AList.pickT rfl rfl rfl rfl ?_
             refine AList.move rfl rfl rfl ?_
             refine AList.move rfl rfl rfl ?_
             refine AList.fieldPl tyOk rfl rfl rfl rfl rfl rfl rfl ?_
             refine AList.load1l tyOk rfl rfl rfl rfl rfl oM ?_
             refine AList.cmpT rfl rfl rfl rfl rfl cmT ?_
             refine AList.pickT rfl rfl rfl rfl ?_
             refine AList.nil ?_)
          | (refine AWp.region (id := 7) ?_
             refine AList.move rfl rfl rfl ?_
             refine AList.move rfl rfl rfl ?_
             refine AList.move rfl rfl rfl ?_
             refine AList.move rfl rfl rfl ?_
             refine AList.buildSt tyOk rfl rfl rfl rfl rfl rfl rfl rfl ?_
             refine AList.store tyOk rfl rfl rfl rfl rfl rfl rfl rfl oM oM ?_
             refine AList.store tyOk rfl rfl rfl rfl rfl rfl rfl rfl oM oM ?_
             refine AList.nil ?_))
        subst hmc
        refine ⟨rfl, mkG (fun _ => True) 0 true 48 2 [] (lentL 0 (exB0 ⟨((shL m).getD i mvZ).1, ((shL m).getD i mvZ).2, fitN x b ((shL m).getD i mvZ).1 ((shL m).getD i mvZ).2 0 1, fitN x b ((shL m).getD i mvZ).1 ((shL m).getD i mvZ).2 1 0⟩ true)) [], [], Wk.mkG [] rfl rfl rfl rfl rfl trivial ?_, rfl, rfl⟩
        repeat (first | exact trivial | refine ⟨by first | exact HeapOk.same rfl rfl rfl rfl | exact HeapOk.lent rfl rfl rfl rfl | exact HeapOk.nil rfl rfl | exact HeapOk.row rfl rfl (by first | rfl | omega) (fun i _ j _ => ⟨rfl, by first | rfl | exact rowN_imm (fun _ => rfl) _ i j | exact rowF_imm (fun _ => rfl) _ i j⟩) | exact HeapOk.box rfl rfl (by repeat (first | exact trivial | refine ⟨by first | exact LeC.refl _ rfl | exact LeC.ow _ _ rfl | exact LeC.nil _ rfl | exact LeC.nils _ _ | exact LeC.fz rfl rfl (by first | rfl | omega) (fun i _ j _ => ⟨rfl, by first | rfl | exact rowN_imm (fun _ => rfl) _ i j | exact rowF_imm (fun _ => rfl) _ i j⟩) | exact LeC.int (by omega), ?_⟩)) rfl, ?_⟩)
      · have hfa := hno i (by omega)
        rw [hxl] at hfa
        have hg : goesB (k + 1) true i = true := by
          unfold goesB
          rw [show Nat.beq (i + 1) (k + 1) = false from Bool.eq_false_iff.2 fun h => by have := Nat.eq_of_beq_eq_true h; omega]
          rfl
        rw [hg, if_pos (by omega : i + 1 ≤ k)]
        have hcs := exB_cases hfa
        rcases hcs with g1 | ⟨g1, g2⟩ | ⟨g1, g2, g3⟩
        · rw [fitV, decide_eq_false g1] at hFt
          repeat (first
            | refine AWp.seq ?_
            | refine thenA_n ?_
            | (refine AWp.region (id := 3) ?_
               refine AList.assign rfl rfl rfl ?_
               refine AList.nil ?_)
            | (refine AWp.region (id := 4) ?_
               refine AList.assign rfl rfl rfl ?_
               refine AList.nil ?_))
          refine ⟨rfl, ?_⟩
          repeat (first
            | refine AWp.seq ?_
            | refine thenA_n ?_
            | refine AWp.block ?_
            | refine AWp.skip ?_
            | refine inBlk_n ?_
            | refine AWp.condF rfl (by first | rfl | assumption | exact cmF) ?_
            | (refine AWp.region (id := 5) ?_
               refine AList.loadAl tyOk rfl rfl rfl rfl rfl oM ?_
               refine AList.loadAl tyOk rfl rfl rfl rfl rfl oM ?_
               refine AList.move rfl rfl rfl ?_
               refine AList.move rfl rfl rfl ?_
               refine AList.call rfl rfl rfl rfl Try.func23 rfl (by kernel_rfl) (hFt) ?_
               refine AList.move rfl rfl rfl ?_
               refine AList.extract rfl rfl rfl rfl ?_
               refine AList.extract rfl rfl rfl rfl ?_
               refine AList.extract rfl rfl rfl rfl ?_
               refine AList.assign rfl rfl rfl ?_
               refine AList.assign rfl rfl rfl ?_
               refine AList.assign rfl rfl rfl ?_
               refine AList.nil ?_)
            | (refine AWp.region (id := 6) ?_
               refine AList.move rfl rfl rfl ?_
               refine AList.move rfl rfl rfl ?_
               refine AList.skip rfl rfl ?_
               refine AList.skip rfl rfl ?_
               refine AList.skip rfl rfl ?_
               refine AList.skip rfl rfl ?_
               refine AList.pickF rfl rfl rfl rfl ?_
               refine AList.move rfl rfl rfl ?_
               refine AList.skip rfl rfl ?_
               refine AList.skip rfl rfl ?_
               refine AList.skip rfl rfl ?_
               refine AList.skip rfl rfl ?_
               refine AList.pickF rfl rfl rfl rfl ?_
               refine AList.nil ?_))
          refine ⟨rfl, mkG (fun _ => True) 0 true 48 2 [] (lentL 0 (exB0 ⟨0, 0, 0, 0⟩ false)) [], [], Wk.mkG [] rfl rfl rfl rfl rfl trivial ?_, rfl, rfl⟩
          repeat (first | exact trivial | refine ⟨by first | exact HeapOk.same rfl rfl rfl rfl | exact HeapOk.lent rfl rfl rfl rfl | exact HeapOk.nil rfl rfl | exact HeapOk.row rfl rfl (by first | rfl | omega) (fun i _ j _ => ⟨rfl, by first | rfl | exact rowN_imm (fun _ => rfl) _ i j | exact rowF_imm (fun _ => rfl) _ i j⟩) | exact HeapOk.box rfl rfl (by repeat (first | exact trivial | refine ⟨by first | exact LeC.refl _ rfl | exact LeC.ow _ _ rfl | exact LeC.nil _ rfl | exact LeC.nils _ _ | exact LeC.fz rfl rfl (by first | rfl | omega) (fun i _ j _ => ⟨rfl, by first | rfl | exact rowN_imm (fun _ => rfl) _ i j | exact rowF_imm (fun _ => rfl) _ i j⟩) | exact LeC.int (by omega), ?_⟩)) rfl, ?_⟩)
        all_goals
          rw [fitV, decide_eq_true g1] at hFt
          repeat (first
            | refine AWp.seq ?_
            | refine thenA_n ?_
            | (refine AWp.region (id := 3) ?_
               refine AList.assign rfl rfl rfl ?_
               refine AList.nil ?_)
            | (refine AWp.region (id := 4) ?_
               refine AList.assign rfl rfl rfl ?_
               refine AList.nil ?_))
          refine ⟨rfl, ?_⟩
          repeat (first
            | refine AWp.seq ?_
            | refine thenA_n ?_
            | refine AWp.block ?_
            | refine AWp.skip ?_
            | refine inBlk_n ?_
            | refine AWp.condF rfl (by first | rfl | assumption | exact cmF) ?_
            | (refine AWp.region (id := 5) ?_
               refine AList.loadAl tyOk rfl rfl rfl rfl rfl oM ?_
               refine AList.loadAl tyOk rfl rfl rfl rfl rfl oM ?_
               refine AList.move rfl rfl rfl ?_
               refine AList.move rfl rfl rfl ?_
               refine AList.call rfl rfl rfl rfl Try.func23 rfl (by kernel_rfl) (hFt) ?_
               refine AList.move rfl rfl rfl ?_
               refine AList.extract rfl rfl rfl rfl ?_
               refine AList.extract rfl rfl rfl rfl ?_
               refine AList.extract rfl rfl rfl rfl ?_
               refine AList.assign rfl rfl rfl ?_
               refine AList.assign rfl rfl rfl ?_
               refine AList.assign rfl rfl rfl ?_
               refine AList.nil ?_)
            | (refine AWp.region (id := 6) ?_
               refine AList.move rfl rfl rfl ?_
               refine AList.move rfl rfl rfl ?_
               refine AList.move rfl rfl rfl ?_
               refine AList.fieldPl tyOk rfl rfl rfl rfl rfl rfl rfl ?_
               refine AList.load1l tyOk rfl rfl rfl rfl rfl oM ?_
               first | refine AList.cmpT rfl rfl rfl rfl rfl cmT ?_ | refine AList.cmpF rfl rfl rfl rfl rfl cmF ?_
               refine AList.pickT rfl rfl rfl rfl ?_
               refine AList.move rfl rfl rfl ?_
               first | refine AList.skip rfl rfl ?_ | refine AList.move rfl rfl rfl ?_
               first | refine AList.skip rfl rfl ?_ | refine AList.fieldPl tyOk rfl rfl rfl rfl rfl rfl rfl ?_
               first | refine AList.skip rfl rfl ?_ | refine AList.load1l tyOk rfl rfl rfl rfl rfl oM ?_
               first | refine AList.skip rfl rfl ?_ | refine AList.cmpF rfl rfl rfl rfl rfl cmF ?_
               first | refine AList.pickT rfl rfl rfl rfl ?_ | refine AList.pickF rfl rfl rfl rfl ?_
               refine AList.nil ?_))
          refine ⟨rfl, mkG (fun _ => True) 0 true 48 2 [] (lentL 0 (exB0 ⟨0, 0, 0, 0⟩ false)) [], [], Wk.mkG [] rfl rfl rfl rfl rfl trivial ?_, rfl, rfl⟩
          repeat (first | exact trivial | refine ⟨by first | exact HeapOk.same rfl rfl rfl rfl | exact HeapOk.lent rfl rfl rfl rfl | exact HeapOk.nil rfl rfl | exact HeapOk.row rfl rfl (by first | rfl | omega) (fun i _ j _ => ⟨rfl, by first | rfl | exact rowN_imm (fun _ => rfl) _ i j | exact rowF_imm (fun _ => rfl) _ i j⟩) | exact HeapOk.box rfl rfl (by repeat (first | exact trivial | refine ⟨by first | exact LeC.refl _ rfl | exact LeC.ow _ _ rfl | exact LeC.nil _ rfl | exact LeC.nils _ _ | exact LeC.fz rfl rfl (by first | rfl | omega) (fun i _ j _ => ⟨rfl, by first | rfl | exact rowN_imm (fun _ => rfl) _ i j | exact rowF_imm (fun _ => rfl) _ i j⟩) | exact LeC.int (by omega), ?_⟩)) rfl, ?_⟩)
    · rw [if_neg (by omega : ¬ k + 1 ≤ k)]
      repeat (first
        | refine thenA_r ?_
        | refine inBlk_r ?_)
      refine ⟨mkSt 48 [(6, .c (.pt 6 4 0 0)), (7, .c (.pt 7 1 0 0))] [(6, ⟨false, 1, 4, 52, lF (mcC mc)⟩), (7, ⟨false, 1, 1, 4, lF [bC true]⟩)] [6, 7], [(6, ⟨false, 1, 4, 52, lF (mcC mc)⟩), (7, ⟨false, 1, 1, 4, lF [bC true]⟩)], Wk.mk [(6, some 6), (7, some 7)] rfl rfl rfl ?_ ?_, rfl, rfl, ARets.two (x := .ag _) (y := .c _) (ARes.box tyOk rfl rfl rfl rfl rfl rfl rfl) (ARes.box1 tyOk rfl rfl rfl rfl rfl rfl)⟩
      · repeat (first | exact trivial | refine ⟨⟨_, rfl, by first | exact LeA.c (LeC.refl _ rfl) | exact LeA.c (LeC.ow _ _ rfl) | exact LeA.c (LeC.pt _ _ _ _ _ rfl) | exact LeA.c (LeC.nil _ rfl) | exact LeA.c (LeC.nils _ _) | (refine LeA.int ?_; omega) | (refine LeA.int ?_; dsimp only; omega) | exact LeA.c (LeC.fz rfl rfl (by first | rfl | omega) (fun i _ j _ => ⟨rfl, by first | rfl | exact rowN_imm (fun _ => rfl) _ i j | exact rowF_imm (fun _ => rfl) _ i j⟩))⟩, ?_⟩)
      · repeat (first | exact trivial | refine ⟨by first | exact HeapOk.same rfl rfl rfl rfl | exact HeapOk.lent rfl rfl rfl rfl | exact HeapOk.nil rfl rfl | exact HeapOk.row rfl rfl (by first | rfl | omega) (fun i _ j _ => ⟨rfl, by first | rfl | exact rowN_imm (fun _ => rfl) _ i j | exact rowF_imm (fun _ => rfl) _ i j⟩) | exact HeapOk.box rfl rfl (by repeat (first | exact trivial | refine ⟨by first | exact LeC.refl _ rfl | exact LeC.ow _ _ rfl | exact LeC.nil _ rfl | exact LeC.nils _ _ | exact LeC.fz rfl rfl (by first | rfl | omega) (fun i _ j _ => ⟨rfl, by first | rfl | exact rowN_imm (fun _ => rfl) _ i j | exact rowF_imm (fun _ => rfl) _ i j⟩) | exact LeC.int (by omega), ?_⟩)) rfl, ?_⟩)
end Go.Proofs.Ytclaanggpcjnbaa
end
