/- Parts of the proof: A22b. -/
import Derived.Test.YtcdnpnbjloaihaaG13
set_option linter.unusedSimpArgs false
set_option linter.unusedVariables false
section
/- ref22.Odd over plain values: some image. -/
namespace Go.Proofs.Ytcdnpnbjloaihaa
open Go.RowKit Go.Flow Go.AV Go.Plain
theorem set_one {n k : Nat} {f : Nat → Int} {e : Int} (g : Nat → Int) (h1 : g k = e) (h2 : ∀ i, ¬i = k → g i = f i) : ∀ i, i < n → ∀ j, j < 1 → setF (iF f) k 0 1 [iC e] i j = iF g i j ∧ immC (setF (iF f) k 0 1 [iC e] i j) = true := fun i hi => cell1 (by
  have : setF (iF f) k 0 1 [iC e] i 0 = iF g i 0 := by
    unfold setF
    by_cases h : i = k
    · subst h
      rw [Nat.beq_refl]
      exact congrArg iC h1.symm
    · rw [show Nat.beq i k = false from Bool.eq_false_iff.2 fun h' => h (Nat.eq_of_beq_eq_true h')]
      exact congrArg iC (h2 i h).symm
  exact ⟨this, by rw [this]; rfl⟩)
/-- Odd returns some image. -/
def OddV (W H : Int) (n : Nat) (f : Nat → Int) (q : Int) : Prop := ∃ (W' H' : Int) (m : Nat) (g : Nat → Int), m ≤ n + 1 ∧ ACalls Try.prog 11 [.ag (imgV W H n f), .c (iC q)] (.ag (imgV W' H' m g))
set_option maxRecDepth 100000 in
theorem Odd_A (W H : Int) (n : Nat) (f : Nat → Int) (q : Int) (hW : -1000 ≤ W ∧ W ≤ 1000) (hn : n ≤ 100000) (hq : -9223372036854775808 ≤ q ∧ q ≤ 9223372036854775807) : OddV W H n f q := by
  have hM := Mod_A q 6 (by omega) (by omega)
  have h0 := Int.emod_nonneg q (show (6 : Int) ≠ 0 by omega)
  have h6 := Int.emod_lt_of_pos q (show (0 : Int) < 6 by omega)
  generalize q % 6 = c at hM h0 h6
  have hc : c = 0 ∨ c = 1 ∨ c = 2 ∨ c = 3 ∨ c = 4 ∨ c = 5 := by omega
  clear h0 h6
  rcases hc with rfl | rfl | rfl | rfl | rfl | rfl
  · refine ⟨W + 1, H, n, f, by omega, ?_⟩
    refine acalls_at Try.func11 rfl rfl Try.ntmps11 rfl ?_
    repeat (first
      | refine AWp.seq ?_
      | refine thenA_n ?_
      | refine AWp.block ?_
      | refine AWp.ret ?_
      | refine AWp.condT rfl (by first | rfl | exact cmT) ?_
      | (refine AWp.region (id := 0) ?_
         refine AList.box rfl rfl rfl rfl rfl ?_
         refine AList.alloc tyOk rfl rfl rfl rfl rfl ?_
         refine AList.nil ?_)
      | (refine AWp.draw (id := 1) mixed ?_
         refine AList.fieldPt tyOk rfl rfl rfl rfl rfl rfl rfl ?_
         refine AList.load1 tyOk rfl rfl rfl rfl rfl rfl rfl oM oM ?_
         refine AList.fieldPt tyOk rfl rfl rfl rfl rfl rfl rfl ?_
         refine AList.load1 tyOk rfl rfl rfl rfl rfl rfl rfl oM oM ?_
         refine AList.emptySl tyOk rfl rfl rfl rfl rfl rfl rfl ?_
         refine AList.fieldPt tyOk rfl rfl rfl rfl rfl rfl rfl ?_
         refine AList.load1 tyOk rfl rfl rfl rfl rfl rfl rfl oM oM ?_
         refine AList.appL0 tyOk rfl rfl rfl rfl rfl rfl rfl rfl rfl rfl oM oM ?_
         refine AList.buildSt tyOk rfl rfl rfl rfl rfl rfl rfl rfl ?_
         refine AList.alloc tyOk rfl rfl rfl rfl rfl ?_
         refine AList.store tyOk rfl rfl rfl rfl rfl rfl rfl rfl oM oM ?_
         refine AList.nil ⟨by kernel_rfl, ?_⟩)
      | (refine AWp.region (id := 2) ?_
         refine AList.move rfl rfl rfl ?_
         refine AList.call rfl rfl rfl rfl Try.func31 rfl (by kernel_rfl) (hM) ?_
         refine AList.nil ?_)
      | (refine AWp.region (id := 3) ?_
         refine AList.cmp rfl rfl rfl rfl rfl ?_
         refine AList.assign rfl rfl rfl ?_
         refine AList.nil ?_)
      | (refine AWp.region (id := 4) ?_
         refine AList.fieldPt tyOk rfl rfl rfl rfl rfl rfl rfl ?_
         refine AList.load1 tyOk rfl rfl rfl rfl rfl rfl rfl oM oM ?_
         refine AList.add rfl rfl rfl rfl (by omega) (by omega) ?_
         refine AList.fieldPt tyOk rfl rfl rfl rfl rfl rfl rfl ?_
         refine AList.store tyOk rfl rfl rfl rfl rfl rfl rfl rfl oM oM ?_
         refine AList.nil ?_)
      | (refine AWp.region (id := 14) ?_
         refine AList.loadA tyOk rfl rfl rfl rfl rfl rfl rfl oM oM ?_
         refine AList.store tyOk rfl rfl rfl rfl rfl rfl rfl rfl oM oM ?_
         refine AList.nil ?_))
    refine ⟨mkSt 66 [(4, .c (.pt 4 3 0 0))] [(4, ⟨false, 1, 3, 27, lF (imgV (W + 1) (H) (n) (f))⟩)] [4], [(4, ⟨false, 1, 3, 27, lF (imgV (W + 1) (H) (n) (f))⟩)], Wk.mk [(4, some 4)] rfl rfl rfl ?_ ?_, rfl, rfl, ARets.one (x := .ag _) (ARes.box tyOk rfl rfl rfl rfl rfl rfl rfl)⟩
    · repeat (first | exact trivial | refine ⟨⟨_, rfl, by first | exact LeA.c (LeC.refl _ rfl) | exact LeA.c (LeC.ow _ _ rfl) | exact LeA.c (LeC.pt _ _ _ _ _ rfl) | exact LeA.c (LeC.nil _ rfl) | exact LeA.c (LeC.nils _ _) | (refine LeA.int ?_; omega) | (refine LeA.int ?_; dsimp only; omega) | exact LeA.c (LeC.fz rfl rfl (by first | rfl | omega) (fun i _ j _ => ⟨rfl, by first | rfl | exact rowN_imm (fun _ => rfl) _ i j | exact rowF_imm (fun _ => rfl) _ i j⟩))⟩, ?_⟩)
    · exact ⟨HeapOk.box rfl rfl ⟨LeC.int (by omega), LeC.int (by omega), (LeC.fz rfl rfl (by omega) (fun _ _ _ _ => ⟨rfl, rfl⟩)), trivial⟩ rfl, trivial⟩
  · refine ⟨W, q, n, f, by omega, ?_⟩
    refine acalls_at Try.func11 rfl rfl Try.ntmps11 rfl ?_
    repeat (first
      | refine AWp.seq ?_
      | refine thenA_n ?_
      | refine AWp.block ?_
      | refine AWp.ret ?_
      | refine AWp.condT rfl (by first | rfl | exact cmT) ?_
      | refine AWp.condF rfl (by first | rfl | exact cmF) ?_
      | (refine AWp.region (id := 0) ?_
         refine AList.box rfl rfl rfl rfl rfl ?_
         refine AList.alloc tyOk rfl rfl rfl rfl rfl ?_
         refine AList.nil ?_)
      | (refine AWp.draw (id := 1) mixed ?_
         refine AList.fieldPt tyOk rfl rfl rfl rfl rfl rfl rfl ?_
         refine AList.load1 tyOk rfl rfl rfl rfl rfl rfl rfl oM oM ?_
         refine AList.fieldPt tyOk rfl rfl rfl rfl rfl rfl rfl ?_
         refine AList.load1 tyOk rfl rfl rfl rfl rfl rfl rfl oM oM ?_
         refine AList.emptySl tyOk rfl rfl rfl rfl rfl rfl rfl ?_
         refine AList.fieldPt tyOk rfl rfl rfl rfl rfl rfl rfl ?_
         refine AList.load1 tyOk rfl rfl rfl rfl rfl rfl rfl oM oM ?_
         refine AList.appL0 tyOk rfl rfl rfl rfl rfl rfl rfl rfl rfl rfl oM oM ?_
         refine AList.buildSt tyOk rfl rfl rfl rfl rfl rfl rfl rfl ?_
         refine AList.alloc tyOk rfl rfl rfl rfl rfl ?_
         refine AList.store tyOk rfl rfl rfl rfl rfl rfl rfl rfl oM oM ?_
         refine AList.nil ⟨by kernel_rfl, ?_⟩)
      | (refine AWp.region (id := 2) ?_
         refine AList.move rfl rfl rfl ?_
         refine AList.call rfl rfl rfl rfl Try.func31 rfl (by kernel_rfl) (hM) ?_
         refine AList.nil ?_)
      | (refine AWp.region (id := 3) ?_
         refine AList.cmpF rfl rfl rfl rfl rfl cmF ?_
         refine AList.assign rfl rfl rfl ?_
         refine AList.nil ?_)
      | (refine AWp.region (id := 5) ?_
         refine AList.cmp rfl rfl rfl rfl rfl ?_
         refine AList.assign rfl rfl rfl ?_
         refine AList.nil ?_)
      | (refine AWp.region (id := 6) ?_
         refine AList.move rfl rfl rfl ?_
         refine AList.fieldPt tyOk rfl rfl rfl rfl rfl rfl rfl ?_
         refine AList.store tyOk rfl rfl rfl rfl rfl rfl rfl rfl oM oM ?_
         refine AList.nil ?_)
      | (refine AWp.region (id := 14) ?_
         refine AList.loadA tyOk rfl rfl rfl rfl rfl rfl rfl oM oM ?_
         refine AList.store tyOk rfl rfl rfl rfl rfl rfl rfl rfl oM oM ?_
         refine AList.nil ?_))
    refine ⟨mkSt 66 [(4, .c (.pt 4 3 0 0))] [(4, ⟨false, 1, 3, 27, lF (imgV (W) (q) (n) (f))⟩)] [4], [(4, ⟨false, 1, 3, 27, lF (imgV (W) (q) (n) (f))⟩)], Wk.mk [(4, some 4)] rfl rfl rfl ?_ ?_, rfl, rfl, ARets.one (x := .ag _) (ARes.box tyOk rfl rfl rfl rfl rfl rfl rfl)⟩
    · repeat (first | exact trivial | refine ⟨⟨_, rfl, by first | exact LeA.c (LeC.refl _ rfl) | exact LeA.c (LeC.ow _ _ rfl) | exact LeA.c (LeC.pt _ _ _ _ _ rfl) | exact LeA.c (LeC.nil _ rfl) | exact LeA.c (LeC.nils _ _) | (refine LeA.int ?_; omega) | (refine LeA.int ?_; dsimp only; omega) | exact LeA.c (LeC.fz rfl rfl (by first | rfl | omega) (fun i _ j _ => ⟨rfl, by first | rfl | exact rowN_imm (fun _ => rfl) _ i j | exact rowF_imm (fun _ => rfl) _ i j⟩))⟩, ?_⟩)
    · exact ⟨HeapOk.box rfl rfl ⟨LeC.int (by omega), LeC.int (by omega), (LeC.fz rfl rfl (by omega) (fun _ _ _ _ => ⟨rfl, rfl⟩)), trivial⟩ rfl, trivial⟩
  · refine ⟨W, H, n + 1, fun k => if k < n then f k else 1, by omega, ?_⟩
    refine acalls_at Try.func11 rfl rfl Try.ntmps11 rfl ?_
    repeat (first
      | refine AWp.seq ?_
      | refine thenA_n ?_
      | refine AWp.block ?_
      | refine AWp.ret ?_
      | refine AWp.condT rfl (by first | rfl | exact cmT) ?_
      | refine AWp.condF rfl (by first | rfl | exact cmF) ?_
      | (refine AWp.region (id := 0) ?_
         refine AList.box rfl rfl rfl rfl rfl ?_
         refine AList.alloc tyOk rfl rfl rfl rfl rfl ?_
         refine AList.nil ?_)
      | (refine AWp.draw (id := 1) mixed ?_
         refine AList.fieldPt tyOk rfl rfl rfl rfl rfl rfl rfl ?_
         refine AList.load1 tyOk rfl rfl rfl rfl rfl rfl rfl oM oM ?_
         refine AList.fieldPt tyOk rfl rfl rfl rfl rfl rfl rfl ?_
         refine AList.load1 tyOk rfl rfl rfl rfl rfl rfl rfl oM oM ?_
         refine AList.emptySl tyOk rfl rfl rfl rfl rfl rfl rfl ?_
         refine AList.fieldPt tyOk rfl rfl rfl rfl rfl rfl rfl ?_
         refine AList.load1 tyOk rfl rfl rfl rfl rfl rfl rfl oM oM ?_
         refine AList.appL0 tyOk rfl rfl rfl rfl rfl rfl rfl rfl rfl rfl oM oM ?_
         refine AList.buildSt tyOk rfl rfl rfl rfl rfl rfl rfl rfl ?_
         refine AList.alloc tyOk rfl rfl rfl rfl rfl ?_
         refine AList.store tyOk rfl rfl rfl rfl rfl rfl rfl rfl oM oM ?_
         refine AList.nil ⟨by kernel_rfl, ?_⟩)
      | (refine AWp.region (id := 2) ?_
         refine AList.move rfl rfl rfl ?_
         refine AList.call rfl rfl rfl rfl Try.func31 rfl (by kernel_rfl) (hM) ?_
         refine AList.nil ?_)
      | (refine AWp.region (id := 3) ?_
         refine AList.cmpF rfl rfl rfl rfl rfl cmF ?_
         refine AList.assign rfl rfl rfl ?_
         refine AList.nil ?_)
      | (refine AWp.region (id := 5) ?_
         refine AList.cmpF rfl rfl rfl rfl rfl cmF ?_
         refine AList.assign rfl rfl rfl ?_
         refine AList.nil ?_)
      | (refine AWp.region (id := 7) ?_
         refine AList.cmp rfl rfl rfl rfl rfl ?_
         refine AList.assign rfl rfl rfl ?_
         refine AList.nil ?_)
      | (refine AWp.region (id := 8) ?_
         refine AList.fieldPt tyOk rfl rfl rfl rfl rfl rfl rfl ?_
         refine AList.load1 tyOk rfl rfl rfl rfl rfl rfl rfl oM oM ?_
         refine AList.litSl tyOk rfl rfl rfl rfl rfl rfl rfl rfl rfl rfl rfl ?_
         refine AList.appL tyOk rfl rfl rfl rfl rfl rfl rfl rfl rfl rfl oM oM ?_
         refine AList.fieldPt tyOk rfl rfl rfl rfl rfl rfl rfl ?_
         refine AList.store tyOk rfl rfl rfl rfl rfl rfl rfl rfl oM oM ?_
         refine AList.nil ?_)
      | (refine AWp.region (id := 14) ?_
         refine AList.loadA tyOk rfl rfl rfl rfl rfl rfl rfl oM oM ?_
         refine AList.store tyOk rfl rfl rfl rfl rfl rfl rfl rfl oM oM ?_
         refine AList.nil ?_))
    refine ⟨mkSt 66 [(4, .c (.pt 4 3 0 0))] [(4, ⟨false, 1, 3, 27, lF (imgV (W) (H) (n + 1) ((fun k => if k < n then f k else 1)))⟩)] [4], [(4, ⟨false, 1, 3, 27, lF (imgV (W) (H) (n + 1) ((fun k => if k < n then f k else 1)))⟩)], Wk.mk [(4, some 4)] rfl rfl rfl ?_ ?_, rfl, rfl, ARets.one (x := .ag _) (ARes.box tyOk rfl rfl rfl rfl rfl rfl rfl)⟩
    · repeat (first | exact trivial | refine ⟨⟨_, rfl, by first | exact LeA.c (LeC.refl _ rfl) | exact LeA.c (LeC.ow _ _ rfl) | exact LeA.c (LeC.pt _ _ _ _ _ rfl) | exact LeA.c (LeC.nil _ rfl) | exact LeA.c (LeC.nils _ _) | (refine LeA.int ?_; omega) | (refine LeA.int ?_; dsimp only; omega) | exact LeA.c (LeC.fz rfl rfl (by first | rfl | omega) (fun i _ j _ => ⟨rfl, by first | rfl | exact rowN_imm (fun _ => rfl) _ i j | exact rowF_imm (fun _ => rfl) _ i j⟩))⟩, ?_⟩)
    · exact ⟨HeapOk.box rfl rfl ⟨LeC.int (by omega), LeC.int (by omega), (LeC.fz rfl rfl (by omega) (app_F (n := n) (G := iF (fun k => if k < n then f k else 1)) (fun i hi => cell1 (congrArg iC (if_pos (show i < n by omega)).symm)) (cell1 (congrArg iC (if_neg (by omega)).symm)) (fun _ _ => cell1 rfl))), trivial⟩ rfl, trivial⟩
  · refine ⟨W, H, n / 2, f, by omega, ?_⟩
    refine acalls_at Try.func11 rfl rfl Try.ntmps11 rfl ?_
    repeat (first
      | refine AWp.seq ?_
      | refine thenA_n ?_
      | refine AWp.block ?_
      | refine AWp.condT rfl (by first | rfl | exact cmT) ?_
      | refine AWp.condF rfl (by first | rfl | exact cmF) ?_
      | (refine AWp.region (id := 0) ?_
         refine AList.box rfl rfl rfl rfl rfl ?_
         refine AList.alloc tyOk rfl rfl rfl rfl rfl ?_
         refine AList.nil ?_)
      | (refine AWp.draw (id := 1) mixed ?_
         refine AList.fieldPt tyOk rfl rfl rfl rfl rfl rfl rfl ?_
         refine AList.load1 tyOk rfl rfl rfl rfl rfl rfl rfl oM oM ?_
         refine AList.fieldPt tyOk rfl rfl rfl rfl rfl rfl rfl ?_
         refine AList.load1 tyOk rfl rfl rfl rfl rfl rfl rfl oM oM ?_
         refine AList.emptySl tyOk rfl rfl rfl rfl rfl rfl rfl ?_
         refine AList.fieldPt tyOk rfl rfl rfl rfl rfl rfl rfl ?_
         refine AList.load1 tyOk rfl rfl rfl rfl rfl rfl rfl oM oM ?_
         refine AList.appL0 tyOk rfl rfl rfl rfl rfl rfl rfl rfl rfl rfl oM oM ?_
         refine AList.buildSt tyOk rfl rfl rfl rfl rfl rfl rfl rfl ?_
         refine AList.alloc tyOk rfl rfl rfl rfl rfl ?_
         refine AList.store tyOk rfl rfl rfl rfl rfl rfl rfl rfl oM oM ?_
         refine AList.nil ⟨by kernel_rfl, ?_⟩)
      | (refine AWp.region (id := 2) ?_
         refine AList.move rfl rfl rfl ?_
         refine AList.call rfl rfl rfl rfl Try.func31 rfl (by kernel_rfl) (hM) ?_
         refine AList.nil ?_)
      | (refine AWp.region (id := 3) ?_
         refine AList.cmpF rfl rfl rfl rfl rfl cmF ?_
         refine AList.assign rfl rfl rfl ?_
         refine AList.nil ?_)
      | (refine AWp.region (id := 5) ?_
         refine AList.cmpF rfl rfl rfl rfl rfl cmF ?_
         refine AList.assign rfl rfl rfl ?_
         refine AList.nil ?_)
      | (refine AWp.region (id := 7) ?_
         refine AList.cmpF rfl rfl rfl rfl rfl cmF ?_
         refine AList.assign rfl rfl rfl ?_
         refine AList.nil ?_)
      | (refine AWp.region (id := 9) ?_
         refine AList.cmp rfl rfl rfl rfl rfl ?_
         refine AList.assign rfl rfl rfl ?_
         refine AList.nil ?_))
    refine AWp.weak (S' := mkSt 66 [(1, .c (iC q)), (4, .c (.pt 4 3 0 0)), (5, .c (.pt 5 3 0 0))] [(4, ⟨false, 1, 3, 27, lF [iC 0, iC 0, .p (.slice none 0 0)]⟩), (5, ⟨false, 1, 3, 27, lF (imgV W H n f)⟩)] [4, 5]) (Wk.mk [(4, some 4), (5, some 5)] rfl rfl rfl ?_ ?_) ?_
    · repeat (first | exact trivial | refine ⟨⟨_, rfl, by first | exact LeA.c (LeC.refl _ rfl) | exact LeA.c (LeC.ow _ _ rfl) | exact LeA.c (LeC.pt _ _ _ _ _ rfl) | exact LeA.c (LeC.nil _ rfl) | exact LeA.c (LeC.nils _ _) | (refine LeA.int ?_; omega) | (refine LeA.int ?_; dsimp only; omega) | exact LeA.c (LeC.fz rfl rfl (by first | rfl | omega) (fun i _ j _ => ⟨rfl, by first | rfl | exact rowN_imm (fun _ => rfl) _ i j | exact rowF_imm (fun _ => rfl) _ i j⟩))⟩, ?_⟩)
    · repeat (first | exact trivial | refine ⟨by first | exact HeapOk.same rfl rfl rfl rfl | exact HeapOk.lent rfl rfl rfl rfl | exact HeapOk.nil rfl rfl | exact HeapOk.row rfl rfl (by first | rfl | omega) (fun i _ j _ => ⟨rfl, by first | rfl | exact rowN_imm (fun _ => rfl) _ i j | exact rowF_imm (fun _ => rfl) _ i j⟩) | exact HeapOk.box rfl rfl (by repeat (first | exact trivial | refine ⟨by first | exact LeC.refl _ rfl | exact LeC.ow _ _ rfl | exact LeC.nil _ rfl | exact LeC.nils _ _ | exact LeC.fz rfl rfl (by first | rfl | omega) (fun i _ j _ => ⟨rfl, by first | rfl | exact rowN_imm (fun _ => rfl) _ i j | exact rowF_imm (fun _ => rfl) _ i j⟩) | exact LeC.int (by omega), ?_⟩)) rfl, ?_⟩)
    have e2 : (n : Int) / 2 = ((n / 2 : Nat) : Int) := by omega
    repeat (first
      | refine AWp.seq ?_
      | refine thenA_n ?_
      | refine AWp.ret ?_
      | (refine AWp.region (id := 10) ?_
         refine AList.fieldPt tyOk rfl rfl rfl rfl rfl rfl rfl ?_
         refine AList.load1 tyOk rfl rfl rfl rfl rfl rfl rfl oM oM ?_
         refine AList.fieldPt tyOk rfl rfl rfl rfl rfl rfl rfl ?_
         refine AList.load1 tyOk rfl rfl rfl rfl rfl rfl rfl oM oM ?_
         refine AList.lenLs tyOk rfl rfl rfl rfl rfl ?_
         refine AList.quo rfl rfl rfl rfl (by omega) (by omega) (by omega) ?_
         refine AList.cut (l := 0) (h := n / 2) tyOk rfl rfl rfl rfl rfl rfl rfl rfl ⟨_, _, rfl, by first | rfl | omega⟩ (by omega) (by omega) ?_
         refine AList.fieldPt tyOk rfl rfl rfl rfl rfl rfl rfl ?_
         refine AList.store tyOk rfl rfl rfl rfl rfl rfl rfl rfl oM oM ?_
         refine AList.nil ?_)
      | (refine AWp.region (id := 14) ?_
         refine AList.loadA tyOk rfl rfl rfl rfl rfl rfl rfl oM oM ?_
         refine AList.store tyOk rfl rfl rfl rfl rfl rfl rfl rfl oM oM ?_
         refine AList.nil ?_))
    refine ⟨mkSt 66 [(4, .c (.pt 4 3 0 0))] [(4, ⟨false, 1, 3, 27, lF (imgV (W) (H) (n / 2) (f))⟩)] [4], [(4, ⟨false, 1, 3, 27, lF (imgV (W) (H) (n / 2) (f))⟩)], Wk.mk [(4, some 4)] rfl rfl rfl ?_ ?_, rfl, rfl, ARets.one (x := .ag _) (ARes.box tyOk rfl rfl rfl rfl rfl rfl rfl)⟩
    · repeat (first | exact trivial | refine ⟨⟨_, rfl, by first | exact LeA.c (LeC.refl _ rfl) | exact LeA.c (LeC.ow _ _ rfl) | exact LeA.c (LeC.pt _ _ _ _ _ rfl) | exact LeA.c (LeC.nil _ rfl) | exact LeA.c (LeC.nils _ _) | (refine LeA.int ?_; omega) | (refine LeA.int ?_; dsimp only; omega) | exact LeA.c (LeC.fz rfl rfl (by first | rfl | omega) (fun i _ j _ => ⟨rfl, by first | rfl | exact rowN_imm (fun _ => rfl) _ i j | exact rowF_imm (fun _ => rfl) _ i j⟩))⟩, ?_⟩)
    · exact ⟨HeapOk.box rfl rfl ⟨LeC.int (by omega), LeC.int (by omega), (LeC.lz (by omega) (fun _ _ _ _ => by rw [Nat.zero_add])), trivial⟩ rfl, trivial⟩
  · by_cases h0 : n = 0
    · refine ⟨W, H, n, f, by omega, ?_⟩
      refine acalls_at Try.func11 rfl rfl Try.ntmps11 rfl ?_
      repeat (first
        | refine AWp.seq ?_
        | refine thenA_n ?_
        | refine AWp.block ?_
        | refine AWp.skip ?_
        | refine AWp.ret ?_
        | refine AWp.condT rfl (by first | rfl | exact cmT) ?_
        | refine AWp.condF rfl (by first | rfl | exact cmF) ?_
        | (refine AWp.region (id := 0) ?_
           refine AList.box rfl rfl rfl rfl rfl ?_
           refine AList.alloc tyOk rfl rfl rfl rfl rfl ?_
           refine AList.nil ?_)
        | (refine AWp.draw (id := 1) mixed ?_
           refine AList.fieldPt tyOk rfl rfl rfl rfl rfl rfl rfl ?_
           refine AList.load1 tyOk rfl rfl rfl rfl rfl rfl rfl oM oM ?_
           refine AList.fieldPt tyOk rfl rfl rfl rfl rfl rfl rfl ?_
           refine AList.load1 tyOk rfl rfl rfl rfl rfl rfl rfl oM oM ?_
           refine AList.emptySl tyOk rfl rfl rfl rfl rfl rfl rfl ?_
           refine AList.fieldPt tyOk rfl rfl rfl rfl rfl rfl rfl ?_
           refine AList.load1 tyOk rfl rfl rfl rfl rfl rfl rfl oM oM ?_
           refine AList.appL0 tyOk rfl rfl rfl rfl rfl rfl rfl rfl rfl rfl oM oM ?_
           refine AList.buildSt tyOk rfl rfl rfl rfl rfl rfl rfl rfl ?_
           refine AList.alloc tyOk rfl rfl rfl rfl rfl ?_
           refine AList.store tyOk rfl rfl rfl rfl rfl rfl rfl rfl oM oM ?_
           refine AList.nil ⟨by kernel_rfl, ?_⟩)
        | (refine AWp.region (id := 2) ?_
           refine AList.move rfl rfl rfl ?_
           refine AList.call rfl rfl rfl rfl Try.func31 rfl (by kernel_rfl) (hM) ?_
           refine AList.nil ?_)
        | (refine AWp.region (id := 3) ?_
           refine AList.cmpF rfl rfl rfl rfl rfl cmF ?_
           refine AList.assign rfl rfl rfl ?_
           refine AList.nil ?_)
        | (refine AWp.region (id := 5) ?_
           refine AList.cmpF rfl rfl rfl rfl rfl cmF ?_
           refine AList.assign rfl rfl rfl ?_
           refine AList.nil ?_)
        | (refine AWp.region (id := 7) ?_
           refine AList.cmpF rfl rfl rfl rfl rfl cmF ?_
           refine AList.assign rfl rfl rfl ?_
           refine AList.nil ?_)
        | (refine AWp.region (id := 9) ?_
           refine AList.cmpF rfl rfl rfl rfl rfl cmF ?_
           refine AList.assign rfl rfl rfl ?_
           refine AList.nil ?_)
        | (refine AWp.region (id := 11) ?_
           refine AList.cmp rfl rfl rfl rfl rfl ?_
           refine AList.assign rfl rfl rfl ?_
           refine AList.nil ?_)
        | (refine AWp.region (id := 12) ?_
           refine AList.fieldPt tyOk rfl rfl rfl rfl rfl rfl rfl ?_
           refine AList.load1 tyOk rfl rfl rfl rfl rfl rfl rfl oM oM ?_
           refine AList.lenOw tyOk rfl rfl rfl rfl rfl rfl rfl ?_
           refine AList.cmpF rfl rfl rfl rfl rfl cmF ?_
           refine AList.nil ?_)
        | (refine AWp.region (id := 14) ?_
           refine AList.loadA tyOk rfl rfl rfl rfl rfl rfl rfl oM oM ?_
           refine AList.store tyOk rfl rfl rfl rfl rfl rfl rfl rfl oM oM ?_
           refine AList.nil ?_))
      refine ⟨mkSt 66 [(4, .c (.pt 4 3 0 0))] [(4, ⟨false, 1, 3, 27, lF (imgV (W) (H) (n) (f))⟩)] [4], [(4, ⟨false, 1, 3, 27, lF (imgV (W) (H) (n) (f))⟩)], Wk.mk [(4, some 4)] rfl rfl rfl ?_ ?_, rfl, rfl, ARets.one (x := .ag _) (ARes.box tyOk rfl rfl rfl rfl rfl rfl rfl)⟩
      · repeat (first | exact trivial | refine ⟨⟨_, rfl, by first | exact LeA.c (LeC.refl _ rfl) | exact LeA.c (LeC.ow _ _ rfl) | exact LeA.c (LeC.pt _ _ _ _ _ rfl) | exact LeA.c (LeC.nil _ rfl) | exact LeA.c (LeC.nils _ _) | (refine LeA.int ?_; omega) | (refine LeA.int ?_; dsimp only; omega) | exact LeA.c (LeC.fz rfl rfl (by first | rfl | omega) (fun i _ j _ => ⟨rfl, by first | rfl | exact rowN_imm (fun _ => rfl) _ i j | exact rowF_imm (fun _ => rfl) _ i j⟩))⟩, ?_⟩)
      · exact ⟨HeapOk.box rfl rfl ⟨LeC.int (by omega), LeC.int (by omega), (LeC.fz rfl rfl (by omega) (fun _ _ _ _ => ⟨rfl, rfl⟩)), trivial⟩ rfl, trivial⟩
    · have hA := Mod_A (q.tdiv 6) n (by omega) (by omega)
      have hB := Mod_A (q.tdiv 7) 3 (by omega) (by omega)
      have a0 := Int.emod_nonneg (q.tdiv 6) (show (n : Int) ≠ 0 by omega)
      have a1 := Int.emod_lt_of_pos (q.tdiv 6) (show (0 : Int) < n by omega)
      have b0 := Int.emod_nonneg (q.tdiv 7) (show (3 : Int) ≠ 0 by omega)
      have b1 := Int.emod_lt_of_pos (q.tdiv 7) (show (0 : Int) < 3 by omega)
      generalize q.tdiv 6 % n = u at hA a0 a1
      obtain ⟨k, rfl⟩ := Int.eq_ofNat_of_zero_le a0
      generalize q.tdiv 7 % 3 = v at hB b0 b1
      obtain ⟨j, rfl⟩ := Int.eq_ofNat_of_zero_le b0
      have hj : j = 0 ∨ j = 1 ∨ j = 2 := by omega
      rcases hj with rfl | rfl | rfl
      · refine ⟨W, H, n, fun i => if i = k then 3 else f i, by omega, ?_⟩
        refine acalls_at Try.func11 rfl rfl Try.ntmps11 rfl ?_
        repeat (first
          | refine AWp.seq ?_
          | refine thenA_n ?_
          | refine AWp.block ?_
          | refine AWp.ret ?_
          | refine AWp.condT rfl (by first | rfl | exact cmT) ?_
          | refine AWp.condF rfl (by first | rfl | exact cmF) ?_
          | (refine AWp.region (id := 0) ?_
             refine AList.box rfl rfl rfl rfl rfl ?_
             refine AList.alloc tyOk rfl rfl rfl rfl rfl ?_
             refine AList.nil ?_)
          | (refine AWp.draw (id := 1) mixed ?_
             refine AList.fieldPt tyOk rfl rfl rfl rfl rfl rfl rfl ?_
             refine AList.load1 tyOk rfl rfl rfl rfl rfl rfl rfl oM oM ?_
             refine AList.fieldPt tyOk rfl rfl rfl rfl rfl rfl rfl ?_
             refine AList.load1 tyOk rfl rfl rfl rfl rfl rfl rfl oM oM ?_
             refine AList.emptySl tyOk rfl rfl rfl rfl rfl rfl rfl ?_
             refine AList.fieldPt tyOk rfl rfl rfl rfl rfl rfl rfl ?_
             refine AList.load1 tyOk rfl rfl rfl rfl rfl rfl rfl oM oM ?_
             refine AList.appL0 tyOk rfl rfl rfl rfl rfl rfl rfl rfl rfl rfl oM oM ?_
             refine AList.buildSt tyOk rfl rfl rfl rfl rfl rfl rfl rfl ?_
             refine AList.alloc tyOk rfl rfl rfl rfl rfl ?_
             refine AList.store tyOk rfl rfl rfl rfl rfl rfl rfl rfl oM oM ?_
             refine AList.nil ⟨by kernel_rfl, ?_⟩)
          | (refine AWp.region (id := 2) ?_
             refine AList.move rfl rfl rfl ?_
             refine AList.call rfl rfl rfl rfl Try.func31 rfl (by kernel_rfl) (hM) ?_
             refine AList.nil ?_)
          | (refine AWp.region (id := 3) ?_
             refine AList.cmpF rfl rfl rfl rfl rfl cmF ?_
             refine AList.assign rfl rfl rfl ?_
             refine AList.nil ?_)
          | (refine AWp.region (id := 5) ?_
             refine AList.cmpF rfl rfl rfl rfl rfl cmF ?_
             refine AList.assign rfl rfl rfl ?_
             refine AList.nil ?_)
          | (refine AWp.region (id := 7) ?_
             refine AList.cmpF rfl rfl rfl rfl rfl cmF ?_
             refine AList.assign rfl rfl rfl ?_
             refine AList.nil ?_)
          | (refine AWp.region (id := 9) ?_
             refine AList.cmpF rfl rfl rfl rfl rfl cmF ?_
             refine AList.assign rfl rfl rfl ?_
             refine AList.nil ?_)
          | (refine AWp.region (id := 11) ?_
             refine AList.cmp rfl rfl rfl rfl rfl ?_
             refine AList.assign rfl rfl rfl ?_
             refine AList.nil ?_)
          | (refine AWp.region (id := 12) ?_
             refine AList.fieldPt tyOk rfl rfl rfl rfl rfl rfl rfl ?_
             refine AList.load1 tyOk rfl rfl rfl rfl rfl rfl rfl oM oM ?_
             refine AList.lenOw tyOk rfl rfl rfl rfl rfl rfl rfl ?_
             refine AList.cmpT rfl rfl rfl rfl rfl cmT ?_
             refine AList.nil ?_)
          | (refine AWp.draw (id := 13) mixed ?_
             refine AList.fieldPt tyOk rfl rfl rfl rfl rfl rfl rfl ?_
             refine AList.load1 tyOk rfl rfl rfl rfl rfl rfl rfl oM oM ?_
             refine AList.move rfl rfl rfl ?_
             refine AList.quoZ rfl rfl rfl rfl (by omega) (by omega) (by omega) ?_
             refine AList.fieldPt tyOk rfl rfl rfl rfl rfl rfl rfl ?_
             refine AList.load1 tyOk rfl rfl rfl rfl rfl rfl rfl oM oM ?_
             refine AList.lenOw tyOk rfl rfl rfl rfl rfl rfl rfl ?_
             refine AList.call rfl rfl rfl rfl Try.func31 rfl (by kernel_rfl) (hA) ?_
             refine AList.litSl tyOk rfl rfl rfl rfl rfl rfl rfl rfl rfl rfl rfl ?_
             refine AList.move rfl rfl rfl ?_
             refine AList.quoZ rfl rfl rfl rfl (by omega) (by omega) (by omega) ?_
             refine AList.call rfl rfl rfl rfl Try.func31 rfl (by kernel_rfl) (hB) ?_
             refine AList.idx (k := 0) tyOk rfl rfl rfl rfl rfl rfl rfl rfl (by first | rfl | omega) oM oM ?_
             refine AList.load1l tyOk rfl rfl rfl rfl rfl oM ?_
             refine AList.idxOw (k := k) tyOk rfl rfl rfl rfl rfl rfl rfl rfl rfl rfl (by first | rfl | omega) oM ?_
             refine AList.store tyOk rfl rfl rfl rfl rfl rfl rfl rfl oM oM ?_
             refine AList.nil ⟨by kernel_rfl, ?_⟩)
          | (refine AWp.region (id := 14) ?_
             refine AList.loadA tyOk rfl rfl rfl rfl rfl rfl rfl oM oM ?_
             refine AList.store tyOk rfl rfl rfl rfl rfl rfl rfl rfl oM oM ?_
             refine AList.nil ?_))
        refine ⟨mkSt 66 [(4, .c (.pt 4 3 0 0))] [(4, ⟨false, 1, 3, 27, lF (imgV (W) (H) (n) ((fun i => if i = k then 3 else f i)))⟩)] [4], [(4, ⟨false, 1, 3, 27, lF (imgV (W) (H) (n) ((fun i => if i = k then 3 else f i)))⟩)], Wk.mk [(4, some 4)] rfl rfl rfl ?_ ?_, rfl, rfl, ARets.one (x := .ag _) (ARes.box tyOk rfl rfl rfl rfl rfl rfl rfl)⟩
        · repeat (first | exact trivial | refine ⟨⟨_, rfl, by first | exact LeA.c (LeC.refl _ rfl) | exact LeA.c (LeC.ow _ _ rfl) | exact LeA.c (LeC.pt _ _ _ _ _ rfl) | exact LeA.c (LeC.nil _ rfl) | exact LeA.c (LeC.nils _ _) | (refine LeA.int ?_; omega) | (refine LeA.int ?_; dsimp only; omega) | exact LeA.c (LeC.fz rfl rfl (by first | rfl | omega) (fun i _ j _ => ⟨rfl, by first | rfl | exact rowN_imm (fun _ => rfl) _ i j | exact rowF_imm (fun _ => rfl) _ i j⟩))⟩, ?_⟩)
        · exact ⟨HeapOk.box rfl rfl ⟨LeC.int (by omega), LeC.int (by omega), (LeC.fz rfl rfl rfl (set_one (fun i => if i = k then 3 else f i) (if_pos rfl) (fun i h => if_neg h))), trivial⟩ rfl, trivial⟩
      · refine ⟨W, H, n, fun i => if i = k then (-1) else f i, by omega, ?_⟩
        refine acalls_at Try.func11 rfl rfl Try.ntmps11 rfl ?_
        repeat (first
          | refine AWp.seq ?_
          | refine thenA_n ?_
          | refine AWp.block ?_
          | refine AWp.ret ?_
          | refine AWp.condT rfl (by first | rfl | exact cmT) ?_
          | refine AWp.condF rfl (by first | rfl | exact cmF) ?_
          | (refine AWp.region (id := 0) ?_
             refine AList.box rfl rfl rfl rfl rfl ?_
             refine AList.alloc tyOk rfl rfl rfl rfl rfl ?_
             refine AList.nil ?_)
          | (refine AWp.draw (id := 1) mixed ?_
             refine AList.fieldPt tyOk rfl rfl rfl rfl rfl rfl rfl ?_
             refine AList.load1 tyOk rfl rfl rfl rfl rfl rfl rfl oM oM ?_
             refine AList.fieldPt tyOk rfl rfl rfl rfl rfl rfl rfl ?_
             refine AList.load1 tyOk rfl rfl rfl rfl rfl rfl rfl oM oM ?_
             refine AList.emptySl tyOk rfl rfl rfl rfl rfl rfl rfl ?_
             refine AList.fieldPt tyOk rfl rfl rfl rfl rfl rfl rfl ?_
             refine AList.load1 tyOk rfl rfl rfl rfl rfl rfl rfl oM oM ?_
             refine AList.appL0 tyOk rfl rfl rfl rfl rfl rfl rfl rfl rfl rfl oM oM ?_
             refine AList.buildSt tyOk rfl rfl rfl rfl rfl rfl rfl rfl ?_
             refine AList.alloc tyOk rfl rfl rfl rfl rfl ?_
             refine AList.store tyOk rfl rfl rfl rfl rfl rfl rfl rfl oM oM ?_
             refine AList.nil ⟨by kernel_rfl, ?_⟩)
          | (refine AWp.region (id := 2) ?_
             refine AList.move rfl rfl rfl ?_
             refine AList.call rfl rfl rfl rfl Try.func31 rfl (by kernel_rfl) (hM) ?_
             refine AList.nil ?_)
          | (refine AWp.region (id := 3) ?_
             refine AList.cmpF rfl rfl rfl rfl rfl cmF ?_
             refine AList.assign rfl rfl rfl ?_
             refine AList.nil ?_)
          | (refine AWp.region (id := 5) ?_
             refine AList.cmpF rfl rfl rfl rfl rfl cmF ?_
             refine AList.assign rfl rfl rfl ?_
             refine AList.nil ?_)
          | (refine AWp.region (id := 7) ?_
             refine AList.cmpF rfl rfl rfl rfl rfl cmF ?_
             refine AList.assign rfl rfl rfl ?_
             refine AList.nil ?_)
          | (refine AWp.region (id := 9) ?_
             refine AList.cmpF rfl rfl rfl rfl rfl cmF ?_
             refine AList.assign rfl rfl rfl ?_
             refine AList.nil ?_)
          | (refine AWp.region (id := 11) ?_
             refine AList.cmp rfl rfl rfl rfl rfl ?_
             refine AList.assign rfl rfl rfl ?_
             refine AList.nil ?_)
          | (refine AWp.region (id := 12) ?_
             refine AList.fieldPt tyOk rfl rfl rfl rfl rfl rfl rfl ?_
             refine AList.load1 tyOk rfl rfl rfl rfl rfl rfl rfl oM oM ?_
             refine AList.lenOw tyOk rfl rfl rfl rfl rfl rfl rfl ?_
             refine AList.cmpT rfl rfl rfl rfl rfl cmT ?_
             refine AList.nil ?_)
          | (refine AWp.draw (id := 13) mixed ?_
             refine AList.fieldPt tyOk rfl rfl rfl rfl rfl rfl rfl ?_
             refine AList.load1 tyOk rfl rfl rfl rfl rfl rfl rfl oM oM ?_
             refine AList.move rfl rfl rfl ?_
             refine AList.quoZ rfl rfl rfl rfl (by omega) (by omega) (by omega) ?_
             refine AList.fieldPt tyOk rfl rfl rfl rfl rfl rfl rfl ?_
             refine AList.load1 tyOk rfl rfl rfl rfl rfl rfl rfl oM oM ?_
             refine AList.lenOw tyOk rfl rfl rfl rfl rfl rfl rfl ?_
             refine AList.call rfl rfl rfl rfl Try.func31 rfl (by kernel_rfl) (hA) ?_
             refine AList.litSl tyOk rfl rfl rfl rfl rfl rfl rfl rfl rfl rfl rfl ?_
             refine AList.move rfl rfl rfl ?_
             refine AList.quoZ rfl rfl rfl rfl (by omega) (by omega) (by omega) ?_
             refine AList.call rfl rfl rfl rfl Try.func31 rfl (by kernel_rfl) (hB) ?_
             refine AList.idx (k := 1) tyOk rfl rfl rfl rfl rfl rfl rfl rfl (by first | rfl | omega) oM oM ?_
             refine AList.load1l tyOk rfl rfl rfl rfl rfl oM ?_
             refine AList.idxOw (k := k) tyOk rfl rfl rfl rfl rfl rfl rfl rfl rfl rfl (by first | rfl | omega) oM ?_
             refine AList.store tyOk rfl rfl rfl rfl rfl rfl rfl rfl oM oM ?_
             refine AList.nil ⟨by kernel_rfl, ?_⟩)
          | (refine AWp.region (id := 14) ?_
             refine AList.loadA tyOk rfl rfl rfl rfl rfl rfl rfl oM oM ?_
             refine AList.store tyOk rfl rfl rfl rfl rfl rfl rfl rfl oM oM ?_
             refine AList.nil ?_))
        refine ⟨mkSt 66 [(4, .c (.pt 4 3 0 0))] [(4, ⟨false, 1, 3, 27, lF (imgV (W) (H) (n) ((fun i => if i = k then (-1) else f i)))⟩)] [4], [(4, ⟨false, 1, 3, 27, lF (imgV (W) (H) (n) ((fun i => if i = k then (-1) else f i)))⟩)], Wk.mk [(4, some 4)] rfl rfl rfl ?_ ?_, rfl, rfl, ARets.one (x := .ag _) (ARes.box tyOk rfl rfl rfl rfl rfl rfl rfl)⟩
        · repeat (first | exact trivial | refine ⟨⟨_, rfl, by first | exact LeA.c (LeC.refl _ rfl) | exact LeA.c (LeC.ow _ _ rfl) | exact LeA.c (LeC.pt _ _ _ _ _ rfl) | exact LeA.c (LeC.nil _ rfl) | exact LeA.c (LeC.nils _ _) | (refine LeA.int ?_; omega) | (refine LeA.int ?_; dsimp only; omega) | exact LeA.c (LeC.fz rfl rfl (by first | rfl | omega) (fun i _ j _ => ⟨rfl, by first | rfl | exact rowN_imm (fun _ => rfl) _ i j | exact rowF_imm (fun _ => rfl) _ i j⟩))⟩, ?_⟩)
        · exact ⟨HeapOk.box rfl rfl ⟨LeC.int (by omega), LeC.int (by omega), (LeC.fz rfl rfl rfl (set_one (fun i => if i = k then (-1) else f i) (if_pos rfl) (fun i h => if_neg h))), trivial⟩ rfl, trivial⟩
      · refine ⟨W, H, n, fun i => if i = k then 2 else f i, by omega, ?_⟩
        refine acalls_at Try.func11 rfl rfl Try.ntmps11 rfl ?_
        repeat (first
          | refine AWp.seq ?_
          | refine thenA_n ?_
          | refine AWp.block ?_
          | refine AWp.ret ?_
          | refine AWp.condT rfl (by first | rfl | exact cmT) ?_
          | refine AWp.condF rfl (by first | rfl | exact cmF) ?_
          | (refine AWp.region (id := 0) ?_
             refine AList.box rfl rfl rfl rfl rfl ?_
             refine AList.alloc tyOk rfl rfl rfl rfl rfl ?_
             refine AList.nil ?_)
          | (refine AWp.draw (id := 1) mixed ?_
             refine AList.fieldPt tyOk rfl rfl rfl rfl rfl rfl rfl ?_
             refine AList.load1 tyOk rfl rfl rfl rfl rfl rfl rfl oM oM ?_
             refine AList.fieldPt tyOk rfl rfl rfl rfl rfl rfl rfl ?_
             refine AList.load1 tyOk rfl rfl rfl rfl rfl rfl rfl oM oM ?_
             refine AList.emptySl tyOk rfl rfl rfl rfl rfl rfl rfl ?_
             refine AList.fieldPt tyOk rfl rfl rfl rfl rfl rfl rfl ?_
             refine AList.load1 tyOk rfl rfl rfl rfl rfl rfl rfl oM oM ?_
             refine AList.appL0 tyOk rfl rfl rfl rfl rfl rfl rfl rfl rfl rfl oM oM ?_
             refine AList.buildSt tyOk rfl rfl rfl rfl rfl rfl rfl rfl ?_
             refine AList.alloc tyOk rfl rfl rfl rfl rfl ?_
             refine AList.store tyOk rfl rfl rfl rfl rfl rfl rfl rfl oM oM ?_
             refine AList.nil ⟨by kernel_rfl, ?_⟩)
          | (refine AWp.region (id := 2) ?_
             refine AList.move rfl rfl rfl ?_
             refine AList.call rfl rfl rfl rfl Try.func31 rfl (by kernel_rfl) (hM) ?_
             refine AList.nil ?_)
          | (refine AWp.region (id := 3) ?_
             refine AList.cmpF rfl rfl rfl rfl rfl cmF ?_
             refine AList.assign rfl rfl rfl ?_
             refine AList.nil ?_)
          | (refine AWp.region (id := 5) ?_
             refine AList.cmpF rfl rfl rfl rfl rfl cmF ?_
             refine AList.assign rfl rfl rfl ?_
             refine AList.nil ?_)
          | (refine AWp.region (id := 7) ?_
             refine AList.cmpF rfl rfl rfl rfl rfl cmF ?_
             refine AList.assign rfl rfl rfl ?_
             refine AList.nil ?_)
          | (refine AWp.region (id := 9) ?_
             refine AList.cmpF rfl rfl rfl rfl rfl cmF ?_
             refine AList.assign rfl rfl rfl ?_
             refine AList.nil ?_)
          | (refine AWp.region (id := 11) ?_
             refine AList.cmp rfl rfl rfl rfl rfl ?_
             refine AList.assign rfl rfl rfl ?_
             refine AList.nil ?_)
          | (refine AWp.region (id := 12) ?_
             refine AList.fieldPt tyOk rfl rfl rfl rfl rfl rfl rfl ?_
             refine AList.load1 tyOk rfl rfl rfl rfl rfl rfl rfl oM oM ?_
             refine AList.lenOw tyOk rfl rfl rfl rfl rfl rfl rfl ?_
             refine AList.cmpT rfl rfl rfl rfl rfl cmT ?_
             refine AList.nil ?_)
          | (refine AWp.draw (id := 13) mixed ?_
             refine AList.fieldPt tyOk rfl rfl rfl rfl rfl rfl rfl ?_
             refine AList.load1 tyOk rfl rfl rfl rfl rfl rfl rfl oM oM ?_
             refine AList.move rfl rfl rfl ?_
             refine AList.quoZ rfl rfl rfl rfl (by omega) (by omega) (by omega) ?_
             refine AList.fieldPt tyOk rfl rfl rfl rfl rfl rfl rfl ?_
             refine AList.load1 tyOk rfl rfl rfl rfl rfl rfl rfl oM oM ?_
             refine AList.lenOw tyOk rfl rfl rfl rfl rfl rfl rfl ?_
             refine AList.call rfl rfl rfl rfl Try.func31 rfl (by kernel_rfl) (hA) ?_
             refine AList.litSl tyOk rfl rfl rfl rfl rfl rfl rfl rfl rfl rfl rfl ?_
             refine AList.move rfl rfl rfl ?_
             refine AList.quoZ rfl rfl rfl rfl (by omega) (by omega) (by omega) ?_
             refine AList.call rfl rfl rfl rfl Try.func31 rfl (by kernel_rfl) (hB) ?_
             refine AList.idx (k := 2) tyOk rfl rfl rfl rfl rfl rfl rfl rfl (by first | rfl | omega) oM oM ?_
             refine AList.load1l tyOk rfl rfl rfl rfl rfl oM ?_
             refine AList.idxOw (k := k) tyOk rfl rfl rfl rfl rfl rfl rfl rfl rfl rfl (by first | rfl | omega) oM ?_
             refine AList.store tyOk rfl rfl rfl rfl rfl rfl rfl rfl oM oM ?_
             refine AList.nil ⟨by kernel_rfl, ?_⟩)
          | (refine AWp.region (id := 14) ?_
             refine AList.loadA tyOk rfl rfl rfl rfl rfl rfl rfl oM oM ?_
             refine AList.store tyOk rfl rfl rfl rfl rfl rfl rfl rfl oM oM ?_
             refine AList.nil ?_))
        refine ⟨mkSt 66 [(4, .c (.pt 4 3 0 0))] [(4, ⟨false, 1, 3, 27, lF (imgV (W) (H) (n) ((fun i => if i = k then 2 else f i)))⟩)] [4], [(4, ⟨false, 1, 3, 27, lF (imgV (W) (H) (n) ((fun i => if i = k then 2 else f i)))⟩)], Wk.mk [(4, some 4)] rfl rfl rfl ?_ ?_, rfl, rfl, ARets.one (x := .ag _) (ARes.box tyOk rfl rfl rfl rfl rfl rfl rfl)⟩
        · repeat (first | exact trivial | refine ⟨⟨_, rfl, by first | exact LeA.c (LeC.refl _ rfl) | exact LeA.c (LeC.ow _ _ rfl) | exact LeA.c (LeC.pt _ _ _ _ _ rfl) | exact LeA.c (LeC.nil _ rfl) | exact LeA.c (LeC.nils _ _) | (refine LeA.int ?_; omega) | (refine LeA.int ?_; dsimp only; omega) | exact LeA.c (LeC.fz rfl rfl (by first | rfl | omega) (fun i _ j _ => ⟨rfl, by first | rfl | exact rowN_imm (fun _ => rfl) _ i j | exact rowF_imm (fun _ => rfl) _ i j⟩))⟩, ?_⟩)
        · exact ⟨HeapOk.box rfl rfl ⟨LeC.int (by omega), LeC.int (by omega), (LeC.fz rfl rfl rfl (set_one (fun i => if i = k then 2 else f i) (if_pos rfl) (fun i h => if_neg h))), trivial⟩ rfl, trivial⟩
  · refine ⟨W, H, n, f, by omega, ?_⟩
    refine acalls_at Try.func11 rfl rfl Try.ntmps11 rfl ?_
    repeat (first
      | refine AWp.seq ?_
      | refine thenA_n ?_
      | refine AWp.block ?_
      | refine AWp.skip ?_
      | refine AWp.ret ?_
      | refine AWp.condF rfl (by first | rfl | exact cmF) ?_
      | (refine AWp.region (id := 0) ?_
         refine AList.box rfl rfl rfl rfl rfl ?_
         refine AList.alloc tyOk rfl rfl rfl rfl rfl ?_
         refine AList.nil ?_)
      | (refine AWp.draw (id := 1) mixed ?_
         refine AList.fieldPt tyOk rfl rfl rfl rfl rfl rfl rfl ?_
         refine AList.load1 tyOk rfl rfl rfl rfl rfl rfl rfl oM oM ?_
         refine AList.fieldPt tyOk rfl rfl rfl rfl rfl rfl rfl ?_
         refine AList.load1 tyOk rfl rfl rfl rfl rfl rfl rfl oM oM ?_
         refine AList.emptySl tyOk rfl rfl rfl rfl rfl rfl rfl ?_
         refine AList.fieldPt tyOk rfl rfl rfl rfl rfl rfl rfl ?_
         refine AList.load1 tyOk rfl rfl rfl rfl rfl rfl rfl oM oM ?_
         refine AList.appL0 tyOk rfl rfl rfl rfl rfl rfl rfl rfl rfl rfl oM oM ?_
         refine AList.buildSt tyOk rfl rfl rfl rfl rfl rfl rfl rfl ?_
         refine AList.alloc tyOk rfl rfl rfl rfl rfl ?_
         refine AList.store tyOk rfl rfl rfl rfl rfl rfl rfl rfl oM oM ?_
         refine AList.nil ⟨by kernel_rfl, ?_⟩)
      | (refine AWp.region (id := 2) ?_
         refine AList.move rfl rfl rfl ?_
         refine AList.call rfl rfl rfl rfl Try.func31 rfl (by kernel_rfl) (hM) ?_
         refine AList.nil ?_)
      | (refine AWp.region (id := 3) ?_
         refine AList.cmpF rfl rfl rfl rfl rfl cmF ?_
         refine AList.assign rfl rfl rfl ?_
         refine AList.nil ?_)
      | (refine AWp.region (id := 5) ?_
         refine AList.cmpF rfl rfl rfl rfl rfl cmF ?_
         refine AList.assign rfl rfl rfl ?_
         refine AList.nil ?_)
      | (refine AWp.region (id := 7) ?_
         refine AList.cmpF rfl rfl rfl rfl rfl cmF ?_
         refine AList.assign rfl rfl rfl ?_
         refine AList.nil ?_)
      | (refine AWp.region (id := 9) ?_
         refine AList.cmpF rfl rfl rfl rfl rfl cmF ?_
         refine AList.assign rfl rfl rfl ?_
         refine AList.nil ?_)
      | (refine AWp.region (id := 11) ?_
         refine AList.cmpF rfl rfl rfl rfl rfl cmF ?_
         refine AList.assign rfl rfl rfl ?_
         refine AList.nil ?_)
      | (refine AWp.region (id := 14) ?_
         refine AList.loadA tyOk rfl rfl rfl rfl rfl rfl rfl oM oM ?_
         refine AList.store tyOk rfl rfl rfl rfl rfl rfl rfl rfl oM oM ?_
         refine AList.nil ?_))
    refine ⟨mkSt 66 [(4, .c (.pt 4 3 0 0))] [(4, ⟨false, 1, 3, 27, lF (imgV (W) (H) (n) (f))⟩)] [4], [(4, ⟨false, 1, 3, 27, lF (imgV (W) (H) (n) (f))⟩)], Wk.mk [(4, some 4)] rfl rfl rfl ?_ ?_, rfl, rfl, ARets.one (x := .ag _) (ARes.box tyOk rfl rfl rfl rfl rfl rfl rfl)⟩
    · repeat (first | exact trivial | refine ⟨⟨_, rfl, by first | exact LeA.c (LeC.refl _ rfl) | exact LeA.c (LeC.ow _ _ rfl) | exact LeA.c (LeC.pt _ _ _ _ _ rfl) | exact LeA.c (LeC.nil _ rfl) | exact LeA.c (LeC.nils _ _) | (refine LeA.int ?_; omega) | (refine LeA.int ?_; dsimp only; omega) | exact LeA.c (LeC.fz rfl rfl (by first | rfl | omega) (fun i _ j _ => ⟨rfl, by first | rfl | exact rowN_imm (fun _ => rfl) _ i j | exact rowF_imm (fun _ => rfl) _ i j⟩))⟩, ?_⟩)
    · exact ⟨HeapOk.box rfl rfl ⟨LeC.int (by omega), LeC.int (by omega), (LeC.fz rfl rfl (by omega) (fun _ _ _ _ => ⟨rfl, rfl⟩)), trivial⟩ rfl, trivial⟩
end Go.Proofs.Ytcdnpnbjloaihaa
end
