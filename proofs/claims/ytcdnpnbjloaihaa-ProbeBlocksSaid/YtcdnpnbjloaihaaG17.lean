/- Parts of the proof: TUnk, SameR, Open, Flow3. -/
import Derived.Test.YtcdnpnbjloaihaaG13
import Derived.Test.YtcdnpnbjloaihaaG16
import Derived.Test.YtcdnpnbjloaihaaProg
import Derived.Test.YtcdnpnbjloaihaaG15
import Derived.Laws.StructEq
import Derived.Test.YtcdnpnbjloaihaaG03
import Derived.Test.YtcdnpnbjloaihaaG02
import Derived.OrdersIn
import Derived.TacticsIn
import Derived.RangeFuncCalls
set_option linter.unusedSimpArgs false
set_option linter.unusedVariables false
section
/- ref33.unknown over plain states. -/
namespace Go.Proofs.Ytcdnpnbjloaihaa
open Go.RowKit Go.Flow Go.AV Go.Plain
set_option maxRecDepth 100000 in
theorem unk_A (Wn Hn n : Nat) (f : Nat → Int) (a b c d : Int) (hW : Wn ≤ 100) (hH : Hn ≤ 100) (hn : n = Wn * Hn) :
    ACalls Try.prog 36 [.ag (imgV Wn Hn n f), .ag (rctV a b c d)] (.c (.ls (uL (unkB Wn f a b c d) n).length 1 (iF (natF (uL (unkB Wn f a b c d) n))))) := by
  have hnb : n ≤ 10000 := by subst hn; exact Nat.mul_le_mul hW hH
  refine acalls_at Try.func36 rfl rfl Try.ntmps36 rfl ?_
  repeat (first
    | refine AWp.seq ?_
    | refine thenA_n ?_
    | refine AWp.block ?_
    | (refine AWp.region (id := 0) ?_
       refine AList.box rfl rfl rfl rfl rfl ?_
       refine AList.box rfl rfl rfl rfl rfl ?_
       refine AList.assign rfl rfl rfl ?_
       refine AList.nil ?_)
    | (refine AWp.region (id := 1) ?_
       refine AList.assign rfl rfl rfl ?_
       refine AList.nil ?_)
    | (refine AWp.region (id := 2) ?_
       refine AList.assign rfl rfl rfl ?_
       refine AList.nil ?_))
  refine AWp.round (fun k : Nat => mkSt 59 [(2, .c (.pt 2 3 0 0)), (3, .c (.pt 3 4 0 0)), (5, .c (.ow 5)), (6, .c (iC k))]
    [(2, ⟨false, 1, 3, 27, lF (imgV Wn Hn n f)⟩), (3, ⟨false, 1, 4, 29, lF (rctV a b c d)⟩), (5, ⟨true, (uL (unkB Wn f a b c d) k).length, 1, 3, iF (natF (uL (unkB Wn f a b c d) k))⟩)] [2, 3, 5])
    (fun k => k ≤ n) (fun k => n - k) 0 (Nat.zero_le _) ?_ (fun k hk => ?_)
  · refine Wk.mk [(2, some 2), (3, some 3), (5, none)] rfl rfl rfl ?_ ?_
    · repeat (first | exact trivial | refine ⟨⟨_, rfl, by first | exact LeA.c (LeC.refl _ rfl) | exact LeA.c (LeC.ow _ _ rfl) | exact LeA.c (LeC.pt _ _ _ _ _ rfl) | exact LeA.c (LeC.nil _ rfl) | exact LeA.c (LeC.nils _ _) | (refine LeA.int ?_; omega) | (refine LeA.int ?_; dsimp only; omega) | exact LeA.c (LeC.fz rfl rfl (by first | rfl | omega) (fun i _ j _ => ⟨rfl, by first | rfl | exact rowN_imm (fun _ => rfl) _ i j | exact rowF_imm (fun _ => rfl) _ i j⟩))⟩, ?_⟩)
    · repeat (first | exact trivial | refine ⟨by first | exact HeapOk.same rfl rfl rfl rfl | exact HeapOk.lent rfl rfl rfl rfl | exact HeapOk.nil rfl rfl | exact HeapOk.row rfl rfl (by first | rfl | omega) (fun i _ j _ => ⟨rfl, by first | rfl | exact rowN_imm (fun _ => rfl) _ i j | exact rowF_imm (fun _ => rfl) _ i j⟩) | exact HeapOk.box rfl rfl (by repeat (first | exact trivial | refine ⟨by first | exact LeC.refl _ rfl | exact LeC.ow _ _ rfl | exact LeC.nil _ rfl | exact LeC.nils _ _ | exact LeC.fz rfl rfl (by first | rfl | omega) (fun i _ j _ => ⟨rfl, by first | rfl | exact rowN_imm (fun _ => rfl) _ i j | exact rowF_imm (fun _ => rfl) _ i j⟩) | exact LeC.int (by omega), ?_⟩)) rfl, ?_⟩)
  · by_cases hlt : k < n
    · have hW0 : 0 < Wn := by
        rcases Nat.eq_zero_or_pos Wn with h | h
        · rw [h, Nat.zero_mul] at hn; omega
        · exact h
      have hq0 : (0 : Int) ≤ (k : Int) % Wn := Int.emod_nonneg _ (by omega)
      have hu : unkB Wn f a b c d k = decide (f k = 2 ∧ (a ≤ (k : Int) % Wn ∧ (k : Int) % Wn ≤ c) ∧ (b ≤ (k : Int) / Wn ∧ (k : Int) / Wn ≤ d)) := by unfold unkB inR; rw [Bool.eq_iff_iff]; simp only [Bool.and_eq_true, decide_eq_true_eq]; constructor <;> (intro h; omega)
      have hs := uL_succ (unkB Wn f a b c d) k
      by_cases hall : f k = 2 ∧ (a ≤ (k : Int) % Wn ∧ (k : Int) % Wn ≤ c) ∧ (b ≤ (k : Int) / Wn ∧ (k : Int) / Wn ≤ d)
      · rw [hu, decide_eq_true hall, if_pos rfl] at hs
        have hlen : (uL (unkB Wn f a b c d) k).length ≤ k := by have h1 := uL_len (unkB Wn f a b c d) k; have h2 := cnt_le (unkB Wn f a b c d) k; omega
        obtain ⟨h1, ⟨h2, h3⟩, h4, h5⟩ := hall
        repeat (first
          | refine AWp.seq ?_
          | refine thenA_n ?_
          | refine AWp.block ?_
          | refine AWp.skip ?_
          | refine inBlk_n ?_
          | refine AWp.condT rfl (by first | rfl | exact cmT) ?_
          | (refine AWp.region (id := 3) ?_
             refine AList.move rfl rfl rfl ?_
             refine AList.fieldPt tyOk rfl rfl rfl rfl rfl rfl rfl ?_
             refine AList.load1 tyOk rfl rfl rfl rfl rfl rfl rfl oM oM ?_
             refine AList.lenLs tyOk rfl rfl rfl rfl rfl ?_
             refine AList.cmpT rfl rfl rfl rfl rfl cmT ?_
             refine AList.nil ?_)
          | (refine AWp.region (id := 4) ?_
             refine AList.move rfl rfl rfl ?_
             refine AList.add rfl rfl rfl rfl (by omega) (by omega) ?_
             refine AList.assign rfl rfl rfl ?_
             refine AList.nil ?_)
          | (refine AWp.region (id := 5) ?_
             refine AList.move rfl rfl rfl ?_
             refine AList.fieldPt tyOk rfl rfl rfl rfl rfl rfl rfl ?_
             refine AList.load1 tyOk rfl rfl rfl rfl rfl rfl rfl oM oM ?_
             refine AList.rem rfl rfl rfl rfl (by omega) (by omega) ?_
             refine AList.assign rfl rfl rfl ?_
             refine AList.nil ?_)
          | (refine AWp.region (id := 6) ?_
             refine AList.move rfl rfl rfl ?_
             refine AList.fieldPt tyOk rfl rfl rfl rfl rfl rfl rfl ?_
             refine AList.load1 tyOk rfl rfl rfl rfl rfl rfl rfl oM oM ?_
             refine AList.quo rfl rfl rfl rfl (by omega) (by omega) (by omega) ?_
             refine AList.assign rfl rfl rfl ?_
             refine AList.nil ?_)
          | (refine AWp.region (id := 7) ?_
             refine AList.fieldPt tyOk rfl rfl rfl rfl rfl rfl rfl ?_
             refine AList.load1 tyOk rfl rfl rfl rfl rfl rfl rfl oM oM ?_
             refine AList.move rfl rfl rfl ?_
             refine AList.idx tyOk rfl rfl rfl rfl rfl rfl rfl rfl rfl oM oM ?_
             refine AList.load1l tyOk rfl rfl rfl rfl rfl oM ?_
             refine AList.cmpT rfl rfl rfl rfl rfl cmT ?_
             refine AList.move rfl rfl rfl ?_
             refine AList.move rfl rfl rfl ?_
             refine AList.fieldPt tyOk rfl rfl rfl rfl rfl rfl rfl ?_
             refine AList.load1 tyOk rfl rfl rfl rfl rfl rfl rfl oM oM ?_
             refine AList.cmpT rfl rfl rfl rfl rfl cmT ?_
             refine AList.pickT rfl rfl rfl rfl ?_
             refine AList.move rfl rfl rfl ?_
             refine AList.move rfl rfl rfl ?_
             refine AList.fieldPt tyOk rfl rfl rfl rfl rfl rfl rfl ?_
             refine AList.load1 tyOk rfl rfl rfl rfl rfl rfl rfl oM oM ?_
             refine AList.cmpT rfl rfl rfl rfl rfl cmT ?_
             refine AList.pickT rfl rfl rfl rfl ?_
             refine AList.move rfl rfl rfl ?_
             refine AList.move rfl rfl rfl ?_
             refine AList.fieldPt tyOk rfl rfl rfl rfl rfl rfl rfl ?_
             refine AList.load1 tyOk rfl rfl rfl rfl rfl rfl rfl oM oM ?_
             refine AList.cmpT rfl rfl rfl rfl rfl cmT ?_
             refine AList.pickT rfl rfl rfl rfl ?_
             refine AList.move rfl rfl rfl ?_
             refine AList.move rfl rfl rfl ?_
             refine AList.fieldPt tyOk rfl rfl rfl rfl rfl rfl rfl ?_
             refine AList.load1 tyOk rfl rfl rfl rfl rfl rfl rfl oM oM ?_
             refine AList.cmpT rfl rfl rfl rfl rfl cmT ?_
             refine AList.pickT rfl rfl rfl rfl ?_
             refine AList.nil ?_)
          | (refine AWp.region (id := 8) ?_
             refine AList.move rfl rfl rfl ?_
             refine AList.move rfl rfl rfl ?_
             refine AList.litSl tyOk rfl rfl rfl rfl rfl rfl rfl rfl rfl rfl rfl ?_
             refine AList.appL tyOk rfl rfl rfl rfl rfl rfl rfl rfl rfl rfl oM oM ?_
             refine AList.assign rfl rfl rfl ?_
             refine AList.nil ?_))
        refine ⟨k + 1, by omega, Wk.mk [(2, some 2), (3, some 3), (5, some 57)] rfl rfl rfl ?_ ?_, by omega⟩
        · repeat (first | exact trivial | refine ⟨⟨_, rfl, by first | exact LeA.c (LeC.refl _ rfl) | exact LeA.c (LeC.ow _ _ rfl) | exact LeA.c (LeC.pt _ _ _ _ _ rfl) | exact LeA.c (LeC.nil _ rfl) | exact LeA.c (LeC.nils _ _) | (refine LeA.int ?_; omega) | (refine LeA.int ?_; dsimp only; omega) | exact LeA.c (LeC.fz rfl rfl (by first | rfl | omega) (fun i _ j _ => ⟨rfl, by first | rfl | exact rowN_imm (fun _ => rfl) _ i j | exact rowF_imm (fun _ => rfl) _ i j⟩))⟩, ?_⟩)
        · repeat (first | exact trivial | refine ⟨by first | exact HeapOk.same rfl rfl rfl rfl | exact HeapOk.lent rfl rfl rfl rfl | exact HeapOk.nil rfl rfl | exact HeapOk.row rfl rfl (by first | rfl | omega) (fun i _ j _ => ⟨rfl, by first | rfl | exact rowN_imm (fun _ => rfl) _ i j | exact rowF_imm (fun _ => rfl) _ i j⟩) | exact HeapOk.box rfl rfl (by repeat (first | exact trivial | refine ⟨by first | exact LeC.refl _ rfl | exact LeC.ow _ _ rfl | exact LeC.nil _ rfl | exact LeC.nils _ _ | exact LeC.fz rfl rfl (by first | rfl | omega) (fun i _ j _ => ⟨rfl, by first | rfl | exact rowN_imm (fun _ => rfl) _ i j | exact rowF_imm (fun _ => rfl) _ i j⟩) | exact LeC.int (by omega), ?_⟩)) rfl, ?_⟩)
          exact ⟨HeapOk.row rfl rfl (by rw [hs]; simp) (app_one (fun i hi => by simp only [natF, hs, getD_l hi]) (by simp only [natF, hs, getD_r]) fun _ _ => rfl), trivial⟩
      · rw [hu, decide_eq_false hall] at hs
        simp only [Bool.false_eq_true, if_false, List.append_nil] at hs
        have hcase : f k ≠ 2 ∨ (f k = 2 ∧ ¬ a ≤ (k : Int) % Wn) ∨ (f k = 2 ∧ a ≤ (k : Int) % Wn ∧ ¬ (k : Int) % Wn ≤ c) ∨ (f k = 2 ∧ a ≤ (k : Int) % Wn ∧ (k : Int) % Wn ≤ c ∧ ¬ b ≤ (k : Int) / Wn) ∨ (f k = 2 ∧ a ≤ (k : Int) % Wn ∧ (k : Int) % Wn ≤ c ∧ b ≤ (k : Int) / Wn ∧ ¬ (k : Int) / Wn ≤ d) := by omega
        rcases hcase with h | h | h | h | h
        all_goals
          repeat (first
            | refine AWp.seq ?_
            | refine thenA_n ?_
            | refine AWp.block ?_
            | refine AWp.skip ?_
            | refine inBlk_n ?_
            | refine AWp.condT rfl (by first | rfl | exact cmT) ?_
            | refine AWp.condF rfl (by first | rfl | exact cmF) ?_
            | (refine AWp.region (id := 3) ?_
               refine AList.move rfl rfl rfl ?_
               refine AList.fieldPt tyOk rfl rfl rfl rfl rfl rfl rfl ?_
               refine AList.load1 tyOk rfl rfl rfl rfl rfl rfl rfl oM oM ?_
               refine AList.lenLs tyOk rfl rfl rfl rfl rfl ?_
               refine AList.cmpT rfl rfl rfl rfl rfl cmT ?_
               refine AList.nil ?_)
            | (refine AWp.region (id := 4) ?_
               refine AList.move rfl rfl rfl ?_
               refine AList.add rfl rfl rfl rfl (by omega) (by omega) ?_
               refine AList.assign rfl rfl rfl ?_
               refine AList.nil ?_)
            | (refine AWp.region (id := 5) ?_
               refine AList.move rfl rfl rfl ?_
               refine AList.fieldPt tyOk rfl rfl rfl rfl rfl rfl rfl ?_
               refine AList.load1 tyOk rfl rfl rfl rfl rfl rfl rfl oM oM ?_
               refine AList.rem rfl rfl rfl rfl (by omega) (by omega) ?_
               refine AList.assign rfl rfl rfl ?_
               refine AList.nil ?_)
            | (refine AWp.region (id := 6) ?_
               refine AList.move rfl rfl rfl ?_
               refine AList.fieldPt tyOk rfl rfl rfl rfl rfl rfl rfl ?_
               refine AList.load1 tyOk rfl rfl rfl rfl rfl rfl rfl oM oM ?_
               refine AList.quo rfl rfl rfl rfl (by omega) (by omega) (by omega) ?_
               refine AList.assign rfl rfl rfl ?_
               refine AList.nil ?_)
            | (refine AWp.region (id := 7) ?_
               refine AList.fieldPt tyOk rfl rfl rfl rfl rfl rfl rfl ?_
               refine AList.load1 tyOk rfl rfl rfl rfl rfl rfl rfl oM oM ?_
               refine AList.move rfl rfl rfl ?_
               refine AList.idx tyOk rfl rfl rfl rfl rfl rfl rfl rfl rfl oM oM ?_
               refine AList.load1l tyOk rfl rfl rfl rfl rfl oM ?_
               first | refine AList.cmpT rfl rfl rfl rfl rfl cmT ?_ | refine AList.cmpF rfl rfl rfl rfl rfl cmF ?_
               refine AList.move rfl rfl rfl ?_
               first | refine AList.skip rfl rfl ?_ | refine AList.move rfl rfl rfl ?_
               first | refine AList.skip rfl rfl ?_ | refine AList.fieldPt tyOk rfl rfl rfl rfl rfl rfl rfl ?_
               first | refine AList.skip rfl rfl ?_ | refine AList.load1 tyOk rfl rfl rfl rfl rfl rfl rfl oM oM ?_
               first | refine AList.skip rfl rfl ?_ | refine AList.cmpT rfl rfl rfl rfl rfl cmT ?_ | refine AList.cmpF rfl rfl rfl rfl rfl cmF ?_
               first | refine AList.pickT rfl rfl rfl rfl ?_ | refine AList.pickF rfl rfl rfl rfl ?_
               refine AList.move rfl rfl rfl ?_
               first | refine AList.skip rfl rfl ?_ | refine AList.move rfl rfl rfl ?_
               first | refine AList.skip rfl rfl ?_ | refine AList.fieldPt tyOk rfl rfl rfl rfl rfl rfl rfl ?_
               first | refine AList.skip rfl rfl ?_ | refine AList.load1 tyOk rfl rfl rfl rfl rfl rfl rfl oM oM ?_
               first | refine AList.skip rfl rfl ?_ | refine AList.cmpT rfl rfl rfl rfl rfl cmT ?_ | refine AList.cmpF rfl rfl rfl rfl rfl cmF ?_
               first | refine AList.pickT rfl rfl rfl rfl ?_ | refine AList.pickF rfl rfl rfl rfl ?_
               refine AList.move rfl rfl rfl ?_
               first | refine AList.skip rfl rfl ?_ | refine AList.move rfl rfl rfl ?_
               first | refine AList.skip rfl rfl ?_ | refine AList.fieldPt tyOk rfl rfl rfl rfl rfl rfl rfl ?_
               first | refine AList.skip rfl rfl ?_ | refine AList.load1 tyOk rfl rfl rfl rfl rfl rfl rfl oM oM ?_
               first | refine AList.skip rfl rfl ?_ | refine AList.cmpT rfl rfl rfl rfl rfl cmT ?_ | refine AList.cmpF rfl rfl rfl rfl rfl cmF ?_
               first | refine AList.pickT rfl rfl rfl rfl ?_ | refine AList.pickF rfl rfl rfl rfl ?_
               refine AList.move rfl rfl rfl ?_
               first | refine AList.skip rfl rfl ?_ | refine AList.move rfl rfl rfl ?_
               first | refine AList.skip rfl rfl ?_ | refine AList.fieldPt tyOk rfl rfl rfl rfl rfl rfl rfl ?_
               first | refine AList.skip rfl rfl ?_ | refine AList.load1 tyOk rfl rfl rfl rfl rfl rfl rfl oM oM ?_
               first | refine AList.skip rfl rfl ?_ | refine AList.cmpF rfl rfl rfl rfl rfl cmF ?_
               first | refine AList.pickT rfl rfl rfl rfl ?_ | refine AList.pickF rfl rfl rfl rfl ?_
               refine AList.nil ?_))
          refine ⟨k + 1, by omega, Wk.mk [(2, some 2), (3, some 3), (5, some 5)] rfl rfl rfl ?_ ?_, by omega⟩
          · repeat (first | exact trivial | refine ⟨⟨_, rfl, by first | exact LeA.c (LeC.refl _ rfl) | exact LeA.c (LeC.ow _ _ rfl) | exact LeA.c (LeC.pt _ _ _ _ _ rfl) | exact LeA.c (LeC.nil _ rfl) | exact LeA.c (LeC.nils _ _) | (refine LeA.int ?_; omega) | (refine LeA.int ?_; dsimp only; omega) | exact LeA.c (LeC.fz rfl rfl (by first | rfl | omega) (fun i _ j _ => ⟨rfl, by first | rfl | exact rowN_imm (fun _ => rfl) _ i j | exact rowF_imm (fun _ => rfl) _ i j⟩))⟩, ?_⟩)
          · repeat (first | exact trivial | refine ⟨by first | exact HeapOk.same rfl rfl rfl rfl | exact HeapOk.lent rfl rfl rfl rfl | exact HeapOk.nil rfl rfl | exact HeapOk.row rfl rfl (by first | rfl | omega) (fun i _ j _ => ⟨rfl, by first | rfl | exact rowN_imm (fun _ => rfl) _ i j | exact rowF_imm (fun _ => rfl) _ i j⟩) | exact HeapOk.box rfl rfl (by repeat (first | exact trivial | refine ⟨by first | exact LeC.refl _ rfl | exact LeC.ow _ _ rfl | exact LeC.nil _ rfl | exact LeC.nils _ _ | exact LeC.fz rfl rfl (by first | rfl | omega) (fun i _ j _ => ⟨rfl, by first | rfl | exact rowN_imm (fun _ => rfl) _ i j | exact rowF_imm (fun _ => rfl) _ i j⟩) | exact LeC.int (by omega), ?_⟩)) rfl, ?_⟩)
            exact ⟨HeapOk.row rfl rfl (by rw [hs]) (fun i hi j hj => ⟨by rw [hs], rfl⟩), trivial⟩
    · obtain rfl : k = n := by omega
      repeat (first
        | refine AWp.seq ?_
        | refine thenA_n ?_
        | refine AWp.exit ?_
        | refine AWp.ret ?_
        | refine AWp.condF rfl (by first | rfl | exact cmF) ?_
        | (refine AWp.region (id := 3) ?_
           refine AList.move rfl rfl rfl ?_
           refine AList.fieldPt tyOk rfl rfl rfl rfl rfl rfl rfl ?_
           refine AList.load1 tyOk rfl rfl rfl rfl rfl rfl rfl oM oM ?_
           refine AList.lenLs tyOk rfl rfl rfl rfl rfl ?_
           refine AList.cmpF rfl rfl rfl rfl rfl cmF ?_
           refine AList.nil ?_)
        | (refine AWp.region (id := 9) ?_
           refine AList.move rfl rfl rfl ?_
           refine AList.assign rfl rfl rfl ?_
           refine AList.nil ?_))
      refine ⟨mkSt 59 [(4, .c (.ls (uL (unkB Wn f a b c d) k).length 1 (iF (natF (uL (unkB Wn f a b c d) k)))))] [] [], [], Wk.mk [] rfl rfl rfl ?_ ?_, rfl, rfl, ARets.one (x := .c _) (ARes.tmp rfl rfl)⟩
      · repeat (first | exact trivial | refine ⟨⟨_, rfl, by first | exact LeA.c (LeC.refl _ rfl) | exact LeA.c (LeC.ow _ _ rfl) | exact LeA.c (LeC.pt _ _ _ _ _ rfl) | exact LeA.c (LeC.nil _ rfl) | exact LeA.c (LeC.nils _ _) | (refine LeA.int ?_; omega) | (refine LeA.int ?_; dsimp only; omega) | exact LeA.c (LeC.fz rfl rfl (by first | rfl | omega) (fun i _ j _ => ⟨rfl, by first | rfl | exact rowN_imm (fun _ => rfl) _ i j | exact rowF_imm (fun _ => rfl) _ i j⟩))⟩, ?_⟩)
      · exact trivial
end Go.Proofs.Ytcdnpnbjloaihaa
end

section
/- ref33.SameRects; the law's 'in'. No condition but those that each states. -/
namespace Go.Flow
end Go.Flow
namespace Go.Proofs.Ytcdnpnbjloaihaa
open Go.RowKit Go.Flow Go.Plain
open Go.Proofs
attribute [local go_sem] block_add
attribute [local go_sem ↓] Go.wp_at_zero Go.wp_at_succ

/-- A list of rectangles. -/
def RcAt (w : World) (A : Option Addr) (l : List Rc) : Prop := 0 < l.length → ∃ g, A = some ⟨g, 0, none⟩ ∧ g < w.heap.size ∧ ∀ j u, (flat l)[j]? = some u → w.cell? ⟨g, j, none⟩ = some u
theorem RcAt.ext {w w' : World} {A : Option Addr} {l : List Rc} (h : RcAt w A l) (hE : Ext w w') : RcAt w' A l := fun h0 =>
  let ⟨g, e, hg, hc⟩ := h h0
  ⟨g, e, Nat.lt_of_lt_of_le hg hE.size, fun j u hj => (hE.rules.1 ⟨g, j, none⟩ hg).trans (hc j u hj)⟩
theorem RcAt.of_row {w : World} {base : Nat} {v : Value} {l : List Rc} (h : w.ownsRow base 29 4 v l.length (flat l)) : ∃ A c, v = .slice A l.length c ∧ RcAt w A l := by
  obtain ⟨A, c, rfl, hc⟩ := row_open h
  exact ⟨A, c, rfl, fun h0 => let ⟨g, e, _, hg, hcc⟩ := hc h0; ⟨g, e, hg, hcc⟩⟩

set_option maxHeartbeats 1000000 in
set_option maxRecDepth 100000 in
theorem SameRects_any (A B : Option Addr) (c d : Nat) (l m : List Rc) (w : World) (hn : l.length ≤ 100000) (hA : RcAt w A l) (hB : RcAt w B m) :
    Calls Try.prog 13 #[.slice A l.length c, .slice B m.length d] w fun e w' => e = .returned (.bool (decide (l = m))) ∧ Ext w w' := by
  by_cases hl : l.length = m.length
  · have hne : ((l.length : Int) != m.length) = false := by simp [hl]
    obtain ⟨n, hn'⟩ : ∃ n, l.length = n := ⟨_, rfl⟩
    obtain ⟨v, hv⟩ : ∃ v, decide (l = m) = v := ⟨_, rfl⟩
    rw [hv]
    replace hv := Lib.hid hv
    rw [← hl, hn'] at hne ⊢
    replace hl := Lib.hid hl
    replace hA := Lib.hid hA
    replace hB := Lib.hid hB
    rw [hn'] at hn
    replace hn' := Lib.hid hn'
    go_enter Try.func13, Try.ntmps13
    go_wp2_with fail
    go_loopw [5] (fun i wr => ∃ k : Nat, k ≤ n ∧ i = .int .i64 k ∧ Hid (∀ j, j < k → l[j]? = m[j]?) ∧ Ext w wr) (fun i _ => n - (intOf i).toNat)
    case atStart => exact ⟨0, by omega, rfl, Lib.hid fun j hj => absurd hj (by omega), Ext.refl w⟩
    case round =>
      obtain ⟨k, hk, rfl, heq, hE⟩ := hrel
      by_cases hlt : k < n
      · have hlt' : (k : Int) < n := by omega
        have hkl : k < l.length := by rw [hn'.out]; exact hlt
        have hkm : k < m.length := by rw [← hl.out]; exact hkl
        obtain ⟨g, rfl, hg, hcg⟩ := (hA.out.ext hE) (by omega)
        obtain ⟨g', rfl, hg', hcg'⟩ := (hB.out.ext hE) (by omega)
        obtain ⟨⟨a0, a1, a2, a3⟩, ha⟩ : ∃ r, l[k] = r := ⟨_, rfl⟩
        obtain ⟨⟨b0, b1, b2, b3⟩, hb⟩ : ∃ r, m[k] = r := ⟨_, rfl⟩
        have ha' : l[k]? = some (a0, a1, a2, a3) := by rw [List.getElem?_eq_getElem hkl, ha]
        have hb' : m[k]? = some (b0, b1, b2, b3) := by rw [List.getElem?_eq_getElem hkm, hb]
        have x0 := hcg (k * 4) (.int .i64 a0) (by have := flat_get ha' 0 (by omega); simpa [rcells] using this)
        have x1 := hcg (k * 4 + 1) (.int .i64 a1) (by have := flat_get ha' 1 (by omega); simpa [rcells] using this)
        have x2 := hcg (k * 4 + 2) (.int .i64 a2) (by have := flat_get ha' 2 (by omega); simpa [rcells] using this)
        have x3 := hcg (k * 4 + 3) (.int .i64 a3) (by have := flat_get ha' 3 (by omega); simpa [rcells] using this)
        have y0 := hcg' (k * 4) (.int .i64 b0) (by have := flat_get hb' 0 (by omega); simpa [rcells] using this)
        have y1 := hcg' (k * 4 + 1) (.int .i64 b1) (by have := flat_get hb' 1 (by omega); simpa [rcells] using this)
        have y2 := hcg' (k * 4 + 2) (.int .i64 b2) (by have := flat_get hb' 2 (by omega); simpa [rcells] using this)
        have y3 := hcg' (k * 4 + 3) (.int .i64 b3) (by have := flat_get hb' 3 (by omega); simpa [rcells] using this)
        replace hcg := Lib.hid hcg
        replace hcg' := Lib.hid hcg'
        replace ha' := Lib.hid ha'
        replace hb' := Lib.hid hb'
        replace ha := Lib.hid ha
        replace hb := Lib.hid hb
        replace hE := Lib.hid hE
        obtain ⟨q, hq⟩ : ∃ q, decide ((a0, a1, a2, a3) = (b0, b1, b2, b3)) = q := ⟨_, rfl⟩
        replace hq := Lib.hid hq
        replace hkl := Lib.hid hkl
        replace hkm := Lib.hid hkm
        have hp : Try.prog.stoodInHeld 29 = false := by kernel_rfl
        have hm : Try.prog.eqGuardType Try.prog.depth 29 = false := by kernel_rfl
        go_wp2_with fail
        refine Flow.wp_flow 9 [(0, true), (1, true), (2, true), (3, true), (4, true), (5, true), (6, true), (7, true), (8, true)] (by kernel_rfl) (by kernel_rfl) ?_
        simp only [List.map_cons, List.map_nil, List.getD_cons_succ, List.getD_cons_zero]
        repeat (first
          | (refine Flow.WalkL.move rfl ?_
             simp only [Act.put, Act.eval, Array.getD_eq_getD_getElem?, List.getElem?_toArray, List.getElem?_cons_succ, List.getElem?_cons_zero, Option.getD_some, List.setIfInBounds_toArray, List.set_cons_zero, List.set_cons_succ])
          | (refine Flow.WalkL.assign rfl ?_
             simp only [Act.put, Act.eval, Array.getD_eq_getD_getElem?, List.getElem?_toArray, List.getElem?_cons_succ, List.getElem?_cons_zero, Option.getD_some, List.setIfInBounds_toArray, List.set_cons_zero, List.set_cons_succ])
          | (refine Flow.WalkL.run (v := ?_) rfl (fun w1 hC => ?_) ?_
             rotate_left
             · obtain ⟨hCc, hCf⟩ := hC.rules
               go_simp
               with_reducible rfl
             simp only [Act.put, List.setIfInBounds_toArray, List.set_cons_zero, List.set_cons_succ]))
        refine Flow.WalkL.run (v := .bool (!q)) rfl (fun w1 hC => ?_) ?_
        · obtain ⟨hCc, hCf⟩ := hC.rules
          go_simp
          replace hq := hq.out
          simp only [Prod.mk.injEq] at hq
          subst hq
          by_cases e0 : a0 = b0 <;> by_cases e1 : a1 = b1 <;> by_cases e2 : a2 = b2 <;> by_cases e3 : a3 = b3 <;> simp [e0, e1, e2, e3]
        simp only [Act.put, List.setIfInBounds_toArray, List.set_cons_zero, List.set_cons_succ]
        refine Flow.WalkL.nil ?_
        simp only [List.drop]
        intro w1 hC
        have hkl := hkl.out
        have hkm := hkm.out
        cases q with
        | true =>
          have hq : (a0, a1, a2, a3) = (b0, b1, b2, b3) := of_decide_eq_true hq.out
          replace hq := Lib.hid hq
          go_wp2_with fail
          refine ⟨⟨k + 1, by omega, rfl, Lib.hid fun j hj => ?_, hE.out.trans hC⟩, ?_⟩
          · rcases Nat.lt_or_ge j k with hjk | hjk
            · exact heq.out j hjk
            · obtain rfl : j = k := by omega
              rw [ha'.out, hb'.out, hq.out]
          · go_simp
            simp only [intOf]
            omega
        | false =>
          have hq : (a0, a1, a2, a3) ≠ (b0, b1, b2, b3) := of_decide_eq_false hq.out
          obtain rfl : v = false := by
            rw [← hv.out]
            refine decide_eq_false fun h => hq ?_
            have h1 := ha'.out
            rw [h, hb'.out] at h1
            exact (Option.some.inj h1).symm
          replace hq := Lib.hid hq
          go_wp2_with fail
          go_ret
          exact ⟨rfl, hE.out.trans hC⟩
      · obtain rfl : k = n := by omega
        obtain rfl : v = true := by
          rw [← hv.out]
          refine decide_eq_true (List.ext_getElem? fun j => ?_)
          rcases Nat.lt_or_ge j k with hjk | hjk
          · exact heq.out j hjk
          · rw [List.getElem?_eq_none (by rw [hn'.out]; exact hjk), List.getElem?_eq_none (by rw [← hl.out, hn'.out]; exact hjk)]
        replace hE := Lib.hid hE
        have hlt' : ¬ ((k : Int) < k) := by omega
        go_wp2_with fail
        go_ret
        exact ⟨rfl, hE.out⟩
  · have hne : ((l.length : Int) != m.length) = true := bne_iff_ne.mpr (by omega)
    rw [show decide (l = m) = false from decide_eq_false fun h => hl (by rw [h])]
    replace hA := Lib.hid hA
    replace hB := Lib.hid hB
    go_enter Try.func13, Try.ntmps13
    go_wp2_with fail
    go_ret
    exact ⟨rfl, Ext.refl w⟩
end Go.Proofs.Ytcdnpnbjloaihaa
end

section
/- Operations of a region that draws which make new memory. No condition. -/
namespace Go.Flow
open Go Go.RowKit
variable {P : Program} {ops : Array Oper} {Qn : Act → World → Prop} {s : List (Oper × Bool)} {a : Act} {w : World}
/-- An operation that makes new memory, when it alone may come up. -/
theorem WalkL.openrun {o : Oper} (u : World → Value) (f : World → World) (hg : Region.wanted o (yielded ops a.tmps) = true)
    (hr : ∀ w1, Ext w w1 → (execOp a.eval o).run P w1 = .ok (.value (u w1)) (f w1)) (hK : ∀ w1, Ext w w1 → Ext w1 (f w1) ∧ WalkL P ops Qn s (a.put o.dst (u w1)) (f w1)) : WalkL P ops Qn ((o, false) :: s) a w :=
  fun w1 h1 => .inl ⟨hg, by rw [hr w1 h1]; exact hK w1 h1⟩
/-- 'make([]T, n)', T of any number of cells. -/
theorem WalkL.openmakes {dst : Option Tmp} {l c : Operand} {t : TypeId} {ty : TypeId} {pos : String} {after : Array Edge} {guard : Option (Nat × Bool)}
    (e : TypeId) (i : TypeInfo) (z : Value) (h1 : P.underlying t = some (.slice e)) (h2 : P.info? e = some i) (h3 : i.zero = some z)
    (kl kc : IntKind) (L C : Int) (n : Nat) (hl : a.eval l = .int kl L) (hc : a.eval c = .int kc C) (hL : L = (n : Int)) (hC : C = (n : Int)) (b2 : i.bytes * n ≤ 281474976710656) (b3 : n ≤ 4611686018427387904)
    (hg : Region.wanted { dst, op := .makeSlice t l c, type := ty, pos, after, guard } (yielded ops a.tmps) = true)
    (hK : ∀ w1 w', Ext w w1 → Blk w' w1.heap.size e (madeCells z.cells (n * i.size)) → Ext w1 w' → WalkL P ops Qn s (a.put dst (.slice (some ⟨w1.heap.size, 0, none⟩) n n)) w') :
    WalkL P ops Qn (({ dst, op := .makeSlice t l c, type := ty, pos, after, guard }, false) :: s) a w := by
  intro w1 hE
  refine .inl ⟨hg, ?_⟩
  have hb' : (i.bytes : Int) * (n : Int) ≤ 281474976710656 := by
    have h : ((i.bytes * n : Nat) : Int) ≤ 281474976710656 := by omega
    rwa [Int.natCast_mul] at h
  have hrun := run_make (P := P) w1 t e i z h1 h2 h3 kl kc n n (by omega) (by omega) hb' (by omega)
  simp only [Int.toNat_natCast] at hrun
  subst hL
  subst hC
  simp only [execOp, hl, hc, Sem.run_bind, Sem.run_pure, hrun, Result.andThen_ok]
  exact ⟨(Ext.refl w1).alloc _, hK w1 _ hE (Blk.new _ _ _) ((Ext.refl w1).alloc _)⟩

/-- 'append([]T{}, s...)'. -/
theorem run_app_copy {g : Nat} {size : Nat} {e : TypeId} {w : World} (t ty : TypeId) (i : TypeInfo) (z : Value) (bytes : Nat) (ht : P.underlying t = some (.slice e)) (hi : P.info? e = some i) (hz : i.zero = some z)
    (hsize : i.size = size) (hby : i.bytes = bytes) (hzs : z.cells.size = size) (hsz : 0 < size) (hB : Blk w g e #[])
    (A : Option Addr) (m c : Nat) (ys : List Value) (hl : ys.length = m * size) (hr : Lst w A ys) (h63 : m ≤ 4611686018427387904) (hbytes : m * bytes ≤ 140737488355328) :
    ∃ v' w', (Builtin.append_ #[t, t] ty #[.slice (some ⟨g, 0, none⟩) 0 0, .slice A m c]).run P w = .ok v' w' ∧ w'.ownsRow g e size v' m ys ∧ Ext w w' := by
  subst hsize
  subst hby
  rcases Nat.eq_zero_or_pos m with hm | hm
  · subst hm
    have hn : ys = [] := List.eq_nil_of_length_eq_zero (by simpa using hl)
    subst hn
    refine ⟨.slice (some ⟨g, 0, none⟩) 0 0, w, ?_, ⟨by simp, .inr ⟨g, 0, #[], rfl, Nat.le_refl _, hB, Nat.le_refl _, by simp [maxLen], by simp, by simp⟩⟩, Ext.refl w⟩
    rcases A with _ | ad
    · exact run_append_nil_ (size := i.size) (v := .slice (some ⟨g, 0, none⟩) 0 0) (n := 0) (xs := []) (base := g) t ty i ht hi ⟨by simp, .inr ⟨g, 0, #[], rfl, Nat.le_refl _, hB, Nat.le_refl _, by simp [maxLen], by simp, by simp⟩⟩ c
    · simp [Builtin.append_, run_underlying ht, sizeOf, typeInfo, hi, Builtin.lenOf, Builtin.firstCells, loadCells, loadCellsFrom, storeCells]
  · rcases A with _ | ad
    · have : 0 < ys.length := by rw [hl]; exact Nat.mul_pos hm hsz
      obtain ⟨u, hu⟩ : ∃ u, ys[0]? = some u := ⟨ys[0], List.getElem?_eq_getElem this⟩
      obtain ⟨ad, h, _⟩ := hr 0 u hu
      cases h
    · have hr' := run_append_grow (P := P) w t ty e i z ht hi hz ⟨g, 0, none⟩ 0 0 [] (by simp) (fun j v hj => by simp at hj) ad m c ys hl
        (fun j u hj => by obtain ⟨ad', he, hc⟩ := hr j u hj; cases he; exact hc) (by omega) (by omega) (growslice_fits (by omega) (by simpa using hbytes))
      refine ⟨_, _, hr', ?_, (Ext.refl w).drew.alloc _⟩
      simp only [Nat.zero_add]
      have hge := grownCap_ge w m 0 e
      have hcm : grownCap w m 0 e ≤ maxLen := grownCap_le_maxLen w m 0 e (by simp only [maxLen]; omega)
      refine ⟨hl, .inr ⟨w.heap.size, _, _, rfl, Nat.le_of_lt hB.lt, heap_alloc_new w.drew _, hge, hcm, ?_, ?_⟩⟩
      · simp only [Array.size_append, List.size_toArray, size_zeroCells, hzs, hl, List.length_nil, Nat.zero_add, ← Nat.add_mul]
        congr 1
        omega
      · simp only [Array.toList_append]
        rw [List.nil_append, ← hl]
        exact List.take_left

/-- The same among the operations of a region that draws. -/
theorem WalkL.opencopy {g : Nat} {size : Nat} {e : TypeId} {dst : Option Tmp} {so x : Operand} {t ty : TypeId} {pos : String} {after : Array Edge} {guard : Option (Nat × Bool)}
    (i : TypeInfo) (z : Value) (bytes : Nat) (ht : P.underlying t = some (.slice e)) (hi : P.info? e = some i) (hz : i.zero = some z)
    (hsize : i.size = size) (hby : i.bytes = bytes) (hzs : z.cells.size = size) (hsz : 0 < size)
    (hs : a.eval so = .slice (some ⟨g, 0, none⟩) 0 0) (A : Option Addr) (m c : Nat) (hx : a.eval x = .slice A m c) (ys : List Value) (hl : ys.length = m * size)
    (h63 : m ≤ 4611686018427387904) (hbytes : m * bytes ≤ 140737488355328)
    (hg : Region.wanted { dst, op := .call { callee := .builtin .append, args := #[so, x], argTypes := #[t, t] }, type := ty, pos, after, guard } (yielded ops a.tmps) = true)
    (hB : Blk w g e #[]) (hr : Lst w A ys)
    (hK : ∀ w1 w' v', Ext w w1 → w'.ownsRow g e size v' m ys → Ext w1 w' → WalkL P ops Qn s (a.put dst v') w') :
    WalkL P ops Qn (({ dst, op := .call { callee := .builtin .append, args := #[so, x], argTypes := #[t, t] }, type := ty, pos, after, guard }, false) :: s) a w := by
  intro w1 hE
  refine .inl ⟨hg, ?_⟩
  obtain ⟨v', w', hrun, h2, h3⟩ := run_app_copy (P := P) (w := w1) t ty i z bytes ht hi hz hsize hby hzs hsz (hB.ext hE) A m c ys hl (hr.ext hE) h63 hbytes
  simp only [execOp, resolve, invoke, builtin, Sem.run_bind, Sem.run_pure, Result.andThen_ok, List.map_toArray, List.map_cons, List.map_nil, hs, hx, hrun]
  exact ⟨h3, hK w1 w' v' hE h2 h3⟩
end Go.Flow
end

section
/- A region that draws its order, inside a fence that shuts nothing out (the wide one, or a round of a range over a function). No condition. -/
namespace Go.Flow
open Go Go.RowKit

/-- A fence that shuts nothing out. -/
structure Wide (F : Fence) : Prop where
  fn : ∀ f, F.fn f
  depth : F.depth = none
  calls : ∀ {n : Nat} {P : Program} {f : FuncId} {args : Array Value} {w : World} {R : Ending → World → Prop}, Calls P f args w R → CallsIn F n P f args w R
theorem Wide.wide : Wide Fence.wide := ⟨fun _ => trivial, rfl, fun h => callsIn_wide.2 h⟩
theorem Wide.inRound (l : Nat) : Wide (Fence.wide.inRound l) := ⟨fun _ => trivial, rfl, fun h => CallsIn.inRound l (callsIn_wide.2 h)⟩

section
variable {F : Fence} {nd : Nat} {P : Program} {ops : Array Oper} {md : Region.Mode}

theorem Goes.uponIn (hF : Wide F) {o : Oper} {a : Act} {K : Act → World → Prop} {K0 : Value → World → Prop} {Q : Exit → Act → World → Prop} {r : Result Next}
    (h : Goes P K0 r) (hK : ∀ v w', K0 v w' → K (a.put o.dst v) w') : o.uponIn F nd P a K Q r := by
  cases r with
  | ok n w' =>
    cases n <;> simp only [Goes, Oper.uponIn] at h ⊢
    case value u => exact hK _ _ h
    case skip => exact hK _ _ h
    case enter f args => exact ⟨fun hd => (by rw [hF.depth] at hd; cases hd), hF.calls (h.mono fun e w'' ⟨v, he, hc⟩ => by subst he; exact hK _ _ hc)⟩
  | halt x w' => simp only [Goes] at h

/-- No operation is a 'defer' statement. -/
def noDefer (ops : Array Oper) : Bool := ops.all fun o => match o.op with | .defer _ => false | _ => true
theorem noDefer_at {i : Nat} {o : Oper} (h : noDefer ops = true) (hi : ops[i]? = some o) : ∀ c, o.op ≠ .defer c := by
  intro c hc
  have hm : o ∈ ops := Array.mem_of_getElem? hi
  unfold noDefer at h
  rw [Array.all_eq_true'] at h
  have := h o hm
  rw [hc] at this
  cases this
theorem semAt_exec {i : Nat} {o : Oper} (h : noDefer ops = true) (hi : ops[i]? = some o) (r : Option Nat) (ρ : Operand → Value) : o.semAt r ρ = execOp ρ o := by
  cases r with
  | none => exact Oper.semAt_none _ _
  | some l => exact Oper.semAt_some l _ _ (noDefer_at h hi)

theorem StE.wpOpIn (hF : Wide F) (hD : noDefer ops = true) {i : Nat} {a : Act} {w : World} {K K' : Act → World → Prop} {Q : Exit → Act → World → Prop}
    (h : StE P ops i K a w) (hK : ∀ a' w', Ext w w' → K a' w' → K' a' w') : wpOpIn F nd P ops Q i K' a w := by
  obtain ⟨o, hi, h⟩ := h
  unfold Go.wpOpIn
  simp only [hi]
  rcases h with ⟨hw, h⟩ | ⟨hw, h⟩
  · rw [if_pos hw]
    refine ⟨fun f _ => hF.fn f, ?_⟩
    rw [semAt_exec hD hi]
    exact h.uponIn hF fun v w' ⟨h1, h2⟩ => hK _ _ h1 h2
  · rw [if_neg (by simp [hw])]
    exact ⟨fun f _ => hF.fn f, hK _ _ (Ext.refl w) h⟩

theorem wpAnyIn_of_anyE (hF : Wide F) (hD : noDefer ops = true) {n g : Nat} {L : Array Bool → Act → World → Prop} {Q : Exit → Act → World → Prop} (hL : ∀ listed a w, L listed a w → wpAnyIn F nd P md ops Q g listed a w) :
    ∀ (f : Nat) (listed : Array Bool) (a : Act) (w : World), AnyE P md ops n L f listed a w → wpAnyIn F nd P md ops Q (f + g) listed a w
  | 0, listed, a, w, h => by rw [Nat.zero_add]; exact hL _ _ _ (h w (Ext.refl w))
  | f + 1, listed, a, w, h => by
    rw [show f + 1 + g = (f + g) + 1 by omega]
    have h := h w (Ext.refl w)
    exact ⟨fun h0 => absurd h0 h.1, fun i hi => (h.2 i hi).2.wpOpIn hF hD fun a' w' _ hk => wpAnyIn_of_anyE hF hD hL f _ a' w' hk⟩

theorem wpAnyIn_of_seq {Q' : Exit → Act → World → Prop} : ∀ (l : List Oper) (k : Nat) (listed : Array Bool) (a : Act) (w : World), (∀ j, l[j]? = ops[k + j]?) →
    Region.seqB md ops l.length k listed = true → wpListIn F nd P ops Q' l a w → wpAnyIn F nd P md ops Q' l.length listed a w
  | [], _, _, _, _, _, hB, h => ⟨by simpa [Region.seqB] using hB, h⟩
  | o :: l, k, listed, a, w, hl, hB, h => by
    have h0 : ops[k]? = some o := by simpa using (hl 0).symm
    simp only [List.length_cons, Region.seqB, Bool.and_eq_true, decide_eq_true_eq] at hB
    refine ⟨fun h1 => (by rw [hB.1] at h1; cases h1), fun i hi => ?_⟩
    rw [hB.1] at hi
    have hik : i = k := by simpa using hi
    subst hik
    have hw : wpOpIn F nd P ops Q' i (wpListIn F nd P ops Q' l) a w := by unfold wpOpIn; simp only [h0]; exact h
    exact wpOpIn_mono (fun a' w' h' => wpAnyIn_of_seq l (i + 1) _ a' w' (fun j => by have := hl (j + 1); simpa [Nat.add_assoc, Nat.add_comm 1 j] using this) hB.2 h') hw

theorem wpIn_flow {id : Nat} {Q : Exit → Act → World → Prop} {a : Act} {w : World} {l : List Oper} (hF : Wide F) (n : Nat) (s : List (Nat × Bool)) (hm : P.follows .mixedOrders = true)
    (hB : (noDefer l.toArray && okFlow l.toArray n s) = true)
    (h : WalkL P l.toArray (fun a' w' => wpListIn F nd P l.toArray Q (l.drop n) a' w') (s.map fun x => (l.getD x.1 default, x.2)) a w) : (Code.region id l.toArray true).wpIn F nd P Q a w := by
  simp only [okFlow, Bool.and_eq_true, Bool.or_eq_true, decide_eq_true_eq] at hB
  obtain ⟨hD, ⟨⟨⟨hsel, hn⟩, hs⟩, hlen⟩, hseq⟩ := hB
  have hn' : n ≤ l.length := by simpa using hn
  have hdl : (l.drop n).length = l.toArray.size - n := by simp
  have inv0 : HeadInv .any l.toArray n (Array.replicate l.toArray.size false) :=
    ⟨by simp, fun j oj _ hl => (by rw [getD_replicate_false] at hl; cases hl), fun t _ ht => getD_in (by simpa using ht) (getD_replicate_false _ _)⟩
  have htail : ∀ listed, HeadInv .any l.toArray n listed → ∀ i, i < n → listed.getD i true = false → ∀ t, n ≤ t → t ∉ Region.ready .any l.toArray listed := by
    intro listed inv i hi hun t ht
    by_cases hsz : n < l.toArray.size
    · rcases hs with hs | hs
      · omega
      · exact tail_waits hs.1 hs.2 hsz inv _ i rfl hi hun t ht
    · intro hr
      obtain ⟨_, o, ho, _⟩ := mem_ready.1 hr
      have := (Array.getElem?_eq_some_iff.1 ho).1
      omega
  replace h := WalkL.toE (l := l) s _ a w hseq h
  have hdrew : WalkE P l.toArray (fun a' w' => wpListIn F nd P l.toArray Q (l.drop n) a' w') s a w.drew := by
    have hE : Ext w w.drew := (Ext.refl w).drew
    have go : ∀ (s : List (Nat × Bool)) (a : Act), WalkE P l.toArray (fun a' w' => wpListIn F nd P l.toArray Q (l.drop n) a' w') s a w → WalkE P l.toArray (fun a' w' => wpListIn F nd P l.toArray Q (l.drop n) a' w') s a w.drew := by
      intro s
      induction s with
      | nil => exact fun a h w1 h1 => h w1 (hE.trans h1)
      | cons x s ih =>
        obtain ⟨k, b⟩ := x
        cases b with
        | true => exact fun a ⟨o, v, ho, hat, hk⟩ => ⟨o, v, ho, hat.later hE, ih _ hk⟩
        | false => exact fun a h w1 h1 => h w1 (hE.trans h1)
    exact go s a h
  have H := anyE_walk hsel htail s _ a w.drew inv0 hseq hdrew
  refine wpIn_region_any hm ?_
  have := wpAnyIn_of_anyE (nd := nd) (Q := Q) hF hD (g := l.toArray.size - n) (fun listed a' w' hL => by
    have := wpAnyIn_of_seq (F := F) (nd := nd) (md := .any) (Q' := Q) (l.drop n) n listed a' w' (fun j => by simp [List.getElem?_drop]) (by rw [hdl]; exact hL.1) hL.2
    rwa [hdl] at this) _ _ _ _ H
  rw [hlen, show n + (l.toArray.size - n) = l.toArray.size by omega] at this
  exact this
end
end Go.Flow
end
