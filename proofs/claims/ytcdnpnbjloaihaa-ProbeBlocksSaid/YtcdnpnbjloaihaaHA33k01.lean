/- ProbeBlocks: the statement. No condition. -/
import Derived.Test.YtcdnpnbjloaihaaG33
import Derived.Test.YtcdnpnbjloaihaaRows
import Derived.Test.YtcdnpnbjloaihaaG34
import Derived.WalkKit
import Derived.ProofKit
import Derived.OpenShut
import Derived.Deep.DeepHandedRow
set_option linter.unusedSimpArgs false
set_option linter.unusedVariables false
section
/- Chapter 33: the law ProbeBlocks over plain values. -/
namespace Go.Proofs.Ytcdnpnbjloaihaa
open Go.RowKit Go.Flow Go.AV Go.Plain
abbrev arL (x y z u : Im) : List CV := imC x ++ imC y ++ imC z ++ imC u
def arI (x y z u : Im) (i : Nat) : Im := match i with | 0 => x | 1 => y | 2 => z | _ => u
theorem arr_cells (x y z u : Im) {i : Nat} (h : i < 4) : cellsFrom (lF (arL x y z u) 0) (0 + i * 3) 3 = imC (arI x y z u i) := by
  match i, h with
  | 0, _ => rfl
  | 1, _ => rfl
  | 2, _ => rfl
  | 3, _ => rfl
theorem same_self (W H : Int) (n : Nat) (f : Nat → Int) : (decide (W = W) && decide (H = H) && samePx n n f f) = true := by simp [samePx]
theorem SameS_A (x : Im) (hn : x.n ≤ 4611686018427387904) : ACalls Try.prog 18 [.ag (imC x), .ag (imC x)] (.c (bC true)) := by
  have h := Same_A x.W x.H x.W x.H x.n x.n x.f x.f hn
  rw [same_self] at h
  exact h
theorem SameRS_A (l : List Rc) (hl : l.length ≤ 100000) : ACalls Try.prog 13 [.c (.ls l.length 4 (rcF l)), .c (.ls l.length 4 (rcF l))] (.c (bC true)) := by
  have h := SameRects_A l l hl hl
  rw [decide_eq_true rfl] at h
  exact h
theorem MkR.bd {L : List Bm} {Y : List Mt} {x : Im} (h : MkR L Y x) : (-1000 ≤ x.W ∧ x.W ≤ 1000) ∧ x.n ≤ 143 := by
  rcases h.2.2.2.2 with ⟨-, rfl⟩ | ⟨-, h1, h2, h3, -⟩
  · exact ⟨⟨by decide, by decide⟩, by decide⟩
  · omega
set_option maxHeartbeats 1000000 in
set_option maxRecDepth 100000 in
theorem ProbeBlocks_A (c d : Case) (W H : Int) (n : Nat) (f : Nat → Int) (r : Rc) (q : Int) (hc : c.ok) (hd : d.ok) (hn : n ≤ 4611686018427387904) (hq : -9223372036854775808 ≤ q ∧ q ≤ 9223372036854775807) :
    ECalls Try.prog 3 [.ag (caC c), .ag (caC d), .ag (imgV W H n f), .ag (rcC r), .c (iC q)] (fun v => v = .c (bC true)) := by
  have hCut := cut_A W H n f
  refine ecalls_at Try.func3 rfl rfl Try.ntmps3 rfl ?_
  repeat (first
    | refine AWp.seq ?_
    | (refine AWp.region (id := 0) ?_
       refine AList.box rfl rfl rfl rfl rfl ?_
       refine AList.box rfl rfl rfl rfl rfl ?_
       refine AList.box rfl rfl rfl rfl rfl ?_
       refine AList.box rfl rfl rfl rfl rfl ?_
       refine AList.assign rfl rfl rfl ?_
       refine AList.nil ?_)
    | (refine AWp.region (id := 1) ?_
       refine AList.call rfl rfl rfl rfl Try.func9 rfl (by kernel_rfl) (sanity_A) ?_
       refine AList.assign rfl rfl rfl ?_
       refine AList.nil ?_))
  refine AWp.text ?_
  refine AText.split 1 ?_
  refine AList.loadA tyOk rfl rfl rfl rfl rfl rfl rfl oM oM ?_
  refine AList.nil ?_
  refine AText.callE rfl rfl rfl rfl Try.func10 rfl (by kernel_rfl) (made_E c hc) ?_
  rintro _ ⟨L, Y, x, hx, rfl⟩
  refine AText.all ?_
  refine AList.move rfl rfl rfl ?_
  refine AList.extract rfl rfl rfl rfl ?_
  refine AList.extract rfl rfl rfl rfl ?_
  refine AList.extract rfl rfl rfl rfl ?_
  refine AList.alloc tyOk rfl rfl rfl rfl rfl ?_
  refine AList.assign rfl rfl rfl ?_
  refine AList.assign rfl rfl rfl ?_
  refine AList.store tyOk rfl rfl rfl rfl rfl rfl rfl rfl oM oM ?_
  refine AList.nil ?_
  repeat (first
    | refine AWp.seq ?_)
  refine AWp.text ?_
  refine AText.split 1 ?_
  refine AList.loadA tyOk rfl rfl rfl rfl rfl rfl rfl oM oM ?_
  refine AList.nil ?_
  refine AText.callE rfl rfl rfl rfl Try.func10 rfl (by kernel_rfl) (made_E d hd) ?_
  rintro _ ⟨L2, Y2, y, hy, rfl⟩
  refine AText.all ?_
  refine AList.move rfl rfl rfl ?_
  refine AList.extract rfl rfl rfl rfl ?_
  refine AList.extract rfl rfl rfl rfl ?_
  refine AList.extract rfl rfl rfl rfl ?_
  refine AList.alloc tyOk rfl rfl rfl rfl rfl ?_
  refine AList.assign rfl rfl rfl ?_
  refine AList.assign rfl rfl rfl ?_
  refine AList.store tyOk rfl rfl rfl rfl rfl rfl rfl rfl oM oM ?_
  refine AList.nil ?_
  obtain ⟨W', H', m, g, hm, hO⟩ := Odd_A x.W x.H x.n x.f q hx.bd.1 (by have := hx.bd.2; omega) hq
  repeat (first
    | refine AWp.seq ?_
    | refine thenA_n ?_
    | refine AWp.block ?_
    | (refine AWp.draw (id := 4) mixed ?_
       refine AList.loadA tyOk rfl rfl rfl rfl rfl rfl rfl oM oM ?_
       refine AList.loadA tyOk rfl rfl rfl rfl rfl rfl rfl oM oM ?_
       refine AList.loadA tyOk rfl rfl rfl rfl rfl rfl rfl oM oM ?_
       refine AList.move rfl rfl rfl ?_
       refine AList.call rfl rfl rfl rfl Try.func11 rfl (by kernel_rfl) (hO) ?_
       refine AList.loadA tyOk rfl rfl rfl rfl rfl rfl rfl oM oM ?_
       refine AList.call rfl rfl rfl rfl Try.func12 rfl (by kernel_rfl) (hCut) ?_
       refine AList.buildArr tyOk rfl rfl rfl rfl rfl rfl rfl rfl ?_
       refine AList.alloc tyOk rfl rfl rfl rfl rfl ?_
       refine AList.store tyOk rfl rfl rfl rfl rfl rfl rfl rfl oM oM ?_
       refine AList.nil ⟨by kernel_rfl, ?_⟩)
    | (refine AWp.region (id := 5) ?_
       refine AList.assign rfl rfl rfl ?_
       refine AList.nil ?_))
  have hI : ∀ i, i < 4 → (arI x y ⟨W', H', m, g⟩ ⟨W, H, min n 150, f⟩ i).n ≤ 100000 := fun i hi => by
    have h1 := hx.bd.2
    have h2 := hy.bd.2
    match i, hi with
    | 0, _ => show x.n ≤ _; omega
    | 1, _ => show y.n ≤ _; omega
    | 2, _ => show m ≤ _; omega
    | 3, _ => show min n 150 ≤ _; omega
  have hcl : ∀ i, i < 4 → cellsFrom (lF (arL x y ⟨W', H', m, g⟩ ⟨W, H, min n 150, f⟩) 0) (0 + i * 3) 3 = imC (arI x y ⟨W', H', m, g⟩ ⟨W, H, min n 150, f⟩ i) := fun i hi => arr_cells _ _ _ _ hi
  refine AWp.round (fun i : Nat => mkSt 96 [(8, .c (.pt 8 4 0 0)), (11, .c (bC true)), (18, .c (.pt 18 12 0 0)), (19, .c (iC i))]
    [(8, ⟨false, 1, 4, 29, lF (rcC r)⟩), (18, ⟨false, 1, 12, 37, lF (arL x y ⟨W', H', m, g⟩ ⟨W, H, min n 150, f⟩)⟩)] [8, 18])
    (fun i => i ≤ 4) (fun i => 4 - i) 0 (Nat.zero_le _) ?_ (fun i hi => ?_)
  · refine Wk.mk [(8, some 8), (18, some 18)] rfl rfl rfl ?_ ?_
    · repeat (first | exact trivial | refine ⟨⟨_, rfl, by first | exact LeA.c (LeC.refl _ rfl) | exact LeA.c (LeC.ow _ _ rfl) | exact LeA.c (LeC.pt _ _ _ _ _ rfl) | exact LeA.c (LeC.nil _ rfl) | exact LeA.c (LeC.nils _ _) | (refine LeA.int ?_; omega) | (refine LeA.int ?_; dsimp only; omega) | exact LeA.c (LeC.fz rfl rfl (by first | rfl | omega) (fun i _ j _ => ⟨rfl, by first | rfl | exact rowN_imm (fun _ => rfl) _ i j | exact rowF_imm (fun _ => rfl) _ i j⟩))⟩, ?_⟩)
    · exact ⟨HeapOk.same rfl rfl rfl rfl, HeapOk.same rfl rfl rfl rfl, trivial⟩
  · by_cases hlt : i < 4
    · have hIi := hI i hlt
      have ci := hcl i hlt
      generalize hxi : arI x y ⟨W', H', m, g⟩ ⟨W, H, min n 150, f⟩ i = xi at hIi ci
      have hB1 := pBlocks_A xi.W xi.H xi.n xi.f (by omega)
      have hB2 := rBlocks_A xi.W xi.H xi.n xi.f (by omega)
      have hS := SameRS_A (blkL xi.W xi.H xi.n xi.f) (by have := blk_len (W := xi.W) (H := xi.H) (n := xi.n) (f := xi.f); omega)
      repeat (first
        | refine AWp.seq ?_
        | refine thenA_n ?_
        | refine AWp.block ?_
        | refine AWp.skip ?_
        | refine AWp.condT rfl (by first | rfl | exact cmT) ?_
        | refine AWp.condF rfl (by first | rfl | exact cmF) ?_
        | (refine AWp.region (id := 6) ?_
           refine AList.move rfl rfl rfl ?_
           refine AList.cmpT rfl rfl rfl rfl rfl cmT ?_
           refine AList.nil ?_)
        | (refine AWp.draw (id := 8) mixed ?_
           refine AList.move rfl rfl rfl ?_
           refine AList.idxArr (i := i) tyOk rfl rfl rfl rfl rfl rfl rfl (by first | rfl | omega) oM ?_
           refine AList.loadAF tyOk rfl rfl rfl rfl rfl rfl rfl oM (by first | omega | (dsimp only; omega) | exact of_decide_eq_true rfl | (simp; done) | (simp; omega) | (show _ + _ * 3 + 3 ≤ 12; omega)) (ci) ?_
           refine AList.call rfl rfl rfl rfl Try.func14 rfl (by kernel_rfl) (hB1) ?_
           refine AList.move rfl rfl rfl ?_
           refine AList.idxArr (i := i) tyOk rfl rfl rfl rfl rfl rfl rfl (by first | rfl | omega) oM ?_
           refine AList.loadAF tyOk rfl rfl rfl rfl rfl rfl rfl oM (by first | omega | (dsimp only; omega) | exact of_decide_eq_true rfl | (simp; done) | (simp; omega) | (show _ + _ * 3 + 3 ≤ 12; omega)) (ci) ?_
           refine AList.call rfl rfl rfl rfl Try.func15 rfl (by kernel_rfl) (hB2) ?_
           refine AList.call rfl rfl rfl rfl Try.func13 rfl (by kernel_rfl) (hS) ?_
           refine AList.notB rfl rfl rfl ?_
           refine AList.nil ⟨by kernel_rfl, ?_⟩)
        | (refine AWp.region (id := 10) ?_
           refine AList.assign rfl rfl rfl ?_
           refine AList.nil ?_))
      refine AWp.round (fun k : Nat => mkSt 96 [(8, .c (.pt 8 4 0 0)), (11, .c (bC true)), (18, .c (.pt 18 12 0 0)), (19, .c (iC i)), (20, .c (iC k))]
        [(8, ⟨false, 1, 4, 29, lF (rcC r)⟩), (18, ⟨false, 1, 12, 37, lF (arL x y ⟨W', H', m, g⟩ ⟨W, H, min n 150, f⟩)⟩)] [8, 18])
        (fun k => k ≤ 4) (fun k => 4 - k) 0 (Nat.zero_le _) ?_ (fun k hk => ?_)
      · refine Wk.mk [(8, some 8), (18, some 18)] rfl rfl rfl ?_ ?_
        · repeat (first | exact trivial | refine ⟨⟨_, rfl, by first | exact LeA.c (LeC.refl _ rfl) | exact LeA.c (LeC.ow _ _ rfl) | exact LeA.c (LeC.pt _ _ _ _ _ rfl) | exact LeA.c (LeC.nil _ rfl) | exact LeA.c (LeC.nils _ _) | (refine LeA.int ?_; omega) | (refine LeA.int ?_; dsimp only; omega) | exact LeA.c (LeC.fz rfl rfl (by first | rfl | omega) (fun i _ j _ => ⟨rfl, by first | rfl | exact rowN_imm (fun _ => rfl) _ i j | exact rowF_imm (fun _ => rfl) _ i j⟩))⟩, ?_⟩)
        · exact ⟨HeapOk.same rfl rfl rfl rfl, HeapOk.same rfl rfl rfl rfl, trivial⟩
      · by_cases hltk : k < 4
        · have hIk := hI k hltk
          have ck := hcl k hltk
          generalize hxk : arI x y ⟨W', H', m, g⟩ ⟨W, H, min n 150, f⟩ k = xk at hIk ck
          have hF1 := pFill_A xi.W xi.H xi.n xi.f xk.W xk.H xk.n xk.f r (by omega) (by omega)
          have hF2 := rFill_A xi.W xi.H xi.n xi.f xk.W xk.H xk.n xk.f r (by omega) (by omega)
          by_cases he : fillE xi.W xi.H xi.n xi.f xk.W xk.H xk.n xk.f = 0
          · rw [fillV, if_pos he] at hF1 hF2
            have hSm := SameS_A ⟨xi.W, xi.H, xi.n, fillF xi.W xi.f xk.f r⟩ (by show xi.n ≤ _; omega)
            repeat (first
              | refine AWp.seq ?_
              | refine thenA_n ?_
              | refine AWp.block ?_
              | refine AWp.skip ?_
              | refine inBlk_n ?_
              | refine AWp.condT rfl (by first | rfl | exact cmT) ?_
              | refine AWp.condF rfl (by first | rfl | exact cmF) ?_
              | (refine AWp.region (id := 11) ?_
                 refine AList.move rfl rfl rfl ?_
                 refine AList.cmpT rfl rfl rfl rfl rfl cmT ?_
                 refine AList.nil ?_)
              | (refine AWp.region (id := 12) ?_
                 refine AList.move rfl rfl rfl ?_
                 refine AList.add rfl rfl rfl rfl (by omega) (by omega) ?_
                 refine AList.assign rfl rfl rfl ?_
                 refine AList.nil ?_)
              | (refine AWp.draw (id := 13) mixed ?_
                 refine AList.move rfl rfl rfl ?_
                 refine AList.idxArr (i := i) tyOk rfl rfl rfl rfl rfl rfl rfl (by first | rfl | omega) oM ?_
                 refine AList.loadAF tyOk rfl rfl rfl rfl rfl rfl rfl oM (by first | omega | (dsimp only; omega) | exact of_decide_eq_true rfl | (simp; done) | (simp; omega) | (show _ + _ * 3 + 3 ≤ 12; omega)) (ci) ?_
                 refine AList.move rfl rfl rfl ?_
                 refine AList.idxArr (i := k) tyOk rfl rfl rfl rfl rfl rfl rfl (by first | rfl | omega) oM ?_
                 refine AList.loadAF tyOk rfl rfl rfl rfl rfl rfl rfl oM (by first | omega | (dsimp only; omega) | exact of_decide_eq_true rfl | (simp; done) | (simp; omega) | (show _ + _ * 3 + 3 ≤ 12; omega)) (ck) ?_
                 refine AList.loadA tyOk rfl rfl rfl rfl rfl rfl rfl oM oM ?_
                 refine AList.call rfl rfl rfl rfl Try.func16 rfl (by kernel_rfl) (hF1) ?_
                 refine AList.move rfl rfl rfl ?_
                 refine AList.extract rfl rfl rfl rfl ?_
                 refine AList.extract rfl rfl rfl rfl ?_
                 refine AList.alloc tyOk rfl rfl rfl rfl rfl ?_
                 refine AList.store tyOk rfl rfl rfl rfl rfl rfl rfl rfl oM oM ?_
                 refine AList.assign rfl rfl rfl ?_
                 refine AList.nil ⟨by kernel_rfl, ?_⟩)
              | (refine AWp.draw (id := 14) mixed ?_
                 refine AList.move rfl rfl rfl ?_
                 refine AList.idxArr (i := i) tyOk rfl rfl rfl rfl rfl rfl rfl (by first | rfl | omega) oM ?_
                 refine AList.loadAF tyOk rfl rfl rfl rfl rfl rfl rfl oM (by first | omega | (dsimp only; omega) | exact of_decide_eq_true rfl | (simp; done) | (simp; omega) | (show _ + _ * 3 + 3 ≤ 12; omega)) (ci) ?_
                 refine AList.move rfl rfl rfl ?_
                 refine AList.idxArr (i := k) tyOk rfl rfl rfl rfl rfl rfl rfl (by first | rfl | omega) oM ?_
                 refine AList.loadAF tyOk rfl rfl rfl rfl rfl rfl rfl oM (by first | omega | (dsimp only; omega) | exact of_decide_eq_true rfl | (simp; done) | (simp; omega) | (show _ + _ * 3 + 3 ≤ 12; omega)) (ck) ?_
                 refine AList.loadA tyOk rfl rfl rfl rfl rfl rfl rfl oM oM ?_
                 refine AList.call rfl rfl rfl rfl Try.func17 rfl (by kernel_rfl) (hF2) ?_
                 refine AList.move rfl rfl rfl ?_
                 refine AList.extract rfl rfl rfl rfl ?_
                 refine AList.extract rfl rfl rfl rfl ?_
                 refine AList.alloc tyOk rfl rfl rfl rfl rfl ?_
                 refine AList.store tyOk rfl rfl rfl rfl rfl rfl rfl rfl oM oM ?_
                 refine AList.assign rfl rfl rfl ?_
                 refine AList.nil ⟨by kernel_rfl, ?_⟩)
              | (refine AWp.region (id := 15) ?_
                 refine AList.move rfl rfl rfl ?_
                 refine AList.move rfl rfl rfl ?_
                 refine AList.cmpF rfl rfl rfl rfl rfl (by simp only [cmpP, eq_self, decide_true, Bool.not_true]) ?_
                 refine AList.move rfl rfl rfl ?_
                 refine AList.loadA tyOk rfl rfl rfl rfl rfl rfl rfl oM oM ?_
                 refine AList.loadA tyOk rfl rfl rfl rfl rfl rfl rfl oM oM ?_
                 refine AList.call rfl rfl rfl rfl Try.func18 rfl (by kernel_rfl) (hSm) ?_
                 refine AList.notB rfl rfl rfl ?_
                 refine AList.pickF rfl rfl rfl rfl ?_
                 refine AList.nil ?_))
            refine ⟨k + 1, by omega, Wk.mk [(8, some 8), (18, some 18)] rfl rfl rfl ?_ ?_, by omega⟩
            · repeat (first | exact trivial | refine ⟨⟨_, rfl, by first | exact LeA.c (LeC.refl _ rfl) | exact LeA.c (LeC.ow _ _ rfl) | exact LeA.c (LeC.pt _ _ _ _ _ rfl) | exact LeA.c (LeC.nil _ rfl) | exact LeA.c (LeC.nils _ _) | (refine LeA.int ?_; omega) | (refine LeA.int ?_; dsimp only; omega) | exact LeA.c (LeC.fz rfl rfl (by first | rfl | omega) (fun i _ j _ => ⟨rfl, by first | rfl | exact rowN_imm (fun _ => rfl) _ i j | exact rowF_imm (fun _ => rfl) _ i j⟩))⟩, ?_⟩)
            · exact ⟨HeapOk.same rfl rfl rfl rfl, HeapOk.same rfl rfl rfl rfl, trivial⟩
          · rw [fillV, if_neg he] at hF1 hF2
            have hSm := SameS_A ⟨0, 0, 0, fun _ => 0⟩ (by show 0 ≤ _; omega)
            repeat (first
              | refine AWp.seq ?_
              | refine thenA_n ?_
              | refine AWp.block ?_
              | refine AWp.skip ?_
              | refine inBlk_n ?_
              | refine AWp.condT rfl (by first | rfl | exact cmT) ?_
              | refine AWp.condF rfl (by first | rfl | exact cmF) ?_
              | (refine AWp.region (id := 11) ?_
                 refine AList.move rfl rfl rfl ?_
                 refine AList.cmpT rfl rfl rfl rfl rfl cmT ?_
                 refine AList.nil ?_)
              | (refine AWp.region (id := 12) ?_
                 refine AList.move rfl rfl rfl ?_
                 refine AList.add rfl rfl rfl rfl (by omega) (by omega) ?_
                 refine AList.assign rfl rfl rfl ?_
                 refine AList.nil ?_)
              | (refine AWp.draw (id := 13) mixed ?_
                 refine AList.move rfl rfl rfl ?_
                 refine AList.idxArr (i := i) tyOk rfl rfl rfl rfl rfl rfl rfl (by first | rfl | omega) oM ?_
                 refine AList.loadAF tyOk rfl rfl rfl rfl rfl rfl rfl oM (by first | omega | (dsimp only; omega) | exact of_decide_eq_true rfl | (simp; done) | (simp; omega) | (show _ + _ * 3 + 3 ≤ 12; omega)) (ci) ?_
                 refine AList.move rfl rfl rfl ?_
                 refine AList.idxArr (i := k) tyOk rfl rfl rfl rfl rfl rfl rfl (by first | rfl | omega) oM ?_
                 refine AList.loadAF tyOk rfl rfl rfl rfl rfl rfl rfl oM (by first | omega | (dsimp only; omega) | exact of_decide_eq_true rfl | (simp; done) | (simp; omega) | (show _ + _ * 3 + 3 ≤ 12; omega)) (ck) ?_
                 refine AList.loadA tyOk rfl rfl rfl rfl rfl rfl rfl oM oM ?_
                 refine AList.call rfl rfl rfl rfl Try.func16 rfl (by kernel_rfl) (hF1) ?_
                 refine AList.move rfl rfl rfl ?_
                 refine AList.extract rfl rfl rfl rfl ?_
                 refine AList.extract rfl rfl rfl rfl ?_
                 refine AList.alloc tyOk rfl rfl rfl rfl rfl ?_
                 refine AList.store tyOk rfl rfl rfl rfl rfl rfl rfl rfl oM oM ?_
                 refine AList.assign rfl rfl rfl ?_
                 refine AList.nil ⟨by kernel_rfl, ?_⟩)
              | (refine AWp.draw (id := 14) mixed ?_
                 refine AList.move rfl rfl rfl ?_
                 refine AList.idxArr (i := i) tyOk rfl rfl rfl rfl rfl rfl rfl (by first | rfl | omega) oM ?_
                 refine AList.loadAF tyOk rfl rfl rfl rfl rfl rfl rfl oM (by first | omega | (dsimp only; omega) | exact of_decide_eq_true rfl | (simp; done) | (simp; omega) | (show _ + _ * 3 + 3 ≤ 12; omega)) (ci) ?_
                 refine AList.move rfl rfl rfl ?_
                 refine AList.idxArr (i := k) tyOk rfl rfl rfl rfl rfl rfl rfl (by first | rfl | omega) oM ?_
                 refine AList.loadAF tyOk rfl rfl rfl rfl rfl rfl rfl oM (by first | omega | (dsimp only; omega) | exact of_decide_eq_true rfl | (simp; done) | (simp; omega) | (show _ + _ * 3 + 3 ≤ 12; omega)) (ck) ?_
                 refine AList.loadA tyOk rfl rfl rfl rfl rfl rfl rfl oM oM ?_
                 refine AList.call rfl rfl rfl rfl Try.func17 rfl (by kernel_rfl) (hF2) ?_
                 refine AList.move rfl rfl rfl ?_
                 refine AList.extract rfl rfl rfl rfl ?_
                 refine AList.extract rfl rfl rfl rfl ?_
                 refine AList.alloc tyOk rfl rfl rfl rfl rfl ?_
                 refine AList.store tyOk rfl rfl rfl rfl rfl rfl rfl rfl oM oM ?_
                 refine AList.assign rfl rfl rfl ?_
                 refine AList.nil ⟨by kernel_rfl, ?_⟩)
              | (refine AWp.region (id := 15) ?_
                 refine AList.move rfl rfl rfl ?_
                 refine AList.move rfl rfl rfl ?_
                 refine AList.cmpF rfl rfl rfl rfl rfl (by simp only [cmpP, eq_self, decide_true, Bool.not_true]) ?_
                 refine AList.move rfl rfl rfl ?_
                 refine AList.loadA tyOk rfl rfl rfl rfl rfl rfl rfl oM oM ?_
                 refine AList.loadA tyOk rfl rfl rfl rfl rfl rfl rfl oM oM ?_
                 refine AList.call rfl rfl rfl rfl Try.func18 rfl (by kernel_rfl) (hSm) ?_
                 refine AList.notB rfl rfl rfl ?_
                 refine AList.pickF rfl rfl rfl rfl ?_
                 refine AList.nil ?_))
            refine ⟨k + 1, by omega, Wk.mk [(8, some 8), (18, some 18)] rfl rfl rfl ?_ ?_, by omega⟩
            · repeat (first | exact trivial | refine ⟨⟨_, rfl, by first | exact LeA.c (LeC.refl _ rfl) | exact LeA.c (LeC.ow _ _ rfl) | exact LeA.c (LeC.pt _ _ _ _ _ rfl) | exact LeA.c (LeC.nil _ rfl) | exact LeA.c (LeC.nils _ _) | (refine LeA.int ?_; omega) | (refine LeA.int ?_; dsimp only; omega) | exact LeA.c (LeC.fz rfl rfl (by first | rfl | omega) (fun i _ j _ => ⟨rfl, by first | rfl | exact rowN_imm (fun _ => rfl) _ i j | exact rowF_imm (fun _ => rfl) _ i j⟩))⟩, ?_⟩)
            · exact ⟨HeapOk.same rfl rfl rfl rfl, HeapOk.same rfl rfl rfl rfl, trivial⟩
        · obtain rfl : k = 4 := by omega
          repeat (first
            | refine AWp.seq ?_
            | refine thenA_n ?_
            | refine AWp.exit ?_
            | refine thenA_e ?_
            | refine inBlk_n ?_
            | refine inBlk_hit ?_
            | refine AWp.condF rfl (by first | rfl | exact cmF) ?_
            | (refine AWp.region (id := 7) ?_
               refine AList.move rfl rfl rfl ?_
               refine AList.add rfl rfl rfl rfl (by omega) (by omega) ?_
               refine AList.assign rfl rfl rfl ?_
               refine AList.nil ?_)
            | (refine AWp.region (id := 11) ?_
               refine AList.move rfl rfl rfl ?_
               refine AList.cmpF rfl rfl rfl rfl rfl cmF ?_
               refine AList.nil ?_))
          refine ⟨i + 1, by omega, Wk.mk [(8, some 8), (18, some 18)] rfl rfl rfl ?_ ?_, by omega⟩
          · repeat (first | exact trivial | refine ⟨⟨_, rfl, by first | exact LeA.c (LeC.refl _ rfl) | exact LeA.c (LeC.ow _ _ rfl) | exact LeA.c (LeC.pt _ _ _ _ _ rfl) | exact LeA.c (LeC.nil _ rfl) | exact LeA.c (LeC.nils _ _) | (refine LeA.int ?_; omega) | (refine LeA.int ?_; dsimp only; omega) | exact LeA.c (LeC.fz rfl rfl (by first | rfl | omega) (fun i _ j _ => ⟨rfl, by first | rfl | exact rowN_imm (fun _ => rfl) _ i j | exact rowF_imm (fun _ => rfl) _ i j⟩))⟩, ?_⟩)
          · exact ⟨HeapOk.same rfl rfl rfl rfl, HeapOk.same rfl rfl rfl rfl, trivial⟩
    · obtain rfl : i = 4 := by omega
      repeat (first
        | refine AWp.seq ?_
        | refine thenA_n ?_
        | refine AWp.exit ?_
        | refine AWp.ret ?_
        | refine AWp.condF rfl (by first | rfl | exact cmF) ?_
        | (refine AWp.region (id := 6) ?_
           refine AList.move rfl rfl rfl ?_
           refine AList.cmpF rfl rfl rfl rfl rfl cmF ?_
           refine AList.nil ?_)
        | (refine AWp.region (id := 17) ?_
           refine AList.move rfl rfl rfl ?_
           refine AList.assign rfl rfl rfl ?_
           refine AList.nil ?_))
      refine ⟨_, rfl, mkSt 96 [(10, .c (bC true))] [] [], [], Wk.mk [] rfl rfl rfl ?_ ?_, rfl, rfl, ARets.one (x := .c _) (ARes.tmp rfl rfl)⟩
      · repeat (first | exact trivial | refine ⟨⟨_, rfl, by first | exact LeA.c (LeC.refl _ rfl) | exact LeA.c (LeC.ow _ _ rfl) | exact LeA.c (LeC.pt _ _ _ _ _ rfl) | exact LeA.c (LeC.nil _ rfl) | exact LeA.c (LeC.nils _ _) | (refine LeA.int ?_; omega) | (refine LeA.int ?_; dsimp only; omega) | exact LeA.c (LeC.fz rfl rfl (by first | rfl | omega) (fun i _ j _ => ⟨rfl, by first | rfl | exact rowN_imm (fun _ => rfl) _ i j | exact rowF_imm (fun _ => rfl) _ i j⟩))⟩, ?_⟩)
      · exact trivial
end Go.Proofs.Ytcdnpnbjloaihaa
end

section
/- ProbeBlocks: the row. Under way. -/
namespace Go.Proofs.Ytcdnpnbjloaihaa.probeBlocks
open Go.ChangeShapes Go.WideShapes Go.ChangeAt Go.RowKit Go.Flow Go.AV
theorem laidOut : laidOutB Try.prog = true := by kernel_rfl
theorem cellsI : Try.prog.cellsOf 3 = 1 := by kernel_rfl
theorem cellsL : Try.prog.cellsOf 23 = 1 := by kernel_rfl
theorem bytesI : Try.prog.bytesOf 3 = 8 := by kernel_rfl
theorem bytesL : Try.prog.bytesOf 23 = 24 := by kernel_rfl
theorem cellsLL : Try.prog.cellsOf 22 = 1 := by kernel_rfl
theorem cellsR : Try.prog.cellsOf 29 = 4 := by kernel_rfl
theorem typesR : Try.prog.cellTypes Try.prog.depth 29 = some (List.replicate 4 3) := by kernel_rfl
theorem hoI (i : Nat) (f : Field) (h : (#[⟨ "W", 3, 0, false, "", "", 0⟩, ⟨ "H", 3, 1, false, "", "", 8⟩, ⟨ "Px", 23, 2, false, "", "", 16⟩] : Array Field)[i]? = some f) : f.offset = i ∧ Try.prog.cellsOf f.type = 1 := by
  match i, h with
  | 0, h => cases h; exact ⟨rfl, cellsI⟩
  | 1, h => cases h; exact ⟨rfl, cellsI⟩
  | 2, h => cases h; exact ⟨rfl, cellsL⟩
theorem hoC : ∀ (i : Nat) (f : Field), (match Try.prog.underlying 25 with | some (.struct fs) => fs | _ => #[])[i]? = some f → f.offset = i ∧ Try.prog.cellsOf f.type = 1 := by
  rw [Try.underlying25]
  intro i f h
  match i, h with
  | 0, h => cases h; exact ⟨rfl, cellsLL⟩
  | 1, h => cases h; exact ⟨rfl, cellsL⟩
  | 2, h => cases h; exact ⟨rfl, cellsI⟩
  | 3, h => cases h; exact ⟨rfl, cellsI⟩
  | 4, h => cases h; exact ⟨rfl, cellsL⟩
theorem contract (H : Type) (enc : TypeId × Value → H) (W : World) (base : Nat) (args : Array Value) (ds gs : List (DataW H)) (before : List MemPlace)
    (hval : ∀ (j : Nat) t v, Try.f3.params[j]? = some t → args[j]? = some v → Value.okWide Try.prog W .any base t v)
    (hW : DataW.Whole enc Try.prog Try.f3.params.toList Rows.probeBlocksSpec.vars false W args.toList ds gs before)
    (hsz : (DataW.weightsEach Try.prog (Try.f3.params.toList ++ (OpenSpec.ofChange Rows.probeBlocksSpec).bare.plain.varTypes Try.prog) (ds ++ gs)).all (· ≤ reachBytes) = true) :
    Calls Try.prog 3 args W fun e W' => ∃ v, e = .returned v ∧ Rows.probeBlocksSpec.post enc Try.prog Try.f3 false true false false W args v W' := by
  have hW' := hW
  obtain ⟨p, q, hA0, hV, rfl, hfz, hnd⟩ := hW
  have hA : DataW.TrodAll enc Try.prog W 0 (fun _ => true) true Try.f3.params.toList args.toList ds p := hA0
  have hAk := hA0
  rw [Try.params3] at hA hval hsz
  obtain ⟨rfl, rfl⟩ := trodVars_none hV
  obtain ⟨v0, vs0, d0, ds0, p0, q0, hargs, rfl, rfl, h0, t0⟩ := trodAll_cons hA
  obtain ⟨v1, vs1, d1, ds1, p1, q1, rfl, rfl, rfl, h1, t1⟩ := trodAll_cons t0
  obtain ⟨v2, vs2, d2, ds2, p2, q2, rfl, rfl, rfl, h2, t2⟩ := trodAll_cons t1
  obtain ⟨v3, vs3, d3, ds3, p3, q3, rfl, rfl, rfl, h3, t3⟩ := trodAll_cons t2
  obtain ⟨v4, vs4, d4, ds4, p4, q4, rfl, rfl, rfl, h4, t4⟩ := trodAll_cons t3
  obtain ⟨rfl, rfl, rfl⟩ := trodAll_nil t4
  obtain rfl : args = #[v0, v1, v2, v3, v4] := by rw [← Array.toList_inj]; exact hargs
  simp only [List.append_nil] at hW'
  rw [List.append_nil] at hsz
  have hv0 := hval 0 25 v0 rfl rfl
  unfold Value.okWide at hv0
  rw [Try.underlying25] at hv0
  obtain ⟨cs0, rfl, -, -⟩ := hv0
  have hv1 := hval 1 25 v1 rfl rfl
  unfold Value.okWide at hv1
  rw [Try.underlying25] at hv1
  obtain ⟨cs1, rfl, -, -⟩ := hv1
  have hv2 := hval 2 27 v2 rfl rfl
  unfold Value.okWide at hv2
  rw [Try.underlying27] at hv2
  obtain ⟨cs2, rfl, -, -⟩ := hv2
  obtain ⟨q, rfl, rfl, rfl, wq⟩ := open_int Try.underlying3 (hval 4 3 v4 rfl rfl) h4
  obtain ⟨fu0, g0⟩ := h0
  obtain ⟨fu1, g1⟩ := h1
  obtain ⟨fu2, g2⟩ := h2
  obtain ⟨c, hc, r0⟩ := open_caseB Try.underlying25 (by kernel_rfl) rfl hoC rfl rfl rfl rfl rfl Try.underlying22 Try.underlying3 Try.underlying23 cellsL cellsI bytesI bytesL g0 (weigh hsz 0 (t := 25) (d := d0) rfl rfl)
  obtain ⟨c', hc', r1⟩ := open_caseB Try.underlying25 (by kernel_rfl) rfl hoC rfl rfl rfl rfl rfl Try.underlying22 Try.underlying3 Try.underlying23 cellsL cellsI bytesI bytesL g1 (weigh hsz 1 (t := 25) (d := d1) rfl rfl)
  obtain ⟨Wd, Hg, n, f, hn, r2⟩ := open_imgB Try.underlying27 (by kernel_rfl) rfl hoI rfl rfl rfl Try.underlying3 Try.underlying23 cellsI bytesI g2 (weigh hsz 2 (t := 27) (d := d2) rfl rfl)
  have hv3 := hval 3 29 v3 rfl rfl
  unfold Value.okWide at hv3
  rw [Try.underlying29] at hv3
  obtain ⟨zs, rfl, hz1, hz2⟩ := hv3
  rw [cellsR] at hz1
  obtain ⟨zf, hzf⟩ := row_ints typesR Try.underlying3 hz1 hz2
  have hzl : zs = #[.int .i64 (zf 0), .int .i64 (zf 1), .int .i64 (zf 2), .int .i64 (zf 3)] := by
    apply Array.ext (by simpa using hz1)
    intro j h1 h2
    have := hzf j (by omega)
    rw [Array.getElem?_eq_getElem h1] at this
    have hj : j = 0 ∨ j = 1 ∨ j = 2 ∨ j = 3 := by omega
    rcases hj with rfl | rfl | rfl | rfl <;> simpa using this
  subst hzl
  refine ((ProbeBlocks_A c c' Wd Hg n f (zf 0, zf 1, zf 2, zf 3) q hc hc' hn (wf_i64 wq)) O0 W [_, _, _, _, _] (fun b h => h.elim) ⟨⟨cs0.toList, rfl, r0⟩, ⟨cs1.toList, rfl, r1⟩, ⟨cs2.toList, rfl, r2⟩, rct_rep, ⟨rfl, rfl⟩, trivial⟩).mono fun e W' ⟨v, r, he, hr, hv, hE⟩ => ?_
  subst hr
  obtain rfl : v = .bool true := hv.2
  subst he
  have hlt := fun x hx => hW'.lt x hx
  exact ⟨_, rfl, post_below (pv := []) hW' (fun _ _ _ => trodAll_cons_mk (shut_bool Try.underlying4 _) trodAll_mk0)
    (fun sp hsp => trodAll_below laidOut hE (by rw [Try.params3]; intro t ht; simp only [List.mem_cons, List.not_mem_nil, or_false] at ht; rcases ht with rfl | rfl | rfl | rfl | rfl <;> exact ⟨by kernel_rfl, of_decide_eq_true (by kernel_rfl)⟩) hAk hlt sp hsp)
    (fun _ _ => rfl) (by simp) hE (ok_one (by kernel_rfl) rfl (okWide_bool_mk Try.underlying4 _))⟩
end Go.Proofs.Ytcdnpnbjloaihaa.probeBlocks
end

section
/- ProbeBlocks: the statement. No condition. -/
namespace Go.Proofs.Ytcdnpnbjloaihaa.probeBlocks
open Go.ChangeShapes Go.WideShapes Go.ChangeAt Go.RowKit Go.Flow
theorem own : ownKnob Try.prog.godebug = none := by kernel_rfl
set_option maxRecDepth 100000 in
theorem lifted (os : Os) (started : os.Started) (H : Type) (enc : TypeId × Value → H) :
    ReturnsInHanded {} Try.checked os 3 .any (Rows.probeBlocksSpec.pre6 enc Try.prog Try.f3 Rows.probeBlocksRow.domain false) (Rows.probeBlocksSpec.post enc Try.prog Try.f3 false true false false) := by
  refine returnsInHanded_of_change_sized (C := Try.checked) own started (by kernel_rfl) Try.func3
    (ChangeSpec.witness6 (enc := enc) (C := Try.checked) false ⟨#[], #[.agg #[.slice none 0 0, .slice none 0 0, .int .i64 0, .int .i64 0, .slice none 0 0], .agg #[.slice none 0 0, .slice none 0 0, .int .i64 0, .int .i64 0, .slice none 0 0], .agg #[.int .i64 0, .int .i64 0, .slice none 0 0], .agg #[.int .i64 0, .int .i64 0, .int .i64 0, .int .i64 0], .int .i64 0], []⟩ 8 (by kernel_rfl) (by kernel_rfl) (by kernel_rfl) (by kernel_rfl)) ?_
  intro W base args ds gs before hval hW _ hsz _
  exact contract H enc W base args ds gs before hval hW hsz
theorem said : Rows.ProbeBlocksSaid :=
  OpenClaim.holds_of_wide 3 Try.f3 rfl rfl rfl rfl rfl rfl rfl ⟨rfl, rfl, rfl, rfl, rfl⟩ rfl rfl rfl rfl rfl (by kernel_rfl) Try.func3 (by kernel_rfl)
    (of_decide_eq_true (by kernel_rfl)) (by unfold Func.isWrapper; first | (rw [if_pos (by decide +kernel)]; kernel_rfl) | (rw [if_neg (by decide +kernel)]; exact ⟨rfl, rfl⟩))
    (fun os started H enc _ => lifted os started H enc)
end Go.Proofs.Ytcdnpnbjloaihaa.probeBlocks
end
