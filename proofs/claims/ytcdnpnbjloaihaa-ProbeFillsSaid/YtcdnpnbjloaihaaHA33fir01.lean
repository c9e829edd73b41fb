/- Parts of the proof: A33q. -/
import Derived.Test.YtcdnpnbjloaihaaG35
set_option linter.unusedSimpArgs false
set_option linter.unusedVariables false
section
/- Chapter 33 over plain values: what the laws' made gives, put and filled. -/
namespace Go.Proofs.Ytcdnpnbjloaihaa
open Go.RowKit Go.Flow Go.AV Go.Plain
theorem putK_bd (L : List Bm) (Y : List Mt) (k p : Nat) : 0 ≤ putK L Y k p ∧ putK L Y k p ≤ 1 := putF_bd _ _ _ _ _ p
theorem putK_chk (L : List Bm) (Y : List Mt) (k : Nat) : chkI 13 11 143 (putK L Y k) = 0 := chk13 fun p _ => ⟨(putK_bd L Y k p).1, Int.le_trans (putK_bd L Y k p).2 (by decide)⟩
theorem iPut_k {L : List Bm} {Y : List Mt} {x : Im} (h : MkR L Y x) {k : Nat} (hk : k < L.length) : ACalls Try.prog 22 [.ag (bmC (L.getD k bmZ)), .c (iC (Y.getD k mtZ).dx), .c (iC (Y.getD k mtZ).dy)] (.tu [.ag (imgV 13 11 143 (putK L Y k)), .c (iC 0)]) := by
  obtain ⟨e1, e2, e3⟩ := okBm_at h.2.2.1 hk
  have e4 := okMt_at h.2.2.2.1 (show k < Y.length by have := h.1; omega)
  have h := iPut_A (L.getD k bmZ).W (L.getD k bmZ).H (L.getD k bmZ).n (L.getD k bmZ).d (Y.getD k mtZ).dx (Y.getD k mtZ).dy
  show ACalls Try.prog 22 [.ag (bmpV (L.getD k bmZ).W (L.getD k bmZ).H (L.getD k bmZ).n (L.getD k bmZ).d), _, _] _
  rw [e1, e2, e3] at h ⊢
  rw [putV, if_pos (put9 e4)] at h
  exact h
/-- made's image, if there is a bitmap. -/
theorem MkR.some {L : List Bm} {Y : List Mt} {x : Im} (h : MkR L Y x) (h0 : L.length ≠ 0) : ∃ f, x = ⟨13, 11, 143, f⟩ ∧ ∀ p, f p = 2 ∨ f p = putK L Y 0 p := by
  rcases h.2.2.2.2 with ⟨rfl, -⟩ | ⟨-, h1, h2, h3, h4⟩
  · exact absurd rfl h0
  · obtain ⟨xW, xH, xn, xf⟩ := x
    dsimp only at h1 h2 h3 h4
    subst h1 h2 h3
    exact ⟨xf, rfl, h4⟩
theorem MkR.none {L : List Bm} {Y : List Mt} {x : Im} (h : MkR L Y x) (h0 : L.length = 0) : x = ⟨0, 0, 0, fun _ => 0⟩ := by
  rcases h.2.2.2.2 with ⟨-, h⟩ | ⟨h1, -⟩
  · exact h
  · exact absurd (List.length_eq_zero_iff.1 h0) h1
theorem MkR.dims {L : List Bm} {Y : List Mt} {x : Im} (h : MkR L Y x) : (x.W = 0 ∧ x.H = 0) ∨ (x.W = 13 ∧ x.H = 11) := by
  by_cases h0 : L.length = 0
  · rw [h.none h0]; exact .inl ⟨rfl, rfl⟩
  · obtain ⟨f, rfl, -⟩ := h.some h0; exact .inr ⟨rfl, rfl⟩
theorem pix3 {L : List Bm} {Y : List Mt} {k : Nat} {f : Nat → Int} (h : ∀ p, f p = 2 ∨ f p = putK L Y k p) (p : Nat) : 0 ≤ f p ∧ f p ≤ 2 := by
  have h1 := putK_bd L Y k p
  have h2 := h p
  omega
theorem pFill_k {L : List Bm} {Y : List Mt} {f : Nat → Int} (hf : ∀ p, 0 ≤ f p ∧ f p ≤ 2) (k : Nat) (r : Rc) : ACalls Try.prog 16 [.ag (imgV 13 11 143 f), .ag (imgV 13 11 143 (putK L Y k)), .ag (rcC r)] (.tu [.ag (imgV 13 11 143 (fillF 13 f (putK L Y k) r)), .c (iC 0)]) := by
  have h := pFill_A 13 11 143 f 13 11 143 (putK L Y k) r (by omega) (by omega)
  have he : fillE 13 11 143 f 13 11 143 (putK L Y k) = 0 := by
    unfold fillE
    rw [if_pos (chk13 fun p _ => hf p), if_pos (putK_chk L Y k), if_pos ⟨rfl, rfl⟩]
  rw [fillV, if_pos he] at h
  exact h
theorem fillF_px {W : Int} {L : List Bm} {Y : List Mt} {k : Nat} {f : Nat → Int} {r : Rc} (hf : ∀ p, 0 ≤ f p ∧ f p ≤ 2) (p : Nat) : 0 ≤ fillF W f (putK L Y k) r p ∧ fillF W f (putK L Y k) r p ≤ 2 := by
  unfold fillF
  have := putK_bd L Y k p
  have := hf p
  split <;> omega
theorem blkL_13 {f : Nat → Int} (hf : ∀ p, 0 ≤ f p ∧ f p ≤ 2) : blkL 13 11 143 f = blocks 13 11 143 f := by
  unfold blkL
  rw [if_pos (chk13 fun p _ => hf p)]
  rfl
theorem SameRS_A (l : List Rc) (hl : l.length ≤ 100000) : ACalls Try.prog 13 [.c (.ls l.length 4 (rcF l)), .c (.ls l.length 4 (rcF l))] (.c (bC true)) := by
  have h := SameRects_A l l hl hl
  rw [decide_eq_true rfl] at h
  exact h
theorem row_cut {α : Type} {c : α → List CV} {z : α} (L : List α) {k : Nat} (hk : k < L.length) (i j : Nat) : appF (fun i j => rowF c z L (0 + i) j) k (fun i j => rowF c z L (k + 1 + i) j) i j = rowF c z (L.take k ++ L.drop (k + 1)) i j := by
  unfold appF rowF
  have ht : (L.take k).length = k := by rw [List.length_take]; omega
  rw [getD_app, ht]
  by_cases h : i < k
  · rw [Nat.blt_eq.mpr h, if_pos h]
    simp only [cond_true, Nat.zero_add, List.getD_eq_getElem?_getD, List.getElem?_take, if_pos h]
  · rw [show Nat.blt i k = false from Bool.eq_false_iff.2 fun h' => h (Nat.blt_eq.mp h'), if_neg h]
    simp only [cond_false, List.getD_eq_getElem?_getD, List.getElem?_drop]
end Go.Proofs.Ytcdnpnbjloaihaa
end
