/- ProbeEnds: the statement. No condition. -/
import Derived.Test.YtcdnpnbjloaihaaG35
import Derived.Test.YtcdnpnbjloaihaaRows
import Derived.Test.YtcdnpnbjloaihaaG36
set_option linter.unusedSimpArgs false
set_option linter.unusedVariables false
section
/- Chapter 33 over plain values: what the laws' made gives, put and filled. -/
namespace Go.Proofs.Ytcdnpnbjloaihaa
open Go.RowKit Go.Flow Go.AV Go.Plain
theorem putK_bd (L : List Bm) (Y : List Mt) (k p : Nat) : 0 ≤ putK L Y k p ∧ putK L Y k p ≤ 1 := putF_bd _ _ _ _ _ p
theorem putK_chk (L : List Bm) (Y : List Mt) (k : Nat) : chkI 13 11 143 (putK L Y k) = 0 := chk13 fun p _ => ⟨(putK_bd L Y k p).1, Int.le_trans (putK_bd L Y k p).2 (by decide)⟩
theorem iPut_k {L : List Bm} {Y : List Mt} {x : Im} (h : MkR L Y x) {k : Nat} (hk : k < L.length) : ACalls Try.prog 22 [.ag (bmC (L.getD k bmZ)), .c (iC (Y.getD k mtZ).dx), .c (iC (Y.getD k mtZ).dy)] (.tu [.ag (imgV 13 11 143 (putK L Y k)), .c (iC 0)]) := by
  obtain ⟨e1, e2, e3⟩ := okBm_at h.2.2.1 hk
  have e4 := okMt_at h.2.2.2.1 (show k < Y.length by have := h.1; omega)
  have h := iPut_A (L.getD k bmZ).W (L.getD k bmZ).H (L.getD k bmZ).n (L.getD k bmZ).d (Y.getD k mtZ).dx (Y.getD k mtZ).dy
  show ACalls Try.prog 22 [.ag (bmpV (L.getD k bmZ).W (L.getD k bmZ).H (L.getD k bmZ).n (L.getD k bmZ).d), _, _] _
  rw [e1, e2, e3] at h ⊢
  rw [putV, if_pos (put9 e4)] at h
  exact h
/-- made's image, if there is a bitmap. -/
theorem MkR.some {L : List Bm} {Y : List Mt} {x : Im} (h : MkR L Y x) (h0 : L.length ≠ 0) : ∃ f, x = ⟨13, 11, 143, f⟩ ∧ ∀ p, f p = 2 ∨ f p = putK L Y 0 p := by
  rcases h.2.2.2.2 with ⟨rfl, -⟩ | ⟨-, h1, h2, h3, h4⟩
  · exact absurd rfl h0
  · obtain ⟨xW, xH, xn, xf⟩ := x
    dsimp only at h1 h2 h3 h4
    subst h1 h2 h3
    exact ⟨xf, rfl, h4⟩
theorem MkR.none {L : List Bm} {Y : List Mt} {x : Im} (h : MkR L Y x) (h0 : L.length = 0) : x = ⟨0, 0, 0, fun _ => 0⟩ := by
  rcases h.2.2.2.2 with ⟨-, h⟩ | ⟨h1, -⟩
  · exact h
  · exact absurd (List.length_eq_zero_iff.1 h0) h1
theorem MkR.dims {L : List Bm} {Y : List Mt} {x : Im} (h : MkR L Y x) : (x.W = 0 ∧ x.H = 0) ∨ (x.W = 13 ∧ x.H = 11) := by
  by_cases h0 : L.length = 0
  · rw [h.none h0]; exact .inl ⟨rfl, rfl⟩
  · obtain ⟨f, rfl, -⟩ := h.some h0; exact .inr ⟨rfl, rfl⟩
theorem pix3 {L : List Bm} {Y : List Mt} {k : Nat} {f : Nat → Int} (h : ∀ p, f p = 2 ∨ f p = putK L Y k p) (p : Nat) : 0 ≤ f p ∧ f p ≤ 2 := by
  have h1 := putK_bd L Y k p
  have h2 := h p
  omega
theorem pFill_k {L : List Bm} {Y : List Mt} {f : Nat → Int} (hf : ∀ p, 0 ≤ f p ∧ f p ≤ 2) (k : Nat) (r : Rc) : ACalls Try.prog 16 [.ag (imgV 13 11 143 f), .ag (imgV 13 11 143 (putK L Y k)), .ag (rcC r)] (.tu [.ag (imgV 13 11 143 (fillF 13 f (putK L Y k) r)), .c (iC 0)]) := by
  have h := pFill_A 13 11 143 f 13 11 143 (putK L Y k) r (by omega) (by omega)
  have he : fillE 13 11 143 f 13 11 143 (putK L Y k) = 0 := by
    unfold fillE
    rw [if_pos (chk13 fun p _ => hf p), if_pos (putK_chk L Y k), if_pos ⟨rfl, rfl⟩]
  rw [fillV, if_pos he] at h
  exact h
theorem fillF_px {W : Int} {L : List Bm} {Y : List Mt} {k : Nat} {f : Nat → Int} {r : Rc} (hf : ∀ p, 0 ≤ f p ∧ f p ≤ 2) (p : Nat) : 0 ≤ fillF W f (putK L Y k) r p ∧ fillF W f (putK L Y k) r p ≤ 2 := by
  unfold fillF
  have := putK_bd L Y k p
  have := hf p
  split <;> omega
theorem blkL_13 {f : Nat → Int} (hf : ∀ p, 0 ≤ f p ∧ f p ≤ 2) : blkL 13 11 143 f = blocks 13 11 143 f := by
  unfold blkL
  rw [if_pos (chk13 fun p _ => hf p)]
  rfl
theorem SameRS_A (l : List Rc) (hl : l.length ≤ 100000) : ACalls Try.prog 13 [.c (.ls l.length 4 (rcF l)), .c (.ls l.length 4 (rcF l))] (.c (bC true)) := by
  have h := SameRects_A l l hl hl
  rw [decide_eq_true rfl] at h
  exact h
theorem row_cut {α : Type} {c : α → List CV} {z : α} (L : List α) {k : Nat} (hk : k < L.length) (i j : Nat) : appF (fun i j => rowF c z L (0 + i) j) k (fun i j => rowF c z L (k + 1 + i) j) i j = rowF c z (L.take k ++ L.drop (k + 1)) i j := by
  unfold appF rowF
  have ht : (L.take k).length = k := by rw [List.length_take]; omega
  rw [getD_app, ht]
  by_cases h : i < k
  · rw [Nat.blt_eq.mpr h, if_pos h]
    simp only [cond_true, Nat.zero_add, List.getD_eq_getElem?_getD, List.getElem?_take, if_pos h]
  · rw [show Nat.blt i k = false from Bool.eq_false_iff.2 fun h' => h (Nat.blt_eq.mp h'), if_neg h]
    simp only [cond_false, List.getD_eq_getElem?_getD, List.getElem?_drop]
end Go.Proofs.Ytcdnpnbjloaihaa
end

section
/- Chapter 33, plain: what Next returns for the laws' images. -/
namespace Go.Proofs.Ytcdnpnbjloaihaa
open Go.RowKit Go.Flow Go.AV Go.Plain
structure OkL (L : List Bm) (Y : List Mt) : Prop where
  len : Y.length = L.length
  five : L.length ≤ 5
  bm : ∀ b ∈ L, okBm b
  mt : ∀ y ∈ Y, okMt y
theorem MkR.okL {L : List Bm} {Y : List Mt} {x : Im} (h : MkR L Y x) : OkL L Y := ⟨h.1, h.2.1, h.2.2.1, h.2.2.2.1⟩
theorem OkL.gd {L : List Bm} {Y : List Mt} (h : OkL L Y) (k : Nat) (hk : k < L.length) : gdB 13 11 L Y k = true := by
  obtain ⟨e1, e2, e3⟩ := okBm_at h.bm hk
  have e4 := okMt_at h.mt (show k < Y.length by have := h.len; omega)
  unfold gdB goodB
  rw [e1, e2, e3, put9 e4]
  rfl
theorem nst_ok {T : Rc → Int} : ∀ {m : Nat} {l : List Rc}, l.length = m + 1 → (nst T l).2.2 = true ∧ (nst T l).1 ∈ l ∧ (nst T l).2.1 = T (nst T l).1 := by
  intro m
  induction m with
  | zero =>
    intro l hl
    match l, hl with
    | [r], _ => exact ⟨rfl, List.mem_singleton.2 rfl, rfl⟩
  | succ m ih =>
    intro l hl
    rcases List.eq_nil_or_concat l with rfl | ⟨l', r, rfl⟩
    · simp at hl
    · rw [List.concat_eq_append] at hl ⊢
      have hl' : l'.length = m + 1 := by simpa using hl
      obtain ⟨h1, h2, h3⟩ := ih hl'
      rw [nst_snoc]
      unfold nstep
      split
      · exact ⟨rfl, by simp, rfl⟩
      · exact ⟨h1, List.mem_append_left _ h2, h3⟩
theorem next_ok {L : List Bm} {Y : List Mt} {f : Nat → Int} (h : OkL L Y) (h0 : 0 < L.length) (hf : ∀ p, 0 ≤ f p ∧ f p ≤ 2) (hb : 0 < (blocks 13 11 143 f).length) :
    ∃ r, r ∈ blocks 13 11 143 f ∧ nextL 13 11 143 f L Y = (r, mstT 13 143 f L.length (fun k => (putI L Y k).f) r, true) := by
  have e := nextL_all (Wn := 13) (Hn := 11) (n := 143) (f := f) (L := L) (Y := Y) (chk13 fun p _ => hf p) h.len.symm h0 (h.gd)
  have e' : nextL 13 11 143 f L Y = nst (mstT 13 143 f L.length fun k => (putI L Y k).f) (blocks 13 11 143 f) := by
    rw [← blkL_13 hf]; exact e
  obtain ⟨h1, h2, h3⟩ := nst_ok (T := mstT 13 143 f L.length fun k => (putI L Y k).f) (m := (blocks 13 11 143 f).length - 1) (l := blocks 13 11 143 f) (by omega)
  refine ⟨_, h2, ?_⟩
  rw [e']
  generalize nst (mstT 13 143 f L.length fun k => (putI L Y k).f) (blocks 13 11 143 f) = V at h1 h2 h3
  obtain ⟨r, n, b⟩ := V
  dsimp only at h1 h2 h3 ⊢
  rw [h1, h3]
theorem next_no {L : List Bm} {Y : List Mt} {f : Nat → Int} (hf : ∀ p, 0 ≤ f p ∧ f p ≤ 2) (hb : (blocks 13 11 143 f).length = 0) : nextL 13 11 143 f L Y = nx0 :=
  nextL_len (.inr (.inr ((blkL_13 hf).trans (List.length_eq_zero_iff.1 hb))))
theorem no_unk {f : Nat → Int} (hb : (blocks 13 11 143 f).length = 0) {p : Nat} (hp : p < 143) : f p ≠ 2 := fun h => by
  obtain ⟨i, r, h1, -⟩ := covers (W := 13) (H := 11) (f := f) (p := p) hp h
  have h2 := (List.getElem?_eq_some_iff.1 h1).1
  have h3 : (blocks 13 11 (11 * 13) f).length = 0 := hb
  omega
theorem fill_len {L : List Bm} {Y : List Mt} {f : Nat → Int} {r : Rc} {k : Nat} (hr : r ∈ blocks 13 11 143 f) : (blocks 13 11 143 (fillF 13 f (putK L Y k) r)).length + 1 = (blocks 13 11 143 f).length := by
  obtain ⟨i, hi⟩ := List.getElem?_of_mem hr
  have h1 := (List.getElem?_eq_some_iff.1 hi).1
  have := blocks_fill (W := 13) (H := 11) (n := 143) f (putK L Y k) (fun p _ => by have := putK_bd L Y k p; omega) hi
  rw [show blocks 13 11 143 (fillF 13 f (putK L Y k) r) = _ from this, List.length_append, List.length_take, List.length_drop]
  omega
end Go.Proofs.Ytcdnpnbjloaihaa
end

section
/- Chapter 33: the law ProbeEnds over plain values. -/
namespace Go.Proofs.Ytcdnpnbjloaihaa
open Go.RowKit Go.Flow Go.AV Go.Plain
def enW (f g : Nat → Int) (p : Nat) : Int := if f p = 2 then g p else f p
set_option maxHeartbeats 3000000 in
set_option maxRecDepth 100000 in
theorem ProbeEnds_A (c : Case) (hc : c.ok) : ECalls Try.prog 7 [.ag (caC c)] (fun v => v = .c (bC true)) := by
  refine ecalls_at Try.func7 rfl rfl Try.ntmps7 rfl ?_
  repeat (first
    | refine AWp.seq ?_
    | (refine AWp.region (id := 0) ?_
       refine AList.box rfl rfl rfl rfl rfl ?_
       refine AList.assign rfl rfl rfl ?_
       refine AList.nil ?_)
    | (refine AWp.region (id := 1) ?_
       refine AList.call rfl rfl rfl rfl Try.func9 rfl (by kernel_rfl) (sanity_A) ?_
       refine AList.assign rfl rfl rfl ?_
       refine AList.nil ?_))
  refine AWp.text ?_
  refine AText.split 1 ?_
  refine AList.loadA tyOk rfl rfl rfl rfl rfl rfl rfl oM oM ?_
  refine AList.nil ?_
  refine AText.callE rfl rfl rfl rfl Try.func10 rfl (by kernel_rfl) (made_E c hc) ?_
  rintro _ ⟨L, Y, x, hx, rfl⟩
  refine AText.all ?_
  refine AList.move rfl rfl rfl ?_
  refine AList.extract rfl rfl rfl rfl ?_
  refine AList.extract rfl rfl rfl rfl ?_
  refine AList.extract rfl rfl rfl rfl ?_
  refine AList.alloc tyOk rfl rfl rfl rfl rfl ?_
  refine AList.assign rfl rfl rfl ?_
  refine AList.assign rfl rfl rfl ?_
  refine AList.store tyOk rfl rfl rfl rfl rfl rfl rfl rfl oM oM ?_
  refine AList.nil ?_
  by_cases hL0 : L.length = 0
  · repeat (first
      | refine AWp.seq ?_
      | refine thenA_n ?_
      | refine AWp.ret ?_
      | refine thenA_r ?_
      | refine AWp.condT rfl (by first | rfl | exact cmT) ?_
      | (refine AWp.region (id := 3) ?_
         refine AList.move rfl rfl rfl ?_
         refine AList.lenLs tyOk rfl rfl rfl rfl rfl ?_
         refine AList.cmpT rfl rfl rfl rfl rfl cmT ?_
         refine AList.nil ?_)
      | (refine AWp.region (id := 4) ?_
         refine AList.move rfl rfl rfl ?_
         refine AList.assign rfl rfl rfl ?_
         refine AList.nil ?_))
    refine ⟨_, rfl, mkSt 137 [(2, .c (bC true))] [] [], [], Wk.mk [] rfl rfl rfl ?_ trivial, rfl, rfl, ARets.one (x := .c _) (ARes.tmp rfl rfl)⟩
    repeat (first | exact trivial | refine ⟨⟨_, rfl, by first | exact LeA.c (LeC.refl _ rfl) | exact LeA.c (LeC.ow _ _ rfl) | exact LeA.c (LeC.pt _ _ _ _ _ rfl) | exact LeA.c (LeC.nil _ rfl) | exact LeA.c (LeC.nils _ _) | (refine LeA.int ?_; omega) | (refine LeA.int ?_; dsimp only; omega) | exact LeA.c (LeC.fz rfl rfl (by first | rfl | omega) (fun i _ j _ => ⟨rfl, by first | rfl | exact rowN_imm (fun _ => rfl) _ i j | exact rowF_imm (fun _ => rfl) _ i j⟩))⟩, ?_⟩)
  · have hLp : 0 < L.length := by omega
    have hYp : 0 < Y.length := by have := hx.1; omega
    obtain ⟨f, rfl, hfp⟩ := hx.some hL0
    have hpx := pix3 hfp
    have hP := iPut_k hx hLp
    have hokL := hx.okL
    have hB : ACalls Try.prog 14 [.ag (imgV 13 11 143 f)] (.c (.ls (blocks 13 11 143 f).length 4 (rcF (blocks 13 11 143 f)))) := by
      have h := pBlocks_A 13 11 143 f (by omega)
      rw [← blkL_13 hpx]
      exact h
    have hbl : (blocks 13 11 143 f).length ≤ 12 := bls_len 13 11 143 f 12
    have hL5 := hokL.five
    obtain ⟨st, hst⟩ : ∃ st, st = (blocks 13 11 143 f).length := ⟨_, rfl⟩
    rw [← hst] at hB hbl
    obtain ⟨s0, hs0⟩ : ∃ s, s = putK L Y 0 := ⟨_, rfl⟩
    have hs0b : ∀ p, 0 ≤ s0 p ∧ s0 p ≤ 1 := fun p => by rw [hs0]; exact putK_bd L Y 0 p
    rw [← hs0] at hP
    repeat (first
      | refine AWp.seq ?_
      | refine thenA_n ?_
      | refine AWp.block ?_
      | refine AWp.skip ?_
      | refine AWp.condF rfl (by first | rfl | exact cmF) ?_
      | (refine AWp.region (id := 3) ?_
         refine AList.move rfl rfl rfl ?_
         refine AList.lenLs tyOk rfl rfl rfl rfl rfl ?_
         refine AList.cmpF rfl rfl rfl rfl rfl cmF ?_
         refine AList.nil ?_)
      | (refine AWp.draw (id := 5) mixed ?_
         refine AList.move rfl rfl rfl ?_
         refine AList.idx (k := 0) tyOk rfl rfl rfl rfl rfl rfl rfl rfl (by first | rfl | omega) oM oM ?_
         refine AList.loadAl tyOk rfl rfl rfl rfl rfl oM ?_
         refine AList.move rfl rfl rfl ?_
         refine AList.idx (k := 0) tyOk rfl rfl rfl rfl rfl rfl rfl rfl (by first | rfl | omega) oM oM ?_
         refine AList.fieldPl tyOk rfl rfl rfl rfl rfl rfl rfl ?_
         refine AList.load1l tyOk rfl rfl rfl rfl rfl oM ?_
         refine AList.move rfl rfl rfl ?_
         refine AList.idx (k := 0) tyOk rfl rfl rfl rfl rfl rfl rfl rfl (by first | rfl | omega) oM oM ?_
         refine AList.fieldPl tyOk rfl rfl rfl rfl rfl rfl rfl ?_
         refine AList.load1l tyOk rfl rfl rfl rfl rfl oM ?_
         refine AList.call rfl rfl rfl rfl Try.func22 rfl (by kernel_rfl) (hP) ?_
         refine AList.move rfl rfl rfl ?_
         refine AList.extract rfl rfl rfl rfl ?_
         refine AList.extract rfl rfl rfl rfl ?_
         refine AList.alloc tyOk rfl rfl rfl rfl rfl ?_
         refine AList.store tyOk rfl rfl rfl rfl rfl rfl rfl rfl oM oM ?_
         refine AList.assign rfl rfl rfl ?_
         refine AList.nil ⟨by kernel_rfl, ?_⟩)
      | (refine AWp.region (id := 6) ?_
         refine AList.loadA tyOk rfl rfl rfl rfl rfl rfl rfl oM oM ?_
         refine AList.call rfl rfl rfl rfl Try.func14 rfl (by kernel_rfl) (hB) ?_
         refine AList.lenLs tyOk rfl rfl rfl rfl rfl ?_
         refine AList.assign rfl rfl rfl ?_
         refine AList.nil ?_)
      | (refine AWp.region (id := 7) ?_
         refine AList.loadA tyOk rfl rfl rfl rfl rfl rfl rfl oM oM ?_
         refine AList.alloc tyOk rfl rfl rfl rfl rfl ?_
         refine AList.store tyOk rfl rfl rfl rfl rfl rfl rfl rfl oM oM ?_
         refine AList.nil ?_)
      | (refine AWp.region (id := 8) ?_
         refine AList.assign rfl rfl rfl ?_
         refine AList.nil ?_))
    refine AWp.round (fun s : Nat × (Nat → Int) => mkSt 137 [(3, .c (bC true)), (4, .c (.ls L.length 3 (rowF bmC bmZ L))), (5, .c (.ls Y.length 4 (rowF mtC mtZ Y))), (6, .c (.pt 6 3 0 0)), (7, .c (.pt 7 3 0 0)), (8, .c (iC 0)), (9, .c (iC st)), (10, .c (.pt 10 3 0 0)), (11, .c (iC s.1))]
      [(6, ⟨false, 1, 3, 27, lF (imgV 13 11 143 f)⟩), (7, ⟨false, 1, 3, 27, lF (imgV 13 11 143 s0)⟩), (10, ⟨false, 1, 3, 27, lF (imgV 13 11 143 s.2)⟩)] [6, 7, 10])
      (fun s => s.1 + (blocks 13 11 143 s.2).length = st ∧ ∀ p, (s.2 p = 2 ∧ f p = 2) ∨ s.2 p = enW f s0 p) (fun s => st - s.1) (0, f) ⟨by rw [hst]; exact Nat.zero_add _, fun p => by
        by_cases h : f p = 2
        · exact .inl ⟨h, h⟩
        · exact .inr (by unfold enW; rw [if_neg h])⟩ ?_ (fun s hs => ?_)
    · refine Wk.mk [(6, some 6), (7, some 7), (10, some 10)] rfl rfl rfl ?_ ?_
      · repeat (first | exact trivial | refine ⟨⟨_, rfl, by first | exact LeA.c (LeC.refl _ rfl) | exact LeA.c (LeC.ow _ _ rfl) | exact LeA.c (LeC.pt _ _ _ _ _ rfl) | exact LeA.c (LeC.nil _ rfl) | exact LeA.c (LeC.nils _ _) | (refine LeA.int ?_; omega) | (refine LeA.int ?_; dsimp only; omega) | exact LeA.c (LeC.fz rfl rfl (by first | rfl | omega) (fun i _ j _ => ⟨rfl, by first | rfl | exact rowN_imm (fun _ => rfl) _ i j | exact rowF_imm (fun _ => rfl) _ i j⟩))⟩, ?_⟩)
      · repeat (first | exact trivial | refine ⟨by first | exact HeapOk.same rfl rfl rfl rfl | exact HeapOk.lent rfl rfl rfl rfl | exact HeapOk.nil rfl rfl | exact HeapOk.row rfl rfl (by first | rfl | omega) (fun i _ j _ => ⟨rfl, by first | rfl | exact rowN_imm (fun _ => rfl) _ i j | exact rowF_imm (fun _ => rfl) _ i j⟩) | exact HeapOk.box rfl rfl (by repeat (first | exact trivial | refine ⟨by first | exact LeC.refl _ rfl | exact LeC.ow _ _ rfl | exact LeC.nil _ rfl | exact LeC.nils _ _ | exact LeC.fz rfl rfl (by first | rfl | omega) (fun i _ j _ => ⟨rfl, by first | rfl | exact rowN_imm (fun _ => rfl) _ i j | exact rowF_imm (fun _ => rfl) _ i j⟩) | exact LeC.int (by omega), ?_⟩)) rfl, ?_⟩)
    · obtain ⟨k, g⟩ := s
      obtain ⟨hk, hg⟩ := hs
      dsimp only at hk hg
      dsimp only
      have hgx : ∀ p, 0 ≤ g p ∧ g p ≤ 2 := fun p => by
        have h1 := hg p
        have h2 := hpx p
        have h3 := hs0b p
        unfold enW at h1
        split at h1 <;> omega
      have hN := pNext_A 13 11 143 g L Y (by omega) (by omega)
      by_cases hlt : k < st
      · obtain ⟨r, hr1, hr2⟩ := next_ok hokL hLp hgx (by omega)
        rw [hr2] at hN
        generalize mstT 13 143 g L.length (fun k => (putI L Y k).f) r = nn at hN
        have hF := pFill_k (L := L) (Y := Y) hgx 0 r
        have hlen := fill_len (L := L) (Y := Y) (k := 0) hr1
        rw [← hs0] at hF hlen
        repeat (first
          | refine AWp.seq ?_
          | refine thenA_n ?_
          | refine AWp.block ?_
          | refine AWp.skip ?_
          | refine inBlk_n ?_
          | refine AWp.condT rfl (by first | rfl | exact cmT) ?_
          | refine AWp.condF rfl (by first | rfl | exact cmF) ?_
          | (refine AWp.region (id := 9) ?_
             refine AList.move rfl rfl rfl ?_
             refine AList.move rfl rfl rfl ?_
             refine AList.cmpT rfl rfl rfl rfl rfl cmT ?_
             refine AList.nil ?_)
          | (refine AWp.region (id := 11) ?_
             refine AList.loadA tyOk rfl rfl rfl rfl rfl rfl rfl oM oM ?_
             refine AList.move rfl rfl rfl ?_
             refine AList.move rfl rfl rfl ?_
             refine AList.call rfl rfl rfl rfl Try.func19 rfl (by kernel_rfl) (hN) ?_
             refine AList.move rfl rfl rfl ?_
             refine AList.extract rfl rfl rfl rfl ?_
             refine AList.extract rfl rfl rfl rfl ?_
             refine AList.extract rfl rfl rfl rfl ?_
             refine AList.alloc tyOk rfl rfl rfl rfl rfl ?_
             refine AList.store tyOk rfl rfl rfl rfl rfl rfl rfl rfl oM oM ?_
             refine AList.assign rfl rfl rfl ?_
             refine AList.assign rfl rfl rfl ?_
             refine AList.nil ?_)
          | (refine AWp.region (id := 12) ?_
             refine AList.loadA tyOk rfl rfl rfl rfl rfl rfl rfl oM oM ?_
             refine AList.loadA tyOk rfl rfl rfl rfl rfl rfl rfl oM oM ?_
             refine AList.loadA tyOk rfl rfl rfl rfl rfl rfl rfl oM oM ?_
             refine AList.call rfl rfl rfl rfl Try.func16 rfl (by kernel_rfl) (hF) ?_
             refine AList.move rfl rfl rfl ?_
             refine AList.extract rfl rfl rfl rfl ?_
             refine AList.extract rfl rfl rfl rfl ?_
             refine AList.alloc tyOk rfl rfl rfl rfl rfl ?_
             refine AList.store tyOk rfl rfl rfl rfl rfl rfl rfl rfl oM oM ?_
             refine AList.assign rfl rfl rfl ?_
             refine AList.nil ?_)
          | (refine AWp.region (id := 13) ?_
             refine AList.move rfl rfl rfl ?_
             refine AList.notB rfl rfl rfl ?_
             refine AList.move rfl rfl rfl ?_
             refine AList.move rfl rfl rfl ?_
             refine AList.cmp rfl rfl rfl rfl rfl ?_
             refine AList.pickF rfl rfl rfl rfl ?_
             refine AList.nil ?_)
          | (refine AWp.region (id := 15) ?_
             refine AList.loadA tyOk rfl rfl rfl rfl rfl rfl rfl oM oM ?_
             refine AList.store tyOk rfl rfl rfl rfl rfl rfl rfl rfl oM oM ?_
             refine AList.nil ?_))
        repeat (first
          | refine thenA_n ?_
          | (refine AWp.region (id := 10) ?_
             refine AList.move rfl rfl rfl ?_
             refine AList.add rfl rfl rfl rfl (by omega) (by omega) ?_
             refine AList.assign rfl rfl rfl ?_
             refine AList.nil ?_))
        refine ⟨(k + 1, fillF 13 g s0 r), ⟨by dsimp only; omega, fun p => ?_⟩, Wk.mk [(6, some 6), (7, some 7), (10, some 10)] rfl rfl rfl ?_ ?_, by dsimp only; omega⟩
        · dsimp only
          unfold fillF
          split
          · rename_i hu
            right
            have h1 := hg p
            unfold unkR unkB at hu
            simp only [Bool.and_eq_true, decide_eq_true_eq] at hu
            have h2 := hs0b p
            unfold enW at h1 ⊢
            by_cases h : f p = 2
            · rw [if_pos h]
            · rw [if_neg h] at h1; omega
          · exact hg p
        · repeat (first | exact trivial | refine ⟨⟨_, rfl, by first | exact LeA.c (LeC.refl _ rfl) | exact LeA.c (LeC.ow _ _ rfl) | exact LeA.c (LeC.pt _ _ _ _ _ rfl) | exact LeA.c (LeC.nil _ rfl) | exact LeA.c (LeC.nils _ _) | (refine LeA.int ?_; omega) | (refine LeA.int ?_; dsimp only; omega) | exact LeA.c (LeC.fz rfl rfl (by first | rfl | omega) (fun i _ j _ => ⟨rfl, by first | rfl | exact rowN_imm (fun _ => rfl) _ i j | exact rowF_imm (fun _ => rfl) _ i j⟩))⟩, ?_⟩)
        · repeat (first | exact trivial | refine ⟨by first | exact HeapOk.same rfl rfl rfl rfl | exact HeapOk.lent rfl rfl rfl rfl | exact HeapOk.nil rfl rfl | exact HeapOk.row rfl rfl (by first | rfl | omega) (fun i _ j _ => ⟨rfl, by first | rfl | exact rowN_imm (fun _ => rfl) _ i j | exact rowF_imm (fun _ => rfl) _ i j⟩) | exact HeapOk.box rfl rfl (by repeat (first | exact trivial | refine ⟨by first | exact LeC.refl _ rfl | exact LeC.ow _ _ rfl | exact LeC.nil _ rfl | exact LeC.nils _ _ | exact LeC.fz rfl rfl (by first | rfl | omega) (fun i _ j _ => ⟨rfl, by first | rfl | exact rowN_imm (fun _ => rfl) _ i j | exact rowF_imm (fun _ => rfl) _ i j⟩) | exact LeC.int (by omega), ?_⟩)) rfl, ?_⟩)
      · have hb0 : (blocks 13 11 143 g).length = 0 := by omega
        have hk' : k = st := by omega
        rw [next_no hgx hb0] at hN
        have hgw : ∀ p, p < 143 → g p = enW f s0 p := fun p hp => (hg p).elim (fun h => absurd h.1 (no_unk hb0 hp)) id
        repeat (first
          | refine AWp.seq ?_
          | refine thenA_n ?_
          | refine AWp.block ?_
          | refine AWp.skip ?_
          | refine AWp.exit ?_
          | refine AWp.condF rfl (by first | rfl | exact cmF) ?_
          | (refine AWp.region (id := 9) ?_
             refine AList.move rfl rfl rfl ?_
             refine AList.move rfl rfl rfl ?_
             refine AList.cmpF rfl rfl rfl rfl rfl cmF ?_
             refine AList.nil ?_)
          | (refine AWp.region (id := 16) ?_
             refine AList.loadA tyOk rfl rfl rfl rfl rfl rfl rfl oM oM ?_
             refine AList.move rfl rfl rfl ?_
             refine AList.move rfl rfl rfl ?_
             refine AList.call rfl rfl rfl rfl Try.func19 rfl (by kernel_rfl) (hN) ?_
             refine AList.move rfl rfl rfl ?_
             refine AList.extract rfl rfl rfl rfl ?_
             refine AList.extract rfl rfl rfl rfl ?_
             refine AList.extract rfl rfl rfl rfl ?_
             refine AList.alloc tyOk rfl rfl rfl rfl rfl ?_
             refine AList.store tyOk rfl rfl rfl rfl rfl rfl rfl rfl oM oM ?_
             refine AList.assign rfl rfl rfl ?_
             refine AList.assign rfl rfl rfl ?_
             refine AList.nil ?_)
          | (refine AWp.region (id := 17) ?_
             refine AList.move rfl rfl rfl ?_
             refine AList.cmp rfl rfl rfl rfl rfl ?_
             refine AList.move rfl rfl rfl ?_
             refine AList.move rfl rfl rfl ?_
             refine AList.pickF rfl rfl rfl rfl ?_
             refine AList.move rfl rfl rfl ?_
             refine AList.fieldPt tyOk rfl rfl rfl rfl rfl rfl rfl ?_
             refine AList.load1 tyOk rfl rfl rfl rfl rfl rfl rfl oM oM ?_
             refine AList.lenLs tyOk rfl rfl rfl rfl rfl ?_
             refine AList.fieldPt tyOk rfl rfl rfl rfl rfl rfl rfl ?_
             refine AList.load1 tyOk rfl rfl rfl rfl rfl rfl rfl oM oM ?_
             refine AList.lenLs tyOk rfl rfl rfl rfl rfl ?_
             refine AList.cmpF rfl rfl rfl rfl rfl (by simp only [cmpP, eq_self, decide_true, Bool.not_true]) ?_
             refine AList.pickF rfl rfl rfl rfl ?_
             refine AList.move rfl rfl rfl ?_
             refine AList.fieldPt tyOk rfl rfl rfl rfl rfl rfl rfl ?_
             refine AList.load1 tyOk rfl rfl rfl rfl rfl rfl rfl oM oM ?_
             refine AList.lenLs tyOk rfl rfl rfl rfl rfl ?_
             refine AList.fieldPt tyOk rfl rfl rfl rfl rfl rfl rfl ?_
             refine AList.load1 tyOk rfl rfl rfl rfl rfl rfl rfl oM oM ?_
             refine AList.lenLs tyOk rfl rfl rfl rfl rfl ?_
             refine AList.cmpF rfl rfl rfl rfl rfl (by simp only [cmpP, eq_self, decide_true, Bool.not_true]) ?_
             refine AList.pickF rfl rfl rfl rfl ?_
             refine AList.nil ?_)
          | (refine AWp.region (id := 19) ?_
             refine AList.assign rfl rfl rfl ?_
             refine AList.nil ?_))
        refine AWp.round (fun k : Nat => mkSt 137 [(3, .c (bC true)), (6, .c (.pt 6 3 0 0)), (7, .c (.pt 7 3 0 0)), (10, .c (.pt 10 3 0 0)), (20, .c (iC k))]
          [(6, ⟨false, 1, 3, 27, lF (imgV 13 11 143 f)⟩), (7, ⟨false, 1, 3, 27, lF (imgV 13 11 143 s0)⟩), (10, ⟨false, 1, 3, 27, lF (imgV 13 11 143 g)⟩)] [6, 7, 10])
          (fun k => k ≤ 143) (fun k => 143 - k) 0 (Nat.zero_le _) ?_ (fun k hk => ?_)
        · refine Wk.mk [(6, some 6), (7, some 7), (10, some 10)] rfl rfl rfl ?_ ?_
          · repeat (first | exact trivial | refine ⟨⟨_, rfl, by first | exact LeA.c (LeC.refl _ rfl) | exact LeA.c (LeC.ow _ _ rfl) | exact LeA.c (LeC.pt _ _ _ _ _ rfl) | exact LeA.c (LeC.nil _ rfl) | exact LeA.c (LeC.nils _ _) | (refine LeA.int ?_; omega) | (refine LeA.int ?_; dsimp only; omega) | exact LeA.c (LeC.fz rfl rfl (by first | rfl | omega) (fun i _ j _ => ⟨rfl, by first | rfl | exact rowN_imm (fun _ => rfl) _ i j | exact rowF_imm (fun _ => rfl) _ i j⟩))⟩, ?_⟩)
          · repeat (first | exact trivial | refine ⟨by first | exact HeapOk.same rfl rfl rfl rfl | exact HeapOk.lent rfl rfl rfl rfl | exact HeapOk.nil rfl rfl | exact HeapOk.row rfl rfl (by first | rfl | omega) (fun i _ j _ => ⟨rfl, by first | rfl | exact rowN_imm (fun _ => rfl) _ i j | exact rowF_imm (fun _ => rfl) _ i j⟩) | exact HeapOk.box rfl rfl (by repeat (first | exact trivial | refine ⟨by first | exact LeC.refl _ rfl | exact LeC.ow _ _ rfl | exact LeC.nil _ rfl | exact LeC.nils _ _ | exact LeC.fz rfl rfl (by first | rfl | omega) (fun i _ j _ => ⟨rfl, by first | rfl | exact rowN_imm (fun _ => rfl) _ i j | exact rowF_imm (fun _ => rfl) _ i j⟩) | exact LeC.int (by omega), ?_⟩)) rfl, ?_⟩)
        · by_cases hlt : k < 143
          · have hw := hgw k hlt
            unfold enW at hw
            by_cases hf2 : f k = 2
            · rw [if_pos hf2] at hw
              repeat (first
                | refine AWp.seq ?_
                | refine thenA_n ?_
                | refine AWp.block ?_
                | refine AWp.skip ?_
                | refine inBlk_n ?_
                | refine AWp.condT rfl (by first | rfl | exact cmT) ?_
                | refine AWp.condF rfl (by first | rfl | exact cmF) ?_
                | (refine AWp.region (id := 20) ?_
                   refine AList.move rfl rfl rfl ?_
                   refine AList.fieldPt tyOk rfl rfl rfl rfl rfl rfl rfl ?_
                   refine AList.load1 tyOk rfl rfl rfl rfl rfl rfl rfl oM oM ?_
                   refine AList.lenLs tyOk rfl rfl rfl rfl rfl ?_
                   refine AList.cmpT rfl rfl rfl rfl rfl cmT ?_
                   refine AList.nil ?_)
                | (refine AWp.region (id := 21) ?_
                   refine AList.move rfl rfl rfl ?_
                   refine AList.add rfl rfl rfl rfl (by omega) (by omega) ?_
                   refine AList.assign rfl rfl rfl ?_
                   refine AList.nil ?_)
                | (refine AWp.region (id := 22) ?_
                   refine AList.fieldPt tyOk rfl rfl rfl rfl rfl rfl rfl ?_
                   refine AList.load1 tyOk rfl rfl rfl rfl rfl rfl rfl oM oM ?_
                   refine AList.move rfl rfl rfl ?_
                   refine AList.idx (k := k) tyOk rfl rfl rfl rfl rfl rfl rfl rfl (by first | rfl | omega) oM oM ?_
                   refine AList.load1l tyOk rfl rfl rfl rfl rfl oM ?_
                   refine AList.assign rfl rfl rfl ?_
                   refine AList.nil ?_)
                | (refine AWp.region (id := 23) ?_
                   refine AList.move rfl rfl rfl ?_
                   refine AList.cmpT rfl rfl rfl rfl rfl cmT ?_
                   refine AList.nil ?_)
                | (refine AWp.region (id := 24) ?_
                   refine AList.fieldPt tyOk rfl rfl rfl rfl rfl rfl rfl ?_
                   refine AList.load1 tyOk rfl rfl rfl rfl rfl rfl rfl oM oM ?_
                   refine AList.move rfl rfl rfl ?_
                   refine AList.idx (k := k) tyOk rfl rfl rfl rfl rfl rfl rfl rfl (by first | rfl | omega) oM oM ?_
                   refine AList.load1l tyOk rfl rfl rfl rfl rfl oM ?_
                   refine AList.assign rfl rfl rfl ?_
                   refine AList.nil ?_)
                | (refine AWp.region (id := 25) ?_
                   refine AList.fieldPt tyOk rfl rfl rfl rfl rfl rfl rfl ?_
                   refine AList.load1 tyOk rfl rfl rfl rfl rfl rfl rfl oM oM ?_
                   refine AList.move rfl rfl rfl ?_
                   refine AList.idx (k := k) tyOk rfl rfl rfl rfl rfl rfl rfl rfl (by first | rfl | omega) oM oM ?_
                   refine AList.load1l tyOk rfl rfl rfl rfl rfl oM ?_
                   refine AList.move rfl rfl rfl ?_
                   refine AList.cmpF rfl rfl rfl rfl rfl cmF ?_
                   refine AList.nil ?_))
              refine ⟨k + 1, by omega, Wk.mk [(6, some 6), (7, some 7), (10, some 10)] rfl rfl rfl ?_ ?_, by omega⟩
              · repeat (first | exact trivial | refine ⟨⟨_, rfl, by first | exact LeA.c (LeC.refl _ rfl) | exact LeA.c (LeC.ow _ _ rfl) | exact LeA.c (LeC.pt _ _ _ _ _ rfl) | exact LeA.c (LeC.nil _ rfl) | exact LeA.c (LeC.nils _ _) | (refine LeA.int ?_; omega) | (refine LeA.int ?_; dsimp only; omega) | exact LeA.c (LeC.fz rfl rfl (by first | rfl | omega) (fun i _ j _ => ⟨rfl, by first | rfl | exact rowN_imm (fun _ => rfl) _ i j | exact rowF_imm (fun _ => rfl) _ i j⟩))⟩, ?_⟩)
              · repeat (first | exact trivial | refine ⟨by first | exact HeapOk.same rfl rfl rfl rfl | exact HeapOk.lent rfl rfl rfl rfl | exact HeapOk.nil rfl rfl | exact HeapOk.row rfl rfl (by first | rfl | omega) (fun i _ j _ => ⟨rfl, by first | rfl | exact rowN_imm (fun _ => rfl) _ i j | exact rowF_imm (fun _ => rfl) _ i j⟩) | exact HeapOk.box rfl rfl (by repeat (first | exact trivial | refine ⟨by first | exact LeC.refl _ rfl | exact LeC.ow _ _ rfl | exact LeC.nil _ rfl | exact LeC.nils _ _ | exact LeC.fz rfl rfl (by first | rfl | omega) (fun i _ j _ => ⟨rfl, by first | rfl | exact rowN_imm (fun _ => rfl) _ i j | exact rowF_imm (fun _ => rfl) _ i j⟩) | exact LeC.int (by omega), ?_⟩)) rfl, ?_⟩)
            · rw [if_neg hf2] at hw
              repeat (first
                | refine AWp.seq ?_
                | refine thenA_n ?_
                | refine AWp.block ?_
                | refine AWp.skip ?_
                | refine inBlk_n ?_
                | refine AWp.condT rfl (by first | rfl | exact cmT) ?_
                | refine AWp.condF rfl (by first | rfl | exact cmF) ?_
                | (refine AWp.region (id := 20) ?_
                   refine AList.move rfl rfl rfl ?_
                   refine AList.fieldPt tyOk rfl rfl rfl rfl rfl rfl rfl ?_
                   refine AList.load1 tyOk rfl rfl rfl rfl rfl rfl rfl oM oM ?_
                   refine AList.lenLs tyOk rfl rfl rfl rfl rfl ?_
                   refine AList.cmpT rfl rfl rfl rfl rfl cmT ?_
                   refine AList.nil ?_)
                | (refine AWp.region (id := 21) ?_
                   refine AList.move rfl rfl rfl ?_
                   refine AList.add rfl rfl rfl rfl (by omega) (by omega) ?_
                   refine AList.assign rfl rfl rfl ?_
                   refine AList.nil ?_)
                | (refine AWp.region (id := 22) ?_
                   refine AList.fieldPt tyOk rfl rfl rfl rfl rfl rfl rfl ?_
                   refine AList.load1 tyOk rfl rfl rfl rfl rfl rfl rfl oM oM ?_
                   refine AList.move rfl rfl rfl ?_
                   refine AList.idx (k := k) tyOk rfl rfl rfl rfl rfl rfl rfl rfl (by first | rfl | omega) oM oM ?_
                   refine AList.load1l tyOk rfl rfl rfl rfl rfl oM ?_
                   refine AList.assign rfl rfl rfl ?_
                   refine AList.nil ?_)
                | (refine AWp.region (id := 23) ?_
                   refine AList.move rfl rfl rfl ?_
                   refine AList.cmpF rfl rfl rfl rfl rfl cmF ?_
                   refine AList.nil ?_)
                | (refine AWp.region (id := 25) ?_
                   refine AList.fieldPt tyOk rfl rfl rfl rfl rfl rfl rfl ?_
                   refine AList.load1 tyOk rfl rfl rfl rfl rfl rfl rfl oM oM ?_
                   refine AList.move rfl rfl rfl ?_
                   refine AList.idx (k := k) tyOk rfl rfl rfl rfl rfl rfl rfl rfl (by first | rfl | omega) oM oM ?_
                   refine AList.load1l tyOk rfl rfl rfl rfl rfl oM ?_
                   refine AList.move rfl rfl rfl ?_
                   refine AList.cmpF rfl rfl rfl rfl rfl cmF ?_
                   refine AList.nil ?_))
              refine ⟨k + 1, by omega, Wk.mk [(6, some 6), (7, some 7), (10, some 10)] rfl rfl rfl ?_ ?_, by omega⟩
              · repeat (first | exact trivial | refine ⟨⟨_, rfl, by first | exact LeA.c (LeC.refl _ rfl) | exact LeA.c (LeC.ow _ _ rfl) | exact LeA.c (LeC.pt _ _ _ _ _ rfl) | exact LeA.c (LeC.nil _ rfl) | exact LeA.c (LeC.nils _ _) | (refine LeA.int ?_; omega) | (refine LeA.int ?_; dsimp only; omega) | exact LeA.c (LeC.fz rfl rfl (by first | rfl | omega) (fun i _ j _ => ⟨rfl, by first | rfl | exact rowN_imm (fun _ => rfl) _ i j | exact rowF_imm (fun _ => rfl) _ i j⟩))⟩, ?_⟩)
              · repeat (first | exact trivial | refine ⟨by first | exact HeapOk.same rfl rfl rfl rfl | exact HeapOk.lent rfl rfl rfl rfl | exact HeapOk.nil rfl rfl | exact HeapOk.row rfl rfl (by first | rfl | omega) (fun i _ j _ => ⟨rfl, by first | rfl | exact rowN_imm (fun _ => rfl) _ i j | exact rowF_imm (fun _ => rfl) _ i j⟩) | exact HeapOk.box rfl rfl (by repeat (first | exact trivial | refine ⟨by first | exact LeC.refl _ rfl | exact LeC.ow _ _ rfl | exact LeC.nil _ rfl | exact LeC.nils _ _ | exact LeC.fz rfl rfl (by first | rfl | omega) (fun i _ j _ => ⟨rfl, by first | rfl | exact rowN_imm (fun _ => rfl) _ i j | exact rowF_imm (fun _ => rfl) _ i j⟩) | exact LeC.int (by omega), ?_⟩)) rfl, ?_⟩)
          · obtain rfl : k = 143 := by omega
            repeat (first
              | refine AWp.seq ?_
              | refine thenA_n ?_
              | refine AWp.exit ?_
              | refine AWp.ret ?_
              | refine AWp.condF rfl (by first | rfl | exact cmF) ?_
              | (refine AWp.region (id := 20) ?_
                 refine AList.move rfl rfl rfl ?_
                 refine AList.fieldPt tyOk rfl rfl rfl rfl rfl rfl rfl ?_
                 refine AList.load1 tyOk rfl rfl rfl rfl rfl rfl rfl oM oM ?_
                 refine AList.lenLs tyOk rfl rfl rfl rfl rfl ?_
                 refine AList.cmpF rfl rfl rfl rfl rfl cmF ?_
                 refine AList.nil ?_)
              | (refine AWp.region (id := 27) ?_
                 refine AList.move rfl rfl rfl ?_
                 refine AList.assign rfl rfl rfl ?_
                 refine AList.nil ?_))
            refine ⟨_, rfl, mkSt 137 [(2, .c (bC true))] [] [], [], Wk.mk [] rfl rfl rfl ?_ trivial, rfl, rfl, ARets.one (x := .c _) (ARes.tmp rfl rfl)⟩
            repeat (first | exact trivial | refine ⟨⟨_, rfl, by first | exact LeA.c (LeC.refl _ rfl) | exact LeA.c (LeC.ow _ _ rfl) | exact LeA.c (LeC.pt _ _ _ _ _ rfl) | exact LeA.c (LeC.nil _ rfl) | exact LeA.c (LeC.nils _ _) | (refine LeA.int ?_; omega) | (refine LeA.int ?_; dsimp only; omega) | exact LeA.c (LeC.fz rfl rfl (by first | rfl | omega) (fun i _ j _ => ⟨rfl, by first | rfl | exact rowN_imm (fun _ => rfl) _ i j | exact rowF_imm (fun _ => rfl) _ i j⟩))⟩, ?_⟩)
end Go.Proofs.Ytcdnpnbjloaihaa
end

section
/- ProbeEnds: the statement. No condition. -/
namespace Go.Proofs.Ytcdnpnbjloaihaa.probeEnds
open Go.ChangeShapes Go.WideShapes Go.ChangeAt Go.RowKit Go.Flow Go.AV
theorem contract (H : Type) (enc : TypeId × Value → H) (W : World) (base : Nat) (args : Array Value) (ds gs : List (DataW H)) (before : List MemPlace)
    (hval : ∀ (j : Nat) t v, Try.f7.params[j]? = some t → args[j]? = some v → Value.okWide Try.prog W .any base t v)
    (hW : DataW.Whole enc Try.prog Try.f7.params.toList Rows.probeEndsSpec.vars false W args.toList ds gs before)
    (hsz : (DataW.weightsEach Try.prog (Try.f7.params.toList ++ (OpenSpec.ofChange Rows.probeEndsSpec).bare.plain.varTypes Try.prog) (ds ++ gs)).all (· ≤ reachBytes) = true) :
    Calls Try.prog 7 args W fun e W' => ∃ v, e = .returned v ∧ Rows.probeEndsSpec.post enc Try.prog Try.f7 false true false false W args v W' := by
  have hW' := hW
  obtain ⟨p, q, hA0, hV, rfl, hfz, hnd⟩ := hW
  have hA : DataW.TrodAll enc Try.prog W 0 (fun _ => true) true Try.f7.params.toList args.toList ds p := hA0
  have hAk := hA0
  rw [Try.params7] at hA hval hsz
  obtain ⟨rfl, rfl⟩ := trodVars_none hV
  obtain ⟨v0, vs0, d0, ds0, p0, q0, hargs, rfl, rfl, h0, t0⟩ := trodAll_cons hA
  obtain ⟨rfl, rfl, rfl⟩ := trodAll_nil t0
  obtain rfl : args = #[v0] := by rw [← Array.toList_inj]; exact hargs
  have hlt := fun x hx => hW'.lt x hx
  simp only [List.append_nil] at hW'
  rw [List.append_nil] at hsz
  obtain ⟨a0, ok0, r0⟩ := opn_case.argS Try.underlying25 (hval 0 25 v0 rfl rfl) h0 (weigh hsz 0 (t := 25) (d := d0) rfl rfl)
  refine ((ProbeEnds_A a0 ok0) O0 W [_] (fun b h => h.elim) ⟨r0, trivial⟩).mono fun e W' ⟨v, r, he, hr, hv, hE⟩ => ?_
  subst hr
  obtain rfl : v = .bool true := hv.2
  subst he
  exact ⟨_, rfl, post_below (pv := []) hW' (fun _ _ _ => trodAll_cons_mk (shut_bool Try.underlying4 _) trodAll_mk0)
    (fun sp hsp => trodAll_below laidOut hE (by rw [Try.params7]; intro t ht; simp only [List.mem_cons, List.not_mem_nil, or_false] at ht; rcases ht with rfl <;> exact ⟨by kernel_rfl, of_decide_eq_true (by kernel_rfl)⟩) hAk (fun x hx => hlt x (by rw [List.append_nil]; exact hx)) sp (fun x hx => hsp x (by simpa only [List.append_nil] using hx)))
    (fun _ _ => rfl) (by simp) hE (ok_one (by kernel_rfl) rfl (okWide_bool_mk Try.underlying4 _))⟩
theorem own : ownKnob Try.prog.godebug = none := by kernel_rfl
set_option maxRecDepth 100000 in
theorem lifted (os : Os) (started : os.Started) (H : Type) (enc : TypeId × Value → H) :
    ReturnsInHanded {} Try.checked os 7 .any (Rows.probeEndsSpec.pre6 enc Try.prog Try.f7 Rows.probeEndsRow.domain false) (Rows.probeEndsSpec.post enc Try.prog Try.f7 false true false false) := by
  refine returnsInHanded_of_change_sized (C := Try.checked) own started (by kernel_rfl) Try.func7
    (ChangeSpec.witness6 (enc := enc) (C := Try.checked) false ⟨#[], #[.agg #[.slice none 0 0, .slice none 0 0, .int .i64 0, .int .i64 0, .slice none 0 0]], []⟩ 8 (by kernel_rfl) (by kernel_rfl) (by kernel_rfl) (by kernel_rfl)) ?_
  intro W base args ds gs before hval hW _ hsz _
  exact contract H enc W base args ds gs before hval hW hsz
theorem said : Rows.ProbeEndsSaid :=
  OpenClaim.holds_of_wide 7 Try.f7 rfl rfl rfl rfl rfl rfl rfl ⟨rfl, rfl, rfl, rfl, rfl⟩ rfl rfl rfl rfl rfl (by kernel_rfl) Try.func7 (by kernel_rfl)
    (of_decide_eq_true (by kernel_rfl)) (by unfold Func.isWrapper; first | (rw [if_pos (by decide +kernel)]; kernel_rfl) | (rw [if_neg (by decide +kernel)]; exact ⟨rfl, rfl⟩))
    (fun os started H enc _ => lifted os started H enc)
end Go.Proofs.Ytcdnpnbjloaihaa.probeEnds
end
