/- Parts of the proof: A33q, A33n, A33dp. -/
import Derived.Test.YtcdnpnbjloaihaaG35
set_option linter.unusedSimpArgs false
set_option linter.unusedVariables false
section
/- Chapter 33 over plain values: what the laws' made gives, put and filled. -/
namespace Go.Proofs.Ytcdnpnbjloaihaa
open Go.RowKit Go.Flow Go.AV Go.Plain
theorem putK_bd (L : List Bm) (Y : List Mt) (k p : Nat) : 0 ≤ putK L Y k p ∧ putK L Y k p ≤ 1 := putF_bd _ _ _ _ _ p
theorem putK_chk (L : List Bm) (Y : List Mt) (k : Nat) : chkI 13 11 143 (putK L Y k) = 0 := chk13 fun p _ => ⟨(putK_bd L Y k p).1, Int.le_trans (putK_bd L Y k p).2 (by decide)⟩
theorem iPut_k {L : List Bm} {Y : List Mt} {x : Im} (h : MkR L Y x) {k : Nat} (hk : k < L.length) : ACalls Try.prog 22 [.ag (bmC (L.getD k bmZ)), .c (iC (Y.getD k mtZ).dx), .c (iC (Y.getD k mtZ).dy)] (.tu [.ag (imgV 13 11 143 (putK L Y k)), .c (iC 0)]) := by
  obtain ⟨e1, e2, e3⟩ := okBm_at h.2.2.1 hk
  have e4 := okMt_at h.2.2.2.1 (show k < Y.length by have := h.1; omega)
  have h := iPut_A (L.getD k bmZ).W (L.getD k bmZ).H (L.getD k bmZ).n (L.getD k bmZ).d (Y.getD k mtZ).dx (Y.getD k mtZ).dy
  show ACalls Try.prog 22 [.ag (bmpV (L.getD k bmZ).W (L.getD k bmZ).H (L.getD k bmZ).n (L.getD k bmZ).d), _, _] _
  rw [e1, e2, e3] at h ⊢
  rw [putV, if_pos (put9 e4)] at h
  exact h
/-- made's image, if there is a bitmap. -/
theorem MkR.some {L : List Bm} {Y : List Mt} {x : Im} (h : MkR L Y x) (h0 : L.length ≠ 0) : ∃ f, x = ⟨13, 11, 143, f⟩ ∧ ∀ p, f p = 2 ∨ f p = putK L Y 0 p := by
  rcases h.2.2.2.2 with ⟨rfl, -⟩ | ⟨-, h1, h2, h3, h4⟩
  · exact absurd rfl h0
  · obtain ⟨xW, xH, xn, xf⟩ := x
    dsimp only at h1 h2 h3 h4
    subst h1 h2 h3
    exact ⟨xf, rfl, h4⟩
theorem MkR.none {L : List Bm} {Y : List Mt} {x : Im} (h : MkR L Y x) (h0 : L.length = 0) : x = ⟨0, 0, 0, fun _ => 0⟩ := by
  rcases h.2.2.2.2 with ⟨-, h⟩ | ⟨h1, -⟩
  · exact h
  · exact absurd (List.length_eq_zero_iff.1 h0) h1
theorem MkR.dims {L : List Bm} {Y : List Mt} {x : Im} (h : MkR L Y x) : (x.W = 0 ∧ x.H = 0) ∨ (x.W = 13 ∧ x.H = 11) := by
  by_cases h0 : L.length = 0
  · rw [h.none h0]; exact .inl ⟨rfl, rfl⟩
  · obtain ⟨f, rfl, -⟩ := h.some h0; exact .inr ⟨rfl, rfl⟩
theorem pix3 {L : List Bm} {Y : List Mt} {k : Nat} {f : Nat → Int} (h : ∀ p, f p = 2 ∨ f p = putK L Y k p) (p : Nat) : 0 ≤ f p ∧ f p ≤ 2 := by
  have h1 := putK_bd L Y k p
  have h2 := h p
  omega
theorem pFill_k {L : List Bm} {Y : List Mt} {f : Nat → Int} (hf : ∀ p, 0 ≤ f p ∧ f p ≤ 2) (k : Nat) (r : Rc) : ACalls Try.prog 16 [.ag (imgV 13 11 143 f), .ag (imgV 13 11 143 (putK L Y k)), .ag (rcC r)] (.tu [.ag (imgV 13 11 143 (fillF 13 f (putK L Y k) r)), .c (iC 0)]) := by
  have h := pFill_A 13 11 143 f 13 11 143 (putK L Y k) r (by omega) (by omega)
  have he : fillE 13 11 143 f 13 11 143 (putK L Y k) = 0 := by
    unfold fillE
    rw [if_pos (chk13 fun p _ => hf p), if_pos (putK_chk L Y k), if_pos ⟨rfl, rfl⟩]
  rw [fillV, if_pos he] at h
  exact h
theorem fillF_px {W : Int} {L : List Bm} {Y : List Mt} {k : Nat} {f : Nat → Int} {r : Rc} (hf : ∀ p, 0 ≤ f p ∧ f p ≤ 2) (p : Nat) : 0 ≤ fillF W f (putK L Y k) r p ∧ fillF W f (putK L Y k) r p ≤ 2 := by
  unfold fillF
  have := putK_bd L Y k p
  have := hf p
  split <;> omega
theorem blkL_13 {f : Nat → Int} (hf : ∀ p, 0 ≤ f p ∧ f p ≤ 2) : blkL 13 11 143 f = blocks 13 11 143 f := by
  unfold blkL
  rw [if_pos (chk13 fun p _ => hf p)]
  rfl
theorem SameRS_A (l : List Rc) (hl : l.length ≤ 100000) : ACalls Try.prog 13 [.c (.ls l.length 4 (rcF l)), .c (.ls l.length 4 (rcF l))] (.c (bC true)) := by
  have h := SameRects_A l l hl hl
  rw [decide_eq_true rfl] at h
  exact h
theorem row_cut {α : Type} {c : α → List CV} {z : α} (L : List α) {k : Nat} (hk : k < L.length) (i j : Nat) : appF (fun i j => rowF c z L (0 + i) j) k (fun i j => rowF c z L (k + 1 + i) j) i j = rowF c z (L.take k ++ L.drop (k + 1)) i j := by
  unfold appF rowF
  have ht : (L.take k).length = k := by rw [List.length_take]; omega
  rw [getD_app, ht]
  by_cases h : i < k
  · rw [Nat.blt_eq.mpr h, if_pos h]
    simp only [cond_true, Nat.zero_add, List.getD_eq_getElem?_getD, List.getElem?_take, if_pos h]
  · rw [show Nat.blt i k = false from Bool.eq_false_iff.2 fun h' => h (Nat.blt_eq.mp h'), if_neg h]
    simp only [cond_false, List.getD_eq_getElem?_getD, List.getElem?_drop]
end Go.Proofs.Ytcdnpnbjloaihaa
end

section
/- Chapter 33, plain: what Next returns for the laws' images. -/
namespace Go.Proofs.Ytcdnpnbjloaihaa
open Go.RowKit Go.Flow Go.AV Go.Plain
structure OkL (L : List Bm) (Y : List Mt) : Prop where
  len : Y.length = L.length
  five : L.length ≤ 5
  bm : ∀ b ∈ L, okBm b
  mt : ∀ y ∈ Y, okMt y
theorem MkR.okL {L : List Bm} {Y : List Mt} {x : Im} (h : MkR L Y x) : OkL L Y := ⟨h.1, h.2.1, h.2.2.1, h.2.2.2.1⟩
theorem OkL.gd {L : List Bm} {Y : List Mt} (h : OkL L Y) (k : Nat) (hk : k < L.length) : gdB 13 11 L Y k = true := by
  obtain ⟨e1, e2, e3⟩ := okBm_at h.bm hk
  have e4 := okMt_at h.mt (show k < Y.length by have := h.len; omega)
  unfold gdB goodB
  rw [e1, e2, e3, put9 e4]
  rfl
theorem nst_ok {T : Rc → Int} : ∀ {m : Nat} {l : List Rc}, l.length = m + 1 → (nst T l).2.2 = true ∧ (nst T l).1 ∈ l ∧ (nst T l).2.1 = T (nst T l).1 := by
  intro m
  induction m with
  | zero =>
    intro l hl
    match l, hl with
    | [r], _ => exact ⟨rfl, List.mem_singleton.2 rfl, rfl⟩
  | succ m ih =>
    intro l hl
    rcases List.eq_nil_or_concat l with rfl | ⟨l', r, rfl⟩
    · simp at hl
    · rw [List.concat_eq_append] at hl ⊢
      have hl' : l'.length = m + 1 := by simpa using hl
      obtain ⟨h1, h2, h3⟩ := ih hl'
      rw [nst_snoc]
      unfold nstep
      split
      · exact ⟨rfl, by simp, rfl⟩
      · exact ⟨h1, List.mem_append_left _ h2, h3⟩
theorem next_ok {L : List Bm} {Y : List Mt} {f : Nat → Int} (h : OkL L Y) (h0 : 0 < L.length) (hf : ∀ p, 0 ≤ f p ∧ f p ≤ 2) (hb : 0 < (blocks 13 11 143 f).length) :
    ∃ r, r ∈ blocks 13 11 143 f ∧ nextL 13 11 143 f L Y = (r, mstT 13 143 f L.length (fun k => (putI L Y k).f) r, true) := by
  have e := nextL_all (Wn := 13) (Hn := 11) (n := 143) (f := f) (L := L) (Y := Y) (chk13 fun p _ => hf p) h.len.symm h0 (h.gd)
  have e' : nextL 13 11 143 f L Y = nst (mstT 13 143 f L.length fun k => (putI L Y k).f) (blocks 13 11 143 f) := by
    rw [← blkL_13 hf]; exact e
  obtain ⟨h1, h2, h3⟩ := nst_ok (T := mstT 13 143 f L.length fun k => (putI L Y k).f) (m := (blocks 13 11 143 f).length - 1) (l := blocks 13 11 143 f) (by omega)
  refine ⟨_, h2, ?_⟩
  rw [e']
  generalize nst (mstT 13 143 f L.length fun k => (putI L Y k).f) (blocks 13 11 143 f) = V at h1 h2 h3
  obtain ⟨r, n, b⟩ := V
  dsimp only at h1 h2 h3 ⊢
  rw [h1, h3]
theorem next_no {L : List Bm} {Y : List Mt} {f : Nat → Int} (hf : ∀ p, 0 ≤ f p ∧ f p ≤ 2) (hb : (blocks 13 11 143 f).length = 0) : nextL 13 11 143 f L Y = nx0 :=
  nextL_len (.inr (.inr ((blkL_13 hf).trans (List.length_eq_zero_iff.1 hb))))
theorem no_unk {f : Nat → Int} (hb : (blocks 13 11 143 f).length = 0) {p : Nat} (hp : p < 143) : f p ≠ 2 := fun h => by
  obtain ⟨i, r, h1, -⟩ := covers (W := 13) (H := 11) (f := f) (p := p) hp h
  have h2 := (List.getElem?_eq_some_iff.1 h1).1
  have h3 : (blocks 13 11 (11 * 13) f).length = 0 := hb
  omega
theorem fill_len {L : List Bm} {Y : List Mt} {f : Nat → Int} {r : Rc} {k : Nat} (hr : r ∈ blocks 13 11 143 f) : (blocks 13 11 143 (fillF 13 f (putK L Y k) r)).length + 1 = (blocks 13 11 143 f).length := by
  obtain ⟨i, hi⟩ := List.getElem?_of_mem hr
  have h1 := (List.getElem?_eq_some_iff.1 hi).1
  have := blocks_fill (W := 13) (H := 11) (n := 143) f (putK L Y k) (fun p _ => by have := putK_bd L Y k p; omega) hi
  rw [show blocks 13 11 143 (fillF 13 f (putK L Y k) r) = _ from this, List.length_append, List.length_take, List.length_drop]
  omega
end Go.Proofs.Ytcdnpnbjloaihaa
end

section
/- Chapter 33, plain: bitmaps that fit an image, and how many of them agree in a block. -/
namespace Go.Proofs.Ytcdnpnbjloaihaa
open Go.RowKit Go.Flow Go.AV Go.Plain
theorem filt1 {p : Nat → Bool} (k : Nat) : [k].filter p = if p k then [k] else [] := by cases h : p k <;> simp [List.filter, h]
def fitE (f : Nat → Int) (b : Bm) (y : Mt) : Bool := (List.range 143).all fun p => decide (f p = 2) || decide (f p = putF 9 7 b.d y.dx y.dy p)
theorem fitE_iff {f : Nat → Int} {b : Bm} {y : Mt} : fitE f b y = true ↔ ∀ p, p < 143 → f p = 2 ∨ f p = putF 9 7 b.d y.dx y.dy p := by
  unfold fitE
  rw [List.all_eq_true]
  simp only [List.mem_range, Bool.or_eq_true, decide_eq_true_eq]
def fitI (f : Nat → Int) (L : List Bm) (Y : List Mt) (k : Nat) : List Nat := (List.range k).filter fun i => fitE f (L.getD i bmZ) (Y.getD i mtZ)
def fitL (f : Nat → Int) (L : List Bm) (Y : List Mt) (k : Nat) : List Bm := (fitI f L Y k).map fun i => L.getD i bmZ
def fitY (f : Nat → Int) (L : List Bm) (Y : List Mt) (k : Nat) : List Mt := (fitI f L Y k).map fun i => Y.getD i mtZ
theorem fitI_succ (f : Nat → Int) (L : List Bm) (Y : List Mt) (k : Nat) : fitI f L Y (k + 1) = fitI f L Y k ++ if fitE f (L.getD k bmZ) (Y.getD k mtZ) then [k] else [] := by
  unfold fitI
  rw [List.range_succ, List.filter_append, filt1]
theorem fitI_len (f : Nat → Int) (L : List Bm) (Y : List Mt) (k : Nat) : (fitI f L Y k).length ≤ k := by
  unfold fitI
  have := List.length_filter_le (fun i => fitE f (L.getD i bmZ) (Y.getD i mtZ)) (List.range k)
  rwa [List.length_range] at this
theorem fit_at {f : Nat → Int} {L : List Bm} {Y : List Mt} {m i : Nat} (h : i < (fitL f L Y m).length) : ∃ j, j < m ∧ fitE f (L.getD j bmZ) (Y.getD j mtZ) = true ∧ (fitL f L Y m).getD i bmZ = L.getD j bmZ ∧ (fitY f L Y m).getD i mtZ = Y.getD j mtZ := by
  unfold fitL at h
  rw [List.length_map] at h
  have h1 := List.getElem_mem h
  unfold fitI at h1
  rw [List.mem_filter, List.mem_range] at h1
  refine ⟨(fitI f L Y m)[i], h1.1, h1.2, ?_, ?_⟩
  · unfold fitL
    rw [List.getD_eq_getElem?_getD, List.getElem?_map, List.getElem?_eq_getElem h]
    rfl
  · unfold fitY
    rw [List.getD_eq_getElem?_getD, List.getElem?_map, List.getElem?_eq_getElem h]
    rfl
theorem OkL.fit {f : Nat → Int} {L : List Bm} {Y : List Mt} (h : OkL L Y) : OkL (fitL f L Y L.length) (fitY f L Y L.length) where
  len := by simp [fitL, fitY]
  five := by have := fitI_len f L Y L.length; have := h.five; simp [fitL]; omega
  bm := fun b hb => by
    obtain ⟨i, h1, rfl⟩ := List.mem_map.1 hb
    unfold fitI at h1
    rw [List.mem_filter, List.mem_range] at h1
    exact okBm_at h.bm h1.1
  mt := fun b hb => by
    obtain ⟨i, h1, rfl⟩ := List.mem_map.1 hb
    unfold fitI at h1
    rw [List.mem_filter, List.mem_range] at h1
    exact okMt_at h.mt (by have := h.len; omega)
theorem fit_cnt {f s : Nat → Int} (hf : ∀ p, 0 ≤ f p ∧ f p ≤ 2) (hs : ∀ p, 0 ≤ s p ∧ s p ≤ 1) (n : Nat) : (cnt (bothB 0 1 f s) n = 0 ∧ cnt (bothB 1 0 f s) n = 0) ↔ ∀ p, p < n → f p = 2 ∨ f p = s p := by
  constructor
  · rintro ⟨h1, h2⟩ p hp
    have g1 : bothB 0 1 f s p = false := by
      cases h : bothB 0 1 f s p
      · rfl
      · have := cnt_pos hp h; omega
    have g2 : bothB 1 0 f s p = false := by
      cases h : bothB 1 0 f s p
      · rfl
      · have := cnt_pos hp h; omega
    have h3 := hf p
    have h4 := hs p
    simp only [bothB, Bool.and_eq_false_iff, beq_eq_false_iff_ne, ne_eq] at g1 g2
    omega
  · intro h
    refine ⟨cnt_none n fun p hp => ?_, cnt_none n fun p hp => ?_⟩
    all_goals
      have h3 := h p hp
      have h4 := hs p
      simp only [bothB, Bool.and_eq_false_iff, beq_eq_false_iff_ne, ne_eq]
      omega
theorem sameN_len (N : Nat) (q : Nat → Nat) (fs : Nat → Nat → Int) (i : Nat) : ∀ M, sameN N q fs i M = ((List.range M).filter fun k => agreeB N q (fs i) (fs k)).length
  | 0 => rfl
  | M + 1 => by
    rw [List.range_succ, List.filter_append, List.length_append, ← sameN_len N q fs i M]
    show sameN N q fs i M + (if agreeB N q (fs i) (fs M) then 1 else 0) = _
    rw [filt1]
    cases agreeB N q (fs i) (fs M) <;> rfl
theorem uL_all {U : Nat → Bool} {n : Nat} {P : Nat → Prop} : (∀ j, j < (uL U n).length → P ((uL U n).getD j 0)) ↔ ∀ p, p < n → U p = true → P p := by
  constructor
  · intro h p hp hu
    have hm : p ∈ uL U n := by unfold uL; rw [List.mem_filter, List.mem_range]; exact ⟨hp, hu⟩
    obtain ⟨j, hj, e⟩ := List.getElem_of_mem hm
    have := h j hj
    rw [List.getD_eq_getElem?_getD, List.getElem?_eq_getElem hj] at this
    rw [← e]
    exact this
  · intro h j hj
    have hm := List.getElem_mem hj
    rw [List.getD_eq_getElem?_getD, List.getElem?_eq_getElem hj]
    unfold uL at hm
    rw [List.mem_filter, List.mem_range] at hm
    exact h _ hm.1 hm.2
/-- How many still fit when a block is filled. -/
theorem fit_left {f : Nat → Int} {L : List Bm} {Y : List Mt} {r : Rc} {k : Nat} (hL : OkL L Y) (hk : k < L.length) (hfit : ∀ i, i < L.length → fitE f (L.getD i bmZ) (Y.getD i mtZ) = true) :
    (fitI (fillF 13 f (putK L Y k) r) L Y L.length).length = sameN (uL (unkR 13 f r) 143).length (fun j => (uL (unkR 13 f r) 143).getD j 0) (fun i => (putI L Y i).f) k L.length := by
  rw [sameN_len]
  unfold fitI
  congr 1
  refine List.filter_congr fun i hi => ?_
  rw [List.mem_range] at hi
  have hp : ∀ i, i < L.length → (putI L Y i).f = putK L Y i := fun i hi => by
    obtain ⟨e1, e2, e3⟩ := okBm_at hL.bm hi
    show putF (L.getD i bmZ).W (L.getD i bmZ).H _ _ _ = _
    rw [e1, e2]
  rw [Bool.eq_iff_iff, fitE_iff]
  unfold agreeB
  rw [decide_eq_true_iff, uL_all (P := fun p => (putI L Y k).f p = (putI L Y i).f p), hp k hk, hp i hi]
  have h1 := fitE_iff.1 (hfit i hi)
  have h2 := fitE_iff.1 (hfit k hk)
  show (∀ p, p < 143 → fillF 13 f (putK L Y k) r p = 2 ∨ fillF 13 f (putK L Y k) r p = putK L Y i p) ↔ _
  constructor
  · intro h p hp hu
    have h3 := h p hp
    unfold fillF at h3
    rw [if_pos hu] at h3
    have := putK_bd L Y k p
    exact h3.elim (fun h => by omega) id
  · intro h p hp
    unfold fillF
    split
    · rename_i hu
      exact .inr (h p hp hu)
    · exact h1 p hp
theorem fit_self {f : Nat → Int} {L : List Bm} {Y : List Mt} {r : Rc} {k : Nat} (hk : k < L.length) : 1 ≤ sameN (uL (unkR 13 f r) 143).length (fun j => (uL (unkR 13 f r) 143).getD j 0) (fun i => (putI L Y i).f) k L.length := by
  rw [sameN_len]
  exact List.length_pos_of_mem (a := k) (by rw [List.mem_filter, List.mem_range]; exact ⟨hk, by unfold agreeB; exact decide_eq_true fun _ _ => rfl⟩)
theorem mst_bd {f : Nat → Int} {L : List Bm} {Y : List Mt} {r : Rc} (h0 : 0 < L.length) : 1 ≤ mstT 13 143 f L.length (fun i => (putI L Y i).f) r ∧ mstT 13 143 f L.length (fun i => (putI L Y i).f) r ≤ L.length := by
  unfold mstT
  have h1 := fit_self (f := f) (L := L) (Y := Y) (r := r) h0
  have h2 := most_ge (uL (unkR 13 f r) 143).length (fun j => (uL (unkR 13 f r) 143).getD j 0) (fun i => (putI L Y i).f) L.length L.length 0 h0
  refine ⟨by omega, most_le _ _ _ _ _ (by omega) _ fun i hi => ?_⟩
  have := sameN_le (uL (unkR 13 f r) 143).length (fun j => (uL (unkR 13 f r) 143).getD j 0) (fun i => (putI L Y i).f) i L.length
  omega
theorem mst_same {f : Nat → Int} {L : List Bm} {Y : List Mt} {r : Rc} {k : Nat} (hk : k < L.length) : ((sameN (uL (unkR 13 f r) 143).length (fun j => (uL (unkR 13 f r) 143).getD j 0) (fun i => (putI L Y i).f) k L.length : Nat) : Int) ≤ mstT 13 143 f L.length (fun i => (putI L Y i).f) r := by
  unfold mstT
  have h2 := most_ge (uL (unkR 13 f r) 143).length (fun j => (uL (unkR 13 f r) 143).getD j 0) (fun i => (putI L Y i).f) L.length L.length k hk
  omega
theorem known_all {f : Nat → Int} (h : ∀ p, p < 143 → f p ≠ 2) : cnt (knownB f) 143 = 143 := by
  have : ∀ n, n ≤ 143 → cnt (knownB f) n = n := fun n => by
    induction n with
    | zero => intro _; rfl
    | succ n ih =>
      intro hn
      rw [cnt_succ, ih (by omega), show knownB f n = true by simp [knownB, h n (by omega)], if_pos rfl]
      omega
  exact this 143 (Nat.le_refl _)
end Go.Proofs.Ytcdnpnbjloaihaa
end
