/- Parts of the proof: TreeB. -/
import Derived.Test.YtcdnpnbjloaihaaG17
set_option linter.unusedSimpArgs false
set_option linter.unusedVariables false
section
/- Regions along a tree, once more: an operation may also write to blocks from B on, which no other operation reads. No condition. -/
namespace Go.RowKit
theorem Below.rulesB {n : Nat} {a b : World} (h : Below n a b) : (∀ p : Addr, p.block < n → b.cell? p = a.cell? p) ∧ (∀ p : Addr, p.block < n → b.frozen? p = a.frozen? p) := ⟨fun _ hp => h.cell hp, fun _ hp => h.frozen hp⟩
end Go.RowKit
namespace Go.Flow
open Go Go.RowKit
section
variable {F : Fence} {nd : Nat} {P : Program} {ops : Array Oper} {md : Region.Mode} {B : Nat}
/-- New memory alone, and nothing below B has turned. -/
structure LE (B : Nat) (w w' : World) : Prop where
  ext : Ext w w'
  low : Below B w w'
theorem LE.refl (B : Nat) (w : World) : LE B w w := ⟨Ext.refl w, Below.refl B w⟩
theorem LE.trans {a b c : World} (h : LE B a b) (k : LE B b c) : LE B a c := ⟨h.ext.trans k.ext, h.low.trans k.low⟩
theorem LE.drew {a b : World} (h : LE B a b) : LE B a b.drew := ⟨h.ext.drew, h.low.drew⟩
theorem LE.of_ext {a b : World} (h : Ext a b) (hB : B ≤ a.heap.size) : LE B a b := ⟨h, Below.mono h hB⟩
/-- From w on the operation yields v and makes new memory alone. -/
def AtB (B : Nat) (P : Program) (ops : Array Oper) (w : World) (o : Oper) (v : Value) (a : Act) : Prop :=
  (Region.wanted o (yielded ops a.tmps) = true ∧ ∀ w1, Below B w w1 → Goes P (fun u w' => u = v ∧ LE B w1 w') ((execOp a.eval o).run P w1)) ∨
  (Region.wanted o (yielded ops a.tmps) = false ∧ undef = v)
theorem AtB.same {w : World} {o : Oper} {v : Value} {a a' : Act} (h : AtB B P ops w o v a) (he : execOp a'.eval o = execOp a.eval o)
    (hw : Region.wanted o (yielded ops a'.tmps) = Region.wanted o (yielded ops a.tmps)) : AtB B P ops w o v a' := by
  unfold AtB at *
  rw [he, hw]
  exact h
theorem AtB.later {w w' : World} {o : Oper} {v : Value} {a : Act} (h : AtB B P ops w o v a) (hE : Below B w w') : AtB B P ops w' o v a :=
  h.imp (fun ⟨hw, h⟩ => ⟨hw, fun w1 h1 => h w1 (hE.trans h1)⟩) id

def StB (B : Nat) (P : Program) (ops : Array Oper) (i : Nat) (K : Act → World → Prop) (a : Act) (w : World) : Prop :=
  ∃ o, ops[i]? = some o ∧
    ((Region.wanted o (yielded ops a.tmps) = true ∧ Goes P (fun u w' => Below B w w' ∧ K (a.put o.dst u) w') ((execOp a.eval o).run P w)) ∨
     (Region.wanted o (yielded ops a.tmps) = false ∧ K (a.put o.dst undef) w))
theorem StB.mono {i : Nat} {a : Act} {w : World} {K K' : Act → World → Prop} (h : ∀ a w, K a w → K' a w) (hh : StB B P ops i K a w) : StB B P ops i K' a w :=
  let ⟨o, h1, h2⟩ := hh
  ⟨o, h1, h2.imp (fun ⟨hw, hg⟩ => ⟨hw, hg.mono fun _ _ ⟨h3, h4⟩ => ⟨h3, h _ _ h4⟩⟩) (fun ⟨hw, hk⟩ => ⟨hw, h _ _ hk⟩)⟩
theorem StB.of_at {i : Nat} {o : Oper} {v : Value} {a : Act} {w w0 : World} {K : Act → World → Prop} (hi : ops[i]? = some o) (h : AtB B P ops w0 o v a) (hE : Below B w0 w)
    (hK : ∀ w', LE B w w' → K (a.put o.dst v) w') : StB B P ops i K a w := by
  refine ⟨o, hi, ?_⟩
  rcases h with ⟨hw, h⟩ | ⟨hw, rfl⟩
  · exact .inl ⟨hw, (h w hE).mono fun u w' ⟨hu, hx⟩ => ⟨hx.low, hu ▸ hK w' hx⟩⟩
  · exact .inr ⟨hw, hK w (LE.refl B w)⟩
theorem StB.wpOp {i : Nat} {a : Act} {w : World} {K K' : Act → World → Prop} {Q : Exit → Act → World → Prop}
    (h : StB B P ops i K a w) (hK : ∀ a' w', Below B w w' → K a' w' → K' a' w') : wpOp P ops Q i K' a w := by
  obtain ⟨o, hi, h⟩ := h
  unfold Go.wpOp
  simp only [hi]
  rcases h with ⟨hw, h⟩ | ⟨hw, h⟩
  · rw [if_pos hw]
    exact .inl (h.upon fun v w' ⟨h1, h2⟩ => hK _ _ h1 h2)
  · rw [if_neg (by simp [hw])]
    exact hK _ _ (Below.refl B w) h

theorem StB.put {j : Nat} {oi oj : Oper} {v : Value} {w w0 : World} (hj : ops[j]? = some oj) (hap : oi.apart ops oj = true)
    (hsi : ∀ cs b, oi.op ≠ .select cs b) (hsj : ∀ cs b, oj.op ≠ .select cs b) {K : Act → World → Prop} {a : Act}
    (hy : AtB B P ops w0 oi v a) (h : StB B P ops j K (a.put oi.dst v) w) :
    StB B P ops j (fun a' w' => AtB B P ops w0 oi v a' ∧ K (a'.put oi.dst v) w') a w := by
  obtain ⟨h1, h2, h3⟩ := Oper.apart_spec hap
  obtain ⟨o, ho, h⟩ := h
  have hoj : o = oj := Option.some.inj (ho.symm.trans hj)
  subst hoj
  refine ⟨o, ho, ?_⟩
  have hk : ∀ u w', K ((a.put oi.dst v).put o.dst u) w' → AtB B P ops w0 oi v (a.put o.dst u) ∧ K ((a.put o.dst u).put oi.dst v) w' := fun u w' hK => by
    refine ⟨hy.same (execOp_put oi hsi a o.dst u h3) (wanted_put oi a o.dst u h3), ?_⟩
    rw [← Act.put_comm a v u h2]
    exact hK
  rw [execOp_put o hsj a oi.dst v h1, wanted_put o a oi.dst v h1] at h
  exact h.imp (fun ⟨hw, hg⟩ => ⟨hw, hg.mono fun u w' ⟨hx, hK⟩ => ⟨hx, hk u w' hK⟩⟩) (fun ⟨hw, hK⟩ => ⟨hw, hk _ _ hK⟩)

/-- The head operations, in whatever order; L at their end; in whatever later world. -/
def AnyB (B : Nat) (P : Program) (md : Region.Mode) (ops : Array Oper) (n : Nat) (L : Array Bool → Act → World → Prop) : Nat → Array Bool → Act → World → Prop
  | 0, listed, a, w => ∀ w1, LE B w w1 → L listed a w1
  | f + 1, listed, a, w => ∀ w1, LE B w w1 →
    Region.ready md ops listed ≠ [] ∧ ∀ i ∈ Region.ready md ops listed, i < n ∧ StB B P ops i (AnyB B P md ops n L f (listed.setIfInBounds i true)) a w1

theorem AnyB.later {n : Nat} {L : Array Bool → Act → World → Prop} {f : Nat} {listed : Array Bool} {a : Act} {w w' : World} (h : AnyB B P md ops n L f listed a w) (hE : LE B w w') : AnyB B P md ops n L f listed a w' := by
  cases f with
  | zero => exact fun w1 h1 => h w1 (hE.trans h1)
  | succ f => exact fun w1 h1 => h w1 (hE.trans h1)

theorem wpAny_of_anyB {n g : Nat} {L : Array Bool → Act → World → Prop} {Q : Exit → Act → World → Prop} (hL : ∀ listed a w, L listed a w → wpAny P md ops Q g listed a w) :
    ∀ (f : Nat) (listed : Array Bool) (a : Act) (w : World), AnyB B P md ops n L f listed a w → wpAny P md ops Q (f + g) listed a w
  | 0, listed, a, w, h => by rw [Nat.zero_add]; exact hL _ _ _ (h w (LE.refl B w))
  | f + 1, listed, a, w, h => by
    rw [show f + 1 + g = (f + g) + 1 by omega]
    have h := h w (LE.refl B w)
    exact ⟨fun h0 => absurd h0 h.1, fun i hi => (h.2 i hi).2.wpOp fun a' w' _ hk => wpAny_of_anyB hL f _ a' w' hk⟩

theorem anyB_first {n i : Nat} {oi : Oper} {v : Value} {L : Array Bool → Act → World → Prop} (hi : ops[i]? = some oi)
    (hsel : ∀ (j : Nat) (o : Oper) cs b, ops[j]? = some o → o.op ≠ .select cs b)
    (htail : ∀ listed, HeadInv md ops n listed → ∀ i, i < n → listed.getD i true = false → ∀ t, n ≤ t → t ∉ Region.ready md ops listed) (hin : i < n)
    (hdone : ∀ listed a w, L listed a w → ∀ j ∈ Region.ready md ops listed, n ≤ j) :
    ∀ (f : Nat) (listed : Array Bool) (a : Act) (w : World), HeadInv md ops n listed →
      (∀ j oj, ops[j]? = some oj → j ≠ i → listed.getD j true = false → (∀ e ∈ oj.after, Region.binds md e = true → e.on ≠ i) → oi.apart ops oj = true) →
      i ∈ Region.ready md ops listed → AtB B P ops w oi v a →
      AnyB B P md ops n L f (listed.setIfInBounds i true) (a.put oi.dst v) w → AnyB B P md ops n L (f + 1) listed a w := by
  intro f
  induction f with
  | zero =>
    intro listed a w inv _ hr hy H w1 hE
    have hun := (mem_ready.1 hr).1
    refine ⟨fun h => (by rw [h] at hr; cases hr), fun j hj => ?_⟩
    have hjn : j < n := (Nat.lt_or_ge j n).resolve_right fun h => absurd hj (htail _ inv i hin hun j h)
    refine ⟨hjn, ?_⟩
    by_cases hji : j = i
    · subst hji; exact StB.of_at hi hy hE.low fun w' hE' => AnyB.later H (hE.trans hE')
    · have := hdone _ _ _ (H w1 hE) j (ready_mono hj hji)
      omega
  | succ f ih =>
    intro listed a w inv hfree hr hy H w1 hE
    have hun := (mem_ready.1 hr).1
    refine ⟨fun h => (by rw [h] at hr; cases hr), fun j hj => ?_⟩
    have hjn : j < n := (Nat.lt_or_ge j n).resolve_right fun h => absurd hj (htail _ inv i hin hun j h)
    refine ⟨hjn, ?_⟩
    by_cases hji : j = i
    · subst hji; exact StB.of_at hi hy hE.low fun w' hE' => AnyB.later H (hE.trans hE')
    · have h1 := ((H w1 hE).2 j (ready_mono hj hji)).2
      obtain ⟨hjun, oj, hoj, hall⟩ := mem_ready.1 hj
      have hnot : ∀ e ∈ oj.after, Region.binds md e = true → e.on ≠ i := fun e he hb heq => by
        have h1 := hall e he hb
        rw [heq, getD_both hun] at h1
        cases h1
      have h2 := StB.put (w0 := w) hoj (hfree j oj hoj hji hjun hnot) (fun cs b => hsel i oi cs b hi) (fun cs b => hsel j oj cs b hoj) hy h1
      have hfree' : ∀ k ok, ops[k]? = some ok → k ≠ i → (listed.setIfInBounds j true).getD k true = false →
          (∀ e ∈ ok.after, Region.binds md e = true → e.on ≠ i) → oi.apart ops ok = true := fun k ok hk hki hun hno => by
        refine hfree k ok hk hki ?_ hno
        by_cases hjk : j = k
        · subst hjk; exact hjun
        · rw [getD_set_ne true hjk] at hun; exact hun
      obtain ⟨o', ho', h2⟩ := h2
      refine ⟨o', ho', ?_⟩
      have step : ∀ u w', Below B w1 w' → (AtB B P ops w oi v (a.put o'.dst u) ∧ AnyB B P md ops n L f ((listed.setIfInBounds i true).setIfInBounds j true) ((a.put o'.dst u).put oi.dst v) w') →
          AnyB B P md ops n L (f + 1) (listed.setIfInBounds j true) (a.put o'.dst u) w' := fun u w' hx ⟨h3, h4⟩ => by
        refine ih (listed.setIfInBounds j true) _ w' (inv.set hj hjn) hfree' (ready_mono hr (Ne.symm hji)) (h3.later (hE.low.trans hx)) ?_
        rw [Array.setIfInBounds_comm _ _ hji]
        exact h4
      exact h2.imp (fun ⟨hw, hg⟩ => ⟨hw, hg.mono fun u w' ⟨hx, hk⟩ => ⟨hx, step u w' hx hk⟩⟩) (fun ⟨hw, hk⟩ => ⟨hw, step _ _ (Below.refl B w1) hk⟩)

/-- The walk along a given order: (k, true): an operation that yields one value from here on; (k, false): one that alone may come up. -/
def WalkEB (B : Nat) (P : Program) (ops : Array Oper) (Qn : Act → World → Prop) : List (Nat × Bool) → Act → World → Prop
  | [], a, w => ∀ w1, LE B w w1 → Qn a w1
  | (k, true) :: s, a, w => ∃ o v, ops[k]? = some o ∧ AtB B P ops w o v a ∧ WalkEB B P ops Qn s (a.put o.dst v) w
  | (k, false) :: s, a, w => ∀ w1, LE B w w1 → StB B P ops k (WalkEB B P ops Qn s) a w1

theorem anyB_walk {n : Nat} {Lq : Act → World → Prop} (hsel : Region.noSelect ops = true)
    (htail : ∀ listed, HeadInv .any ops n listed → ∀ i, i < n → listed.getD i true = false → ∀ t, n ≤ t → t ∉ Region.ready .any ops listed) :
    ∀ (s : List (Nat × Bool)) (listed : Array Bool) (a : Act) (w : World), HeadInv .any ops n listed → okSeq ops n s listed = true → WalkEB B P ops Lq s a w →
      AnyB B P .any ops n (fun listed' a' w' => Region.seqB .any ops (ops.size - n) n listed' = true ∧ Lq a' w') s.length listed a w
  | [], listed, a, w, _, hB, h => fun w1 h1 => ⟨hB, h w1 h1⟩
  | (k, true) :: s, listed, a, w, inv, hB, h => by
    simp only [okSeq, Bool.and_eq_true, decide_eq_true_eq, if_true] at hB
    obtain ⟨⟨⟨hkn, hr⟩, hf⟩, hB'⟩ := hB
    have hr' : k ∈ Region.ready .any ops listed := by simpa using hr
    obtain ⟨o, v, ho, hat, hK⟩ := h
    exact anyB_first ho (Region.noSelect_spec hsel) htail hkn (fun listed' a' w' hL => seqB_ready hL.1) s.length listed a w inv (Region.free_spec ho hf) hr' hat
      (anyB_walk hsel htail s _ _ w (inv.set hr' hkn) hB' hK)
  | (k, false) :: s, listed, a, w, inv, hB, h => by
    simp only [okSeq, Bool.and_eq_true, decide_eq_true_eq, Bool.false_eq_true, if_false] at hB
    obtain ⟨⟨⟨hkn, hr⟩, hf⟩, hB'⟩ := hB
    have hr' : k ∈ Region.ready .any ops listed := by simpa using hr
    intro w1 h1
    refine ⟨by rw [hf]; simp, fun i hi => ?_⟩
    rw [hf] at hi
    obtain rfl : i = k := by simpa using hi
    exact ⟨hkn, (h w1 h1).mono fun a' w' hk => anyB_walk hsel htail s _ a' w' (inv.set hr' hkn) hB' hk⟩

/-- The same along the operations themselves. -/
def WalkB (B : Nat) (P : Program) (ops : Array Oper) (Qn : Act → World → Prop) : List (Oper × Bool) → Act → World → Prop
  | [], a, w => ∀ w1, LE B w w1 → Qn a w1
  | (o, true) :: s, a, w => ∃ v, AtB B P ops w o v a ∧ WalkB B P ops Qn s (a.put o.dst v) w
  | (o, false) :: s, a, w => ∀ w1, LE B w w1 →
      ((Region.wanted o (yielded ops a.tmps) = true ∧ Goes P (fun u w' => Below B w1 w' ∧ WalkB B P ops Qn s (a.put o.dst u) w') ((execOp a.eval o).run P w1)) ∨
       (Region.wanted o (yielded ops a.tmps) = false ∧ WalkB B P ops Qn s (a.put o.dst undef) w1))

theorem WalkB.toE {l : List Oper} {Qn : Act → World → Prop} {n : Nat} : ∀ (s : List (Nat × Bool)) (listed : Array Bool) (a : Act) (w : World), okSeq l.toArray n s listed = true →
    WalkB B P l.toArray Qn (s.map fun x => (l.getD x.1 default, x.2)) a w → WalkEB B P l.toArray Qn s a w
  | [], _, _, _, _, h => h
  | (k, b) :: s, listed, a, w, hB, h => by
    simp only [okSeq, Bool.and_eq_true, decide_eq_true_eq] at hB
    obtain ⟨⟨⟨_, hr⟩, _⟩, hB'⟩ := hB
    have hr' : k ∈ Region.ready .any l.toArray listed := by simpa using hr
    obtain ⟨_, o, ho, _⟩ := mem_ready.1 hr'
    have hl : l.getD k default = o := by
      have : l[k]? = some o := by simpa using ho
      simp [List.getD, this]
    simp only [List.map_cons, hl] at h
    cases b with
    | true =>
      obtain ⟨v, hat, hk⟩ := h
      exact ⟨o, v, ho, hat, WalkB.toE s _ _ _ hB' hk⟩
    | false =>
      intro w1 h1
      exact ⟨o, ho, (h w1 h1).imp (fun ⟨hw, hg⟩ => ⟨hw, hg.mono fun u w' ⟨hx, hk⟩ => ⟨hx, WalkB.toE s _ _ _ hB' hk⟩⟩) (fun ⟨hw, hk⟩ => ⟨hw, WalkB.toE s _ _ _ hB' hk⟩)⟩


theorem anyB_pre {n f : Nat} {L : Array Bool → Act → World → Prop} (hsel : Region.noSelect ops = true)
    (htail : ∀ listed, HeadInv .any ops n listed → ∀ i, i < n → listed.getD i true = false → ∀ t, n ≤ t → t ∉ Region.ready .any ops listed)
    (hdone : ∀ listed a w, L listed a w → ∀ j ∈ Region.ready .any ops listed, n ≤ j) {Bq : Act → World → Prop} {listed' : Array Bool} :
    ∀ (s : List (Nat × Bool)) (listed : Array Bool) (a : Act) (w : World), HeadInv .any ops n listed → okPre ops n s listed = some listed' →
      (HeadInv .any ops n listed' → ∀ a w, (∀ w1, LE B w w1 → Bq a w1) → AnyB B P .any ops n L f listed' a w) → WalkEB B P ops Bq s a w → AnyB B P .any ops n L (s.length + f) listed a w
  | [], listed, a, w, inv, hB, hL, h => by
    have : listed = listed' := by simpa [okPre] using hB
    subst this
    rw [List.length_nil, Nat.zero_add]
    exact hL inv a w h
  | (k, true) :: s, listed, a, w, inv, hB, hL, h => by
    cases hc : okStep ops n k true listed
    · simp [okPre, hc] at hB
    · simp only [okPre, hc] at hB
      simp only [okStep, Bool.and_eq_true, decide_eq_true_eq, if_true] at hc
      obtain ⟨⟨hkn, hr⟩, hf⟩ := hc
      have hr' : k ∈ Region.ready .any ops listed := by simpa using hr
      obtain ⟨o, v, ho, hat, hK⟩ := h
      rw [List.length_cons, show s.length + 1 + f = (s.length + f) + 1 by omega]
      exact anyB_first ho (Region.noSelect_spec hsel) htail hkn hdone (s.length + f) listed a w inv (Region.free_spec ho hf) hr' hat
        (anyB_pre hsel htail hdone s _ _ w (inv.set hr' hkn) hB hL hK)
  | (k, false) :: s, listed, a, w, inv, hB, hL, h => by
    cases hc : okStep ops n k false listed
    · simp [okPre, hc] at hB
    · simp only [okPre, hc] at hB
      simp only [okStep, Bool.and_eq_true, decide_eq_true_eq, Bool.false_eq_true, if_false] at hc
      obtain ⟨⟨hkn, hr⟩, hf⟩ := hc
      have hr' : k ∈ Region.ready .any ops listed := by simpa using hr
      rw [List.length_cons, show s.length + 1 + f = (s.length + f) + 1 by omega]
      intro w1 h1
      refine ⟨by rw [hf]; simp, fun i hi => ?_⟩
      rw [hf] at hi
      obtain rfl : i = k := by simpa using hi
      exact ⟨hkn, (h w1 h1).mono fun a' w' hk => anyB_pre hsel htail hdone s _ a' w' (inv.set hr' hkn) hB hL hk⟩

theorem okPre_memB {l : List Oper} {n : Nat} {listed' : Array Bool} : ∀ (s : List (Nat × Bool)) (listed : Array Bool), okPre l.toArray n s listed = some listed' →
    ∀ {Qn : Act → World → Prop} (a : Act) (w : World), WalkB B P l.toArray Qn (s.map fun x => (l.getD x.1 default, x.2)) a w → WalkEB B P l.toArray Qn s a w
  | [], _, _, _, _, _, h => h
  | (k, b) :: s, listed, hB, Qn, a, w, h => by
    cases hc : okStep l.toArray n k b listed
    · simp [okPre, hc] at hB
    · simp only [okPre, hc] at hB
      simp only [okStep, Bool.and_eq_true, decide_eq_true_eq] at hc
      obtain ⟨⟨_, hr⟩, _⟩ := hc
      have hr' : k ∈ Region.ready .any l.toArray listed := by simpa using hr
      obtain ⟨_, o, ho, _⟩ := mem_ready.1 hr'
      have hl : l.getD k default = o := by
        have : l[k]? = some o := by simpa using ho
        simp [List.getD, this]
      simp only [List.map_cons, hl] at h
      cases b with
      | true =>
        obtain ⟨v, hat, hk⟩ := h
        exact ⟨o, v, ho, hat, okPre_memB s _ hB _ _ hk⟩
      | false =>
        intro w1 h1
        exact ⟨o, ho, (h w1 h1).imp (fun ⟨hw, hg⟩ => ⟨hw, hg.mono fun u w' ⟨hx, hk⟩ => ⟨hx, okPre_memB s _ hB _ _ hk⟩⟩) (fun ⟨hw, hk⟩ => ⟨hw, okPre_memB s _ hB _ _ hk⟩)⟩


theorem StB.wpOpIn (hF : Wide F) (hD : noDefer ops = true) {i : Nat} {a : Act} {w : World} {K K' : Act → World → Prop} {Q : Exit → Act → World → Prop}
    (h : StB B P ops i K a w) (hK : ∀ a' w', Below B w w' → K a' w' → K' a' w') : wpOpIn F nd P ops Q i K' a w := by
  obtain ⟨o, hi, h⟩ := h
  unfold Go.wpOpIn
  simp only [hi]
  rcases h with ⟨hw, h⟩ | ⟨hw, h⟩
  · rw [if_pos hw]
    refine ⟨fun f _ => hF.fn f, ?_⟩
    rw [semAt_exec hD hi]
    exact h.uponIn hF fun v w' ⟨h1, h2⟩ => hK _ _ h1 h2
  · rw [if_neg (by simp [hw])]
    exact ⟨fun f _ => hF.fn f, hK _ _ (Below.refl B w) h⟩

theorem wpAnyIn_of_anyB (hF : Wide F) (hD : noDefer ops = true) {n g : Nat} {L : Array Bool → Act → World → Prop} {Q : Exit → Act → World → Prop} (hL : ∀ listed a w, L listed a w → wpAnyIn F nd P md ops Q g listed a w) :
    ∀ (f : Nat) (listed : Array Bool) (a : Act) (w : World), AnyB B P md ops n L f listed a w → wpAnyIn F nd P md ops Q (f + g) listed a w
  | 0, listed, a, w, h => by rw [Nat.zero_add]; exact hL _ _ _ (h w (LE.refl B w))
  | f + 1, listed, a, w, h => by
    rw [show f + 1 + g = (f + g) + 1 by omega]
    have h := h w (LE.refl B w)
    exact ⟨fun h0 => absurd h0 h.1, fun i hi => (h.2 i hi).2.wpOpIn hF hD fun a' w' _ hk => wpAnyIn_of_anyB hF hD hL f _ a' w' hk⟩


/-- What is asked behind the tree's first operations. -/
def contB (B : Nat) (P : Program) (l : List Oper) (Qn : Act → World → Prop) : Tr → Act → World → Prop
  | .fin _ => Qn
  | .two _ i ti j tj => fun a w => WalkB B P l.toArray (contB B P l Qn ti) (sq l ((i, false) :: ti.seq)) a w ∧ WalkB B P l.toArray (contB B P l Qn tj) (sq l ((j, false) :: tj.seq)) a w
def WalkTB (B : Nat) (P : Program) (l : List Oper) (Qn : Act → World → Prop) (t : Tr) (a : Act) (w : World) : Prop := WalkB B P l.toArray (contB B P l Qn t) (sq l t.seq) a w

theorem anyB_T {l : List Oper} {n : Nat} {Lq : Act → World → Prop} (hsel : Region.noSelect l.toArray = true)
    (htail : ∀ listed, HeadInv .any l.toArray n listed → ∀ i, i < n → listed.getD i true = false → ∀ t, n ≤ t → t ∉ Region.ready .any l.toArray listed) :
    ∀ (t : Tr) (listed : Array Bool) (a : Act) (w : World), HeadInv .any l.toArray n listed → okT l.toArray n t listed = true → WalkTB B P l Lq t a w →
      AnyB B P .any l.toArray n (fun listed' a' w' => Region.seqB .any l.toArray (l.toArray.size - n) n listed' = true ∧ Lq a' w') t.len listed a w
  | .fin s, listed, a, w, inv, hB, h => anyB_walk hsel htail s listed a w inv hB (WalkB.toE s listed a w hB h)
  | .two s i ti j tj, listed, a, w, inv, hB, h => by
    unfold okT at hB
    cases hp : okPre l.toArray n s listed with
    | none => rw [hp] at hB; cases hB
    | some l' =>
      rw [hp] at hB
      simp only [Bool.and_eq_true, decide_eq_true_eq] at hB
      obtain ⟨⟨⟨⟨⟨hi, hj⟩, hrd⟩, hs1⟩, hs2⟩, hlen⟩ := hB
      have hE := okPre_memB s _ hp _ _ h
      have get : ∀ (k : Nat) (t : Tr), (∀ (a : Act) (w : World), HeadInv .any l.toArray n (l'.setIfInBounds k true) → WalkTB B P l Lq t a w →
          AnyB B P .any l.toArray n (fun listed' a' w' => Region.seqB .any l.toArray (l.toArray.size - n) n listed' = true ∧ Lq a' w') t.len (l'.setIfInBounds k true) a w) →
          k ∈ Region.ready .any l.toArray l' → k < n → HeadInv .any l.toArray n l' → ∀ (a : Act) (w1 : World),
          WalkB B P l.toArray (contB B P l Lq t) (sq l ((k, false) :: t.seq)) a w1 →
          StB B P l.toArray k (AnyB B P .any l.toArray n (fun listed' a' w' => Region.seqB .any l.toArray (l.toArray.size - n) n listed' = true ∧ Lq a' w') t.len (l'.setIfInBounds k true)) a w1 := by
        intro k t ih hr hkn inv a w1 hw
        obtain ⟨_, o, ho, _⟩ := mem_ready.1 hr
        have hl : l.getD k default = o := by
          have : l[k]? = some o := by simpa using ho
          simp [List.getD, this]
        simp only [sq, List.map_cons, hl] at hw
        exact ⟨o, ho, (hw w1 (LE.refl B w1)).imp (fun ⟨hwt, hg⟩ => ⟨hwt, hg.mono fun u w' ⟨hx, hk⟩ => ⟨hx, ih _ _ (inv.set hr hkn) hk⟩⟩) (fun ⟨hwt, hk⟩ => ⟨hwt, ih _ _ (inv.set hr hkn) hk⟩)⟩
      refine anyB_pre (f := 1 + ti.len) hsel htail (fun listed' a' w' hL => seqB_ready hL.1) s listed a w inv hp (fun inv a w hb => ?_) hE
      rw [Nat.add_comm]
      intro w1 h1
      refine ⟨by rw [hrd]; simp, fun k hk => ?_⟩
      have hk' := hk
      rw [hrd] at hk
      obtain ⟨hb1, hb2⟩ := hb w1 h1
      rcases List.mem_cons.1 hk with rfl | hk
      · exact ⟨hi, get _ ti (fun a w inv h => anyB_T hsel htail ti _ a w inv hs1 h) hk' hi inv a w1 hb1⟩
      · obtain rfl : k = j := by simpa using hk
        rw [hlen]
        exact ⟨hj, get _ tj (fun a w inv h => anyB_T hsel htail tj _ a w inv hs2 h) hk' hj inv a w1 hb2⟩

theorem contB_and {l : List Oper} {Qn : Act → World → Prop} {s : List (Nat × Bool)} {i j : Nat} {ti tj : Tr} {a : Act} {w : World} (h1 : WalkB B P l.toArray (contB B P l Qn ti) (sq l ((i, false) :: ti.seq)) a w)
    (h2 : WalkB B P l.toArray (contB B P l Qn tj) (sq l ((j, false) :: tj.seq)) a w) : contB B P l Qn (.two s i ti j tj) a w := ⟨h1, h2⟩
theorem contB_fin {l : List Oper} {Qn : Act → World → Prop} {s : List (Nat × Bool)} {a : Act} {w : World} (h : Qn a w) : contB B P l Qn (.fin s) a w := h
theorem WalkB.later {ops : Array Oper} {Qn : Act → World → Prop} {w w' : World} (hE : LE B w w') : ∀ (s : List (Oper × Bool)) (a : Act), WalkB B P ops Qn s a w → WalkB B P ops Qn s a w'
  | [], _, h => fun w1 h1 => h w1 (hE.trans h1)
  | (_, true) :: s, _, ⟨v, hat, hk⟩ => ⟨v, hat.later hE.low, WalkB.later hE s _ hk⟩
  | (_, false) :: _, _, h => fun w1 h1 => h w1 (hE.trans h1)

theorem treeB_inv {l : List Oper} {n : Nat} : HeadInv .any l.toArray n (Array.replicate l.toArray.size false) :=
  ⟨by simp, fun j oj _ hl => (by rw [getD_replicate_false] at hl; cases hl), fun t _ ht => getD_in (by simpa using ht) (getD_replicate_false _ _)⟩
theorem treeB_tail {l : List Oper} {n : Nat} (hs : n = l.toArray.size ∨ Region.sinkB .any l.toArray n = true ∧ Region.chainB .any l.toArray n = true) :
    ∀ listed, HeadInv .any l.toArray n listed → ∀ i, i < n → listed.getD i true = false → ∀ t, n ≤ t → t ∉ Region.ready .any l.toArray listed := by
  intro listed inv i hi hun t ht
  by_cases hsz : n < l.toArray.size
  · rcases hs with hs | hs
    · omega
    · exact tail_waits hs.1 hs.2 hsz inv _ i rfl hi hun t ht
  · intro hr
    obtain ⟨_, o, ho, _⟩ := mem_ready.1 hr
    have := (Array.getElem?_eq_some_iff.1 ho).1
    omega

theorem wp_treeB {id : Nat} {Q : Exit → Act → World → Prop} {a : Act} {w : World} {l : List Oper} (n : Nat) (t : Tr) (hm : P.follows .mixedOrders = true) (hB : okTree l.toArray n t = true)
    (h : WalkB B P l.toArray (contB B P l (fun a' w' => wpList P l.toArray Q (l.drop n) a' w') t) (sq l t.seq) a w) : (Code.region id l.toArray true).wp P Q a w := by
  simp only [okTree, Bool.and_eq_true, Bool.or_eq_true, decide_eq_true_eq] at hB
  obtain ⟨⟨⟨⟨hsel, hn⟩, hs⟩, hlen⟩, hok⟩ := hB
  have hn' : n ≤ l.length := by simpa using hn
  have hdl : (l.drop n).length = l.toArray.size - n := by simp
  have H := anyB_T hsel (treeB_tail hs) t _ a w.drew treeB_inv hok (WalkB.later (LE.refl B w).drew _ _ h)
  refine wp_region_any hm ?_
  have := wpAny_of_anyB (Q := Q) (g := l.toArray.size - n) (fun listed a' w' hL => by
    have := wpAny_of_seq (md := .any) (Q' := Q) (l.drop n) n listed a' w' (fun j => by simp [List.getElem?_drop]) (by rw [hdl]; exact hL.1) hL.2
    rwa [hdl] at this) _ _ _ _ H
  rw [hlen, show n + (l.toArray.size - n) = l.toArray.size by omega] at this
  exact this
theorem wpIn_treeB {F : Fence} {nd : Nat} {id : Nat} {Q : Exit → Act → World → Prop} {a : Act} {w : World} {l : List Oper} (hF : Wide F) (n : Nat) (t : Tr) (hm : P.follows .mixedOrders = true) (hB : (noDefer l.toArray && okTree l.toArray n t) = true)
    (h : WalkB B P l.toArray (contB B P l (fun a' w' => wpListIn F nd P l.toArray Q (l.drop n) a' w') t) (sq l t.seq) a w) : (Code.region id l.toArray true).wpIn F nd P Q a w := by
  simp only [okTree, Bool.and_eq_true, Bool.or_eq_true, decide_eq_true_eq] at hB
  obtain ⟨hD, ⟨⟨⟨hsel, hn⟩, hs⟩, hlen⟩, hok⟩ := hB
  have hn' : n ≤ l.length := by simpa using hn
  have hdl : (l.drop n).length = l.toArray.size - n := by simp
  have H := anyB_T hsel (treeB_tail hs) t _ a w.drew treeB_inv hok (WalkB.later (LE.refl B w).drew _ _ h)
  refine wpIn_region_any hm ?_
  have := wpAnyIn_of_anyB (nd := nd) (Q := Q) hF hD (g := l.toArray.size - n) (fun listed a' w' hL => by
    have := wpAnyIn_of_seq (F := F) (nd := nd) (md := .any) (Q' := Q) (l.drop n) n listed a' w' (fun j => by simp [List.getElem?_drop]) (by rw [hdl]; exact hL.1) hL.2
    rwa [hdl] at this) _ _ _ _ H
  rw [hlen, show n + (l.toArray.size - n) = l.toArray.size by omega] at this
  exact this

variable {Qn : Act → World → Prop} {s : List (Oper × Bool)} {a : Act} {w : World} {v : Value}
theorem WalkB.nil (h : ∀ w1, LE B w w1 → Qn a w1) : WalkB B P ops Qn [] a w := h
theorem WalkB.run {o : Oper} (hg : Region.wanted o (yielded ops a.tmps) = true)
    (hr : ∀ w1, Below B w w1 → (execOp a.eval o).run P w1 = .ok (.value v) w1) (h : WalkB B P ops Qn s (a.put o.dst v) w) : WalkB B P ops Qn ((o, true) :: s) a w :=
  ⟨v, .inl ⟨hg, fun w1 h1 => by rw [hr w1 h1]; exact ⟨rfl, LE.refl B w1⟩⟩, h⟩
theorem WalkB.skip {o : Oper} (hg : Region.wanted o (yielded ops a.tmps) = false)
    (h : WalkB B P ops Qn s (a.put o.dst undef) w) : WalkB B P ops Qn ((o, true) :: s) a w :=
  ⟨undef, .inr ⟨hg, rfl⟩, h⟩
theorem WalkB.move {dst : Option Tmp} {x : Operand} {ty : TypeId} {pos : String} {after : Array Edge} {guard : Option (Nat × Bool)}
    (hg : Region.wanted { dst, op := .move x, type := ty, pos, after, guard } (yielded ops a.tmps) = true)
    (h : WalkB B P ops Qn s (a.put dst (a.eval x)) w) : WalkB B P ops Qn (({ dst, op := .move x, type := ty, pos, after, guard }, true) :: s) a w :=
  WalkB.run hg (fun _ _ => rfl) h
theorem WalkB.assign {dst : Option Tmp} {x : Operand} {ty : TypeId} {pos : String} {after : Array Edge} {guard : Option (Nat × Bool)}
    (hg : Region.wanted { dst, op := .assign x, type := ty, pos, after, guard } (yielded ops a.tmps) = true)
    (h : WalkB B P ops Qn s (a.put dst (a.eval x)) w) : WalkB B P ops Qn (({ dst, op := .assign x, type := ty, pos, after, guard }, true) :: s) a w :=
  WalkB.run hg (fun _ _ => rfl) h
theorem WalkB.callf {dst : Option Tmp} {x : Operand} {xs : Array Operand} {ats : Array TypeId} {ty : TypeId} {pos : String} {after : Array Edge} {guard : Option (Nat × Bool)}
    {f : FuncId} {fn : Func} (hf : P.funcs[f]? = some fn) (hb : fn.body.isNone = false) (hn : (fn.name == "runtime.NumGoroutine") = false) {args : Array Value}
    {first captured : Array Value} (hx : a.eval x = .func (.func f) first captured)
    (hBw : B ≤ w.heap.size) (hc : ∀ w1, Below B w w1 → Calls P f args w1 fun e w' => e = .returned v ∧ Ext w1 w')
    (ha : first.toList ++ xs.toList.map a.eval ++ captured.toList = args.toList)
    (hg : Region.wanted { dst, op := .call { callee := .value x, args := xs, argTypes := ats }, type := ty, pos, after, guard } (yielded ops a.tmps) = true)
    (h : WalkB B P ops Qn s (a.put dst v) w) : WalkB B P ops Qn (({ dst, op := .call { callee := .value x, args := xs, argTypes := ats }, type := ty, pos, after, guard }, true) :: s) a w :=
  ⟨v, .inl ⟨hg, fun w1 h1 => by
    rw [run_callf f fn hf hb hn first captured hx w1, show first ++ xs.map a.eval ++ captured = args from Array.ext' (by simpa using ha)]
    exact (hc w1 h1).mono fun _ _ ⟨he, hx⟩ => ⟨v, he, rfl, LE.of_ext hx (Nat.le_trans hBw h1.size)⟩⟩, h⟩
theorem WalkB.openf {dst : Option Tmp} {x : Operand} {xs : Array Operand} {ats : Array TypeId} {ty : TypeId} {pos : String} {after : Array Edge} {guard : Option (Nat × Bool)}
    {f : FuncId} {fn : Func} (hf : P.funcs[f]? = some fn) (hb : fn.body.isNone = false) (hn : (fn.name == "runtime.NumGoroutine") = false) {args : List Value}
    {first captured : Array Value} (hx : a.eval x = .func (.func f) first captured)
    (ha : first.toList ++ xs.toList.map a.eval ++ captured.toList = args)
    (hg : Region.wanted { dst, op := .call { callee := .value x, args := xs, argTypes := ats }, type := ty, pos, after, guard } (yielded ops a.tmps) = true)
    (hc : ∀ w1, LE B w w1 → Calls P f args.toArray w1 fun e w2 => ∃ v, e = .returned v ∧ Below B w1 w2 ∧ WalkB B P ops Qn s (a.put dst v) w2) :
    WalkB B P ops Qn (({ dst, op := .call { callee := .value x, args := xs, argTypes := ats }, type := ty, pos, after, guard }, false) :: s) a w :=
  fun w1 h1 => .inl ⟨hg, by
    rw [run_callf f fn hf hb hn first captured hx w1, show first ++ xs.map a.eval ++ captured = args.toArray from Array.ext' (by simpa using ha)]
    exact (hc w1 h1)⟩

/-- An operation that alone may come up: what it comes to. -/
theorem WalkB.openrun {o : Oper} (hg : Region.wanted o (yielded ops a.tmps) = true)
    (hr : ∀ w1, LE B w w1 → ∃ u w2, (execOp a.eval o).run P w1 = .ok (.value u) w2 ∧ Below B w1 w2 ∧ WalkB B P ops Qn s (a.put o.dst u) w2) : WalkB B P ops Qn ((o, false) :: s) a w :=
  fun w1 h1 => .inl ⟨hg, by obtain ⟨u, w2, e, h2, h3⟩ := hr w1 h1; rw [e]; exact ⟨h2, h3⟩⟩
theorem WalkB.openskip {o : Oper} (hg : Region.wanted o (yielded ops a.tmps) = true)
    (hr : ∀ w1, LE B w w1 → ∃ w2, (execOp a.eval o).run P w1 = .ok .skip w2 ∧ Below B w1 w2 ∧ WalkB B P ops Qn s (a.put o.dst undef) w2) : WalkB B P ops Qn ((o, false) :: s) a w :=
  fun w1 h1 => .inl ⟨hg, by obtain ⟨w2, e, h2, h3⟩ := hr w1 h1; rw [e]; exact ⟨h2, h3⟩⟩
end
end Go.Flow
end
