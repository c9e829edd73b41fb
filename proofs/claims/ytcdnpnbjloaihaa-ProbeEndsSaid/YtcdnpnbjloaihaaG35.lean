/- Parts of the proof: PbPlain2, PbPlain3, A33p. -/
import Derived.Test.YtcdnpnbjloaihaaProg
import Derived.Test.YtcdnpnbjloaihaaG18
import Derived.Test.YtcdnpnbjloaihaaG33
set_option linter.unusedSimpArgs false
set_option linter.unusedVariables false
section
/- A block that is filled with known pixels, and no other one, is not listed any more (plain). -/
namespace Go.Proofs.Ytcdnpnbjloaihaa
open Go.RowKit Go.Flow Go.Plain
open Go.Proofs

theorem in_rq {W H q p : Nat} (h : inR (rq W H q).1 (rq W H q).2.1 (rq W H q).2.2.1 (rq W H q).2.2.2 ((p : Int) % W) ((p : Int) / W) = true) : q % four W = p % W / 4 ∧ q / four W = p / W / 4 := by
  have e1 : (p : Int) % W = ((p % W : Nat) : Int) := by simp
  have e2 : (p : Int) / W = ((p / W : Nat) : Int) := by simp
  rw [e1, e2] at h
  generalize p % W = i at *
  generalize p / W = j at *
  unfold rq rectq inR at h
  generalize q % four W = t at *
  generalize q / four W = s at *
  have h := of_decide_eq_true h
  simp only at h
  omega
theorem rq_uniq {W q q0 : Nat} (h1 : q % four W = q0 % four W) (h2 : q / four W = q0 / four W) : q = q0 := by
  rw [← Nat.div_add_mod q (four W), ← Nat.div_add_mod q0 (four W), h1, h2]
theorem unk_other {W H q q0 p : Nat} (f g : Nat → Int) (hq : q ≠ q0) : unkR W (fillF W f g (rq W H q0)) (rq W H q) p = unkR W f (rq W H q) p := by
  unfold unkR unkB
  cases hi : inR (rq W H q).1 (rq W H q).2.1 (rq W H q).2.2.1 (rq W H q).2.2.2 ((p : Int) % W) ((p : Int) / W)
  · simp
  · have h0 : unkR W f (rq W H q0) p = false := by
      unfold unkR unkB
      cases hi0 : inR (rq W H q0).1 (rq W H q0).2.1 (rq W H q0).2.2.1 (rq W H q0).2.2.2 ((p : Int) % W) ((p : Int) / W)
      · simp
      · have a := in_rq hi
        have b := in_rq hi0
        exact absurd (rq_uniq (by rw [a.1, b.1]) (by rw [a.2, b.2])) hq
    unfold fillF
    rw [h0]
    simp
theorem unk_same {W H q p : Nat} (f g : Nat → Int) (hg : g p ≠ 2) : unkR W (fillF W f g (rq W H q)) (rq W H q) p = false := by
  have h0 : unkR W f (rq W H q) p = (decide (f p = 2) && inR (rq W H q).1 (rq W H q).2.1 (rq W H q).2.2.1 (rq W H q).2.2.2 ((p : Int) % W) ((p : Int) / W)) := rfl
  show (decide (fillF W f g (rq W H q) p = 2) && inR (rq W H q).1 (rq W H q).2.1 (rq W H q).2.2.1 (rq W H q).2.2.2 ((p : Int) % W) ((p : Int) / W)) = false
  unfold fillF
  rw [h0]
  cases hi : inR (rq W H q).1 (rq W H q).2.1 (rq W H q).2.2.1 (rq W H q).2.2.2 ((p : Int) % W) ((p : Int) / W)
  · simp
  · by_cases h2 : f p = 2 <;> simp [h2, hg]
theorem cnt_same {U V : Nat → Bool} : ∀ n, (∀ k, k < n → U k = V k) → cnt U n = cnt V n
  | 0, _ => rfl
  | n + 1, h => by rw [cnt_succ, cnt_succ, cnt_same n (fun k hk => h k (by omega)), h n (by omega)]
theorem cnt_none {U : Nat → Bool} : ∀ n, (∀ k, k < n → U k = false) → cnt U n = 0
  | 0, _ => rfl
  | n + 1, h => by rw [cnt_succ, cnt_none n (fun k hk => h k (by omega)), h n (by omega)]; simp
theorem hasU_fill {W H n q q0 : Nat} (f g : Nat → Int) (hg : ∀ p, p < n → g p ≠ 2) : hasU W n (fillF W f g (rq W H q0)) (rq W H q) = (hasU W n f (rq W H q) && decide (q ≠ q0)) := by
  unfold hasU
  by_cases hq : q = q0
  · subst hq
    rw [cnt_none n (fun k hk => unk_same f g (hg k hk))]
    simp
  · rw [cnt_same n (fun k _ => unk_other f g hq)]
    simp [hq]
theorem rq_inj {W H q q0 : Nat} (h : rq W H q = rq W H q0) : q = q0 := by
  have h1 := congrArg (fun r : Rc => r.1) h
  have h2 := congrArg (fun r : Rc => r.2.1) h
  simp only [rq, rectq] at h1 h2
  exact rq_uniq (W := W) (by omega) (by omega)
theorem bls_fill {W H n q0 : Nat} (f g : Nat → Int) (hg : ∀ p, p < n → g p ≠ 2) : ∀ m, bls W H n (fillF W f g (rq W H q0)) m = (bls W H n f m).filter (fun r => decide (r ≠ rq W H q0))
  | 0 => rfl
  | m + 1 => by
    rw [bls_succ, bls_succ, List.filter_append, bls_fill f g hg m, hasU_fill f g hg]
    congr 1
    by_cases hq : m = q0
    · subst hq
      cases hasU W n f (rq W H m) <;> simp
    · have hne : rq W H m ≠ rq W H q0 := fun h => hq (rq_inj h)
      cases hasU W n f (rq W H m) <;> simp [hq, hne]
theorem bls_mem' {W H n : Nat} (f : Nat → Int) : ∀ m r, r ∈ bls W H n f m → ∃ q, q < m ∧ r = rq W H q
  | 0, _, h => absurd h (by simp [bls])
  | m + 1, r, h => by
    rw [bls_succ, List.mem_append] at h
    rcases h with h | h
    · obtain ⟨q, hq, e⟩ := bls_mem' f m r h
      exact ⟨q, by omega, e⟩
    · cases hh : hasU W n f (rq W H m) <;> rw [hh] at h <;> simp at h
      exact ⟨m, by omega, h⟩
theorem bls_nodup {W H n : Nat} (f : Nat → Int) : ∀ m, (bls W H n f m).Nodup
  | 0 => by simp [bls]
  | m + 1 => by
    rw [bls_succ, List.nodup_append]
    refine ⟨bls_nodup f m, by split <;> simp, fun a ha b hb e => ?_⟩
    subst e
    obtain ⟨q, hq, e⟩ := bls_mem' f m a ha
    cases hh : hasU W n f (rq W H m) <;> rw [hh] at hb <;> simp at hb
    have := rq_inj (e.symm.trans hb)
    omega
theorem filter_at {α : Type} [DecidableEq α] : ∀ (l : List α) (k : Nat) (a : α), l.Nodup → l[k]? = some a → l.filter (fun r => decide (r ≠ a)) = l.take k ++ l.drop (k + 1)
  | [], k, a, _, h => by simp at h
  | x :: l, 0, a, hn, h => by
    have e : x = a := by simpa using h
    subst e
    have hx : x ∉ l := (List.nodup_cons.1 hn).1
    simp only [List.filter_cons, List.take_zero, List.drop_succ_cons, List.drop_zero, List.nil_append]
    simp only [ne_eq, not_true, decide_false, Bool.false_eq_true, if_false]
    exact List.filter_eq_self.2 fun y hy => by simp; exact fun e => hx (e ▸ hy)
  | x :: l, k + 1, a, hn, h => by
    have hx : x ∉ l := (List.nodup_cons.1 hn).1
    have h' : l[k]? = some a := by simpa using h
    have hne : x ≠ a := fun e => hx (e ▸ List.mem_of_getElem? h')
    rw [List.filter_cons, if_pos (by simpa using hne), filter_at l k a (List.nodup_cons.1 hn).2 h']
    rfl
/-- Filling the block at k with known pixels takes it out of the list. -/
theorem blocks_fill {W H n k : Nat} {r : Rc} (f g : Nat → Int) (hg : ∀ p, p < n → g p ≠ 2) (hk : (blocks W H n f)[k]? = some r) :
    blocks W H n (fillF W f g r) = (blocks W H n f).take k ++ (blocks W H n f).drop (k + 1) := by
  obtain ⟨q, -, rfl⟩ := bls_mem' f _ r (List.mem_of_getElem? hk)
  rw [← filter_at _ _ _ (show (blocks W H n f).Nodup from bls_nodup f _) hk]
  exact bls_fill f g hg _
end Go.Proofs.Ytcdnpnbjloaihaa
end

section
/- Each unknown pixel lies in exactly one block; each block is a good one, and has an unknown pixel; blocks come in order (plain). -/
namespace Go.Proofs.Ytcdnpnbjloaihaa
open Go.RowKit Go.Flow Go.Plain
open Go.Proofs

/-- A pixel in a rectangle. -/
def inP (W : Nat) (r : Rc) (p : Nat) : Bool := inR r.1 r.2.1 r.2.2.1 r.2.2.2 ((p : Int) % W) ((p : Int) / W)
def qOf (W p : Nat) : Nat := p / W / 4 * four W + p % W / 4
theorem qOf_lt {W H p : Nat} (hp : p < H * W) : qOf W p < four H * four W := by
  have hW : 0 < W := by
    rcases Nat.eq_zero_or_pos W with h | h
    · subst h; simp at hp
    · exact h
  have h1 : p % W / 4 < four W := by have := Nat.mod_lt p hW; unfold four; omega
  have h2 : p / W / 4 + 1 ≤ four H := by have : p / W < H := (Nat.div_lt_iff_lt_mul hW).2 hp; unfold four; omega
  have h3 := Nat.mul_le_mul_right (four W) h2
  rw [Nat.add_mul, Nat.one_mul] at h3
  unfold qOf
  omega
theorem qOf_in {W H p : Nat} (hp : p < H * W) : inP W (rq W H (qOf W p)) p = true := by
  have hW : 0 < W := by
    rcases Nat.eq_zero_or_pos W with h | h
    · subst h; simp at hp
    · exact h
  have h1 := Nat.mod_lt p hW
  have h2 : p / W < H := (Nat.div_lt_iff_lt_mul hW).2 hp
  have e1 : (p : Int) % W = ((p % W : Nat) : Int) := by simp
  have e2 : (p : Int) / W = ((p / W : Nat) : Int) := by simp
  unfold inP qOf
  rw [rq_at (by unfold four; omega), e1, e2]
  generalize p % W = i at *
  generalize p / W = j at *
  unfold rectq inR
  refine decide_eq_true ?_
  simp only
  omega
theorem qOf_uniq {W H q p : Nat} (hp : p < H * W) (h : inP W (rq W H q) p = true) : q = qOf W p := by
  have a := in_rq h
  have b := in_rq (qOf_in (W := W) (H := H) hp)
  exact rq_uniq (by rw [a.1, b.1]) (by rw [a.2, b.2])
theorem cnt_pos {U : Nat → Bool} : ∀ {n p : Nat}, p < n → U p = true → 0 < cnt U n
  | 0, _, h, _ => absurd h (by omega)
  | n + 1, p, h, hu => by
    rw [cnt_succ]
    rcases Nat.lt_or_ge p n with h1 | h1
    · have := cnt_pos (U := U) h1 hu
      split <;> omega
    · obtain rfl : p = n := by omega
      rw [if_pos hu]
      have := cnt_nonneg U p
      omega
theorem pos_cnt {U : Nat → Bool} : ∀ {n : Nat}, 0 < cnt U n → ∃ p, p < n ∧ U p = true
  | 0, h => absurd h (by rw [cnt_zero]; omega)
  | n + 1, h => by
    rw [cnt_succ] at h
    by_cases hu : U n = true
    · exact ⟨n, by omega, hu⟩
    · rw [if_neg hu] at h
      obtain ⟨p, hp, hpu⟩ := pos_cnt (U := U) (n := n) (by omega)
      exact ⟨p, by omega, hpu⟩
theorem mem_bls {W H n : Nat} {f : Nat → Int} : ∀ {m q : Nat}, q < m → hasU W n f (rq W H q) = true → rq W H q ∈ bls W H n f m
  | 0, _, h, _ => absurd h (by omega)
  | m + 1, q, h, hu => by
    rw [bls_succ, List.mem_append]
    rcases Nat.lt_or_ge q m with h1 | h1
    · exact .inl (mem_bls h1 hu)
    · obtain rfl : q = m := by omega
      rw [hu]; simp
theorem bls_has {W H n : Nat} {f : Nat → Int} : ∀ {m : Nat} {r : Rc}, r ∈ bls W H n f m → hasU W n f r = true
  | 0, _, h => absurd h (by simp [bls])
  | m + 1, r, h => by
    rw [bls_succ, List.mem_append] at h
    rcases h with h | h
    · exact bls_has h
    · cases hh : hasU W n f (rq W H m) <;> rw [hh] at h <;> simp at h
      rw [h]; exact hh
/-- Each unknown pixel lies in exactly one of the blocks. -/
theorem covers {W H p : Nat} {f : Nat → Int} (hp : p < H * W) (hf : f p = 2) : ∃ (i : Nat) (r : Rc), (blocks W H (H * W) f)[i]? = some r ∧ inP W r p = true ∧ ∀ (j : Nat) (r' : Rc), (blocks W H (H * W) f)[j]? = some r' → inP W r' p = true → j = i := by
  have hin := qOf_in (W := W) (H := H) hp
  have hU : hasU W (H * W) f (rq W H (qOf W p)) = true := by
    unfold hasU
    refine decide_eq_true (cnt_pos hp ?_)
    show (decide (f p = 2) && inP W (rq W H (qOf W p)) p) = true
    rw [hin, decide_eq_true hf]; rfl
  have hm : rq W H (qOf W p) ∈ blocks W H (H * W) f := mem_bls (qOf_lt hp) hU
  obtain ⟨i, hi, he⟩ := List.getElem_of_mem hm
  refine ⟨i, _, by rw [List.getElem?_eq_getElem hi, he], hin, fun j r' hj hr => ?_⟩
  obtain ⟨q, -, rfl⟩ := bls_mem' f _ r' (List.mem_of_getElem? hj)
  have hq := qOf_uniq hp hr
  subst hq
  obtain ⟨hjl, hje⟩ := List.getElem?_eq_some_iff.1 hj
  have hnd : (blocks W H (H * W) f).Nodup := bls_nodup f _
  have hpw := List.pairwise_iff_getElem.1 hnd
  rcases Nat.lt_trichotomy j i with h1 | h1 | h1
  · exact absurd (hje.trans he.symm) (hpw j i hjl hi h1)
  · exact h1
  · exact absurd (he.trans hje.symm) (hpw i j hi hjl h1)
/-- Each block has an unknown pixel. -/
theorem covered {W H n i : Nat} {r : Rc} {f : Nat → Int} (h : (blocks W H n f)[i]? = some r) : ∃ p, p < n ∧ f p = 2 ∧ inP W r p = true := by
  have hU := bls_has (List.mem_of_getElem? h)
  obtain ⟨p, hp, hu⟩ := pos_cnt (of_decide_eq_true hU)
  have hu' : (decide (f p = 2) && inP W r p) = true := hu
  rw [Bool.and_eq_true] at hu'
  exact ⟨p, hp, of_decide_eq_true hu'.1, hu'.2⟩
end Go.Proofs.Ytcdnpnbjloaihaa
end

section
/- Chapter 33, plain: blocks come in order; each is a good rectangle. -/
namespace Go.Proofs.Ytcdnpnbjloaihaa
open Go.RowKit Go.Flow Go.AV Go.Plain
theorem set_oneB {n k : Nat} {f : Nat → Bool} {e : Bool} (g : Nat → Bool) (h1 : g k = e) (h2 : ∀ i, ¬i = k → g i = f i) : ∀ i, i < n → ∀ j, j < 1 → setF (bF f) k 0 1 [bC e] i j = bF g i j ∧ immC (setF (bF f) k 0 1 [bC e] i j) = true := fun i hi => cell1 (by
  have : setF (bF f) k 0 1 [bC e] i 0 = bF g i 0 := by
    unfold setF
    by_cases h : i = k
    · subst h
      rw [Nat.beq_refl]
      exact congrArg bC h1.symm
    · rw [show Nat.beq i k = false from Bool.eq_false_iff.2 fun h' => h (Nat.eq_of_beq_eq_true h')]
      exact congrArg bC (h2 i h).symm
  rw [this]
  exact ⟨rfl, rfl⟩)
theorem leL_imm {h : Nat → Option AB} {ren : List (Nat × Option Nat)} : ∀ {l : List CV}, l.all immC = true → LeL (LeC h ren) l l
  | [], _ => trivial
  | x :: l, hl => by
    simp only [List.all_cons, Bool.and_eq_true] at hl
    exact ⟨LeC.refl _ hl.1, leL_imm hl.2⟩
theorem bls_eq (W H n : Nat) (f : Nat → Int) : ∀ m, bls W H n f m = ((List.range m).filter (fun q => hasU W n f (rq W H q))).map (rq W H)
  | 0 => rfl
  | m + 1 => by
    rw [bls_succ, bls_eq W H n f m, List.range_succ, List.filter_append, List.map_append]
    congr 1
    cases h : hasU W n f (rq W H m) <;> simp [List.filter, h]
theorem blocks_order {W H n i : Nat} {f : Nat → Int} (hi : 0 < i) (h : i < (blocks W H n f).length) : ∃ q q', q < q' ∧ q' < four H * four W ∧ (blocks W H n f).getD (i - 1) rcZ = rq W H q ∧ (blocks W H n f).getD i rcZ = rq W H q' := by
  unfold blocks at h ⊢
  rw [bls_eq] at h ⊢
  rw [List.length_map] at h
  have hp : List.Pairwise (· < ·) ((List.range (four H * four W)).filter (fun q => hasU W n f (rq W H q))) := List.Pairwise.filter _ (List.pairwise_lt_range)
  have h1 := List.pairwise_iff_getElem.1 hp (i - 1) i (by omega) h (by omega)
  refine ⟨_, _, h1, ?_, ?_, ?_⟩
  · have := List.getElem_mem h
    rw [List.mem_filter, List.mem_range] at this
    exact this.1
  · rw [List.getD_eq_getElem?_getD, List.getElem?_map, List.getElem?_eq_getElem (by omega)]
    rfl
  · rw [List.getD_eq_getElem?_getD, List.getElem?_map, List.getElem?_eq_getElem h]
    rfl
theorem blocks_at {W H n i : Nat} {f : Nat → Int} (h : i < (blocks W H n f).length) : ∃ q, q < four H * four W ∧ (blocks W H n f).getD i rcZ = rq W H q := by
  unfold blocks at h ⊢
  rw [bls_eq] at h ⊢
  rw [List.length_map] at h
  have := List.getElem_mem h
  rw [List.mem_filter, List.mem_range] at this
  exact ⟨_, this.1, by rw [List.getD_eq_getElem?_getD, List.getElem?_map, List.getElem?_eq_getElem h]; rfl⟩
/-- What one block is. -/
structure RqOk (W H : Nat) (r : Rc) : Prop where
  x0 : 0 ≤ r.1
  y0 : 0 ≤ r.2.1
  xm : r.1 % 4 = 0
  ym : r.2.1 % 4 = 0
  xw : r.1 < W
  yh : r.2.1 < H
  x1 : r.2.2.1 = min (r.1 + 3) ((W : Int) - 1)
  y1 : r.2.2.2 = min (r.2.1 + 3) ((H : Int) - 1)
theorem rq_ok {W H q : Nat} (h : q < four H * four W) : RqOk W H (rq W H q) := by
  have h0 : 0 < four W := Nat.pos_of_ne_zero fun e => by rw [e, Nat.mul_zero] at h; omega
  have h1 : q % four W < four W := Nat.mod_lt _ h0
  have h2 : q / four W < four H := Nat.div_lt_of_lt_mul (by rw [Nat.mul_comm]; exact h)
  have e1 : (rq W H q).1 = ((4 * (q % four W) : Nat) : Int) := rfl
  have e2 : (rq W H q).2.1 = ((4 * (q / four W) : Nat) : Int) := rfl
  have e3 : (rq W H q).2.2.1 = ((min (4 * (q % four W) + 4) W : Nat) : Int) - 1 := rfl
  have e4 : (rq W H q).2.2.2 = ((min (4 * (q / four W) + 4) H : Nat) : Int) - 1 := rfl
  generalize q % four W = t at *
  generalize q / four W = s at *
  unfold four at h1 h2
  exact ⟨by omega, by omega, by omega, by omega, by omega, by omega, by omega, by omega⟩
theorem rq_lt {W H q q' : Nat} (h : q < q') (h' : q' < four H * four W) : (rq W H q).2.1 < (rq W H q').2.1 ∨ ((rq W H q').2.1 = (rq W H q).2.1 ∧ (rq W H q).1 < (rq W H q').1) := by
  have e1 : (rq W H q).1 = ((4 * (q % four W) : Nat) : Int) := rfl
  have e2 : (rq W H q).2.1 = ((4 * (q / four W) : Nat) : Int) := rfl
  have e3 : (rq W H q').1 = ((4 * (q' % four W) : Nat) : Int) := rfl
  have e4 : (rq W H q').2.1 = ((4 * (q' / four W) : Nat) : Int) := rfl
  have h1 : q / four W ≤ q' / four W := Nat.div_le_div_right (Nat.le_of_lt h)
  rcases Nat.lt_or_ge (q / four W) (q' / four W) with h2 | h2
  · left; omega
  · right
    have h3 : q / four W = q' / four W := by omega
    have d1 := Nat.div_add_mod q (four W)
    have d2 := Nat.div_add_mod q' (four W)
    rw [h3] at d1
    omega
theorem cnt_one {U : Nat → Bool} {i : Nat} (hi : U i = true) : ∀ {n : Nat}, i < n → (∀ j, j < n → U j = true → j = i) → cnt U n = 1
  | 0, h, _ => absurd h (by omega)
  | n + 1, h, hu => by
    rw [cnt_succ]
    by_cases e : i = n
    · subst e
      rw [cnt_none _ fun k hk => by
        cases hk' : U k
        · rfl
        · have := hu k (by omega) hk'; omega, hi]
      rfl
    · rw [cnt_one hi (by omega) fun j hj hj' => hu j (by omega) hj']
      have : U n = false := by
        cases hn : U n
        · rfl
        · have := hu n (by omega) hn; omega
      rw [this]
      rfl
/-- made's image. -/
theorem MkR.im {L : List Bm} {Y : List Mt} {x : Im} (h : MkR L Y x) : ∃ (W H : Nat) (f : Nat → Int), x = ⟨W, H, H * W, f⟩ ∧ W ≤ 13 ∧ H ≤ 11 ∧ (∀ p, f p = 0 ∨ f p = 1 ∨ f p = 2) ∧ chkI W H (H * W) f = 0 := by
  rcases h.2.2.2.2 with ⟨-, rfl⟩ | ⟨h0, h1, h2, h3, h4⟩
  · exact ⟨0, 0, fun _ => 0, rfl, by omega, by omega, fun _ => .inl rfl, by kernel_rfl⟩
  · obtain ⟨xW, xH, xn, xf⟩ := x
    dsimp only at h1 h2 h3 h4
    subst h1 h2 h3
    have hb : ∀ p, xf p = 0 ∨ xf p = 1 ∨ xf p = 2 := fun p => by
      have := putF_bd 9 7 (L.getD 0 bmZ).d (Y.getD 0 mtZ).dx (Y.getD 0 mtZ).dy p
      have := h4 p
      unfold putK at this
      omega
    exact ⟨13, 11, xf, rfl, by omega, by omega, hb, chk13 fun p _ => by have := hb p; omega⟩
theorem MkR.bds {L : List Bm} {Y : List Mt} {x : Im} (h : MkR L Y x) : (-1000 ≤ x.W ∧ x.W ≤ 1000) ∧ x.n ≤ 143 := by
  rcases h.2.2.2.2 with ⟨-, rfl⟩ | ⟨-, h1, h2, h3, -⟩
  · exact ⟨⟨by decide, by decide⟩, by decide⟩
  · omega
end Go.Proofs.Ytcdnpnbjloaihaa
end
