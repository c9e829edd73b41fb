/- Parts of the proof: AMem6, AMem7, AMem8, AMem9. -/
import Derived.Test.YtclaanggpcjnbaaG08
import Derived.Laws.StructEq
set_option linter.unusedSimpArgs false
set_option linter.unusedVariables false
section
/- Calls that are lent boxes of the caller's, directly or as what a closure has captured. No condition. -/
namespace Go.AV
open Go Go.RowKit Go.Flow
section
variable {P : Program}
def posOf : List Nat → Nat → Option Nat
  | [], _ => none
  | a :: l, id => bif Nat.beq a id then some 0 else match posOf l id with
    | some i => some (i + 1)
    | none => none
theorem posOf_at : ∀ {l : List Nat} {id i : Nat}, posOf l id = some i → l[i]? = some id
  | a :: l, id, i, h => by
    unfold posOf at h
    cases hb : Nat.beq a id with
    | true =>
      rw [hb] at h
      cases h
      rw [Nat.eq_of_beq_eq_true hb]
      rfl
    | false =>
      rw [hb] at h
      simp only [cond_false] at h
      cases hp : posOf l id with
      | none => rw [hp] at h; cases h
      | some j =>
        rw [hp] at h
        cases h
        simpa using posOf_at hp
/-- The caller's ids, lent. -/
def lendB (ids : List Nat) : CV → CV
  | .pt id sz k j => match posOf ids id with
    | some i => .pt (1000 + i) sz k j
    | none => .any
  | .ow id => match posOf ids id with
    | some i => .ow (1000 + i)
    | none => .any
  | .fn .. => .any
  | x => x
def lendC (ids : List Nat) : CV → CV
  | .fn f m C => .fn f m fun i => lendB ids (C i)
  | x => lendB ids x
def lendV (ids : List Nat) : V1 → V1
  | .c x => .c (lendC ids x)
  | .ag l => .ag (l.map (lendC ids))
def lentL : Nat → List AB → List (Nat × AB)
  | _, [] => []
  | i, B :: bs => (1000 + i, B) :: lentL (i + 1) bs
theorem lentL_at : ∀ {bs : List AB} {n i : Nat}, assoc (lentL n bs) i = if 1000 + n ≤ i then bs[i - (1000 + n)]? else none
  | [], n, i => by simp [lentL, assoc]
  | B :: bs, n, i => by
    unfold lentL assoc
    cases hb : Nat.beq i (1000 + n) with
    | true =>
      have := Nat.eq_of_beq_eq_true hb
      subst this
      simp
    | false =>
      have hne : i ≠ 1000 + n := fun e => by rw [e, Nat.beq_refl] at hb; cases hb
      simp only [cond_false]
      rw [lentL_at]
      by_cases h : 1000 + (n + 1) ≤ i
      · rw [if_pos h, if_pos (by omega), show i - (1000 + n) = (i - (1000 + (n + 1))) + 1 by omega, List.getElem?_cons_succ]
      · rw [if_neg h, if_neg (by omega)]
theorem lentL_length : ∀ {bs : List AB} {n : Nat}, (lentL n bs).length = bs.length
  | [], _ => rfl
  | _ :: bs, n => by simp [lentL, lentL_length (bs := bs)]
def LendOk (S : St) : List Nat → List AB → Prop
  | [], [] => True
  | id :: ids, B :: bs => (∃ F, S.h id = some ⟨B.row, B.n, B.sz, B.ty, F⟩ ∧ (B.row = true → 0 < B.n) ∧ ∀ k, k < B.n → ∀ j, j < B.sz → F k j = B.F k j ∧ immC (B.F k j) = true) ∧ LendOk S ids bs
  | _, _ => False
theorem lendOk_at {S : St} : ∀ {ids : List Nat} {bs : List AB}, LendOk S ids bs → ids.length = bs.length ∧ ∀ (i id : Nat), ids[i]? = some id → ∃ B F, bs[i]? = some B ∧ S.h id = some ⟨B.row, B.n, B.sz, B.ty, F⟩ ∧ (B.row = true → 0 < B.n) ∧ ∀ k, k < B.n → ∀ j, j < B.sz → F k j = B.F k j ∧ immC (B.F k j) = true
  | [], [], _ => ⟨rfl, fun i id h => by simp at h⟩
  | id :: ids, B :: bs, h => by
    obtain ⟨h1, h2⟩ := lendOk_at h.2
    refine ⟨by simp [h1], fun i id' hi => ?_⟩
    cases i with
    | zero => cases hi; obtain ⟨F, hF⟩ := h.1; exact ⟨B, F, rfl, hF⟩
    | succ i => simpa using h2 i id' (by simpa using hi)
  | [], _ :: _, h => h.elim
  | _ :: _, [], h => h.elim
def LendImm : List AB → Prop
  | [] => True
  | B :: bs => (∀ k, k < B.n → ∀ j, j < B.sz → immC (B.F k j) = true) ∧ LendImm bs
theorem lendImm_at : ∀ {bs : List AB}, LendImm bs → ∀ (i : Nat) (B : AB), bs[i]? = some B → ∀ k, k < B.n → ∀ j, j < B.sz → immC (B.F k j) = true
  | B :: bs, h, 0, B', hi => by cases hi; exact h.1
  | B :: bs, h, i + 1, B', hi => lendImm_at h.2 i B' (by simpa using hi)
def nodupB : List Nat → Bool
  | [] => true
  | a :: l => !(l.any (Nat.beq a)) && nodupB l
theorem nodupB_inj : ∀ {l : List Nat}, nodupB l = true → ∀ {i j x : Nat}, l[i]? = some x → l[j]? = some x → i = j
  | a :: l, h, i, j, x, hi, hj => by
    unfold nodupB at h
    rw [Bool.and_eq_true, Bool.not_eq_true'] at h
    have no : ∀ k, l[k]? = some a → False := fun k hk => by
      have : l.any (Nat.beq a) = true := List.any_eq_true.2 ⟨a, List.mem_of_getElem? hk, Nat.beq_refl a⟩
      rw [this] at h
      cases h.1
    cases i with
    | zero =>
      cases j with
      | zero => rfl
      | succ j =>
        cases hi
        exact (no j (by simpa using hj)).elim
    | succ i =>
      cases j with
      | zero =>
        cases hj
        exact (no i (by simpa using hi)).elim
      | succ j => rw [nodupB_inj h.2 (by simpa using hi : l[i]? = some x) (by simpa using hj)]
def zipW : List Nat → List AB → List (Nat × Option AB)
  | id :: ids, B :: bs => (id, some B) :: zipW ids bs
  | _, _ => []
theorem zipW_in : ∀ {ids : List Nat} {bs : List AB}, ids.length = bs.length → nodupB ids = true → ∀ (i id : Nat) (B : AB) (h : Nat → Option AB), ids[i]? = some id → bs[i]? = some B → look (zipW ids bs) h id = some B
  | id :: ids, B :: bs, hl, hn, i, id', B', h, hi, hB => by
    show put (look (zipW ids bs) h) id (some B) id' = some B'
    cases i with
    | zero => cases hi; cases hB; exact put_same _ _ _
    | succ i =>
      have hne : id' ≠ id := fun e => by
        have := nodupB_inj hn (i := i + 1) (j := 0) (x := id') hi (by rw [e]; rfl)
        omega
      rw [put_ne _ _ hne]
      unfold nodupB at hn
      rw [Bool.and_eq_true] at hn
      exact zipW_in (by simpa using hl) hn.2 i id' B' h (by simpa using hi) (by simpa using hB)
theorem zipW_out : ∀ {ids : List Nat} {bs : List AB} (id : Nat) (h : Nat → Option AB), id ∉ ids → look (zipW ids bs) h id = h id
  | id' :: ids, B :: bs, id, h, hn => by
    show put (look (zipW ids bs) h) id' (some B) id = h id
    simp only [List.mem_cons, not_or] at hn
    rw [put_ne _ _ hn.1]
    exact zipW_out id h hn.2
  | [], _, _, _, _ => by cases ‹List AB› <;> rfl
  | _ :: _, [], _, _, _ => rfl

theorem HCalls.at {f : FuncId} {args : List V1} {ids : List Nat} {bs bs' : List AB} {r : AV} {b0 : Base} {σ : Nat → Option Value} {S : St} {a : Act} {w : World} {dst : Option Tmp} (h : HCalls P f (args.map (lendV ids)) (lentL 0 bs) r (lentL 0 bs')) (R : Rel0 b0 σ S a w) (hd : dOk S.n dst = true)
    {vals : List Value} (hv : RepL (RepV σ (out b0 σ S.h) w) args vals) (hL : LendOk S ids bs) (hnd : nodupB ids = true) (hlen : bs'.length = bs.length) (hI : LendImm bs') :
    Calls P f vals.toArray w fun e w' => ∃ v, e = .returned v ∧ Rel b0 (S.eff dst ⟨r, zipW ids bs', []⟩) (a.put dst v) w' := by
  obtain ⟨hl, hat⟩ := lendOk_at hL
  have hσ : ∀ (i id : Nat), ids[i]? = some id → ∃ v b, σ id = some v ∧ baseBlk v = some b := fun i id hi => by
    obtain ⟨B, F, _, h2, h3, _⟩ := hat i id hi
    obtain ⟨v, e1, e2⟩ := R.hp.blk id _ h2
    rcases e2 with ⟨g0, _, g⟩ | ⟨b, cap, cs, g1, _⟩
    · have := h3 g0
      have : B.n = 0 := g
      omega
    · exact ⟨v, b, e1, g1.blk⟩
  let fix : Nat → Option Value := fun i => if 1000 ≤ i then (ids[i - 1000]?).bind σ else none
  have hfix : ∀ {i : Nat} {v : Value}, fix i = some v → 1000 ≤ i ∧ ∃ id, ids[i - 1000]? = some id ∧ σ id = some v := fun {i v} h => by
    simp only [fix] at h
    split at h
    · rename_i h1
      obtain ⟨id, e1, e2⟩ := Option.bind_eq_some_iff.1 h
      exact ⟨h1, id, e1, e2⟩
    · cases h
  have fixi : ∀ {i id : Nat}, ids[i]? = some id → fix (1000 + i) = σ id := fun {i id} hi => by
    simp only [fix]
    rw [if_pos (by omega), show 1000 + i - 1000 = i by omega, hi]
    rfl
  let Y : Nat → Prop := fun b => ∃ i v, fix i = some v ∧ baseBlk v = some b
  have hYo : ∀ b, Y b → own σ S.h b := fun b ⟨i, v, h1, h2⟩ => by
    obtain ⟨_, id, e1, e2⟩ := hfix h1
    obtain ⟨B, F, _, h3, _⟩ := hat _ id e1
    exact ⟨id, v, by rw [h3]; simp, e2, h2⟩
  let b1 : Base := ⟨w, fun b => out b0 σ S.h b ∧ ¬ Y b, Y, fix, fun b hb => own_lt R hb.1, fun b hb => own_lt R (.inl (hYo b hb)), fun b hb => hb.2, fun i v hi => by
    obtain ⟨h1, id, e1, e2⟩ := hfix hi
    obtain ⟨v', b, e3, e4⟩ := hσ _ id e1
    rw [e2] at e3
    cases e3
    exact ⟨h1, b, e4⟩, fun _ _ => False, fun _ _ _ => True, none, fun _ _ h => h.elim, fun _ _ _ _ _ _ _ _ => trivial⟩
  have dom : ∀ {bs : List AB} {i : Nat}, bs.length = ids.length → assoc (lentL 0 bs) i ≠ none → ∃ k id, i = 1000 + k ∧ ids[k]? = some id ∧ bs[k]? = assoc (lentL 0 bs) i := fun {bs i} hbl hi => by
    rw [lentL_at] at hi ⊢
    by_cases h1 : 1000 + 0 ≤ i
    · rw [if_pos h1] at hi ⊢
      have hlt : i - (1000 + 0) < bs.length := Nat.lt_of_not_le fun hge => hi (List.getElem?_eq_none hge)
      exact ⟨i - (1000 + 0), ids[i - (1000 + 0)]'(by omega), by omega, List.getElem?_eq_getElem _, rfl⟩
    · rw [if_neg h1] at hi
      exact absurd rfl hi
  have ownY : ∀ {bs : List AB}, bs.length = ids.length → ∀ b, own fix (assoc (lentL 0 bs)) b ↔ Y b := fun {bs} hbl b => ⟨fun ⟨i, v, _, h2, h3⟩ => ⟨i, v, h2, h3⟩, fun ⟨i, v, h2, h3⟩ => by
    obtain ⟨h1, id, e1, e2⟩ := hfix h2
    refine ⟨i, v, ?_, h2, h3⟩
    rw [lentL_at, if_pos (by omega)]
    have := (List.getElem?_eq_some_iff.1 e1).1
    rw [List.getElem?_eq_getElem (by omega)]
    simp⟩
  have outs : ∀ {bs : List AB}, bs.length = ids.length → ∀ b, out b1 fix (assoc (lentL 0 bs)) b ↔ out b0 σ S.h b := fun {bs} hbl b => by
    constructor
    · rintro (h | h)
      · exact .inl (hYo b ((ownY hbl b).1 h))
      · exact h.1
    · intro h
      by_cases hy : Y b
      · exact .inl ((ownY hbl b).2 hy)
      · exact .inr ⟨h, hy⟩
  have toB : ∀ {x : CV} {u : Value}, RepB σ (out b0 σ S.h) w x u → RepB fix (out b1 fix (assoc (lentL 0 bs))) w (lendB ids x) u := fun {x u} hx => by
    cases x with
    | pt id sz k j =>
      obtain ⟨v, b, e1, e2, e3⟩ := hx
      simp only [lendB]
      cases hp : posOf ids id with
      | none => exact trivial
      | some i => exact ⟨v, b, (fixi (posOf_at hp)).trans e1, e2, e3⟩
    | ow id =>
      obtain ⟨e1, e2⟩ := hx
      simp only [lendB]
      cases hp : posOf ids id with
      | none => exact trivial
      | some i => exact ⟨(fixi (posOf_at hp)).trans e1, e2⟩
    | fn f m C => exact trivial
    | _ => exact RepI.less (fun b hb => (outs hl.symm b).1 hb) hx
  have toC : ∀ {x : CV} {u : Value}, RepC σ (out b0 σ S.h) w x u → RepC fix (out b1 fix (assoc (lentL 0 bs))) w (lendC ids x) u := fun {x u} hx => by
    cases x with
    | fn f m C =>
      obtain ⟨g0, vs, g1, g2, g3⟩ := hx
      refine ⟨g0, vs, g1, g2, fun i hi => ?_⟩
      obtain ⟨v, k1, k2, k3⟩ := g3 i hi
      exact ⟨v, k1, k2, toB k3⟩
    | pt id sz k j =>
      have h2 := toB hx.2
      refine ⟨hx.1, ?_⟩
      show match lendB ids (.pt id sz k j) with | .fn f m C => _ | x => RepB fix _ w x u
      simp only [lendB] at h2 ⊢
      cases hp : posOf ids id <;> rw [hp] at h2 <;> exact h2
    | ow id =>
      have h2 := toB hx.2
      refine ⟨hx.1, ?_⟩
      show match lendB ids (.ow id) with | .fn f m C => _ | x => RepB fix _ w x u
      simp only [lendB] at h2 ⊢
      cases hp : posOf ids id <;> rw [hp] at h2 <;> exact h2
    | _ => exact ⟨hx.1, toB hx.2⟩
  have H1 : HRel b1 fix (assoc (lentL 0 bs)) w := by
    refine ⟨fun i B hB => ?_, fun i j v1 v2 b hi hj h1 h2 e1 e2 => ?_, fun b hb => .inr ((ownY hl.symm b).1 hb), fun i v hi => ⟨hi, ?_⟩, fun i _ hi => hi⟩
    · obtain ⟨k, id, rfl, e1, e2⟩ := dom hl.symm (by rw [hB]; simp : assoc (lentL 0 bs) i ≠ none)
      obtain ⟨B', F, g1, g2, g3, g4⟩ := hat k id e1
      rw [hB, g1] at e2
      cases e2
      obtain ⟨v, k1, k2⟩ := R.hp.blk id _ g2
      refine ⟨v, (fixi e1).trans k1, ?_⟩
      rcases k2 with ⟨h0, _, h5⟩ | ⟨b, cap, cs, m1, m2, m3, m4⟩
      · have := g3 h0
        have : B.n = 0 := h5
        omega
      · refine .inr ⟨b, cap, cs, m1, m2, m3, fun k' hk' j hj => ?_⟩
        · obtain ⟨u, n1, n2⟩ := m4 k' hk' j hj
          obtain ⟨hFe, him⟩ := g4 k' hk' j hj
          simp only [hFe] at n2
          exact ⟨u, n1, repC_imm him n2.1 ((repI_imm him n2).less fun b hb => (outs hl.symm b).1 hb)⟩
    · obtain ⟨h1', id1, a1, a2⟩ := hfix h1
      obtain ⟨h2', id2, c1, c2⟩ := hfix h2
      obtain ⟨B1, F1, _, d1, _⟩ := hat _ id1 a1
      obtain ⟨B2, F2, _, d2, _⟩ := hat _ id2 c1
      have := R.hp.inj id1 id2 v1 v2 b (by rw [d1]; simp) (by rw [d2]; simp) a2 c2 e1 e2
      subst this
      have := nodupB_inj hnd a1 c1
      omega
    · obtain ⟨h1', id1, a1, a2⟩ := hfix hi
      rw [lentL_at, if_pos (by omega)]
      have := (List.getElem?_eq_some_iff.1 a1).1
      rw [List.getElem?_eq_getElem (by omega)]
      simp
  refine (h b1 vals H1 (fun i v hi => by
      obtain ⟨h1', id1, a1, a2⟩ := hfix hi
      have := (List.getElem?_eq_some_iff.1 a1).1
      rw [lentL_length]
      omega) (fun b hb => (ownY hl.symm b).2 hb) ?_).mono fun e w' ⟨v, g1, g2, g3, g4⟩ => ⟨v, g1, ?_⟩
  · refine RepL.of_get (by rw [List.length_map, hv.length]) fun i x u e1 e2 => ?_
    rw [List.getElem?_map, Option.map_eq_some_iff] at e1
    obtain ⟨y, e3, rfl⟩ := e1
    obtain ⟨u', e4, e5⟩ := hv.get e3
    rw [e2] at e4
    cases e4
    cases y with
    | c y => exact toC e5
    | ag l =>
      obtain ⟨vs, rfl, hvs⟩ := e5
      refine ⟨vs, rfl, RepL.of_get (by rw [List.length_map, hvs.length]) fun i x u e1 e2 => ?_⟩
      rw [List.getElem?_map, Option.map_eq_some_iff] at e1
      obtain ⟨y, e3, rfl⟩ := e1
      obtain ⟨u', e4, e5⟩ := hvs.get e3
      rw [e2] at e4
      cases e4
      exact toC e5
  · have hbl' : bs'.length = ids.length := hlen.trans hl.symm
    have hK : Keep (own σ S.h) w w' := ⟨g4.os, g4.tape, g4.output, g4.size, fun k hk hno => g4.block k hk fun hy => hno (hYo k hy)⟩
    have hlook : ∀ i, (∃ k id B, ids[k]? = some id ∧ bs'[k]? = some B ∧ i = id ∧ look (zipW ids bs') S.h i = some B) ∨ (i ∉ ids ∧ look (zipW ids bs') S.h i = S.h i) := fun i => by
      by_cases hm : i ∈ ids
      · obtain ⟨k, hk, rfl⟩ := List.getElem_of_mem hm
        have e1 : ids[k]? = some ids[k] := List.getElem?_eq_getElem hk
        have e2 : bs'[k]? = some (bs'[k]'(by omega)) := List.getElem?_eq_getElem _
        exact .inl ⟨k, _, _, e1, e2, rfl, zipW_in hbl'.symm hnd k _ _ S.h e1 e2⟩
      · exact .inr ⟨hm, zipW_out i S.h hm⟩
    have hne : ∀ i, look (zipW ids bs') S.h i ≠ none ↔ S.h i ≠ none := fun i => by
      rcases hlook i with ⟨k, id, B, e1, e2, rfl, e3⟩ | ⟨_, e⟩
      · obtain ⟨B', F', _, d1, _⟩ := hat k i e1
        rw [e3, d1]
        simp
      · rw [e]
    have hown : ∀ b, own σ (look (zipW ids bs') S.h) b ↔ own σ S.h b := fun b => ⟨fun ⟨i, v, h1, h2, h3⟩ => ⟨i, v, (hne i).1 h1, h2, h3⟩, fun ⟨i, v, h1, h2, h3⟩ => ⟨i, v, (hne i).2 h1, h2, h3⟩⟩
    have hout : ∀ b, out b0 σ (look (zipW ids bs') S.h) b ↔ out b0 σ S.h b := fun b => or_congr (hown b) Iff.rfl
    have H' : HRel b0 σ (look (zipW ids bs') S.h) w' := by
      refine ⟨fun i B hB => ?_, fun i j v1 v2 b hi hj => R.hp.inj i j v1 v2 b ((hne i).1 hi) ((hne j).1 hj), fun b hb => R.hp.new b ((hown b).1 hb), fun i v hi => ⟨(R.hp.fx i v hi).1, (hne i).2 (R.hp.fx i v hi).2⟩, R.hp.big⟩
      rcases hlook i with ⟨k, id, B', e1, e2, rfl, e3⟩ | ⟨hni, e⟩
      · rw [e3] at hB
        cases hB
        have hB1 : assoc (lentL 0 bs') (1000 + k) = some B := by rw [lentL_at, if_pos (by omega), show 1000 + k - (1000 + 0) = k by omega]; exact e2
        obtain ⟨v, k1, k2⟩ := g3.blk (1000 + k) B hB1
        refine ⟨v, (fixi e1).symm.trans k1, ?_⟩
        rcases k2 with h0 | ⟨b, cap, cs, m1, m2, m3, m4⟩
        · exact .inl h0
        · refine .inr ⟨b, cap, cs, m1, m2, m3, fun k' hk' j hj => ?_⟩
          obtain ⟨u, n1, n2⟩ := m4 k' hk' j hj
          have him := lendImm_at hI k B e2 k' hk' j hj
          exact ⟨u, n1, repC_imm him n2.1 ((repI_imm him n2).less fun b hb => (outs hbl' b).2 ((hout b).1 hb))⟩
      · rw [e] at hB
        obtain ⟨v, k1, k2⟩ := R.hp.blk i B hB
        refine ⟨v, k1, k2.keep hK.out (fun b hb => .inl ((hout b).1 hb)) (fun _ _ h => h) fun b hb => ?_⟩
        have hbo : own σ S.h b := ⟨i, v, by rw [hB]; simp, k1, hb⟩
        exact g4.block b (R.hp.lt hbo) fun ⟨j, u, h1, h2⟩ => by
          obtain ⟨_, id, a1, a2⟩ := hfix h1
          obtain ⟨B2, F2, _, d2, _⟩ := hat _ id a1
          have := R.hp.inj i id v u b (by rw [hB]; simp) (by rw [d2]; simp) k1 a2 hb h2
          subst this
          exact hni (List.mem_of_getElem? a1)
    exact ⟨σ, R.step (e := ⟨r, zipW ids bs', []⟩) hd (fun _ _ h => h) hK H' (fun b hb => .inl ((hout b).1 hb)) (fun _ => (g2.keep ⟨rfl, rfl, rfl, Nat.le_refl _, fun _ _ _ => rfl⟩ (fun b hb => .inl ((outs hl.symm b).2 ((hout b).1 hb))) fun _ _ h => h).some_) fun i h => .inl h⟩
theorem lF_imm {l : List CV} (h : l.all immC = true) (k j : Nat) : immC (lF l k j) = true := by
  unfold lF
  rw [List.getD]
  cases hc : l[j]? with
  | none => rfl
  | some x => exact List.all_eq_true.1 h _ (List.mem_of_getElem? hc)
theorem LendOk.box {S : St} {id sz : Nat} {ty : TypeId} {F : Nat → Nat → CV} {l : List CV} {ids : List Nat} {bs : List AB} (hh : S.h id = some ⟨false, 1, sz, ty, F⟩) (hc : cellsFrom (F 0) 0 sz = l) (hi : l.all immC = true) (hr : LendOk S ids bs) : LendOk S (id :: ids) (⟨false, 1, sz, ty, lF l⟩ :: bs) :=
  ⟨⟨F, hh, fun h => (by cases h), fun k hk j hj => ⟨by
    obtain rfl : k = 0 := by simp at hk; omega
    have h1 := cellsFrom_get (F 0) sz 0 j hj
    rw [Nat.zero_add, hc] at h1
    show F 0 j = lF l 0 j
    unfold lF
    rw [List.getD, h1]
    rfl, lF_imm hi k j⟩⟩, hr⟩
theorem LendOk.row {S : St} {id n sz : Nat} {ty : TypeId} {F G : Nat → Nat → CV} {ids : List Nat} {bs : List AB} (hh : S.h id = some ⟨true, n, sz, ty, F⟩) (hn : 0 < n) (hc : ∀ k, k < n → ∀ j, j < sz → F k j = G k j ∧ immC (G k j) = true) (hr : LendOk S ids bs) : LendOk S (id :: ids) (⟨true, n, sz, ty, G⟩ :: bs) :=
  ⟨⟨F, hh, fun _ => hn, hc⟩, hr⟩
theorem LendImm.row {n sz : Nat} {ty : TypeId} {G : Nat → Nat → CV} {bs : List AB} (hc : ∀ k, k < n → ∀ j, j < sz → immC (G k j) = true) (hr : LendImm bs) : LendImm (⟨true, n, sz, ty, G⟩ :: bs) := ⟨hc, hr⟩
/-- A lent row, in the callee. -/
theorem HeapOk.lentRow {S : St} {ren : List (Nat × Option Nat)} {id n sz : Nat} {ty : TypeId} {F G : Nat → Nat → CV} (hb : Nat.ble 1000 id = true) (hh : S.h id = some ⟨true, n, sz, ty, F⟩) (hc : ∀ k, k < n → ∀ j, j < sz → F k j = G k j ∧ immC (F k j) = true) :
    HeapOk S ren id ⟨true, n, sz, ty, G⟩ := .inr ⟨id, n, F, .inr ⟨Nat.ble_eq.mp hb, rfl⟩, rfl, hh, fun k hk j hj => LeC.eq (hc k hk j hj).1 (hc k hk j hj).2⟩
theorem LendImm.box {sz n : Nat} {ty : TypeId} {l : List CV} {bs : List AB} {row : Bool} (hi : l.all immC = true) (hr : LendImm bs) : LendImm (⟨row, n, sz, ty, lF l⟩ :: bs) := ⟨fun k _ j _ => lF_imm hi k j, hr⟩
section ops
variable {ops : Array Oper} {rest : List Oper} {acc : List (List Nat × List Nat)} {S : St} {Q : List (List Nat × List Nat) → St → Prop} {dst : Option Tmp} {ty : TypeId} {pos : String} {after : Array Edge} {guard : Option (Nat × Bool)}
theorem lendOk_congr {S S1 : St} : ∀ {ids : List Nat} {bs : List AB}, (∀ id ∈ ids, S1.h id = S.h id) → LendOk S ids bs → LendOk S1 ids bs
  | [], [], _, h => h
  | id :: ids, B :: bs, he, h => ⟨let ⟨F, h1, h2⟩ := h.1; ⟨F, (he id (by simp)).trans h1, h2⟩, lendOk_congr (fun i hi => he i (by simp [hi])) h.2⟩
  | [], _ :: _, _, h => h.elim
  | _ :: _, [], _, h => h.elim
/-- A call that is lent the boxes ids. -/
theorem AList.callH {f : FuncId} {fn : Func} {xs : Array Operand} {ats : Array TypeId} {args : List V1} {r : AV} (ids : List Nat) (bs bs' : List AB) (hw : S.wants ops { dst, op := .call { callee := .value (.func f), args := xs, argTypes := ats }, type := ty, pos, after, guard } = some true) (hd : dOk S.n dst = true)
    (ha : S.opds xs.toList = some args) (hf : P.funcs[f]? = some fn) (hb : fn.body.isNone = false) (hnm : (fn.name == "runtime.NumGoroutine") = false) (hL : LendOk S ids bs) (hnd : (nodupB ids && Nat.beq bs'.length bs.length) = true) (hI : LendImm bs')
    (hc : HCalls P f (args.map (lendV ids)) (lentL 0 bs) r (lentL 0 bs'))
    (hn : AList P ops rest ((ids ++ [], (zipW ids bs').map (·.1) ++ []) :: acc) (S.eff dst ⟨r, zipW ids bs', []⟩) Q) : AList P ops ({ dst, op := .call { callee := .value (.func f), args := xs, argTypes := ats }, type := ty, pos, after, guard } :: rest) acc S Q :=
  AList.cons ids ⟨r, zipW ids bs', []⟩ (LStep.of hw fun S1 hA hr _ b0 σ a w R => by
    rw [Bool.and_eq_true] at hnd
    have h2 : S1.opds xs.toList = some args := (opds_congr fun x hx => hA.op x (by simp only [Op.operands, Call.operands]; simp; exact .inr (by simpa using hx))).trans ha
    have := hc.at R (dst := dst) (by rw [hA.n]; exact hd) (opds_rep R h2) (lendOk_congr hr hL) hnd.1 (Nat.eq_of_beq_eq_true hnd.2) hI
    rw [run_callf f fn hf hb hnm #[] #[] rfl w]
    simp only [Goes]
    rw [show (#[] ++ xs.map a.eval ++ #[] : Array Value) = (xs.toList.map a.eval).toArray from Array.ext' (by simp)]
    exact this.mono fun e w' ⟨v, g1, g2⟩ => ⟨v, g1, g2⟩) hn
end ops
end
end Go.AV
end

section
/- Functions that return a struct with a slice of their own: the caller may write to it. No condition. -/
namespace Go.AV
open Go Go.RowKit Go.Flow
section
variable {P : Program}
/-- A row that nobody else knows. -/
def OFresh (base : Nat) (O : Nat → Prop) (w : World) (rv : Value) (B : AB) : Prop :=
  B.row = true ∧ ((rv = .slice none 0 0 ∧ B.n = 0) ∨ ∃ b cap cs, OBase B rv b cap ∧ base ≤ b ∧ w.heap[b]? = some (.cells cs B.ty (0, 0)) ∧ cs.size = cap * B.sz ∧ ∀ k, k < B.n → ∀ j, j < B.sz → ∃ u, cs[k * B.sz + j]? = some u ∧ RepC (fun _ => none) O w (B.F k j) u)
/-- The result is a struct, its slice (between l1 and l2) the row B. -/
def OCalls (P : Program) (f : FuncId) (args : List V1) (l1 l2 : List CV) (B : AB) : Prop :=
  ∀ (O : Nat → Prop) (w : World) (vals : List Value), (∀ b, O b → b < w.heap.size) → RepL (RepV (fun _ => none) O w) args vals →
    Calls P f vals.toArray w fun e w' => ∃ v rv, e = .returned v ∧ OFresh w.heap.size O w' rv B ∧ (∀ (σ : Nat → Option Value) (id : Nat), σ id = some rv → RepA σ O w' (.ag (l1 ++ .ow id :: l2)) v) ∧ Ext w w'

theorem repL_swap {σ σ' : Nat → Option Value} {O O' : Nat → Prop} {w : World} {id id' : Nat} {rv : Value} (h1 : σ id = some rv) (h2 : σ' id' = some rv) (hO : ∀ b, O' b → O b) : ∀ {l1 : List CV} {l2 : List CV} {vs : List Value}, l1.all immC = true → l2.all immC = true → RepL (RepC σ O w) (l1 ++ .ow id :: l2) vs → RepL (RepC σ' O' w) (l1 ++ .ow id' :: l2) vs
  | x :: l1, l2, v :: vs, hi, hj, h => by
    rw [List.all_cons, Bool.and_eq_true] at hi
    exact ⟨repC_imm hi.1 h.1.1 ((repI_imm hi.1 h.1).less hO), repL_swap h1 h2 hO hi.2 hj h.2⟩
  | [], l2, v :: vs, _, hj, h => by
    obtain ⟨g1, g2, g3⟩ := h.1
    rw [h1] at g2
    refine ⟨⟨g1, h2.trans g2, g3⟩, RepL.of_get h.2.length fun i x u e1 e2 => ?_⟩
    obtain ⟨u', e3, e4⟩ := h.2.get e1
    rw [e2] at e3
    cases e3
    have him := List.all_eq_true.1 hj _ (List.mem_of_getElem? e1)
    exact repC_imm him e4.1 ((repI_imm him e4).less hO)
  | [], _, [], _, _, h => h.elim
  | _ :: _, _, [], _, _, h => h.elim

def OwRes (tab : List (TypeId × TD)) (S : St) (rs : List ResultVar) (l1 l2 : List CV) (B : AB) : Prop :=
  ∃ c t bid sz bt F id d, rs = [.cell c t] ∧ S.t c = some (.c (.pt bid sz 0 0)) ∧ S.h bid = some ⟨false, 1, sz, bt, F⟩ ∧ assoc tab t = some d ∧ isAg d.k = true ∧ d.size = sz ∧ cellsFrom (F 0) 0 d.size = l1 ++ .ow id :: l2 ∧ S.h id = some B ∧ B.row = true ∧
    (∀ k, k < B.n → ∀ j, j < B.sz → immC (B.F k j) = true)
def RetOw (tab : List (TypeId × TD)) (rs : List ResultVar) (l1 l2 : List CV) (B : AB) : Exit → St → Prop
  | .ret, S => ∃ S', Wk S S' ∧ OwRes tab S' rs l1 l2 B
  | .normal, S => ∃ S', Wk S S' ∧ OwRes tab S' rs l1 l2 B
  | _, _ => False
theorem ocalls_at {tab : List (TypeId × TD)} (T : tabOk P tab = true) {f : FuncId} {fn : Func} {c : Code} {rs : List ResultVar} {args : List V1} {l1 l2 : List CV} {B : AB} {n : Nat} (hf : P.funcs[f]? = some fn) (hb : fn.body = some c) (hr : fn.results = rs.toArray) (hn : fn.ntmps = n) (hl : Nat.ble args.length n = true)
    (hi : (l1.all immC && l2.all immC) = true) (h : AWp P c (RetOw tab rs l1 l2 B) (entry n args)) : OCalls P f args l1 l2 B := fun O w vals hO hv => by
  subst hn
  rw [Bool.and_eq_true] at hi
  let b0 : Base := ⟨w, O, fun _ => False, fun _ => none, hO, fun b hb => hb.elim, fun b _ h => h, fun i v h => (by cases h), fun _ _ => False, fun _ _ _ => True, none, fun _ _ h => h.elim, fun _ _ _ _ _ _ _ _ => trivial⟩
  have hl' := hv.length
  have hO' : ∀ b, out b0 (fun _ => none) (assoc []) b → O b := fun b hb => hb.elim (fun ⟨i, v, h1, _⟩ => absurd rfl h1) fun h => h
  refine calls_of_awp (b0 := b0) hf hb rfl h ⟨fun _ => none, trivial, ?_, ⟨rfl, rfl, rfl, Nat.le_refl _, fun _ _ _ => rfl⟩, ⟨fun id B hB => (by cases hB), fun i j v1 v2 b hi => absurd rfl hi, fun b ⟨i, v, hi, _⟩ => absurd rfl hi, fun i v hi => (by cases hi), fun _ _ _ => rfl⟩, fun t x hx => ?_, fun id hid => ⟨rfl, Nat.blt_eq.mp hid⟩, fun i v hi => (by cases hi), rfl, trivial⟩ (fun e S hQ => by cases e <;> first | exact .inl rfl | exact .inr rfl | exact hQ.elim) fun e a w' S0 hR0 hQ0 hd0 => ?_
  · have := Nat.ble_eq.mp hl
    simp [entryL, hl']; omega
  · obtain ⟨y, e1, rfl⟩ : ∃ y, args[t]? = some y ∧ y.av = x := by simpa [entryL, Option.map_eq_some_iff] using hx
    obtain ⟨v, e2, e3⟩ := hv.get e1
    have ht : (vals.toArray ++ Array.replicate (fn.ntmps - vals.toArray.size) undef).getD t undef = v := by
      have hlt := (List.getElem?_eq_some_iff.1 e2).1
      have := (List.getElem?_eq_some_iff.1 e2).2
      simp [Array.getD_eq_getD_getElem?, Array.getElem?_append, hlt, this]
    rw [ht]
    exact (e3.keep ⟨rfl, rfl, rfl, Nat.le_refl _, fun _ _ _ => rfl⟩ (fun b hb => .inl (hO' b hb)) fun _ _ h => h).av
  · have fin : ∀ S, Rel b0 S a w' → (∃ S', Wk S S' ∧ OwRes tab S' rs l1 l2 B) → ∃ v, (results fn a.tmps).run P w' = .ok v w' ∧ ∃ v' rv, Ending.returned v = .returned v' ∧ OFresh w.heap.size O w' rv B ∧ (∀ (σ : Nat → Option Value) (id : Nat), σ id = some rv → RepA σ O w' (.ag (l1 ++ .ow id :: l2)) v') ∧ Ext w w' := fun S hR ⟨S', hw, c', t, bid, sz, bt, F, id, d, hrs, hc, hh, ht, hk, hz, hcl, hid, hrow, him⟩ => by
      obtain ⟨σ, R⟩ := hw b0 a w' hR
      obtain ⟨b, cap, cs, -, e1, -, e2, -, -, e3⟩ := at_pt R (R.sl c' _ hc) hh rfl (by simp : 0 < 1)
      obtain ⟨ud, g1, g2⟩ := ty_ag T ht hk
      obtain ⟨inf, z, u', i1, i2, i3, -⟩ := ty_info T ht
      simp only at e3
      have hcell : ∀ i, i < d.size → w'.cell? (Addr.add ⟨b, 0 * sz + 0, none⟩ i) = some (cs.getD (0 * sz + (0 + i)) undef) ∧ RepC σ (out b0 σ S'.h) w' (F 0 (0 + i)) (cs.getD (0 * sz + (0 + i)) undef) := fun i hi => by
        obtain ⟨u, f1, f2⟩ := e3 0 (by simp) (0 + i) (by omega)
        rw [add_off, Nat.add_assoc, Array.getD_eq_getD_getElem?, f1]
        exact ⟨(cell_of_row w' b _ cs bt (0, 0) e2).trans f1, f2⟩
      have hrl := rep_cells (R := RepC σ (out b0 σ S'.h) w') (F := F 0) (j := 0) fun i hi => (hcell i hi).2
      rw [hcl] at hrl
      have hsub : ∀ b, O b → out b0 σ S'.h b := fun b hb => .inr hb
      obtain ⟨rv, k1, k2⟩ := R.hp.blk id B hid
      refine ⟨.agg ((List.range d.size).map fun i => cs.getD (0 * sz + (0 + i)) undef).toArray, ?_, _, rv, rfl, ⟨hrow, ?_⟩, fun σ' id' hs => ⟨_, rfl, repL_swap k1 hs hsub hi.1 hi.2 hrl⟩, ?_⟩
      · have := run_agg (P := P) g1 g2 i1 (w := w') (a := ⟨b, 0 * sz + 0, none⟩) (f := fun i => cs.getD (0 * sz + (0 + i)) undef) (fun i hi => (hcell i (by omega)).1)
        rw [i2] at this
        have hres : (resV (.cell c' t) a.tmps).run P w' = .ok (.agg ((List.range d.size).map fun i => cs.getD (0 * sz + (0 + i)) undef).toArray) w' := by
          simp only [resV, e1, asAddr, Sem.run_bind, Sem.run_pure, Result.andThen_ok, this]
        rw [results_eq, hr, hrs]
        generalize hf : (fun rv => resV rv a.tmps) = f
        have hfr : resV (.cell c' t) a.tmps = f (.cell c' t) := by rw [← hf]
        rw [hfr] at hres
        simp [hres]
      · rcases k2 with ⟨_, m1, m2⟩ | ⟨b', cap', cs', m1, m2, m3, m4⟩
        · exact .inl ⟨m1, m2⟩
        · refine .inr ⟨b', cap', cs', m1, ?_, m2, m3, fun k hk j hj => ?_⟩
          · rcases R.hp.new b' ⟨id, rv, by rw [hid]; simp, k1, m1.blk⟩ with h | h
            · exact h
            · exact h.elim
          · obtain ⟨u, n1, n2⟩ := m4 k hk j hj
            exact ⟨u, n1, repC_imm (him k hk j hj) n2.1 ((repI_imm (him k hk j hj) n2).less hsub)⟩
      · exact ⟨R.ext.os, R.ext.tape, R.ext.output, R.ext.size, fun k hk => R.ext.block k hk fun h => h.elim (fun h => h) fun h => h⟩
    cases e with
    | ret => exact fin S0 hR0 hQ0
    | normal => exact fin S0 hR0 hQ0
    | _ => exact hQ0.elim

def isP : CV → Bool
  | .p _ => true
  | _ => false
theorem isP_rep {σ σ' : Nat → Option Value} {O O' : Nat → Prop} {w w' : World} {x : CV} {u : Value} (h : isP x = true) (hx : RepC σ O w x u) : RepC σ' O' w' x u := by
  cases x <;> first | exact hx | cases h
theorem swap_p {σ σ' : Nat → Option Value} {O O' : Nat → Prop} {w w' : World} {id id' : Nat} {rv : Value} (h1 : σ id = some rv) (h2 : σ' id' = some rv) : ∀ {l1 : List CV} {l2 : List CV} {vs : List Value}, l1.all isP = true → l2.all isP = true → RepL (RepC σ O w) (l1 ++ .ow id :: l2) vs → RepL (RepC σ' O' w') (l1 ++ .ow id' :: l2) vs
  | x :: l1, l2, v :: vs, hi, hj, h => by
    rw [List.all_cons, Bool.and_eq_true] at hi
    exact ⟨isP_rep hi.1 h.1, swap_p h1 h2 hi.2 hj h.2⟩
  | [], l2, v :: vs, _, hj, h => by
    obtain ⟨g1, g2, g3⟩ := h.1
    rw [h1] at g2
    refine ⟨⟨g1, h2.trans g2, g3⟩, RepL.of_get h.2.length fun i x u e1 e2 => ?_⟩
    obtain ⟨u', e3, e4⟩ := h.2.get e1
    rw [e2] at e3
    cases e3
    exact isP_rep (List.all_eq_true.1 hj _ (List.mem_of_getElem? e1)) e4
  | [], _, [], _, _, h => h.elim
  | _ :: _, _, [], _, _, h => h.elim
theorem Rel0.adopt {b0 : Base} {σ : Nat → Option Value} {S : St} {a : Act} {w w' : World} {dst : Option Tmp} (R : Rel0 b0 σ S a w) (hd : dOk S.n dst = true) {id : Nat} (hf : S.fr id = true) {B : AB} {rv v : Value} {l1 l2 : List CV} (hE : Ext w w') (hB : OFresh w.heap.size (out b0 σ S.h) w' rv B)
    (hx : ∀ (σ' : Nat → Option Value) (id : Nat), σ' id = some rv → RepA σ' (out b0 σ S.h) w' (.ag (l1 ++ .ow id :: l2)) v) (hp : (l1.all isP && l2.all isP) = true) (hpc : ∀ k, k < B.n → ∀ j, j < B.sz → isP (B.F k j) = true) : Rel b0 (S.eff dst ⟨.ag (l1 ++ .ow id :: l2), [(id, some B)], [id]⟩) (a.put dst v) w' := by
  obtain ⟨hno, hlow⟩ := R.fr id hf
  obtain ⟨hrow, hB⟩ := hB
  rw [Bool.and_eq_true] at hp
  have hsub : ∀ i u, σ i = some u → put σ id (some rv) i = some u := fun i u h => by
    rw [put_ne _ _ (fun e => by rw [e, hno] at h; cases h)]; exact h
  have hb' : ∀ b, baseBlk rv = some b → w.heap.size ≤ b := fun b hb => by
    rcases hB with ⟨rfl, _⟩ | ⟨b', cap, cs, h1, h2, _⟩
    · cases hb
    · rw [h1.blk] at hb; cases hb; exact h2
  have hout : ∀ b, out b0 (put σ id (some rv)) (put S.h id (some B)) b → out b0 σ S.h b ∨ w.heap.size ≤ b := fun b hb => by
    rcases hb with ⟨i, u, h1, h2, h3⟩ | hb
    · by_cases hi : i = id
      · subst hi
        rw [put_same] at h2
        cases h2
        exact .inr (hb' b h3)
      · rw [put_ne _ _ hi] at h1 h2
        exact .inl (.inl ⟨i, u, h1, h2, h3⟩)
    · exact .inl (.inr hb)
  obtain ⟨H, _, hO⟩ := R.hp.put (id := id) (B' := B) (v' := rv) (σ' := put σ id (some rv)) (h' := look [(id, some B)] S.h) (w' := w') hsub (put_same _ _ _) (put_same _ _ _) (fun i hi => .inr (put_ne _ _ hi)) (Keep.of_ext hE)
    (fun i u hi => by
      have h1 := (b0.one i u hi).1
      rw [look_one, put_ne _ _ (by omega)]
      exact (R.hp.fx i u hi).2) (fun i hi => put_ne _ _ (by omega))
    (fun i u b hi h1 h2 h3 => by
      have h1' : S.h i ≠ none := by rw [look_one, put_ne _ _ hi] at h1; exact h1
      exact Below.block hE b (R.hp.lt ⟨i, u, h1', h2, h3⟩))
    (by
      rcases hB with ⟨h1, h2⟩ | ⟨b, cap, cs, h1, h2, h3, h4, h5⟩
      · exact .inl ⟨hrow, h1, h2⟩
      · refine .inr ⟨b, cap, cs, h1, h3, h4, fun k hk j hj => ?_⟩
        obtain ⟨u, e1, e2⟩ := h5 k hk j hj
        exact ⟨u, e1, isP_rep (hpc k hk j hj) e2⟩)
    (fun b hb => by
      refine ⟨.inl (Nat.le_trans R.ext.size (hb' b hb)), .inr (hb' b hb), fun i u hi h1 h2 h3 => ?_⟩
      have h1' : S.h i ≠ none := by rw [look_one, put_ne _ _ hi] at h1; exact h1
      have := R.hp.lt ⟨i, u, h1', h2, h3⟩
      have := hb' b hb
      omega)
  exact ⟨put σ id (some rv), R.step (e := ⟨.ag (l1 ++ .ow id :: l2), [(id, some B)], [id]⟩) hd hsub (Keep.of_ext hE) H hO (fun _ => by
    obtain ⟨vs, e1, e2⟩ := hx (put σ id (some rv)) id (put_same _ _ _)
    exact ⟨vs, e1, swap_p (put_same _ _ _) (put_same _ _ _) hp.1 hp.2 e2⟩) (fun i hi => by
    by_cases e : i = id
    · exact .inr (by simp [e])
    · rw [put_ne _ _ e] at hi; exact .inl hi)⟩
section ops
variable {ops : Array Oper} {rest : List Oper} {acc : List (List Nat × List Nat)} {S : St} {Q : List (List Nat × List Nat) → St → Prop} {ty : TypeId} {pos : String} {after : Array Edge} {guard : Option (Nat × Bool)}
/-- A call whose result's slice becomes the caller's own. -/
theorem AList.callO {f : FuncId} {fn : Func} {id : Nat} {xs : Array Operand} {ats : Array TypeId} {args : List V1} {l1 l2 : List CV} {B : AB} (hw : S.wants ops { dst := some id, op := .call { callee := .value (.func f), args := xs, argTypes := ats }, type := ty, pos, after, guard } = some true) (hd : dOk S.n (some id) = true) (hfr : S.fr id = true)
    (ha : S.opds xs.toList = some args) (hi : args.all immV = true) (hf : P.funcs[f]? = some fn) (hb : fn.body.isNone = false) (hnm : (fn.name == "runtime.NumGoroutine") = false) (hc : OCalls P f args l1 l2 B) (hp : (l1.all isP && l2.all isP) = true) (hpc : ∀ k, k < B.n → ∀ j, j < B.sz → isP (B.F k j) = true)
    (hn : AList P ops rest (([id], [id, id]) :: acc) (S.eff (some id) ⟨.ag (l1 ++ .ow id :: l2), [(id, some B)], [id]⟩) Q) : AList P ops ({ dst := some id, op := .call { callee := .value (.func f), args := xs, argTypes := ats }, type := ty, pos, after, guard } :: rest) acc S Q :=
  AList.cons [] ⟨.ag (l1 ++ .ow id :: l2), [(id, some B)], [id]⟩ (LStep.of hw fun S1 hA _ hal b0 σ a w R => by
    have h2 : S1.opds xs.toList = some args := (opds_congr fun x hx => hA.op x (by simp only [Op.operands, Call.operands]; simp; exact .inr (by simpa using hx))).trans ha
    have hv := opds_rep R h2
    have := hc (out b0 σ S1.h) w (xs.toList.map a.eval) (fun b hb => own_lt R hb) (RepL.of_get hv.length fun i x v h1 h2 => by
      obtain ⟨v', e1, e2⟩ := hv.get h1
      rw [h2] at e1
      cases e1
      exact strip0 (List.all_eq_true.1 hi _ (List.mem_of_getElem? h1)) e2)
    rw [run_callf f fn hf hb hnm #[] #[] rfl w]
    simp only [Goes]
    rw [show (#[] ++ xs.map a.eval ++ #[] : Array Value) = (xs.toList.map a.eval).toArray from Array.ext' (by simp)]
    exact this.mono fun e w' ⟨v, rv, g1, g2, g3, g4⟩ => ⟨v, g1, R.adopt (by rw [hA.n]; exact hd) ((hal id (by simp)).trans hfr) g4 g2 g3 hp hpc⟩) hn
end ops
end
end Go.AV
end

section
/- Calls of which only a relation is known, in a region that keeps the text's order. No condition. -/
namespace Go.AV
open Go Go.RowKit Go.Flow
section
variable {P : Program}
/-- Some value that R tells of is returned. -/
def ECalls (P : Program) (f : FuncId) (args : List V1) (R : AV → Prop) : Prop :=
  ∀ (O : Nat → Prop) (w : World) (vals : List Value), (∀ b, O b → b < w.heap.size) → RepL (RepV (fun _ => none) O w) args vals → Calls P f vals.toArray w fun e w' => ∃ v r, e = .returned v ∧ R r ∧ RepA (fun _ => none) O w' r v ∧ Ext w w'
structure AText (P : Program) (ops : Array Oper) (l : List Oper) (S : St) (Q : St → Prop) : Prop where
  get : ∀ rd b0 a w (K : Exit → Act → World → Prop), Rel b0 S a w → (∀ S a w, Rel b0 S a w → Q S → K .normal a w) → wpListIn (fnc rd) 0 P ops K l a w
theorem AText.split {ops : Array Oper} {l : List Oper} {S : St} {Q : St → Prop} (n : Nat) (h : AList P ops (l.take n) [] S (fun _ S1 => AText P ops (l.drop n) S1 Q)) : AText P ops l S Q := ⟨fun rd b0 a w K hR hK => by
  have key : ∀ (l1 : List Oper) (l2 : List Oper) (acc : List (List Nat × List Nat)) (S : St) (a : Act) (w : World), AListD P ops l1 acc S (fun _ S1 => AText P ops l2 S1 Q) → Rel b0 S a w → wpListIn (fnc rd) 0 P ops K (l1 ++ l2) a w := by
    intro l1 l2
    induction l1 with
    | nil => exact fun acc S a w h hR => h.get rd b0 a w K hR hK
    | cons o l1 ih =>
      rintro acc S a w ⟨rd', e, hs, hk⟩ hR
      rw [List.cons_append]
      unfold wpListIn
      rcases hs.at hR with ⟨hw, hg⟩ | ⟨hw, hR'⟩
      · rw [if_pos hw]
        exact hg.wpIn fun v w' hR' => ih _ _ _ _ hk hR'
      · rw [if_neg (by simp [hw])]
        exact ⟨fun _ _ => trivial, ih _ _ _ _ hk hR'⟩
  have := key (l.take n) (l.drop n) [] S a w h.get hR
  rwa [List.take_append_drop] at this⟩
theorem AText.all {ops : Array Oper} {l : List Oper} {S : St} {Q : St → Prop} (h : AList P ops l [] S (fun _ S1 => Q S1)) : AText P ops l S Q := ⟨fun rd b0 a w K hR hK => wpList_of_alist (QS := fun _ S1 => Q S1) l [] S a w h.get hR fun _ S a w h1 h2 => hK S a w h2 h1⟩
theorem AWp.text {id : Nat} {l : List Oper} {S : St} {Q : Exit → St → Prop} (h : AText P l.toArray l S (Q .normal)) : AWp P (.region id l.toArray false) Q S := ⟨fun b0 a w hR =>
  wpIn_region_lit (h.get _ b0 a w _ hR fun S a w h1 h2 => ⟨S, h1, h2⟩)⟩
section ops
variable {ops : Array Oper} {rest : List Oper} {S : St} {Q : St → Prop} {dst : Option Tmp} {ty : TypeId} {pos : String} {after : Array Edge} {guard : Option (Nat × Bool)}
theorem AText.callE {f : FuncId} {fn : Func} {xs : Array Operand} {ats : Array TypeId} {args : List V1} {R : AV → Prop} (hw : S.wants ops { dst, op := .call { callee := .value (.func f), args := xs, argTypes := ats }, type := ty, pos, after, guard } = some true) (hd : dOk S.n dst = true)
    (ha : S.opds xs.toList = some args) (hi : args.all immV = true) (hf : P.funcs[f]? = some fn) (hb : fn.body.isNone = false) (hnm : (fn.name == "runtime.NumGoroutine") = false) (hc : ECalls P f args R)
    (hn : ∀ r, R r → AText P ops rest (S.eff dst ⟨r, [], []⟩) Q) : AText P ops ({ dst, op := .call { callee := .value (.func f), args := xs, argTypes := ats }, type := ty, pos, after, guard } :: rest) S Q := ⟨fun rd b0 a w K hR hK => by
  obtain ⟨σ, R0⟩ := hR
  unfold wpListIn
  rw [if_pos (wants_rep R0 hw)]
  refine ⟨fun _ _ => trivial, ?_⟩
  have hv := opds_rep R0 ha
  have := hc (out b0 σ S.h) w (xs.toList.map a.eval) (fun b hb => own_lt R0 hb) (RepL.of_get hv.length fun i x v h1 h2 => by
    obtain ⟨v', e1, e2⟩ := hv.get h1
    rw [h2] at e1
    cases e1
    exact strip0 (List.all_eq_true.1 hi _ (List.mem_of_getElem? h1)) e2)
  rw [Oper.semAt_eq _ _ _ (fun c hc => by cases hc), run_callf f fn hf hb hnm #[] #[] rfl w]
  rw [Oper.uponIn_enter]
  refine ⟨fun hd => (by cases hd), ?_⟩
  rw [show (#[] ++ xs.map a.eval ++ #[] : Array Value) = (xs.toList.map a.eval).toArray from Array.ext' (by simp)]
  exact (wide_fnc rd).calls (this.mono fun e w' ⟨v, r, g1, g2, g3, g4⟩ => by
    subst g1
    exact (hn r g2).get rd b0 _ _ K ⟨σ, R0.val hd g4 fun _ => g3.some_⟩ hK)⟩
end ops
end
end Go.AV
end

section
/- Comparisons of bools and of structs, arrays in a box, rows of structs; functions of which only a relation is known. No condition. -/
namespace Go.AV
open Go Go.RowKit Go.Flow
section
variable {P : Program}
def RetE (P : Program) (rs : List ResultVar) (R : AV → Prop) (e : Exit) (S : St) : Prop := ∃ r, R r ∧ RetOk P rs r [] e S
theorem ecalls_at {f : FuncId} {fn : Func} {c : Code} {rs : List ResultVar} {args : List V1} {R : AV → Prop} {n : Nat} (hf : P.funcs[f]? = some fn) (hb : fn.body = some c) (hr : fn.results = rs.toArray) (hn : fn.ntmps = n) (hl : Nat.ble args.length n = true)
    (h : AWp P c (RetE P rs R) (entry n args)) : ECalls P f args R := fun O w vals hO hv => by
  subst hn
  let b0 : Base := ⟨w, O, fun _ => False, fun _ => none, hO, fun b hb => hb.elim, fun b _ h => h, fun i v h => (by cases h), fun _ _ => False, fun _ _ _ => True, none, fun _ _ h => h.elim, fun _ _ _ _ _ _ _ _ => trivial⟩
  have hl' := hv.length
  have hO' : ∀ b, out b0 (fun _ => none) (assoc []) b → O b := fun b hb => hb.elim (fun ⟨i, v, h1, _⟩ => absurd rfl h1) fun h => h
  refine calls_of_awp (b0 := b0) hf hb rfl h ⟨fun _ => none, trivial, ?_, ⟨rfl, rfl, rfl, Nat.le_refl _, fun _ _ _ => rfl⟩, ⟨fun id B hB => (by cases hB), fun i j v1 v2 b hi => absurd rfl hi, fun b ⟨i, v, hi, _⟩ => absurd rfl hi, fun i v hi => (by cases hi), fun _ _ _ => rfl⟩, fun t x hx => ?_, fun id hid => ⟨rfl, Nat.blt_eq.mp hid⟩, fun i v hi => (by cases hi), rfl, trivial⟩ (fun e S hQ => by cases e <;> first | exact .inl rfl | exact .inr rfl | (obtain ⟨_, _, hQ⟩ := hQ; exact hQ.elim)) fun e a w' S0 hR0 hQ0 hd0 => ?_
  · have := Nat.ble_eq.mp hl
    simp [entryL, hl']; omega
  · obtain ⟨y, e1, rfl⟩ : ∃ y, args[t]? = some y ∧ y.av = x := by simpa [entryL, Option.map_eq_some_iff] using hx
    obtain ⟨v, e2, e3⟩ := hv.get e1
    have ht : (vals.toArray ++ Array.replicate (fn.ntmps - vals.toArray.size) undef).getD t undef = v := by
      have hlt := (List.getElem?_eq_some_iff.1 e2).1
      have := (List.getElem?_eq_some_iff.1 e2).2
      simp [Array.getD_eq_getD_getElem?, Array.getElem?_append, hlt, this]
    rw [ht]
    exact (e3.keep ⟨rfl, rfl, rfl, Nat.le_refl _, fun _ _ _ => rfl⟩ (fun b hb => .inl (hO' b hb)) fun _ _ h => h).av
  · have fin : ∀ S r, R r → Rel b0 S a w' → (∃ S' loc, Wk S S' ∧ S'.h = assoc (loc ++ []) ∧ loc.all (fun p => Nat.blt p.1 1000) = true ∧ ARets P S' rs r) → ∃ v, (results fn a.tmps).run P w' = .ok v w' ∧ ∃ v' r, Ending.returned v = .returned v' ∧ R r ∧ RepA (fun _ => none) O w' r v' ∧ Ext w w' := fun S r hr1 hR ⟨S', loc, hw, hS', hlc, hS⟩ => by
      obtain ⟨σ, Rr⟩ := hw b0 a w' hR
      obtain ⟨v, h1, h2⟩ := hS.run hr Rr
      have hH0 := Rr.hp
      rw [hS'] at hH0 h2
      obtain ⟨hH', hsub⟩ := hH0.lent hlc rfl
      replace h2 := h2.keep (σ' := fun _ => none) ⟨rfl, rfl, rfl, Nat.le_refl _, fun _ _ _ => rfl⟩ (fun b (hb : O b) => .inl (.inr hb)) fun _ _ h => h
      exact ⟨v, h1, v, r, rfl, hr1, h2, Rr.ext.os, Rr.ext.tape, Rr.ext.output, Rr.ext.size, fun k hk => Rr.ext.block k hk fun h => h.elim (fun h => h) fun h => h⟩
    obtain ⟨r, hr1, hQ⟩ := hQ0
    cases e with
    | ret => exact fin S0 r hr1 hR0 hQ
    | normal => exact fin S0 r hr1 hR0 hQ
    | _ => exact hQ.elim
theorem ECalls.of {f : FuncId} {args : List V1} {r : AV} (h : ACalls P f args r) : ECalls P f args (fun x => x = r) := fun O w vals hO hv => by
  let b0 : Base := ⟨w, O, fun _ => False, fun _ => none, hO, fun b hb => hb.elim, fun b _ h => h, fun i v h => (by cases h), fun _ _ => False, fun _ _ _ => True, none, fun _ _ h => h.elim, fun _ _ _ _ _ _ _ _ => trivial⟩
  have hO' : ∀ b, O b → out b0 (fun _ => none) (assoc []) b := fun b hb => .inr hb
  have hO2 : ∀ b, out b0 (fun _ => none) (assoc []) b → O b := fun b hb => hb.elim (fun ⟨i, v, h1, _⟩ => absurd rfl h1) fun h => h
  have he : out b0 (fun _ => none) (assoc []) = O := funext fun b => propext ⟨hO2 b, hO' b⟩
  refine (h b0 vals ⟨fun i B hB => (by cases hB), fun i j v1 v2 b hi => absurd rfl hi, fun b ⟨i, v, h1, _⟩ => absurd rfl h1, fun i v hi => (by cases hi), fun _ _ _ => rfl⟩ (fun i v h => by cases h) (fun b h => h.elim) (by rw [he]; exact hv)).mono fun e w' ⟨v, g1, g2, _, g4⟩ => ⟨v, r, g1, rfl, by rw [he] at g2; exact g2, g4.os, g4.tape, g4.output, g4.size, fun k hk => g4.block k hk fun h => h⟩
/-- The values of cells, if each is one. -/
def pvals : List CV → Option (List Value)
  | [] => some []
  | .p v :: l => (pvals l).map (v :: ·)
  | _ => none
theorem pvals_rep {σ : Nat → Option Value} {O : Nat → Prop} {w : World} : ∀ {l : List CV} {us vs : List Value}, pvals l = some us → RepL (RepC σ O w) l vs → vs = us
  | [], us, [], h, _ => by cases h; rfl
  | .p v :: l, us, u :: vs, h, hr => by
    obtain ⟨us', h1, rfl⟩ := Option.map_eq_some_iff.1 h
    rw [pvals_rep h1 hr.2, hr.1.2]
  | .p _ :: _, _, [], _, hr => hr.elim
  | [], _, _ :: _, _, hr => hr.elim
section ops
variable {ops : Array Oper} {rest : List Oper} {acc : List (List Nat × List Nat)} {S : St} {Q : List (List Nat × List Nat) → St → Prop} {dst : Option Tmp} {ty xt yt : TypeId} {pos : String} {after : Array Edge} {guard : Option (Nat × Bool)} {x y : Operand} {tab : List (TypeId × TD)}
theorem AList.eqB {p q : Bool} (hw : S.wants ops { dst, op := .binOp .eql xt x y yt, type := ty, pos, after, guard } = some true) (hd : dOk S.n dst = true) (hx : S.opd x = some (.c (.p (.bool p)))) (hy : S.opd y = some (.c (.p (.bool q)))) (hu : P.underlying xt = some .bool)
    (hn : AList P ops rest (([], []) :: acc) (S.eff dst ⟨.c (.p (.bool (p == q))), [], []⟩) Q) : AList P ops ({ dst, op := .binOp .eql xt x y yt, type := ty, pos, after, guard } :: rest) acc S Q :=
  AList.bin hw hd hx hy rfl (fun w => by simp [binOp, run_equal_bool w xt p q hu]) rfl hn
theorem AList.neB {p q : Bool} (hw : S.wants ops { dst, op := .binOp .neq xt x y yt, type := ty, pos, after, guard } = some true) (hd : dOk S.n dst = true) (hx : S.opd x = some (.c (.p (.bool p)))) (hy : S.opd y = some (.c (.p (.bool q)))) (hu : P.underlying xt = some .bool)
    (hn : AList P ops rest (([], []) :: acc) (S.eff dst ⟨.c (.p (.bool (!(p == q)))), [], []⟩) Q) : AList P ops ({ dst, op := .binOp .neq xt x y yt, type := ty, pos, after, guard } :: rest) acc S Q :=
  AList.bin hw hd hx hy rfl (fun w => by simp [binOp, run_equal_bool w xt p q hu]) rfl hn
/-- Structs of plain cells, compared. -/
theorem AList.binAg {op : BinOp} {l m : List CV} {us vs : List Value} {r : Bool} (hw : S.wants ops { dst, op := .binOp op xt x y yt, type := ty, pos, after, guard } = some true) (hd : dOk S.n dst = true) (hx : S.opd x = some (.ag l)) (hy : S.opd y = some (.ag m))
    (hl : pvals l = some us) (hm : pvals m = some vs) (hg : P.eqGuardType P.depth xt = false) (hr : ∀ w, (Go.binOp op xt (.agg us.toArray) (.agg vs.toArray)).run P w = .ok (.bool r) w)
    (hn : AList P ops rest (([], []) :: acc) (S.eff dst ⟨.c (.p (.bool r)), [], []⟩) Q) : AList P ops ({ dst, op := .binOp op xt x y yt, type := ty, pos, after, guard } :: rest) acc S Q :=
  AList.val [] _ hw hd (fun S1 g1 _ b0 σ a w R => by
    obtain ⟨us', e1, e2⟩ := opd_rep R ((g1 x (by simp [Op.operands])).trans hx)
    obtain ⟨vs', e3, e4⟩ := opd_rep R ((g1 y (by simp [Op.operands])).trans hy)
    obtain rfl := pvals_rep hl e2
    obtain rfl := pvals_rep hm e4
    refine ⟨.bool r, ?_, rep_p rfl⟩
    simp only [execOp, e1, e3, Sem.run_bind, run_eqGuard_agg w op xt x y _ _ hg, hr, Result.andThen_ok, Sem.run_pure]) hn
/-- An array in a box of ours: the address of an element. -/
theorem AList.idxArr (T : tabOk P tab = true) {t : TypeId} {id sz j i N : Nat} {d e : TD} {el : TypeId} {ki : IntKind} {n : Int} (hw : S.wants ops { dst, op := .indexAddr t x y, type := ty, pos, after, guard } = some true) (hd : dOk S.n dst = true)
    (hx : S.opd x = some (.c (.pt id sz 0 j))) (hy : S.opd y = some (.c (.p (.int ki n)))) (ht : assoc tab t = some d) (hk : d.k = .arr N el) (he : assoc tab el = some e) (hi : n = (i : Int)) (hlt : i < N)
    (hn : AList P ops rest (([], []) :: acc) (S.eff dst ⟨.c (.pt id sz 0 (j + i * e.size)), [], []⟩) Q) : AList P ops ({ dst, op := .indexAddr t x y, type := ty, pos, after, guard } :: rest) acc S Q :=
  AList.val [] _ hw hd (fun S1 h1 _ b0 σ a w R => by
    obtain ⟨-, v, b, e1, e2, e3⟩ := opd_rep R ((h1 x (by simp [Op.operands])).trans hx)
    have e4 := rep_int (opd_rep R ((h1 y (by simp [Op.operands])).trans hy))
    have g1 := ty_arr T ht hk
    obtain ⟨inf, z, u, i1, i2, i3, -⟩ := ty_info T he
    subst hi
    refine ⟨.pointer (some ⟨b, 0 * sz + (j + i * e.size), none⟩), ?_, rfl, v, b, e1, e2, rfl⟩
    have hlt' : (i : Int) < N := by omega
    simp only [execOp, e3, e4, Instr.indexAt, Instr.sureAddr, asIntOf, run_underlying g1, Sem.run_bind, Sem.run_pure, Result.andThen_ok]
    simp [sizeOf, typeInfo, i1, i2, hlt', Addr.add, Nat.add_assoc]) hn
theorem AList.loadAE (T : tabOk P tab = true) {t : TypeId} {id sz k j : Nat} {B : AB} {d : TD} {l : List CV} (hl : cellsFrom (B.F k) j d.size = l) (hw : S.wants ops { dst, op := .load t x, type := ty, pos, after, guard } = some true) (hd : dOk S.n dst = true)
    (hx : S.opd x = some (.c (.pt id sz k j))) (hh : S.h id = some B) (hs : B.sz = sz) (ht : assoc tab t = some d) (hk : isAg d.k = true) (hkn : k < B.n) (hj : j + d.size ≤ B.sz)
    (hn : AList P ops rest (([id], []) :: acc) (S.eff dst ⟨.ag l, [], []⟩) Q) : AList P ops ({ dst, op := .load t x, type := ty, pos, after, guard } :: rest) acc S Q := by
  subst hl
  exact AList.loadA T hw hd hx hh hs ht hk hkn hj hn
theorem AList.loadAlE (T : tabOk P tab = true) {t : TypeId} {n sz k j : Nat} {F : Nat → Nat → CV} {d : TD} {l : List CV} (hl : cellsFrom (F k) j d.size = l) (hw : S.wants ops { dst, op := .load t x, type := ty, pos, after, guard } = some true) (hd : dOk S.n dst = true)
    (hx : S.opd x = some (.c (.pl n sz F k j))) (ht : assoc tab t = some d) (hk : isAg d.k = true) (hj : j + d.size ≤ sz)
    (hn : AList P ops rest (([], []) :: acc) (S.eff dst ⟨.ag l, [], []⟩) Q) : AList P ops ({ dst, op := .load t x, type := ty, pos, after, guard } :: rest) acc S Q := by
  subst hl
  exact AList.loadAl T hw hd hx ht hk hj hn
/-- An element of an array of structs. -/
theorem AList.index (T : tabOk P tab = true) {t : TypeId} {i N : Nat} {d e : TD} {el : TypeId} {ki : IntKind} {n : Int} {l m : List CV} (hm : (l.drop (i * e.size)).take e.size = m) (hw : S.wants ops { dst, op := .index t x y, type := ty, pos, after, guard } = some true) (hd : dOk S.n dst = true)
    (hx : S.opd x = some (.ag l)) (hy : S.opd y = some (.c (.p (.int ki n)))) (ht : assoc tab t = some d) (hk : d.k = .arr N el) (he : assoc tab el = some e) (ha : isAg e.k = true) (hi : n = (i : Int)) (hlt : i < N)
    (hn : AList P ops rest (([], []) :: acc) (S.eff dst ⟨.ag m, [], []⟩) Q) : AList P ops ({ dst, op := .index t x y, type := ty, pos, after, guard } :: rest) acc S Q := by
  subst hm
  exact AList.val [] _ hw hd (fun S1 h1 _ b0 σ a w R => by
    obtain ⟨vs, e1, e2⟩ := opd_rep R ((h1 x (by simp [Op.operands])).trans hx)
    have e4 := rep_int (opd_rep R ((h1 y (by simp [Op.operands])).trans hy))
    have g1 := ty_arr T ht hk
    obtain ⟨ud, g2, g3⟩ := ty_ag T he ha
    obtain ⟨inf, z, u, i1, i2, i3, -⟩ := ty_info T he
    subst hi
    have hlt' : (i : Int) < N := by omega
    have hag : ∀ w, (isAgg el).run P w = .ok true w := fun w => by
      simp only [isAgg, Sem.run_bind, run_underlying g2, Result.andThen_ok]
      cases ud <;> first | rfl | cases g3
    refine ⟨.agg ((vs.drop (i * e.size)).take e.size).toArray, ?_, _, rfl, RepL.of_get (by simp [e2.length]) fun j x v hj hv => ?_⟩
    · simp only [execOp, e1, e4, Instr.index, asIntOf, run_underlying g1, Sem.run_bind, Sem.run_pure, Result.andThen_ok]
      simp [hlt', part, hag, sizeOf, typeInfo, i1, i2]
    · rw [List.getElem?_take] at hj hv
      split at hj
      · rename_i hlt2
        rw [if_pos hlt2] at hv
        rw [List.getElem?_drop] at hj hv
        obtain ⟨v', k1, k2⟩ := e2.get hj
        rw [k1] at hv
        cases hv
        exact k2
      · cases hj) hn
end ops
/-- Rows of structs. -/
def rowF {α : Type} (c : α → List CV) (z : α) (L : List α) (k j : Nat) : CV := (c (L.getD k z)).getD j .any
section rows
variable {α : Type} {c : α → List CV} {z : α} {sz : Nat}
theorem getD_app {L M : List α} {k : Nat} : (L ++ M).getD k z = if k < L.length then L.getD k z else M.getD (k - L.length) z := by
  simp only [List.getD_eq_getElem?_getD, List.getElem?_append]
  split <;> rfl
theorem rowF_imm (hc : ∀ x, (c x).all immC = true) (L : List α) (k j : Nat) : immC (rowF c z L k j) = true := lF_imm (hc _) 0 j
theorem row_app (L M : List α) : ∀ i, ∀ j, appF (rowF c z L) L.length (rowF c z M) i j = rowF c z (L ++ M) i j := fun i j => by
  unfold appF
  by_cases h : i < L.length
  · rw [Nat.blt_eq.mpr h]
    simp only [cond_true, rowF, getD_app, if_pos h]
  · rw [show Nat.blt i L.length = false from Bool.eq_false_iff.2 fun h' => h (Nat.blt_eq.mp h')]
    simp only [cond_false, rowF, getD_app, if_neg h]
theorem row_snoc (L : List α) (x : α) (hc : ∀ x, (c x).all immC = true) (hz : (c x).length = sz) : ∀ i, i < L.length + 1 → ∀ j, j < sz → appF (rowF c z L) L.length (sF (c x) sz) i j = rowF c z (L ++ [x]) i j ∧ immC (appF (rowF c z L) L.length (sF (c x) sz) i j) = true :=
  app_F (fun i hi j _ => by simp only [rowF, getD_app, if_pos hi]) (fun j _ => by simp only [rowF, getD_app, if_neg (Nat.lt_irrefl _), Nat.sub_self]; rfl) fun i _ j _ => rowF_imm hc _ i j
theorem row_drop (L : List α) (l : Nat) : (fun k j => rowF c z L (l + k) j) = rowF c z (L.drop l) := by
  funext k j
  simp only [rowF, List.getD_eq_getElem?_getD, List.getElem?_drop]
theorem row_take (L : List α) (h : Nat) : ∀ k, k < h → ∀ j, j < sz → rowF c z L k j = rowF c z (L.take h) k j := fun k hk j _ => by
  simp only [rowF, List.getD_eq_getElem?_getD, List.getElem?_take, if_pos hk]
def rowN (c : α → List CV) (g : Nat → α) (k j : Nat) : CV := (c (g k)).getD j .any
theorem rowN_imm (hc : ∀ x, (c x).all immC = true) (g : Nat → α) (k j : Nat) : immC (rowN c g k j) = true := lF_imm (hc _) 0 j
theorem rowN_snoc (g : Nat → α) (n : Nat) {l : List CV} (hc : ∀ x, (c x).all immC = true) (hl : l = c (g n)) : ∀ i, i < n + 1 → ∀ j, j < sz → appF (rowN c g) n (sF l sz) i j = rowN c g i j ∧ immC (appF (rowN c g) n (sF l sz) i j) = true :=
  app_F (fun i _ j _ => rfl) (fun j _ => by subst hl; rfl) fun i _ j _ => rowN_imm hc _ i j
theorem row_one (x : α) : rowF c z [x] 0 = fun j => (c x).getD j .any := rfl
end rows
end
end Go.AV
end
