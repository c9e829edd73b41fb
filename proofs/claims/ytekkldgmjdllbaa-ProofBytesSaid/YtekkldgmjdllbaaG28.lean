/- Parts of the proof: AGen. -/
import Derived.Test.YtekkldgmjdllbaaG20
set_option linter.unusedSimpArgs false
set_option linter.unusedVariables false
section
namespace Go.AV
open Go Go.RowKit Go.Flow
section
variable {P : Program}
def newL : Nat → List AB → List (Nat × AB)
 | _, [] => []
 | i, B :: bs => (900 + i, B) :: newL (i + 1) bs
theorem newL_at : ∀ {bs : List AB} {n i : Nat}, assoc (newL n bs) i = if 900 + n ≤ i then bs[i - (900 + n)]? else none
 | [], n, i => by simp [newL, assoc]
 | B :: bs, n, i => by
   unfold newL assoc
   cases hb : Nat.beq i (900 + n) with
   | true =>
     have := Nat.eq_of_beq_eq_true hb
     subst this
     simp
   | false =>
     have hne : i ≠ 900 + n := fun e => by rw [e, Nat.beq_refl] at hb; cases hb
     simp only [cond_false]
     rw [newL_at]
     by_cases h : 900 + (n + 1) ≤ i
     ·rw [if_pos h, if_pos (by omega), show i - (900 + n) = (i - (900 + (n + 1))) + 1 by omega, List.getElem?_cons_succ]
     ·rw [if_neg h, if_neg (by omega)]
def endL (nw hs : List AB) : List (Nat × AB) := newL 0 nw ++ lentL 0 hs
theorem endL_at {nw hs : List AB} (hn : nw.length ≤ 100) (i : Nat) : assoc (endL nw hs) i = if 1000 ≤ i then hs[i - 1000]? else if 900 ≤ i then nw[i - 900]? else none := by
 unfold endL
 rw [assoc_app, newL_at, lentL_at]
 by_cases h1 : 1000 ≤ i
 ·simp only [show 900 + 0 ≤ i by omega, show 1000 + 0 ≤ i by omega, h1, if_true]
  rw [List.getElem?_eq_none (by omega)]
 ·simp only [show ¬ 1000 + 0 ≤ i by omega, h1, if_false]
  by_cases h2 : 900 ≤ i
  ·simp only [show 900 + 0 ≤ i by omega, h2, if_true, Nat.add_zero]
   cases nw[i - 900]? <;> rfl
  ·simp only [show ¬ 900 + 0 ≤ i by omega, h2, if_false]
def GE (P : Program) (f : FuncId) (args : List V1) (hs : List AB) (R : AV → List AB → List AB → Prop) : Prop :=
 ∀ (b0 : Base) (vals : List Value), HRel b0 b0.fix (assoc (lentL 0 hs)) b0.w → (∀ i v, b0.fix i = some v → i < 1000 + hs.length) → (∀ b, b0.Y b → own b0.fix (assoc (lentL 0 hs)) b) → RepL (RepV b0.fix (out b0 b0.fix (assoc (lentL 0 hs))) b0.w) args vals →
   Calls P f vals.toArray b0.w fun e w' => ∃ v τ r hs' nw, e = .returned v ∧ R r hs' nw ∧ hs'.length = hs.length ∧ nw.length ≤ 100 ∧ HRel b0 τ (assoc (endL nw hs')) w' ∧ RepA τ (out b0 τ (assoc (endL nw hs'))) w' r v ∧ Keep b0.Y b0.w w'
def GEq (r : AV) (hs' nw : List AB) : AV → List AB → List AB → Prop := fun a b c => a = r ∧ b = hs' ∧ c = nw
theorem GE.mono {f : FuncId} {args : List V1} {hs : List AB} {R R' : AV → List AB → List AB → Prop} (h : GE P f args hs R) (hR : ∀ r hs' nw, R r hs' nw → R' r hs' nw) : GE P f args hs R' := fun b0 vals h1 h2 h3 h4 =>
 (h b0 vals h1 h2 h3 h4).mono fun e w' ⟨v, τ, r, hs', nw, g1, g2, g3⟩ => ⟨v, τ, r, hs', nw, g1, hR _ _ _ g2, g3⟩

def GRes (P : Program) (S : St) (rv : ResultVar) (x : V1) : Prop := ∀ b0 σ a w, Rel0 b0 σ S a w → ∃ v, (resV rv a.tmps).run P w = .ok v w ∧ RepV σ (out b0 σ S.h) w x v
theorem GRes.tmp {S : St} {t : Tmp} {x : V1} (ht : S.t t = some x.av) : GRes P S (.tmp t) x := fun b0 σ a w R => ⟨_, rfl, RepV.of_av (R.sl t _ ht)⟩
theorem GRes.box {tab : List (TypeId × TD)} (T : tabOk P tab = true) {S : St} {c : Tmp} {t : TypeId} {id sz : Nat} {bt : TypeId} {F : Nat → Nat → CV} {d : TD} {l : List CV} (hc : S.t c = some (.c (.pt id sz 0 0))) (hh : S.h id = some ⟨false, 1, sz, bt, F⟩) (ht : assoc tab t = some d) (hk : isAg d.k = true) (hz : d.size = sz)
 (hl : cellsFrom (F 0) 0 d.size = l) : GRes P S (.cell c t) (.ag l) := fun b0 σ a w R => by
 obtain ⟨b, cap, cs, -, e1, -, e2, -, -, e3⟩ := at_pt R (R.sl c _ hc) hh rfl (by simp : 0 < 1)
 obtain ⟨ud, g1, g2⟩ := ty_ag T ht hk
 obtain ⟨inf, z, u', i1, i2, i3, -⟩ := ty_info T ht
 subst hl
 simp only at e3
 have hcell : ∀ i, i < d.size → w.cell? (Addr.add ⟨b, 0 * sz + 0, none⟩ i) = some (cs.getD (0 * sz + (0 + i)) undef) ∧ RepC σ (out b0 σ S.h) w (F 0 (0 + i)) (cs.getD (0 * sz + (0 + i)) undef) := fun i hi => by
  obtain ⟨u, f1, f2⟩ := e3 0 (by simp) (0 + i) (by omega)
  rw [add_off, Nat.add_assoc, Array.getD_eq_getD_getElem?, f1]
  exact ⟨(cell_of_row w b _ cs bt (0, 0) e2).trans f1, f2⟩
 refine ⟨.agg ((List.range d.size).map fun i => cs.getD (0 * sz + (0 + i)) undef).toArray, ?_, _, rfl, rep_cells fun i hi => (hcell i hi).2⟩
 have := run_agg (P := P) g1 g2 i1 (w := w) (a := ⟨b, 0 * sz + 0, none⟩) (f := fun i => cs.getD (0 * sz + (0 + i)) undef) (fun i hi => (hcell i (by omega)).1)
 rw [i2] at this
 simp only [resV, e1, asAddr, Sem.run_bind, Sem.run_pure, Result.andThen_ok, this]
theorem GRes.le {S : St} {rv : ResultVar} {x : V1} (h : ARes P S rv x) : GRes P S rv x := fun b0 σ a w R => let ⟨v, h1, h2⟩ := h b0 σ a w R; ⟨v, h1, h2.some_⟩
inductive GRets (P : Program) (S : St) : List ResultVar → AV → Prop
 | no : GRets P S [] (.tu [])
 | one {r : ResultVar} {x : V1} (h : GRes P S r x) : GRets P S [r] x.av
 | two {r1 r2 : ResultVar} {x y : V1} (h1 : GRes P S r1 x) (h2 : GRes P S r2 y) : GRets P S [r1, r2] (.tu [x, y])
 | three {r1 r2 r3 : ResultVar} {x y z : V1} (h1 : GRes P S r1 x) (h2 : GRes P S r2 y) (h3 : GRes P S r3 z) : GRets P S [r1, r2, r3] (.tu [x, y, z])
theorem GRets.run {S : St} {b0 : Base} {σ : Nat → Option Value} {a : Act} {w : World} {fn : Func} {rs : List ResultVar} {r : AV} (hfn : fn.results = rs.toArray) (h : GRets P S rs r) (R : Rel0 b0 σ S a w) :
 ∃ v, (results fn a.tmps).run P w = .ok v w ∧ RepA σ (out b0 σ S.h) w r v := by
 rw [results_eq, hfn]
 generalize hf : (fun rv => resV rv a.tmps) = f
 have hfr : ∀ r, resV r a.tmps = f r := fun r => by rw [← hf]
 cases h with
 | no => exact ⟨.tuple #[], by simp, [], rfl, trivial⟩
 | @one r x h =>
   obtain ⟨v, h1, h2⟩ := h b0 σ a w R
   rw [hfr] at h1
   exact ⟨v, by simp [h1], h2.av⟩
 | @two r1 r2 x y h1 h2 =>
   obtain ⟨v, a1, a2⟩ := h1 b0 σ a w R
   obtain ⟨u, c1, c2⟩ := h2 b0 σ a w R
   rw [hfr] at a1 c1
   exact ⟨.tuple #[v, u], by simp [a1, c1], [v, u], rfl, a2, c2, trivial⟩
 | @three r1 r2 r3 x y z h1 h2 h3 =>
   obtain ⟨v, a1, a2⟩ := h1 b0 σ a w R
   obtain ⟨u, c1, c2⟩ := h2 b0 σ a w R
   obtain ⟨t, d1, d2⟩ := h3 b0 σ a w R
   rw [hfr] at a1 c1 d1
   exact ⟨.tuple #[v, u, t], by simp [a1, c1, d1], [v, u, t], rfl, a2, c2, d2, trivial⟩
def GEnd (P : Program) (rs : List ResultVar) (R : AV → List AB → List AB → Prop) (m : Nat) (S : St) : Prop :=
 ∃ S' loc r hs' nw, R r hs' nw ∧ (Nat.beq hs'.length m && Nat.ble nw.length 100) = true ∧ Wk S S' ∧ S'.h = assoc (loc ++ endL nw hs') ∧ loc.all (fun p => Nat.blt p.1 900) = true ∧ GRets P S' rs r
def RetG (P : Program) (rs : List ResultVar) (R : AV → List AB → List AB → Prop) (m : Nat) : Exit → St → Prop
 | .ret, S => GEnd P rs R m S
 | .normal, S => GEnd P rs R m S
 | _, _ => False
theorem RepC.less {σ : Nat → Option Value} {O O' : Nat → Prop} {w : World} (hO : ∀ b, O' b → O b) {x : CV} {u : Value} (h : RepC σ O w x u) : RepC σ O' w x u :=
 h.keep ⟨rfl, rfl, rfl, Nat.le_refl _, fun _ _ _ => rfl⟩ (fun b hb => .inl (hO b hb)) fun _ _ h => h
theorem RepA.less {σ : Nat → Option Value} {O O' : Nat → Prop} {w : World} (hO : ∀ b, O' b → O b) {x : AV} {u : Value} (h : RepA σ O w x u) : RepA σ O' w x u :=
 h.keep ⟨rfl, rfl, rfl, Nat.le_refl _, fun _ _ _ => rfl⟩ (fun b hb => .inl (hO b hb)) fun _ _ h => h
theorem OBk.less {σ : Nat → Option Value} {O O' : Nat → Prop} {w : World} (hO : ∀ b, O' b → O b) {v : Value} {B : AB} (h : OBk σ O w v B) : OBk σ O' w v B :=
 h.keep ⟨rfl, rfl, rfl, Nat.le_refl _, fun _ _ _ => rfl⟩ (fun b hb => .inl (hO b hb)) (fun _ _ h => h) fun _ _ => rfl
theorem HRel.part {b0 : Base} {σ : Nat → Option Value} {h h' : Nat → Option AB} {w : World} (H : HRel b0 σ h w) (hh : ∀ i, h' i ≠ none → h' i = h i) (hf : ∀ i v, b0.fix i = some v → h' i ≠ none) :
 HRel b0 σ h' w ∧ (∀ b, own σ h' b → own σ h b) := by
 have up : ∀ i, h' i ≠ none → h i ≠ none := fun i hi => by rw [← hh i hi]; exact hi
 have hown : ∀ b, own σ h' b → own σ h b := fun b ⟨i, v, h1, h2, h3⟩ => ⟨i, v, up i h1, h2, h3⟩
 refine ⟨⟨fun i B hB => ?_, fun i j v1 v2 b hi hj => H.inj i j v1 v2 b (up i hi) (up j hj), fun b hb => H.new b (hown b hb), fun i v hi => ⟨(H.fx i v hi).1, hf i v hi⟩, H.big⟩, hown⟩
 obtain ⟨v, e1, e2⟩ := H.blk i B ((hh i (by rw [hB]; simp)).symm.trans hB)
 exact ⟨v, e1, e2.less fun b hb => hb.imp (hown b) fun h => h⟩
inductive BackC (ids ni : List Nat) : CV → CV → Prop
 | imm (y : CV) (h : immC y = true) : BackC ids ni y y
 | any (y : CV) : BackC ids ni y .any
 | ow (i id : Nat) (h : posOf ids id = some i) : BackC ids ni (.ow (1000 + i)) (.ow id)
 | pt (i id sz k j : Nat) (h : posOf ids id = some i) : BackC ids ni (.pt (1000 + i) sz k j) (.pt id sz k j)
 | owN (i id : Nat) (h : posOf ni id = some i) : BackC ids ni (.ow (900 + i)) (.ow id)
 | ptN (i id sz k j : Nat) (h : posOf ni id = some i) : BackC ids ni (.pt (900 + i) sz k j) (.pt id sz k j)
 | fn (f m : Nat) (C : Nat → CV) (h : ∀ i, i < m → immC (C i) = true) : BackC ids ni (.fn f m C) (.fn f m C)
inductive BackV (ids ni : List Nat) : V1 → V1 → Prop
 | c {y x : CV} (h : BackC ids ni y x) : BackV ids ni (.c y) (.c x)
 | ag {l m : List CV} (h : LeL (BackC ids ni) l m) : BackV ids ni (.ag l) (.ag m)
inductive BackA (ids ni : List Nat) : AV → AV → Prop
 | c {y x : CV} (h : BackC ids ni y x) : BackA ids ni (.c y) (.c x)
 | ag {l m : List CV} (h : LeL (BackC ids ni) l m) : BackA ids ni (.ag l) (.ag m)
 | tu {l m : List V1} (h : LeL (BackV ids ni) l m) : BackA ids ni (.tu l) (.tu m)
def BackB (ids ni : List Nat) : List AB → List AB → Prop
 | [], [] => True
 | A :: l, B :: m => (∃ G, A = ⟨B.row, B.n, B.sz, B.ty, G⟩ ∧ ∀ k, k < B.n → ∀ j, j < B.sz → BackC ids ni (G k j) (B.F k j)) ∧ BackB ids ni l m
 | _, _ => False
theorem backB_at {ids ni : List Nat} : ∀ {l m : List AB}, BackB ids ni l m → l.length = m.length ∧ ∀ (i : Nat) (B : AB), m[i]? = some B → ∃ G, l[i]? = some ⟨B.row, B.n, B.sz, B.ty, G⟩ ∧ ∀ k, k < B.n → ∀ j, j < B.sz → BackC ids ni (G k j) (B.F k j)
 | [], [], _ => ⟨rfl, fun i B h => by simp at h⟩
 | A :: l, B :: m, h => by
   obtain ⟨h1, h2⟩ := backB_at h.2
   refine ⟨by simp [h1], fun i B' hi => ?_⟩
   cases i with
   | zero => cases hi; obtain ⟨G, rfl, hG⟩ := h.1; exact ⟨G, rfl, hG⟩
   | succ i => simpa using h2 i B' (by simpa using hi)
 | [], _ :: _, h => h.elim
 | _ :: _, [], h => h.elim
theorem BackC.rep {ids ni : List Nat} {τ σ : Nat → Option Value} {O O' : Nat → Prop} {w : World} (hO : ∀ b, O' b → O b) (h1 : ∀ i id, posOf ids id = some i → ∀ u, τ (1000 + i) = some u → σ id = some u) (h2 : ∀ i id, posOf ni id = some i → ∀ u, τ (900 + i) = some u → σ id = some u)
 {y x : CV} {u : Value} (h : BackC ids ni y x) (hu : RepC τ O w y u) : RepC σ O' w x u := by
 cases h with
 | imm y hi => exact repC_imm hi hu.1 ((repI_imm hi hu).less hO)
 | any y => exact ⟨hu.1, trivial⟩
 | ow i id hp => exact ⟨hu.1, h1 i id hp _ hu.2.1, hu.2.2⟩
 | pt i id sz k j hp => obtain ⟨g, v, b, e1, e2, e3⟩ := hu; exact ⟨g, v, b, h1 i id hp _ e1, e2, e3⟩
 | owN i id hp => exact ⟨hu.1, h2 i id hp _ hu.2.1, hu.2.2⟩
 | ptN i id sz k j hp => obtain ⟨g, v, b, e1, e2, e3⟩ := hu; exact ⟨g, v, b, h2 i id hp _ e1, e2, e3⟩
 | fn f m C hi =>
   obtain ⟨g, vs, e1, e2, e3⟩ := hu
   refine ⟨g, vs, e1, e2, fun i him => ?_⟩
   obtain ⟨v, k1, k2, k3⟩ := e3 i him
   have hi' := hi i him
   refine ⟨v, k1, k2, ?_⟩
   have : RepC τ O w (C i) v := by
    refine ⟨k2, ?_⟩
    cases hC : C i <;> rw [hC] at k3 hi' <;> first | exact k3 | cases hi'
   have := repC_imm (σ := σ) hi' k2 ((repI_imm hi' this).less hO)
   have h2 := this.2
   cases hC : C i <;> rw [hC] at h2 hi' <;> first | exact h2 | cases hi'
theorem BackA.rep {ids ni : List Nat} {τ σ : Nat → Option Value} {O O' : Nat → Prop} {w : World} (hO : ∀ b, O' b → O b) (h1 : ∀ i id, posOf ids id = some i → ∀ u, τ (1000 + i) = some u → σ id = some u) (h2 : ∀ i id, posOf ni id = some i → ∀ u, τ (900 + i) = some u → σ id = some u)
 {y x : AV} {u : Value} (h : BackA ids ni y x) (hu : RepA τ O w y u) : RepA σ O' w x u := by
 cases h with
 | c h => exact h.rep hO h1 h2 hu
 | ag h =>
   obtain ⟨vs, rfl, e⟩ := hu
   exact ⟨vs, rfl, LeL.get (fun x y v hxy hv => hxy.rep hO h1 h2 hv) h e⟩
 | tu h =>
   obtain ⟨vs, rfl, e⟩ := hu
   refine ⟨vs, rfl, LeL.get (fun x y v hxy hv => ?_) h e⟩
   cases hxy with
   | c h => exact h.rep hO h1 h2 hv
   | ag h =>
     obtain ⟨ws, rfl, e⟩ := hv
     exact ⟨ws, rfl, LeL.get (fun x y v hxy hv => hxy.rep hO h1 h2 hv) h e⟩

theorem BackC.mo {ids ni : List Nat} {y x : CV} {b : Nat} {o : Obj} (h : BackC ids ni y x) (hy : MoOk y b o) : MoOk x b o := by
 obtain ⟨hk0, hy⟩ := hy
 refine ⟨hk0, ?_⟩
 rcases hy with rfl | ⟨K, rfl, hK⟩
 ·cases h <;> exact .inl rfl
 ·cases h with
  | imm _ _ => exact .inr ⟨K, rfl, hK⟩
  | any _ => exact .inl rfl
theorem OBk.back {ids ni : List Nat} {τ σ : Nat → Option Value} {O O' : Nat → Prop} {w : World} {v : Value} {B : AB} {G : Nat → Nat → CV} (hO : ∀ b, O' b → O b) (h1 : ∀ i id, posOf ids id = some i → ∀ u, τ (1000 + i) = some u → σ id = some u) (h2 : ∀ i id, posOf ni id = some i → ∀ u, τ (900 + i) = some u → σ id = some u)
 (hb : ∀ k, k < B.n → ∀ j, j < B.sz → BackC ids ni (G k j) (B.F k j)) (h : OBk τ O w v ⟨B.row, B.n, B.sz, B.ty, G⟩) : OBk σ O' w v B := by
 rcases h with h0 | ⟨b, cap, cs, k1, k2, k3, k4⟩ | ⟨m1, m2, m3, b, o, rfl, m4, m5⟩
 ·exact .inl h0
 ·exact .inr (.inl ⟨b, cap, cs, k1, k2, k3, fun k hk j hj => let ⟨u, n1, n2⟩ := k4 k hk j hj; ⟨u, n1, (hb k hk j hj).rep hO h1 h2 n2⟩⟩)
 ·replace m2 : B.n = 1 := m2
  replace m3 : B.sz = 1 := m3
  exact .inr (.inr ⟨m1, m2, m3, b, o, rfl, m4, (hb 0 (by omega) 0 (by omega)).mo m5⟩)
theorem OBk.lend {ids : List Nat} {σ fix : Nat → Option Value} {O O1 : Nat → Prop} {w w1 : World} {v : Value} {B : AB} {F : Nat → Nat → CV} (hK : Keep O w w1) (hO : ∀ b, O1 b → O b ∨ w.heap.size ≤ b) (hf : ∀ i id u, posOf ids id = some i → σ id = some u → fix (1000 + i) = some u)
 (hb : ∀ k, k < B.n → ∀ j, j < B.sz → LentC ids (F k j) (B.F k j)) (hbl : ∀ b, baseBlk v = some b → w1.heap[b]? = w.heap[b]?) (h : OBk σ O w v ⟨B.row, B.n, B.sz, B.ty, F⟩) : OBk fix O1 w1 v B := by
 rcases h with h0 | ⟨b, cap, cs, k1, k2, k3, k4⟩ | ⟨m1, m2, m3, b, o, rfl, m4, m5⟩
 ·exact .inl h0
 ·refine .inr (.inl ⟨b, cap, cs, k1, (hbl b k1.blk).trans k2, k3, fun k hk j hj => ?_⟩)
  obtain ⟨u, n1, n2⟩ := k4 k hk j hj
  refine ⟨u, n1, ?_⟩
  rcases hb k hk j hj with ⟨hFe, him⟩ | ⟨id', i', hFe, hpo, hGe⟩
  ·simp only [hFe] at n2
   exact repC_imm him n2.1 ((repI_imm him n2).keep hK hO)
  ·simp only [hFe] at n2
   rw [hGe]
   exact ⟨n2.1, hf _ _ _ hpo n2.2.1, n2.2.2⟩
 ·replace m2 : B.n = 1 := m2
  replace m3 : B.sz = 1 := m3
  exact .inr (.inr ⟨m1, m2, m3, b, o, rfl, (hbl b rfl).trans m4, (hb 0 (by omega) 0 (by omega)).mo m5⟩)
theorem look_app {A B : List (Nat × Option AB)} {h : Nat → Option AB} : look (A ++ B) h = look A (look B h) := by
 unfold look; rw [List.foldr_append]
theorem posOf_mem : ∀ {l : List Nat} {id : Nat}, id ∈ l → ∃ i, posOf l id = some i
 | a :: l, id, h => by
   unfold posOf
   cases hb : Nat.beq a id with
   | true => exact ⟨0, rfl⟩
   | false =>
     have : id ∈ l := (List.mem_cons.1 h).resolve_left fun e => by subst e; rw [Nat.beq_refl] at hb; cases hb
     obtain ⟨i, hi⟩ := posOf_mem this
     exact ⟨i + 1, by simp [hi]⟩
inductive FnV (S : St) (z : Operand) (f : FuncId) : List V1 → Prop
 | fn (m : Nat) (C : Nat → CV) (h : S.opd z = some (.c (.fn f m C))) (hm : ((List.range m).all fun i => noFn (C i)) = true) : FnV S z f ((List.range m).map fun i => V1.c (C i))
 | fi (m : Nat) (C : Nat → CV) (h : S.opd z = some (.c (.fi f m C))) (hm : ((List.range m).all fun i => immC (C i)) = true) : FnV S z f ((List.range m).map fun i => V1.c (C i))
theorem FnV.func {S : St} {f : FuncId} : FnV S (.func f) f [] := FnV.fn 0 (fun _ => .any) rfl rfl
theorem FnV.congr {S S1 : St} {z : Operand} {f : FuncId} {cap : List V1} (h : FnV S z f cap) (he : S1.opd z = S.opd z) : FnV S1 z f cap := by
 cases h with
 | fn m C h hm => exact .fn m C (he.trans h) hm
 | fi m C h hm => exact .fi m C (he.trans h) hm
theorem FnV.rep {S : St} {z : Operand} {f : FuncId} {cap : List V1} (h : FnV S z f cap) {b0 : Base} {σ : Nat → Option Value} {a : Act} {w : World} (R : Rel0 b0 σ S a w) :
 ∃ vs : List Value, a.eval z = .func (.func f) #[] vs.toArray ∧ RepL (RepV σ (out b0 σ S.h) w) cap vs := by
 cases h with
 | fn m C h hm =>
   obtain ⟨_, vs, e1, e2, e3⟩ := opd_rep R h
   refine ⟨vs, e1, RepL.of_get (by simp [e2]) fun i x u g1 g2 => ?_⟩
   have hlt : i < m := by have := (List.getElem?_eq_some_iff.1 g1).1; simpa using this
   rw [List.getElem?_map, List.getElem?_range hlt] at g1
   cases g1
   obtain ⟨v, k1, k2, k3⟩ := e3 i hlt
   rw [g2] at k1
   cases k1
   have hnf := List.all_eq_true.1 hm i (List.mem_range.2 hlt)
   refine ⟨k2, ?_⟩
   show match C i with | .fn f m C => _ | x => RepB σ _ w x u
   cases hC : C i <;> rw [hC] at hnf k3 <;> first | exact k3 | cases hnf
 | fi m C h hm =>
   obtain ⟨_, vs, e1, e2, e3⟩ := opd_rep R h
   refine ⟨vs, e1, RepL.of_get (by simp [e2]) fun i x u g1 g2 => ?_⟩
   have hlt : i < m := by have := (List.getElem?_eq_some_iff.1 g1).1; simpa using this
   rw [List.getElem?_map, List.getElem?_range hlt] at g1
   cases g1
   obtain ⟨v, k1, k2, k3⟩ := e3 i hlt
   rw [g2] at k1
   cases k1
   exact repC_imm (List.all_eq_true.1 hm i (List.mem_range.2 hlt)) k2 k3
theorem RepL.append {α : Type} {R : α → Value → Prop} : ∀ {l m : List α} {us vs : List Value}, RepL R l us → RepL R m vs → RepL R (l ++ m) (us ++ vs)
 | [], _, [], _, _, h => h
 | _ :: _, _, _ :: _, _, h, h' => ⟨h.1, RepL.append h.2 h'⟩
 | [], _, _ :: _, _, h, _ => h.elim
 | _ :: _, _, [], _, h, _ => h.elim
section ops
variable {ops : Array Oper} {rest : List Oper} {acc : List (List Nat × List Nat)} {S : St} {Q : List (List Nat × List Nat) → St → Prop} {dst : Option Tmp} {ty : TypeId} {pos : String} {after : Array Edge} {guard : Option (Nat × Bool)}
end ops
section txt
variable {ops : Array Oper} {rest : List Oper} {S : St} {Q : St → Prop} {dst : Option Tmp} {ty : TypeId} {pos : String} {after : Array Edge} {guard : Option (Nat × Bool)}
end txt
end
end Go.AV
end
