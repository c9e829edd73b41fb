/- Parts of the proof: AGen, AMov, ARangeN. -/
import Derived.Test.YtekkldgmjdllbaaG17
import Derived.Test.YtekkldgmjdllbaaG08
set_option linter.unusedSimpArgs false
set_option linter.unusedVariables false
section
namespace Go.AV
open Go Go.RowKit Go.Flow
section
variable {P : Program}
def newL : Nat → List AB → List (Nat × AB)
 | _, [] => []
 | i, B :: bs => (900 + i, B) :: newL (i + 1) bs
def endL (nw hs : List AB) : List (Nat × AB) := newL 0 nw ++ lentL 0 hs
def GE (P : Program) (f : FuncId) (args : List V1) (hs : List AB) (R : AV → List AB → List AB → Prop) : Prop :=
 ∀ (b0 : Base) (vals : List Value), HRel b0 b0.fix (assoc (lentL 0 hs)) b0.w → (∀ i v, b0.fix i = some v → i < 1000 + hs.length) → (∀ b, b0.Y b → own b0.fix (assoc (lentL 0 hs)) b) → RepL (RepV b0.fix (out b0 b0.fix (assoc (lentL 0 hs))) b0.w) args vals →
   Calls P f vals.toArray b0.w fun e w' => ∃ v τ r hs' nw, e = .returned v ∧ R r hs' nw ∧ hs'.length = hs.length ∧ nw.length ≤ 100 ∧ HRel b0 τ (assoc (endL nw hs')) w' ∧ RepA τ (out b0 τ (assoc (endL nw hs'))) w' r v ∧ Keep b0.Y b0.w w'
theorem GE.mono {f : FuncId} {args : List V1} {hs : List AB} {R R' : AV → List AB → List AB → Prop} (h : GE P f args hs R) (hR : ∀ r hs' nw, R r hs' nw → R' r hs' nw) : GE P f args hs R' := fun b0 vals h1 h2 h3 h4 =>
 (h b0 vals h1 h2 h3 h4).mono fun e w' ⟨v, τ, r, hs', nw, g1, g2, g3⟩ => ⟨v, τ, r, hs', nw, g1, hR _ _ _ g2, g3⟩

def GRes (P : Program) (S : St) (rv : ResultVar) (x : V1) : Prop := ∀ b0 σ a w, Rel0 b0 σ S a w → ∃ v, (resV rv a.tmps).run P w = .ok v w ∧ RepV σ (out b0 σ S.h) w x v
theorem GRes.tmp {S : St} {t : Tmp} {x : V1} (ht : S.t t = some x.av) : GRes P S (.tmp t) x := fun b0 σ a w R => ⟨_, rfl, RepV.of_av (R.sl t _ ht)⟩
theorem GRes.box {tab : List (TypeId × TD)} (T : tabOk P tab = true) {S : St} {c : Tmp} {t : TypeId} {id sz : Nat} {bt : TypeId} {F : Nat → Nat → CV} {d : TD} {l : List CV} (hc : S.t c = some (.c (.pt id sz 0 0))) (hh : S.h id = some ⟨false, 1, sz, bt, F⟩) (ht : assoc tab t = some d) (hk : isAg d.k = true) (hz : d.size = sz)
 (hl : cellsFrom (F 0) 0 d.size = l) : GRes P S (.cell c t) (.ag l) := fun b0 σ a w R => by
 obtain ⟨b, cap, cs, -, e1, -, e2, -, -, e3⟩ := at_pt R (R.sl c _ hc) hh rfl (by simp : 0 < 1)
 obtain ⟨ud, g1, g2⟩ := ty_ag T ht hk
 obtain ⟨inf, z, u', i1, i2, i3, -⟩ := ty_info T ht
 subst hl
 simp only at e3
 have hcell : ∀ i, i < d.size → w.cell? (Addr.add ⟨b, 0 * sz + 0, none⟩ i) = some (cs.getD (0 * sz + (0 + i)) undef) ∧ RepC σ (out b0 σ S.h) w (F 0 (0 + i)) (cs.getD (0 * sz + (0 + i)) undef) := fun i hi => by
  obtain ⟨u, f1, f2⟩ := e3 0 (by simp) (0 + i) (by omega)
  rw [add_off, Nat.add_assoc, Array.getD_eq_getD_getElem?, f1]
  exact ⟨(cell_of_row w b _ cs bt (0, 0) e2).trans f1, f2⟩
 refine ⟨.agg ((List.range d.size).map fun i => cs.getD (0 * sz + (0 + i)) undef).toArray, ?_, _, rfl, rep_cells fun i hi => (hcell i hi).2⟩
 have := run_agg (P := P) g1 g2 i1 (w := w) (a := ⟨b, 0 * sz + 0, none⟩) (f := fun i => cs.getD (0 * sz + (0 + i)) undef) (fun i hi => (hcell i (by omega)).1)
 rw [i2] at this
 simp only [resV, e1, asAddr, Sem.run_bind, Sem.run_pure, Result.andThen_ok, this]
theorem GRes.le {S : St} {rv : ResultVar} {x : V1} (h : ARes P S rv x) : GRes P S rv x := fun b0 σ a w R => let ⟨v, h1, h2⟩ := h b0 σ a w R; ⟨v, h1, h2.some_⟩
inductive GRets (P : Program) (S : St) : List ResultVar → AV → Prop
 | no : GRets P S [] (.tu [])
 | one {r : ResultVar} {x : V1} (h : GRes P S r x) : GRets P S [r] x.av
 | two {r1 r2 : ResultVar} {x y : V1} (h1 : GRes P S r1 x) (h2 : GRes P S r2 y) : GRets P S [r1, r2] (.tu [x, y])
 | three {r1 r2 r3 : ResultVar} {x y z : V1} (h1 : GRes P S r1 x) (h2 : GRes P S r2 y) (h3 : GRes P S r3 z) : GRets P S [r1, r2, r3] (.tu [x, y, z])
theorem GRets.run {S : St} {b0 : Base} {σ : Nat → Option Value} {a : Act} {w : World} {fn : Func} {rs : List ResultVar} {r : AV} (hfn : fn.results = rs.toArray) (h : GRets P S rs r) (R : Rel0 b0 σ S a w) :
 ∃ v, (results fn a.tmps).run P w = .ok v w ∧ RepA σ (out b0 σ S.h) w r v := by
 rw [results_eq, hfn]
 generalize hf : (fun rv => resV rv a.tmps) = f
 have hfr : ∀ r, resV r a.tmps = f r := fun r => by rw [← hf]
 cases h with
 | no => exact ⟨.tuple #[], by simp, [], rfl, trivial⟩
 | @one r x h =>
   obtain ⟨v, h1, h2⟩ := h b0 σ a w R
   rw [hfr] at h1
   exact ⟨v, by simp [h1], h2.av⟩
 | @two r1 r2 x y h1 h2 =>
   obtain ⟨v, a1, a2⟩ := h1 b0 σ a w R
   obtain ⟨u, c1, c2⟩ := h2 b0 σ a w R
   rw [hfr] at a1 c1
   exact ⟨.tuple #[v, u], by simp [a1, c1], [v, u], rfl, a2, c2, trivial⟩
 | @three r1 r2 r3 x y z h1 h2 h3 =>
   obtain ⟨v, a1, a2⟩ := h1 b0 σ a w R
   obtain ⟨u, c1, c2⟩ := h2 b0 σ a w R
   obtain ⟨t, d1, d2⟩ := h3 b0 σ a w R
   rw [hfr] at a1 c1 d1
   exact ⟨.tuple #[v, u, t], by simp [a1, c1, d1], [v, u, t], rfl, a2, c2, d2, trivial⟩
theorem RepC.less {σ : Nat → Option Value} {O O' : Nat → Prop} {w : World} (hO : ∀ b, O' b → O b) {x : CV} {u : Value} (h : RepC σ O w x u) : RepC σ O' w x u :=
 h.keep ⟨rfl, rfl, rfl, Nat.le_refl _, fun _ _ _ => rfl⟩ (fun b hb => .inl (hO b hb)) fun _ _ h => h
theorem RepA.less {σ : Nat → Option Value} {O O' : Nat → Prop} {w : World} (hO : ∀ b, O' b → O b) {x : AV} {u : Value} (h : RepA σ O w x u) : RepA σ O' w x u :=
 h.keep ⟨rfl, rfl, rfl, Nat.le_refl _, fun _ _ _ => rfl⟩ (fun b hb => .inl (hO b hb)) fun _ _ h => h
theorem OBk.less {σ : Nat → Option Value} {O O' : Nat → Prop} {w : World} (hO : ∀ b, O' b → O b) {v : Value} {B : AB} (h : OBk σ O w v B) : OBk σ O' w v B :=
 h.keep ⟨rfl, rfl, rfl, Nat.le_refl _, fun _ _ _ => rfl⟩ (fun b hb => .inl (hO b hb)) (fun _ _ h => h) fun _ _ => rfl
inductive BackC (ids ni : List Nat) : CV → CV → Prop
 | imm (y : CV) (h : immC y = true) : BackC ids ni y y
 | any (y : CV) : BackC ids ni y .any
 | ow (i id : Nat) (h : posOf ids id = some i) : BackC ids ni (.ow (1000 + i)) (.ow id)
 | pt (i id sz k j : Nat) (h : posOf ids id = some i) : BackC ids ni (.pt (1000 + i) sz k j) (.pt id sz k j)
 | owN (i id : Nat) (h : posOf ni id = some i) : BackC ids ni (.ow (900 + i)) (.ow id)
 | ptN (i id sz k j : Nat) (h : posOf ni id = some i) : BackC ids ni (.pt (900 + i) sz k j) (.pt id sz k j)
 | fn (f m : Nat) (C : Nat → CV) (h : ∀ i, i < m → immC (C i) = true) : BackC ids ni (.fn f m C) (.fn f m C)
inductive BackV (ids ni : List Nat) : V1 → V1 → Prop
 | c {y x : CV} (h : BackC ids ni y x) : BackV ids ni (.c y) (.c x)
 | ag {l m : List CV} (h : LeL (BackC ids ni) l m) : BackV ids ni (.ag l) (.ag m)
inductive BackA (ids ni : List Nat) : AV → AV → Prop
 | c {y x : CV} (h : BackC ids ni y x) : BackA ids ni (.c y) (.c x)
 | ag {l m : List CV} (h : LeL (BackC ids ni) l m) : BackA ids ni (.ag l) (.ag m)
 | tu {l m : List V1} (h : LeL (BackV ids ni) l m) : BackA ids ni (.tu l) (.tu m)
theorem BackC.rep {ids ni : List Nat} {τ σ : Nat → Option Value} {O O' : Nat → Prop} {w : World} (hO : ∀ b, O' b → O b) (h1 : ∀ i id, posOf ids id = some i → ∀ u, τ (1000 + i) = some u → σ id = some u) (h2 : ∀ i id, posOf ni id = some i → ∀ u, τ (900 + i) = some u → σ id = some u)
 {y x : CV} {u : Value} (h : BackC ids ni y x) (hu : RepC τ O w y u) : RepC σ O' w x u := by
 cases h with
 | imm y hi => exact repC_imm hi hu.1 ((repI_imm hi hu).less hO)
 | any y => exact ⟨hu.1, trivial⟩
 | ow i id hp => exact ⟨hu.1, h1 i id hp _ hu.2.1, hu.2.2⟩
 | pt i id sz k j hp => obtain ⟨g, v, b, e1, e2, e3⟩ := hu; exact ⟨g, v, b, h1 i id hp _ e1, e2, e3⟩
 | owN i id hp => exact ⟨hu.1, h2 i id hp _ hu.2.1, hu.2.2⟩
 | ptN i id sz k j hp => obtain ⟨g, v, b, e1, e2, e3⟩ := hu; exact ⟨g, v, b, h2 i id hp _ e1, e2, e3⟩
 | fn f m C hi =>
   obtain ⟨g, vs, e1, e2, e3⟩ := hu
   refine ⟨g, vs, e1, e2, fun i him => ?_⟩
   obtain ⟨v, k1, k2, k3⟩ := e3 i him
   have hi' := hi i him
   refine ⟨v, k1, k2, ?_⟩
   have : RepC τ O w (C i) v := by
    refine ⟨k2, ?_⟩
    cases hC : C i <;> rw [hC] at k3 hi' <;> first | exact k3 | cases hi'
   have := repC_imm (σ := σ) hi' k2 ((repI_imm hi' this).less hO)
   have h2 := this.2
   cases hC : C i <;> rw [hC] at h2 hi' <;> first | exact h2 | cases hi'
theorem BackA.rep {ids ni : List Nat} {τ σ : Nat → Option Value} {O O' : Nat → Prop} {w : World} (hO : ∀ b, O' b → O b) (h1 : ∀ i id, posOf ids id = some i → ∀ u, τ (1000 + i) = some u → σ id = some u) (h2 : ∀ i id, posOf ni id = some i → ∀ u, τ (900 + i) = some u → σ id = some u)
 {y x : AV} {u : Value} (h : BackA ids ni y x) (hu : RepA τ O w y u) : RepA σ O' w x u := by
 cases h with
 | c h => exact h.rep hO h1 h2 hu
 | ag h =>
   obtain ⟨vs, rfl, e⟩ := hu
   exact ⟨vs, rfl, LeL.get (fun x y v hxy hv => hxy.rep hO h1 h2 hv) h e⟩
 | tu h =>
   obtain ⟨vs, rfl, e⟩ := hu
   refine ⟨vs, rfl, LeL.get (fun x y v hxy hv => ?_) h e⟩
   cases hxy with
   | c h => exact h.rep hO h1 h2 hv
   | ag h =>
     obtain ⟨ws, rfl, e⟩ := hv
     exact ⟨ws, rfl, LeL.get (fun x y v hxy hv => hxy.rep hO h1 h2 hv) h e⟩

theorem BackC.mo {ids ni : List Nat} {y x : CV} {b : Nat} {o : Obj} (h : BackC ids ni y x) (hy : MoOk y b o) : MoOk x b o := by
 obtain ⟨hk0, hy⟩ := hy
 refine ⟨hk0, ?_⟩
 rcases hy with rfl | ⟨K, rfl, hK⟩
 ·cases h <;> exact .inl rfl
 ·cases h with
  | imm _ _ => exact .inr ⟨K, rfl, hK⟩
  | any _ => exact .inl rfl
inductive FnV (S : St) (z : Operand) (f : FuncId) : List V1 → Prop
 | fn (m : Nat) (C : Nat → CV) (h : S.opd z = some (.c (.fn f m C))) (hm : ((List.range m).all fun i => noFn (C i)) = true) : FnV S z f ((List.range m).map fun i => V1.c (C i))
 | fi (m : Nat) (C : Nat → CV) (h : S.opd z = some (.c (.fi f m C))) (hm : ((List.range m).all fun i => immC (C i)) = true) : FnV S z f ((List.range m).map fun i => V1.c (C i))
theorem FnV.func {S : St} {f : FuncId} : FnV S (.func f) f [] := FnV.fn 0 (fun _ => .any) rfl rfl
theorem FnV.rep {S : St} {z : Operand} {f : FuncId} {cap : List V1} (h : FnV S z f cap) {b0 : Base} {σ : Nat → Option Value} {a : Act} {w : World} (R : Rel0 b0 σ S a w) :
 ∃ vs : List Value, a.eval z = .func (.func f) #[] vs.toArray ∧ RepL (RepV σ (out b0 σ S.h) w) cap vs := by
 cases h with
 | fn m C h hm =>
   obtain ⟨_, vs, e1, e2, e3⟩ := opd_rep R h
   refine ⟨vs, e1, RepL.of_get (by simp [e2]) fun i x u g1 g2 => ?_⟩
   have hlt : i < m := by have := (List.getElem?_eq_some_iff.1 g1).1; simpa using this
   rw [List.getElem?_map, List.getElem?_range hlt] at g1
   cases g1
   obtain ⟨v, k1, k2, k3⟩ := e3 i hlt
   rw [g2] at k1
   cases k1
   have hnf := List.all_eq_true.1 hm i (List.mem_range.2 hlt)
   refine ⟨k2, ?_⟩
   show match C i with | .fn f m C => _ | x => RepB σ _ w x u
   cases hC : C i <;> rw [hC] at hnf k3 <;> first | exact k3 | cases hnf
 | fi m C h hm =>
   obtain ⟨_, vs, e1, e2, e3⟩ := opd_rep R h
   refine ⟨vs, e1, RepL.of_get (by simp [e2]) fun i x u g1 g2 => ?_⟩
   have hlt : i < m := by have := (List.getElem?_eq_some_iff.1 g1).1; simpa using this
   rw [List.getElem?_map, List.getElem?_range hlt] at g1
   cases g1
   obtain ⟨v, k1, k2, k3⟩ := e3 i hlt
   rw [g2] at k1
   cases k1
   exact repC_imm (List.all_eq_true.1 hm i (List.mem_range.2 hlt)) k2 k3
theorem RepL.append {α : Type} {R : α → Value → Prop} : ∀ {l m : List α} {us vs : List Value}, RepL R l us → RepL R m vs → RepL R (l ++ m) (us ++ vs)
 | [], _, [], _, _, h => h
 | _ :: _, _, _ :: _, _, h, h' => ⟨h.1, RepL.append h.2 h'⟩
 | [], _, _ :: _, _, h, _ => h.elim
 | _ :: _, _, [], _, h, _ => h.elim
section ops
variable {ops : Array Oper} {rest : List Oper} {acc : List (List Nat × List Nat)} {S : St} {Q : List (List Nat × List Nat) → St → Prop} {dst : Option Tmp} {ty : TypeId} {pos : String} {after : Array Edge} {guard : Option (Nat × Bool)}
end ops
section txt
variable {ops : Array Oper} {rest : List Oper} {S : St} {Q : St → Prop} {dst : Option Tmp} {ty : TypeId} {pos : String} {after : Array Edge} {guard : Option (Nat × Bool)}
end txt
end
section
variable {P : Program}
def movL : Nat → List AB → List (Nat × AB)
 | _, [] => []
 | i, B :: bs => (800 + i, B) :: movL (i + 1) bs
def begL (mv hs : List AB) : List (Nat × AB) := movL 0 mv ++ lentL 0 hs
def GMc (Cl : List Value → World → (Ending → World → Prop) → Prop) (Pre : Base → Prop) (V : Nat → Prop) (args : List V1) (hs mv : List AB) (R : AV → List AB → List AB → Prop) : Prop :=
 ∀ (b0 : Base) (σ : Nat → Option Value) (vals : List Value), Pre b0 → (∀ b, V b → b0.X b) → HRel b0 σ (assoc (begL mv hs)) b0.w → (∀ i v, b0.fix i = some v → i < 1000 + hs.length) → (∀ i v, σ i = some v → b0.fix i = some v ∨ (800 ≤ i ∧ i < 900)) → (∀ b, b0.Y b → own σ (assoc (begL mv hs)) b) → RepL (RepV σ (out b0 σ (assoc (begL mv hs))) b0.w) args vals →
   Cl vals b0.w fun e w' => ∃ v τ r hs' nw, e = .returned v ∧ R r hs' nw ∧ hs'.length = hs.length ∧ nw.length ≤ 100 ∧ HRel b0 τ (assoc (endL nw hs')) w' ∧ RepA τ (out b0 τ (assoc (endL nw hs'))) w' r v ∧ Keep (fun b => b0.Y b ∨ V b) b0.w w'
abbrev fnCl (P : Program) (f : FuncId) : List Value → World → (Ending → World → Prop) → Prop := fun vals w Q => Calls P f vals.toArray w Q
abbrev GM (P : Program) (f : FuncId) (args : List V1) (hs mv : List AB) (R : AV → List AB → List AB → Prop) : Prop := GMc (fnCl P f) (fun _ => True) (fun _ => False) args hs mv R
theorem GM.mono {f : FuncId} {args : List V1} {hs mv : List AB} {R R' : AV → List AB → List AB → Prop} (h : GM P f args hs mv R) (hR : ∀ r hs' nw, R r hs' nw → R' r hs' nw) : GM P f args hs mv R' := fun b0 σ vals h0 hV h1 h2 h3 h4 h5 =>
 (h b0 σ vals h0 hV h1 h2 h3 h4 h5).mono fun e w' ⟨v, τ, r, hs', nw, g1, g2, g3⟩ => ⟨v, τ, r, hs', nw, g1, hR _ _ _ g2, g3⟩
inductive LentB (ids mids : List Nat) : CV → CV → Prop
 | imm (x : CV) (h : immC x = true) : LentB ids mids x x
 | ow (id i : Nat) (h : posOf ids id = some i) : LentB ids mids (.ow id) (.ow (1000 + i))
 | mv (id i : Nat) (h : posOf mids id = some i) : LentB ids mids (.ow id) (.ow (800 + i))
 | pt (id i sz k j : Nat) (h : posOf ids id = some i) : LentB ids mids (.pt id sz k j) (.pt (1000 + i) sz k j)
inductive LentM (ids mids : List Nat) : CV → CV → Prop
 | b {x y : CV} (h : LentB ids mids x y) : LentM ids mids x y
 | any (x : CV) : LentM ids mids x .any
 | fn (f m : Nat) (C D : Nat → CV) (h : ∀ i, i < m → LentB ids mids (C i) (D i)) : LentM ids mids (.fn f m C) (.fn f m D)
theorem LentB.noFn {ids mids : List Nat} {x y : CV} (h : LentB ids mids x y) : (∀ f m C, x ≠ .fn f m C) ∧ ∀ f m C, y ≠ .fn f m C := by
 cases h with
 | imm x h => exact ⟨fun f m C e => (by subst e; cases h), fun f m C e => (by subst e; cases h)⟩
 | ow => exact ⟨fun _ _ _ e => (by cases e), fun _ _ _ e => (by cases e)⟩
 | mv => exact ⟨fun _ _ _ e => (by cases e), fun _ _ _ e => (by cases e)⟩
 | pt => exact ⟨fun _ _ _ e => (by cases e), fun _ _ _ e => (by cases e)⟩
theorem LentM.mo {ids mids : List Nat} {x y : CV} {b : Nat} {o : Obj} (h : LentM ids mids x y) (hx : MoOk x b o) : MoOk y b o := by
 obtain ⟨hk, hx⟩ := hx
 cases h with
 | b h => cases h with
   | imm x h => exact ⟨hk, hx⟩
   | ow => rcases hx with h | ⟨K, h, _⟩ <;> cases h
   | mv => rcases hx with h | ⟨K, h, _⟩ <;> cases h
   | pt => rcases hx with h | ⟨K, h, _⟩ <;> cases h
 | any x => exact ⟨hk, .inl rfl⟩
 | fn => rcases hx with h | ⟨K, h, _⟩ <;> cases h
theorem repB_of {σ : Nat → Option Value} {O : Nat → Prop} {w : World} {x : CV} {u : Value} (hx : ∀ f m C, x ≠ .fn f m C) (h : RepC σ O w x u) : RepB σ O w x u := by
 cases x with
 | fn f m C => exact absurd rfl (hx f m C)
 | _ => exact h.2
theorem repC_of {σ : Nat → Option Value} {O : Nat → Prop} {w : World} {x : CV} {u : Value} (hx : ∀ f m C, x ≠ .fn f m C) (h1 : u.oneCell' = true) (h : RepB σ O w x u) : RepC σ O w x u := by
 cases x with
 | fn f m C => exact absurd rfl (hx f m C)
 | _ => exact ⟨h1, h⟩
theorem LentB.rep {ids mids : List Nat} {σ τ : Nat → Option Value} {O O' : Nat → Prop} {w : World} (hO : ∀ b, O' b → O b) (h1 : ∀ i id, posOf ids id = some i → ∀ u, σ id = some u → τ (1000 + i) = some u) (h2 : ∀ i id, posOf mids id = some i → ∀ u, σ id = some u → τ (800 + i) = some u)
 {x y : CV} {u : Value} (h : LentB ids mids x y) (hu : RepC σ O w x u) : RepC τ O' w y u := by
 cases h with
 | imm x hi => exact repC_imm hi hu.1 ((repI_imm hi hu).less hO)
 | ow id i hp => exact ⟨hu.1, h1 i id hp _ hu.2.1, hu.2.2⟩
 | mv id i hp => exact ⟨hu.1, h2 i id hp _ hu.2.1, hu.2.2⟩
 | pt id i sz k j hp => obtain ⟨g, v, b, e1, e2, e3⟩ := hu; exact ⟨g, v, b, h1 i id hp _ e1, e2, e3⟩
theorem LentM.rep {ids mids : List Nat} {σ τ : Nat → Option Value} {O O' : Nat → Prop} {w : World} (hO : ∀ b, O' b → O b) (h1 : ∀ i id, posOf ids id = some i → ∀ u, σ id = some u → τ (1000 + i) = some u) (h2 : ∀ i id, posOf mids id = some i → ∀ u, σ id = some u → τ (800 + i) = some u)
 {x y : CV} {u : Value} (h : LentM ids mids x y) (hu : RepC σ O w x u) : RepC τ O' w y u := by
 cases h with
 | b h => exact h.rep hO h1 h2 hu
 | any x => exact ⟨hu.1, trivial⟩
 | fn f m C D hc =>
   obtain ⟨g, vs, e1, e2, e3⟩ := hu
   refine ⟨g, vs, e1, e2, fun i hi => ?_⟩
   obtain ⟨v, k1, k2, k3⟩ := e3 i hi
   obtain ⟨n1, n2⟩ := (hc i hi).noFn
   exact ⟨v, k1, k2, repB_of n2 ((hc i hi).rep hO h1 h2 (repC_of n1 k2 k3))⟩
inductive BackM (ids ni : List Nat) : CV → CV → Prop
 | b {y x : CV} (h : BackC ids ni y x) : BackM ids ni y x
 | fn (f m : Nat) (C D : Nat → CV) (h : ∀ i, i < m → BackC ids ni (C i) (D i) ∧ (∀ f m E, C i ≠ .fn f m E) ∧ ∀ f m E, D i ≠ .fn f m E) : BackM ids ni (.fn f m C) (.fn f m D)
theorem BackM.rep {ids ni : List Nat} {τ σ : Nat → Option Value} {O O' : Nat → Prop} {w : World} (hO : ∀ b, O' b → O b) (h1 : ∀ i id, posOf ids id = some i → ∀ u, τ (1000 + i) = some u → σ id = some u) (h2 : ∀ i id, posOf ni id = some i → ∀ u, τ (900 + i) = some u → σ id = some u)
 {y x : CV} {u : Value} (h : BackM ids ni y x) (hu : RepC τ O w y u) : RepC σ O' w x u := by
 cases h with
 | b h => exact h.rep hO h1 h2 hu
 | fn f m C D hc =>
   obtain ⟨g, vs, e1, e2, e3⟩ := hu
   refine ⟨g, vs, e1, e2, fun i hi => ?_⟩
   obtain ⟨v, k1, k2, k3⟩ := e3 i hi
   obtain ⟨n0, n1, n2⟩ := hc i hi
   exact ⟨v, k1, k2, repB_of n2 (n0.rep hO h1 h2 (repC_of n1 k2 k3))⟩
theorem BackM.mo {ids ni : List Nat} {y x : CV} {b : Nat} {o : Obj} (h : BackM ids ni y x) (hy : MoOk y b o) : MoOk x b o := by
 cases h with
 | b h => exact h.mo hy
 | fn => rcases hy.2 with h | ⟨K, h, _⟩ <;> cases h
section ops
variable {ops : Array Oper} {rest : List Oper} {acc : List (List Nat × List Nat)} {S : St} {Q : List (List Nat × List Nat) → St → Prop} {dst : Option Tmp} {ty : TypeId} {pos : String} {after : Array Edge} {guard : Option (Nat × Bool)}
end ops
end
section
variable {P : Program}
inductive LentA (ids mids : List Nat) : AV → AV → Prop
 | c {y x : CV} (h : LentM ids mids y x) : LentA ids mids (.c y) (.c x)
 | ag {l m : List CV} (h : LeL (LentM ids mids) l m) : LentA ids mids (.ag l) (.ag m)
theorem LentA.rep {ids mids : List Nat} {σ τ : Nat → Option Value} {O O' : Nat → Prop} {w : World} (hO : ∀ b, O' b → O b) (h1 : ∀ i id, posOf ids id = some i → ∀ u, σ id = some u → τ (1000 + i) = some u) (h2 : ∀ i id, posOf mids id = some i → ∀ u, σ id = some u → τ (800 + i) = some u)
 {x y : AV} {u : Value} (h : LentA ids mids x y) (hu : RepA σ O w x u) : RepA τ O' w y u := by
 cases h with
 | c h => exact h.rep hO h1 h2 hu
 | ag h => obtain ⟨vs, rfl, e⟩ := hu; exact ⟨vs, rfl, LeL.get (fun x y v hxy hv => hxy.rep hO h1 h2 hv) h e⟩
end
end Go.AV
end
