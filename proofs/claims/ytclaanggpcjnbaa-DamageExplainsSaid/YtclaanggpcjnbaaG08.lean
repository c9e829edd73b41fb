/- Parts of the proof: AMem5. -/
import Derived.Test.YtclaanggpcjnbaaG07
set_option linter.unusedSimpArgs false
set_option linter.unusedVariables false
section
/- Calls, parts of slices, integers: over plain states. No condition. -/
namespace Go.AV
open Go Go.RowKit Go.Flow
section
variable {P : Program} {tab : List (TypeId × TD)}
theorem RepV.some_ {σ : Nat → Option Value} {O : Nat → Prop} {w : World} {x : V1} {u : Value} (h : RepV (fun _ => none) O w x u) : RepV σ O w x u :=
  h.keep ⟨rfl, rfl, rfl, Nat.le_refl _, fun _ _ _ => rfl⟩ (fun b hb => .inl hb) fun i v h => (by cases h)
theorem RepA.some_ {σ : Nat → Option Value} {O : Nat → Prop} {w : World} {x : AV} {u : Value} (h : RepA (fun _ => none) O w x u) : RepA σ O w x u :=
  h.keep ⟨rfl, rfl, rfl, Nat.le_refl _, fun _ _ _ => rfl⟩ (fun b hb => .inl hb) fun i v h => (by cases h)
def St.opds (S : St) : List Operand → Option (List V1)
  | [] => some []
  | x :: r => match S.opd x with
    | some (.c y) => match St.opds S r with
      | some m => some (.c y :: m)
      | none => none
    | some (.ag l) => match St.opds S r with
      | some m => some (.ag l :: m)
      | none => none
    | _ => none
theorem opds_congr {S S1 : St} : ∀ {xs : List Operand}, (∀ x ∈ xs, S1.opd x = S.opd x) → S1.opds xs = S.opds xs
  | [], _ => rfl
  | x :: r, h => by unfold St.opds; rw [h x (by simp), opds_congr fun q hq => h q (by simp [hq])]
theorem opds_rep {b0 : Base} {σ : Nat → Option Value} {S1 : St} {a : Act} {w : World} (R : Rel0 b0 σ S1 a w) : ∀ {xs : List Operand} {l : List V1}, S1.opds xs = some l → RepL (RepV σ (out b0 σ S1.h) w) l (xs.map a.eval)
  | [], l, h => by cases h; trivial
  | x :: r, l, h => by
    unfold St.opds at h
    cases hy : S1.opd x with
    | none => rw [hy] at h; cases h
    | some y =>
      rw [hy] at h
      cases hm : S1.opds r with
      | none => cases y <;> simp only [hm] at h <;> cases h
      | some m =>
        cases y with
        | c y => simp only [hm] at h; cases h; exact ⟨opd_rep R hy, opds_rep R hm⟩
        | ag y => simp only [hm] at h; cases h; exact ⟨opd_rep R hy, opds_rep R hm⟩
        | tu y => cases h
theorem strip0 {σ : Nat → Option Value} {O : Nat → Prop} {w : World} {x : V1} {u : Value} (hi : immV x = true) (hx : RepV σ O w x u) : RepV (fun _ => none) O w x u := by
  have one : ∀ {x : CV} {u : Value}, immC x = true → RepC σ O w x u → RepC (fun _ => none) O w x u := fun hi hx => repC_imm hi hx.1 (repI_imm hi hx)
  cases x with
  | c x => exact one hi hx
  | ag l =>
    obtain ⟨vs, e, hl⟩ := hx
    refine ⟨vs, e, RepL.of_get hl.length fun i x v h1 h2 => ?_⟩
    obtain ⟨v', e1, e2⟩ := hl.get h1
    rw [h2] at e1
    cases e1
    exact one (List.all_eq_true.1 hi _ (List.mem_of_getElem? h1)) e2
/-- A call at these values, wherever they lie. -/
theorem ACalls.at {f : FuncId} {args : List V1} {r : AV} (h : ACalls P f args r) {b0 : Base} {σ : Nat → Option Value} {S : St} {a : Act} {w : World} (R : Rel0 b0 σ S a w) {vals : List Value} (hv : RepL (RepV σ (out b0 σ S.h) w) args vals) (hi : args.all immV = true) :
    Calls P f vals.toArray w fun e w' => ∃ v, e = .returned v ∧ RepA σ (out b0 σ S.h) w' r v ∧ Ext w w' := by
  have hO : ∀ b, out ⟨w, out b0 σ S.h, fun _ => False, fun _ => none, fun b hb => own_lt R hb, fun b hb => hb.elim, fun b _ h => h, fun i v h => (by cases h), fun _ _ => False, fun _ _ _ => True, none, fun _ _ h => h.elim, fun _ _ _ _ _ _ _ _ => trivial⟩ (fun _ => none) (assoc []) b ↔ out b0 σ S.h b := fun b => ⟨fun hb => hb.elim (fun ⟨i, v, h1, _⟩ => absurd rfl h1) fun h => h, fun hb => .inr hb⟩
  refine (h ⟨w, out b0 σ S.h, fun _ => False, fun _ => none, fun b hb => own_lt R hb, fun b hb => hb.elim, fun b _ h => h, fun i v h => (by cases h), fun _ _ => False, fun _ _ _ => True, none, fun _ _ h => h.elim, fun _ _ _ _ _ _ _ _ => trivial⟩ vals
    ⟨fun i B hB => (by cases hB), fun i j v1 v2 b hi => absurd rfl hi, fun b ⟨i, v, h1, _⟩ => absurd rfl h1, fun i v h => (by cases h), fun _ _ _ => rfl⟩ (fun i v h => by cases h) (fun b hb => hb.elim)
    (RepL.of_get hv.length fun i x v h1 h2 => by
      obtain ⟨v', e1, e2⟩ := hv.get h1
      rw [h2] at e1
      cases e1
      exact (strip0 (List.all_eq_true.1 hi _ (List.mem_of_getElem? h1)) e2).keep ⟨rfl, rfl, rfl, Nat.le_refl _, fun _ _ _ => rfl⟩ (fun b hb => .inl ((hO b).1 hb)) fun _ _ h => h)).mono fun e w' ⟨v, h1, h2, h3, h4⟩ => ⟨v, h1, ?_, ⟨h4.os, h4.tape, h4.output, h4.size, fun k hk => h4.block k hk fun h => h⟩⟩
  exact (h2.keep ⟨rfl, rfl, rfl, Nat.le_refl _, fun _ _ _ => rfl⟩ (fun b hb => .inl ((hO b).2 hb)) fun _ _ h => h).some_

section ops
variable {ops : Array Oper} {rest : List Oper} {acc : List (List Nat × List Nat)} {S : St} {Q : List (List Nat × List Nat) → St → Prop} {dst : Option Tmp} {ty : TypeId} {pos : String} {after : Array Edge} {guard : Option (Nat × Bool)}
theorem AList.call {f : FuncId} {fn : Func} {xs : Array Operand} {ats : Array TypeId} {args : List V1} {r : AV} (hw : S.wants ops { dst, op := .call { callee := .value (.func f), args := xs, argTypes := ats }, type := ty, pos, after, guard } = some true) (hd : dOk S.n dst = true)
    (ha : S.opds xs.toList = some args) (hi : args.all immV = true) (hf : P.funcs[f]? = some fn) (hb : fn.body.isNone = false) (hnm : (fn.name == "runtime.NumGoroutine") = false) (hc : ACalls P f args r)
    (hn : AList P ops rest (([], []) :: acc) (S.eff dst ⟨r, [], []⟩) Q) : AList P ops ({ dst, op := .call { callee := .value (.func f), args := xs, argTypes := ats }, type := ty, pos, after, guard } :: rest) acc S Q :=
  AList.ext [] _ hw hd (fun S1 h1 _ b0 σ a w R => by
    have h2 : S1.opds xs.toList = some args := (opds_congr fun x hx => h1 x (by simp only [Op.operands, Call.operands]; simp; exact .inr (by simpa using hx))).trans ha
    have := hc.at R (opds_rep R h2) hi
    rw [run_callf f fn hf hb hnm #[] #[] rfl w]
    simp only [Goes]
    rw [show (#[] ++ xs.map a.eval ++ #[] : Array Value) = (xs.toList.map a.eval).toArray from Array.ext' (by simp)]
    exact this.mono fun e w' ⟨v, g1, g2, g3⟩ => ⟨v, g1, g2, g3⟩) hn
theorem AList.nilPt {x : Operand} {y : CV} (hw : S.wants ops { dst, op := .nilCheck x, type := ty, pos, after, guard } = some true) (hd : dOk S.n dst = true) (hx : S.opd x = some (.c y)) (hp : (match y with | .pt .. | .pl .. => true | _ => false) = true)
    (hn : AList P ops rest (([], []) :: acc) (S.eff dst ⟨.c y, [], []⟩) Q) : AList P ops ({ dst, op := .nilCheck x, type := ty, pos, after, guard } :: rest) acc S Q :=
  AList.val [] _ hw hd (fun S1 h1 _ b0 σ a w R => by
    have hr := opd_rep R ((h1 x (by simp [Op.operands])).trans hx)
    refine ⟨a.eval x, ?_, hr⟩
    cases y with
    | pt id sz k j => obtain ⟨-, v, b, e1, e2, e3⟩ := hr; simp only [execOp, e3, Sem.run_pure]
    | pl n sz F k j => obtain ⟨-, ad, e1, e2⟩ := hr; simp only [execOp, e1, Sem.run_pure]
    | _ => cases hp) hn
/-- s[lo:hi] of a slice that is only read. -/
theorem AList.cut (T : tabOk P tab = true) {t el : TypeId} {x : Operand} {lo hi : Option Operand} {n sz l h : Nat} {F : Nat → Nat → CV} {d e : TD} (hw : S.wants ops { dst, op := .slice t x lo hi none, type := ty, pos, after, guard } = some true) (hd : dOk S.n dst = true)
    (hx : S.opd x = some (.c (.ls n sz F))) (ht : assoc tab t = some d) (hk : d.k = .sl el) (he : assoc tab el = some e) (hs : e.size = sz)
    (hlo : match lo with | none => l = 0 | some y => ∃ k i, S.opd y = some (.c (.p (.int k i))) ∧ i = (l : Int)) (hhi : match hi with | none => h = n | some y => ∃ k i, S.opd y = some (.c (.p (.int k i))) ∧ i = (h : Int)) (h1 : l ≤ h) (h2 : h ≤ n)
    (hn : AList P ops rest (([], []) :: acc) (S.eff dst ⟨.c (.ls (h - l) sz fun k j => F (l + k) j), [], []⟩) Q) : AList P ops ({ dst, op := .slice t x lo hi none, type := ty, pos, after, guard } :: rest) acc S Q :=
  AList.val [] _ hw hd (fun S1 g1 _ b0 σ a w R => by
    obtain ⟨-, A, cap, e1, e0, e2⟩ := opd_rep R ((g1 x (by simp [Op.operands])).trans hx)
    obtain ⟨inf, z, u, i1, i2, i3, -⟩ := ty_info T he
    have hu := ty_sl T ht hk
    refine ⟨.slice (if cap = l then A else A.map (·.add (l * sz))) (h - l) (cap - l), ?_, rfl, _, _, rfl, by omega, fun k hk j hj => ?_⟩
    · have elo : ∀ y, lo = some y → ∃ k, a.eval y = .int k l := fun y hy => by
        subst hy
        obtain ⟨k, i, f1, f2⟩ := hlo
        exact ⟨k, by rw [← f2]; exact rep_int (opd_rep R ((g1 y (by simp [Op.operands])).trans f1))⟩
      have ehi : ∀ y, hi = some y → ∃ k, a.eval y = .int k h := fun y hy => by
        subst hy
        obtain ⟨k, i, f1, f2⟩ := hhi
        exact ⟨k, by rw [← f2]; exact rep_int (opd_rep R ((g1 y (by simp [Op.operands])).trans f1))⟩
      have c1 : (h : Int) ≤ cap := by omega
      have c2 : (l : Int) ≤ h := by omega
      have c3 : h ≤ cap := by omega
      have c4 : ¬ cap < h := by omega
      have c5 : ¬ h < l := by omega
      cases lo with
      | none =>
        have hl0 : l = 0 := hlo
        subst hl0
        cases hi with
        | none =>
          have hh : h = n := hhi
          subst hh
          simp [execOp, Instr.sliceAt, Instr.slice, run_underlying hu, e1, Instr.sliceBounds, sizeOf, typeInfo, i1, i2, hs]
        | some y =>
          obtain ⟨k, f⟩ := ehi y rfl
          simp [execOp, Instr.sliceAt, Instr.slice, run_underlying hu, e1, Instr.sliceBounds, Instr.sliceBound, asIntOf, f, sizeOf, typeInfo, i1, i2, hs, c1, c3, c4, h1]
      | some yl =>
        obtain ⟨kl, fl⟩ := elo yl rfl
        cases hi with
        | none =>
          have hh : h = n := hhi
          subst hh
          simp [execOp, Instr.sliceAt, Instr.slice, run_underlying hu, e1, Instr.sliceBounds, Instr.sliceBound, asIntOf, fl, sizeOf, typeInfo, i1, i2, hs, c2, c5, h1]
        | some y =>
          obtain ⟨k, f⟩ := ehi y rfl
          simp [execOp, Instr.sliceAt, Instr.slice, run_underlying hu, e1, Instr.sliceBounds, Instr.sliceBound, asIntOf, f, fl, sizeOf, typeInfo, i1, i2, hs, c1, c2, c3, c4, c5, h1]
    · obtain ⟨ad, v, r1, r2, r3, r4, r5⟩ := e2 (l + k) (by omega) j hj
      subst r1
      refine ⟨ad.add (l * sz), v, by rw [if_neg (by omega)]; rfl, by rw [block_add]; exact r2, ?_, r4, r5⟩
      rw [add_two, ← Nat.add_assoc, ← Nat.add_mul]
      exact r3) hn

variable {x y : Operand} {xt yt : TypeId} {i j : Int}
theorem AList.add (hw : S.wants ops { dst, op := .binOp .add xt x y yt, type := ty, pos, after, guard } = some true) (hd : dOk S.n dst = true) (hx : S.opd x = some (.c (.p (.int .i64 i)))) (hy : S.opd y = some (.c (.p (.int .i64 j)))) (h1 : -9223372036854775808 ≤ i + j) (h2 : i + j ≤ 9223372036854775807)
    (hn : AList P ops rest (([], []) :: acc) (S.eff dst ⟨.c (.p (.int .i64 (i + j))), [], []⟩) Q) : AList P ops ({ dst, op := .binOp .add xt x y yt, type := ty, pos, after, guard } :: rest) acc S Q :=
  AList.bin hw hd hx hy rfl (fun w => by rw [← show IntKind.i64.wrap (i + j) = i + j by rw [IntKind.wrap_i64]; omega]; rfl) rfl hn
theorem AList.sub (hw : S.wants ops { dst, op := .binOp .sub xt x y yt, type := ty, pos, after, guard } = some true) (hd : dOk S.n dst = true) (hx : S.opd x = some (.c (.p (.int .i64 i)))) (hy : S.opd y = some (.c (.p (.int .i64 j)))) (h1 : -9223372036854775808 ≤ i - j) (h2 : i - j ≤ 9223372036854775807)
    (hn : AList P ops rest (([], []) :: acc) (S.eff dst ⟨.c (.p (.int .i64 (i - j))), [], []⟩) Q) : AList P ops ({ dst, op := .binOp .sub xt x y yt, type := ty, pos, after, guard } :: rest) acc S Q :=
  AList.bin hw hd hx hy rfl (fun w => by rw [← show IntKind.i64.wrap (i - j) = i - j by rw [IntKind.wrap_i64]; omega]; rfl) rfl hn
theorem AList.mul (hw : S.wants ops { dst, op := .binOp .mul xt x y yt, type := ty, pos, after, guard } = some true) (hd : dOk S.n dst = true) (hx : S.opd x = some (.c (.p (.int .i64 i)))) (hy : S.opd y = some (.c (.p (.int .i64 j)))) (h1 : -9223372036854775808 ≤ i * j) (h2 : i * j ≤ 9223372036854775807)
    (hn : AList P ops rest (([], []) :: acc) (S.eff dst ⟨.c (.p (.int .i64 (i * j))), [], []⟩) Q) : AList P ops ({ dst, op := .binOp .mul xt x y yt, type := ty, pos, after, guard } :: rest) acc S Q :=
  AList.bin hw hd hx hy rfl (fun w => by rw [← show IntKind.i64.wrap (i * j) = i * j by rw [IntKind.wrap_i64]; omega]; rfl) rfl hn
theorem AList.quo (hw : S.wants ops { dst, op := .binOp .quo xt x y yt, type := ty, pos, after, guard } = some true) (hd : dOk S.n dst = true) (hx : S.opd x = some (.c (.p (.int .i64 i)))) (hy : S.opd y = some (.c (.p (.int .i64 j)))) (h1 : 0 ≤ i) (h2 : i ≤ 9223372036854775807) (h3 : 0 < j)
    (hn : AList P ops rest (([], []) :: acc) (S.eff dst ⟨.c (.p (.int .i64 (i / j))), [], []⟩) Q) : AList P ops ({ dst, op := .binOp .quo xt x y yt, type := ty, pos, after, guard } :: rest) acc S Q :=
  AList.bin hw hd hx hy rfl (fun w => by
    have e1 : i.tdiv j = i / j := Int.tdiv_eq_ediv_of_nonneg h1
    have e2 : IntKind.i64.wrap (i / j) = i / j := by
      rw [IntKind.wrap_i64]
      have := Int.ediv_nonneg h1 (show 0 ≤ j by omega)
      have := Int.ediv_le_self j h1
      omega
    have e3 : ¬ j = 0 := by omega
    simp [binOp, Op.intDiv, e1, e2, e3]) rfl hn
theorem AList.quoZ (hw : S.wants ops { dst, op := .binOp .quo xt x y yt, type := ty, pos, after, guard } = some true) (hd : dOk S.n dst = true) (hx : S.opd x = some (.c (.p (.int .i64 i)))) (hy : S.opd y = some (.c (.p (.int .i64 j)))) (h1 : -9223372036854775808 ≤ i) (h2 : i ≤ 9223372036854775807) (h3 : 1 < j)
    (hn : AList P ops rest (([], []) :: acc) (S.eff dst ⟨.c (.p (.int .i64 (i.tdiv j))), [], []⟩) Q) : AList P ops ({ dst, op := .binOp .quo xt x y yt, type := ty, pos, after, guard } :: rest) acc S Q :=
  AList.bin hw hd hx hy rfl (fun w => by
    have e2 : IntKind.i64.wrap (i.tdiv j) = i.tdiv j := by
      rw [IntKind.wrap_i64]
      have hb : (i.tdiv j).natAbs ≤ i.natAbs / 2 := by rw [Int.natAbs_tdiv]; exact Nat.div_le_div_left (by omega) (by decide)
      omega
    have e3 : ¬ j = 0 := by omega
    simp [binOp, Op.intDiv, e2, e3]) rfl hn
theorem AList.remZ (hw : S.wants ops { dst, op := .binOp .rem xt x y yt, type := ty, pos, after, guard } = some true) (hd : dOk S.n dst = true) (hx : S.opd x = some (.c (.p (.int .i64 i)))) (hy : S.opd y = some (.c (.p (.int .i64 j)))) (h3 : 0 < j)
    (hn : AList P ops rest (([], []) :: acc) (S.eff dst ⟨.c (.p (.int .i64 (i.tmod j))), [], []⟩) Q) : AList P ops ({ dst, op := .binOp .rem xt x y yt, type := ty, pos, after, guard } :: rest) acc S Q :=
  AList.bin hw hd hx hy rfl (fun w => by
    have e3 : ¬ j = 0 := by omega
    simp [binOp, Op.intDiv, e3]) rfl hn
theorem AList.rem (hw : S.wants ops { dst, op := .binOp .rem xt x y yt, type := ty, pos, after, guard } = some true) (hd : dOk S.n dst = true) (hx : S.opd x = some (.c (.p (.int .i64 i)))) (hy : S.opd y = some (.c (.p (.int .i64 j)))) (h1 : 0 ≤ i) (h3 : 0 < j)
    (hn : AList P ops rest (([], []) :: acc) (S.eff dst ⟨.c (.p (.int .i64 (i % j))), [], []⟩) Q) : AList P ops ({ dst, op := .binOp .rem xt x y yt, type := ty, pos, after, guard } :: rest) acc S Q :=
  AList.bin hw hd hx hy rfl (fun w => by
    have e1 : i.tmod j = i % j := Int.tmod_eq_emod_of_nonneg h1
    have e3 : ¬ j = 0 := by omega
    simp [binOp, Op.intDiv, e1, e3]) rfl hn
/-- A comparison of integers: p says when it holds. -/
def cmpP (op : BinOp) (i j : Int) : Bool :=
  match op with
  | .lss => decide (i < j)
  | .leq => decide (i ≤ j)
  | .gtr => decide (j < i)
  | .geq => decide (j ≤ i)
  | .eql => decide (i = j)
  | _ => !decide (i = j)
def isCmp : BinOp → Bool
  | .lss | .leq | .gtr | .geq | .eql | .neq => true
  | _ => false
theorem AList.cmp {op : BinOp} {k : IntKind} (hw : S.wants ops { dst, op := .binOp op xt x y yt, type := ty, pos, after, guard } = some true) (hd : dOk S.n dst = true) (ho : isCmp op = true) (hx : S.opd x = some (.c (.p (.int k i)))) (hy : S.opd y = some (.c (.p (.int k j))))
    (hn : AList P ops rest (([], []) :: acc) (S.eff dst ⟨.c (.p (.bool (cmpP op i j))), [], []⟩) Q) : AList P ops ({ dst, op := .binOp op xt x y yt, type := ty, pos, after, guard } :: rest) acc S Q :=
  AList.bin hw hd hx hy rfl (fun w => by
    cases op <;> first | (simp [binOp, Op.intCmp, cmpP]; done) | cases ho | skip
    · by_cases h : i = j <;> simp [binOp, Op.intCmp, cmpP, h]
    · by_cases h : i = j <;> simp [binOp, Op.intCmp, cmpP, h]) rfl hn
theorem oM {P : Prop} (h : P := by first | omega | (dsimp only; omega) | exact of_decide_eq_true rfl | (simp; done) | (simp; omega)) : P := h
theorem cmT {P : Prop} (h : P := by unfold cmpP; simp only [decide_eq_true_eq, Bool.not_eq_true', decide_eq_false_iff_not]; omega) : P := h
theorem cmF {P : Prop} (h : P := by unfold cmpP; simp only [decide_eq_false_iff_not, Bool.not_eq_false', decide_eq_true_eq]; omega) : P := h
theorem AList.cmpT {op : BinOp} {k : IntKind} (hw : S.wants ops { dst, op := .binOp op xt x y yt, type := ty, pos, after, guard } = some true) (hd : dOk S.n dst = true) (ho : isCmp op = true) (hx : S.opd x = some (.c (.p (.int k i)))) (hy : S.opd y = some (.c (.p (.int k j)))) (hc : cmpP op i j = true)
    (hn : AList P ops rest (([], []) :: acc) (S.eff dst ⟨.c (.p (.bool true)), [], []⟩) Q) : AList P ops ({ dst, op := .binOp op xt x y yt, type := ty, pos, after, guard } :: rest) acc S Q :=
  AList.cmp hw hd ho hx hy (by rw [hc]; exact hn)
theorem AList.cmpF {op : BinOp} {k : IntKind} (hw : S.wants ops { dst, op := .binOp op xt x y yt, type := ty, pos, after, guard } = some true) (hd : dOk S.n dst = true) (ho : isCmp op = true) (hx : S.opd x = some (.c (.p (.int k i)))) (hy : S.opd y = some (.c (.p (.int k j)))) (hc : cmpP op i j = false)
    (hn : AList P ops rest (([], []) :: acc) (S.eff dst ⟨.c (.p (.bool false)), [], []⟩) Q) : AList P ops ({ dst, op := .binOp op xt x y yt, type := ty, pos, after, guard } :: rest) acc S Q :=
  AList.cmp hw hd ho hx hy (by rw [hc]; exact hn)
theorem AList.nil (h : Q acc.reverse S) : AList P ops [] acc S Q := ⟨h⟩
theorem AList.notB {b : Bool} (hw : S.wants ops { dst, op := .unOp .not xt x, type := ty, pos, after, guard } = some true) (hd : dOk S.n dst = true) (hx : S.opd x = some (.c (.p (.bool b))))
    (hn : AList P ops rest (([], []) :: acc) (S.eff dst ⟨.c (.p (.bool !b)), [], []⟩) Q) : AList P ops ({ dst, op := .unOp .not xt x, type := ty, pos, after, guard } :: rest) acc S Q :=
  AList.un hw hd hx (fun w => rfl) rfl hn
theorem AList.neg (hw : S.wants ops { dst, op := .unOp .neg xt x, type := ty, pos, after, guard } = some true) (hd : dOk S.n dst = true) (hx : S.opd x = some (.c (.p (.int .i64 i)))) (h1 : -9223372036854775807 ≤ i) (h2 : i ≤ 9223372036854775807)
    (hn : AList P ops rest (([], []) :: acc) (S.eff dst ⟨.c (.p (.int .i64 (-i))), [], []⟩) Q) : AList P ops ({ dst, op := .unOp .neg xt x, type := ty, pos, after, guard } :: rest) acc S Q :=
  AList.un hw hd hx (fun w => by
    have e : IntKind.i64.wrap (-i) = -i := by rw [IntKind.wrap_i64]; omega
    simp [Op.unary, Op.intArith, e]) rfl hn
theorem AList.maxI {k : IntKind} {ats : Array TypeId} (hw : S.wants ops { dst, op := .call { callee := .builtin .max, args := #[x, y], argTypes := ats }, type := ty, pos, after, guard } = some true) (hd : dOk S.n dst = true) (hx : S.opd x = some (.c (.p (.int k i)))) (hy : S.opd y = some (.c (.p (.int k j))))
    (hn : AList P ops rest (([], []) :: acc) (S.eff dst ⟨.c (.p (.int k (max i j))), [], []⟩) Q) : AList P ops ({ dst, op := .call { callee := .builtin .max, args := #[x, y], argTypes := ats }, type := ty, pos, after, guard } :: rest) acc S Q :=
  AList.val [] _ hw hd (fun S1 h1 _ b0 σ a w R => by
    have e1 := rep_int (opd_rep R ((h1 x (by simp [Op.operands, Call.operands])).trans hx))
    have e2 := rep_int (opd_rep R ((h1 y (by simp [Op.operands, Call.operands])).trans hy))
    refine ⟨.int k (max i j), ?_, rep_p rfl⟩
    simp only [execOp, resolve, invoke, builtin, Sem.run_bind, Sem.run_pure, Result.andThen_ok, List.map_toArray, List.map_cons, List.map_nil, e1, e2, Builtin.max_, List.foldlM_cons, List.foldlM_nil, Builtin.max2]
    rw [show (if j > i then j else i) = max i j by split <;> omega]) hn
theorem AList.minI {k : IntKind} {ats : Array TypeId} (hw : S.wants ops { dst, op := .call { callee := .builtin .min, args := #[x, y], argTypes := ats }, type := ty, pos, after, guard } = some true) (hd : dOk S.n dst = true) (hx : S.opd x = some (.c (.p (.int k i)))) (hy : S.opd y = some (.c (.p (.int k j))))
    (hn : AList P ops rest (([], []) :: acc) (S.eff dst ⟨.c (.p (.int k (min i j))), [], []⟩) Q) : AList P ops ({ dst, op := .call { callee := .builtin .min, args := #[x, y], argTypes := ats }, type := ty, pos, after, guard } :: rest) acc S Q :=
  AList.val [] _ hw hd (fun S1 h1 _ b0 σ a w R => by
    have e1 := rep_int (opd_rep R ((h1 x (by simp [Op.operands, Call.operands])).trans hx))
    have e2 := rep_int (opd_rep R ((h1 y (by simp [Op.operands, Call.operands])).trans hy))
    refine ⟨.int k (min i j), ?_, rep_p rfl⟩
    simp only [execOp, resolve, invoke, builtin, Sem.run_bind, Sem.run_pure, Result.andThen_ok, List.map_toArray, List.map_cons, List.map_nil, e1, e2, Builtin.min_, List.foldlM_cons, List.foldlM_nil, Builtin.min2]
    rw [show (if j < i then j else i) = min i j by split <;> omega]) hn
/-- append: an own slice and a slice; an own slice and an own one; nil and a slice. -/
theorem AList.appL (T : tabOk P tab = true) {id id1 : Nat} {s : Operand} {t el : TypeId} {d e : TD} {n m : Nat} {F G : Nat → Nat → CV}
    (hw : S.wants ops { dst := some id, op := .call { callee := .builtin .append, args := #[s, x], argTypes := #[t, t] }, type := ty, pos, after, guard } = some true) (hd : dOk S.n (some id) = true) (hf : S.fr id = true)
    (hs : S.opd s = some (.c (.ow id1))) (hx : S.opd x = some (.c (.ls m e.size G))) (ht : assoc tab t = some d) (hk : d.k = .sl el) (he : assoc tab el = some e) (hh : S.h id1 = some ⟨true, n, e.size, el, F⟩) (hsz : (Nat.blt 0 e.size && Nat.blt id1 1000) = true)
    (h63 : n + m ≤ 4611686018427387904) (hb : (n + m) * e.bytes ≤ 140737488355328)
    (hn : AList P ops rest (([id1, id], [id1, id, id]) :: acc) (S.eff (some id) ⟨.c (.ow id), [(id1, none), (id, some ⟨true, n + m, e.size, el, appF F n G⟩)], [id]⟩) Q) :
    AList P ops ({ dst := some id, op := .call { callee := .builtin .append, args := #[s, x], argTypes := #[t, t] }, type := ty, pos, after, guard } :: rest) acc S Q :=
  AList.app T (o := some id1) (F := F) (G := G) [] hw hd hf hs hx ht hk he (Nat.blt_eq.mp (Bool.and_eq_true_iff.1 hsz).1) (.inr ⟨id1, rfl, rfl, hh, Nat.blt_eq.mp (Bool.and_eq_true_iff.1 hsz).2⟩) (fun S1 _ b0 σ a w R u hu => src_ls hu) h63 hb hn
theorem AList.appO (T : tabOk P tab = true) {id id1 id2 : Nat} {s : Operand} {t el : TypeId} {d e : TD} {n m : Nat} {F G : Nat → Nat → CV}
    (hw : S.wants ops { dst := some id, op := .call { callee := .builtin .append, args := #[s, x], argTypes := #[t, t] }, type := ty, pos, after, guard } = some true) (hd : dOk S.n (some id) = true) (hf : S.fr id = true)
    (hs : S.opd s = some (.c (.ow id1))) (hx : S.opd x = some (.c (.ow id2))) (ht : assoc tab t = some d) (hk : d.k = .sl el) (he : assoc tab el = some e) (hh : S.h id1 = some ⟨true, n, e.size, el, F⟩) (hh2 : S.h id2 = some ⟨true, m, e.size, el, G⟩) (hsz : (Nat.blt 0 e.size && Nat.blt id1 1000) = true)
    (h63 : n + m ≤ 4611686018427387904) (hb : (n + m) * e.bytes ≤ 140737488355328)
    (hn : AList P ops rest (([id1, id2, id], [id1, id, id]) :: acc) (S.eff (some id) ⟨.c (.ow id), [(id1, none), (id, some ⟨true, n + m, e.size, el, appF F n G⟩)], [id]⟩) Q) :
    AList P ops ({ dst := some id, op := .call { callee := .builtin .append, args := #[s, x], argTypes := #[t, t] }, type := ty, pos, after, guard } :: rest) acc S Q :=
  AList.app T (o := some id1) (F := F) (G := G) [id2] hw hd hf hs hx ht hk he (Nat.blt_eq.mp (Bool.and_eq_true_iff.1 hsz).1) (.inr ⟨id1, rfl, rfl, hh, Nat.blt_eq.mp (Bool.and_eq_true_iff.1 hsz).2⟩) (fun S1 hr b0 σ a w R u hu => src_ow R hu ((hr id2 (by simp)).trans hh2) rfl) h63 hb hn
theorem AList.appN (T : tabOk P tab = true) {id : Nat} {s : Operand} {t el : TypeId} {d e : TD} {m : Nat} {G : Nat → Nat → CV}
    (hw : S.wants ops { dst := some id, op := .call { callee := .builtin .append, args := #[s, x], argTypes := #[t, t] }, type := ty, pos, after, guard } = some true) (hd : dOk S.n (some id) = true) (hf : S.fr id = true)
    (hs : S.opd s = some (.c (.p (.slice none 0 0)))) (hx : S.opd x = some (.c (.ls m e.size G))) (ht : assoc tab t = some d) (hk : d.k = .sl el) (he : assoc tab el = some e) (hsz : Nat.blt 0 e.size = true)
    (h63 : m ≤ 4611686018427387904) (hb : m * e.bytes ≤ 140737488355328)
    (hn : AList P ops rest (([id], [id, id]) :: acc) (S.eff (some id) ⟨.c (.ow id), [(id, some ⟨true, m, e.size, el, G⟩)], [id]⟩) Q) :
    AList P ops ({ dst := some id, op := .call { callee := .builtin .append, args := #[s, x], argTypes := #[t, t] }, type := ty, pos, after, guard } :: rest) acc S Q :=
  AList.app T (o := none) (F := fun _ _ => .any) (G := G) [] hw hd hf hs hx ht hk he (Nat.blt_eq.mp hsz) (.inl ⟨rfl, rfl, rfl⟩) (fun S1 _ b0 σ a w R u hu => src_ls hu) (by omega) (by rw [Nat.zero_add]; exact hb) (by rw [Nat.zero_add]; exact hn)
/-- A list appended to an empty own row. -/
theorem AList.appL0 (T : tabOk P tab = true) {id id1 : Nat} {s : Operand} {t el : TypeId} {d e : TD} {m : Nat} {F G : Nat → Nat → CV}
    (hw : S.wants ops { dst := some id, op := .call { callee := .builtin .append, args := #[s, x], argTypes := #[t, t] }, type := ty, pos, after, guard } = some true) (hd : dOk S.n (some id) = true) (hf : S.fr id = true)
    (hs : S.opd s = some (.c (.ow id1))) (hx : S.opd x = some (.c (.ls m e.size G))) (ht : assoc tab t = some d) (hk : d.k = .sl el) (he : assoc tab el = some e) (hh : S.h id1 = some ⟨true, 0, e.size, el, F⟩) (hsz : (Nat.blt 0 e.size && Nat.blt id1 1000) = true)
    (h63 : m ≤ 4611686018427387904) (hb : m * e.bytes ≤ 140737488355328)
    (hn : AList P ops rest (([id1, id], [id1, id, id]) :: acc) (S.eff (some id) ⟨.c (.ow id), [(id1, none), (id, some ⟨true, m, e.size, el, G⟩)], [id]⟩) Q) :
    AList P ops ({ dst := some id, op := .call { callee := .builtin .append, args := #[s, x], argTypes := #[t, t] }, type := ty, pos, after, guard } :: rest) acc S Q :=
  AList.appL T hw hd hf hs hx ht hk he hh hsz (by omega) (by rw [Nat.zero_add]; exact hb) (by rw [Nat.zero_add]; exact hn)
theorem AList.appE (T : tabOk P tab = true) {id id1 : Nat} {s : Operand} {t el : TypeId} {d e : TD} {n : Nat} {F : Nat → Nat → CV}
    (hw : S.wants ops { dst := some id, op := .call { callee := .builtin .append, args := #[s, x], argTypes := #[t, t] }, type := ty, pos, after, guard } = some true) (hd : dOk S.n (some id) = true) (hf : S.fr id = true)
    (hs : S.opd s = some (.c (.ow id1))) (hx : S.opd x = some (.c (.p (.slice none 0 0)))) (ht : assoc tab t = some d) (hk : d.k = .sl el) (he : assoc tab el = some e) (hh : S.h id1 = some ⟨true, n, e.size, el, F⟩) (hsz : (Nat.blt 0 e.size && Nat.blt id1 1000) = true)
    (h63 : n + 0 ≤ 4611686018427387904) (hb : (n + 0) * e.bytes ≤ 140737488355328)
    (hn : AList P ops rest (([id1, id], [id1, id, id]) :: acc) (S.eff (some id) ⟨.c (.ow id), [(id1, none), (id, some ⟨true, n + 0, e.size, el, appF F n (fun _ _ => .any)⟩)], [id]⟩) Q) :
    AList P ops ({ dst := some id, op := .call { callee := .builtin .append, args := #[s, x], argTypes := #[t, t] }, type := ty, pos, after, guard } :: rest) acc S Q :=
  AList.app T (o := some id1) (F := F) (G := fun _ _ => .any) [] hw hd hf hs hx ht hk he (Nat.blt_eq.mp (Bool.and_eq_true_iff.1 hsz).1) (.inr ⟨id1, rfl, rfl, hh, Nat.blt_eq.mp (Bool.and_eq_true_iff.1 hsz).2⟩) (fun S1 _ b0 σ a w R u hu => src_nil hu) h63 hb hn
end ops
section code
theorem ARes.box {tab : List (TypeId × TD)} (T : tabOk P tab = true) {S : St} {c : Tmp} {t : TypeId} {id sz : Nat} {bt : TypeId} {F : Nat → Nat → CV} {d : TD} {l : List CV} (hc : S.t c = some (.c (.pt id sz 0 0))) (hh : S.h id = some ⟨false, 1, sz, bt, F⟩) (ht : assoc tab t = some d) (hk : isAg d.k = true) (hz : d.size = sz)
    (hl : cellsFrom (F 0) 0 d.size = l) (hi : l.all immC = true) : ARes P S (.cell c t) (.ag l) := fun b0 σ a w R => by
  obtain ⟨b, cap, cs, -, e1, -, e2, -, -, e3⟩ := at_pt R (R.sl c _ hc) hh rfl (by simp : 0 < 1)
  obtain ⟨ud, g1, g2⟩ := ty_ag T ht hk
  obtain ⟨inf, z, u', i1, i2, i3, -⟩ := ty_info T ht
  subst hl
  simp only at e3
  have hcell : ∀ i, i < d.size → w.cell? (Addr.add ⟨b, 0 * sz + 0, none⟩ i) = some (cs.getD (0 * sz + (0 + i)) undef) ∧ RepC σ (out b0 σ S.h) w (F 0 (0 + i)) (cs.getD (0 * sz + (0 + i)) undef) := fun i hi => by
    obtain ⟨u, f1, f2⟩ := e3 0 (by simp) (0 + i) (by omega)
    rw [add_off, Nat.add_assoc, Array.getD_eq_getD_getElem?, f1]
    exact ⟨(cell_of_row w b _ cs bt (0, 0) e2).trans f1, f2⟩
  refine ⟨.agg ((List.range d.size).map fun i => cs.getD (0 * sz + (0 + i)) undef).toArray, ?_, ?_⟩
  · have := run_agg (P := P) g1 g2 i1 (w := w) (a := ⟨b, 0 * sz + 0, none⟩) (f := fun i => cs.getD (0 * sz + (0 + i)) undef) (fun i hi => (hcell i (by omega)).1)
    rw [i2] at this
    simp only [resV, e1, asAddr, Sem.run_bind, Sem.run_pure, Result.andThen_ok, this]
  · exact strip (x := .ag _) hi ⟨_, rfl, rep_cells fun i hi => (hcell i hi).2⟩
variable {next : St → Prop} {Q : Exit → St → Prop} {S : St} {id k : Nat}
theorem thenA_n (h : next S) : thenA next Q .normal S := h
theorem thenA_e (h : Q (.exit k) S) : thenA next Q (.exit k) S := h
theorem thenA_r (h : Q .ret S) : thenA next Q .ret S := h
theorem inBlk_n (h : Q .normal S) : inBlk id Q .normal S := h
theorem inBlk_r (h : Q .ret S) : inBlk id Q .ret S := h
theorem inBlk_hit (h : Q .normal S) : inBlk id Q (.exit id) S := by show (bif Nat.beq id id then Q .normal S else Q (.exit id) S); rw [show Nat.beq id id = true from Nat.beq_refl id]; exact h
theorem inBlk_miss (hne : Nat.beq k id = false) (h : Q (.exit k) S) : inBlk id Q (.exit k) S := by show (bif Nat.beq k id then Q .normal S else Q (.exit k) S); rw [hne]; exact h
theorem AWp.condT {c : Operand} {x y : Code} {b : Bool} (hc : S.opd c = some (.c (.p (.bool b)))) (hb : b = true) (h : AWp P x Q S) : AWp P (.cond c x y) Q S := AWp.cond hc (fun _ => h) fun h' => by rw [hb] at h'; cases h'
theorem AWp.condF {c : Operand} {x y : Code} {b : Bool} (hc : S.opd c = some (.c (.p (.bool b)))) (hb : b = false) (h : AWp P y Q S) : AWp P (.cond c x y) Q S := AWp.cond hc (fun h' => by rw [hb] at h'; cases h') fun _ => h
/-- A loop: I tells the state, p what holds of its index. -/
theorem AWp.round {ι : Type} {c : Code} (I : ι → St) (p : ι → Prop) (μ : ι → Nat) (i0 : ι) (hp : p i0) (h0 : Wk S (I i0))
    (hr : ∀ i, p i → AWp P c (thenA (fun S' => ∃ j, p j ∧ Wk S' (I j) ∧ μ j < μ i) Q) (I i)) : AWp P (.loop c) Q S :=
  AWp.loop (ι := { i // p i }) (fun i => I i.1) (fun i => μ i.1) ⟨i0, hp⟩ h0 fun i => (hr i.1 i.2).mono fun e S' h => by
    cases e with
    | normal => obtain ⟨j, h1, h2, h3⟩ := h; exact ⟨⟨j, h1⟩, h2, h3⟩
    | _ => exact h
theorem acalls_at {f : FuncId} {fn : Func} {c : Code} {rs : List ResultVar} {args : List V1} {r : AV} {n : Nat} (hf : P.funcs[f]? = some fn) (hb : fn.body = some c) (hr : fn.results = rs.toArray) (hn : fn.ntmps = n) (hl : Nat.ble args.length n = true)
    (h : AWp P c (RetOk P rs r []) (entry n args)) : ACalls P f args r := by
  subst hn
  exact hcalls_of hf hb hr (Nat.ble_eq.mp hl) rfl (fun p hp => by cases hp) h
theorem hcalls_at {f : FuncId} {fn : Func} {c : Code} {rs : List ResultVar} {args : List V1} {hs hs' : List (Nat × AB)} {r : AV} {n : Nat} (hf : P.funcs[f]? = some fn) (hb : fn.body = some c) (hr : fn.results = rs.toArray) (hn : fn.ntmps = n) (hl : Nat.ble args.length n = true)
    (hk : keysHi hs' = true) (him : ∀ p ∈ hs', ∀ k j, k < p.2.n → j < p.2.sz → immC (p.2.F k j) = true) (h : AWp P c (RetOk P rs r hs') (entryL n args hs)) : HCalls P f args hs r hs' := by
  subst hn
  exact hcalls_of hf hb hr (Nat.ble_eq.mp hl) hk him h
theorem LeA.int {h : Nat → Option AB} {ren : List (Nat × Option Nat)} {k : IntKind} {i j : Int} (e : i = j) : LeA h ren (.c (.p (.int k i))) (.c (.p (.int k j))) := e ▸ .c (.refl _ rfl)
theorem LeC.int {h : Nat → Option AB} {ren : List (Nat × Option Nat)} {k : IntKind} {i j : Int} (e : i = j) : LeC h ren (.p (.int k i)) (.p (.int k j)) := e ▸ .refl _ rfl
theorem LeC.eq {h : Nat → Option AB} {ren : List (Nat × Option Nat)} {x y : CV} (e : x = y) (hx : immC x = true) : LeC h ren x y := e ▸ .refl _ hx
def renNo (ren : List (Nat × Option Nat)) (o : Nat) : Bool := Nat.blt o 1000 && ren.all fun p => match p.2 with | some o' => !(Nat.beq o' o) | none => true
theorem renNo_lt {ren : List (Nat × Option Nat)} {o : Nat} (h : renNo ren o = true) : o < 1000 := by
  unfold renNo at h
  rw [Bool.and_eq_true] at h
  exact Nat.blt_eq.mp h.1
theorem renNo_at {ren : List (Nat × Option Nat)} {o : Nat} (h : renNo ren o = true) (m : Nat) : assoc ren m ≠ some (some o) := fun e => by
  unfold renNo at h
  rw [Bool.and_eq_true] at h
  have := List.all_eq_true.1 h.2 _ (assoc_mem e)
  simp [Nat.beq_refl] at this
theorem LeC.fz {h : Nat → Option AB} {ren : List (Nat × Option Nat)} {o n n' sz : Nat} {ty : TypeId} {F G : Nat → Nat → CV} (hh : h o = some ⟨true, n, sz, ty, F⟩) (hr : renNo ren o = true) (hn : n' = n) (hc : ∀ k, k < n → ∀ j, j < sz → F k j = G k j ∧ immC (F k j) = true) : LeC h ren (.ow o) (.ls n' sz G) := by
  subst hn
  exact .frz o n' sz ty F G hh (fun k hk j hj => (hc k hk j hj).2) (fun k hk j hj => (hc k hk j hj).1) (renNo_at hr) (renNo_lt hr)
theorem LeC.lz {h : Nat → Option AB} {ren : List (Nat × Option Nat)} {n n' sz : Nat} {F G : Nat → Nat → CV} (hn : n' = n) (hc : ∀ k, k < n → ∀ j, j < sz → F k j = G k j) : LeC h ren (.ls n sz F) (.ls n' sz G) := by
  subst hn
  exact .ls n' sz F G hc
/-- A box that is kept. -/
theorem HeapOk.box {S : St} {ren : List (Nat × Option Nat)} {id o sz : Nat} {ty : TypeId} {F : Nat → Nat → CV} {l : List CV} (hr : assoc ren id = some (some o)) (hh : S.h o = some ⟨false, 1, sz, ty, F⟩) (hl : LeL (LeC S.h ren) (cellsFrom (F 0) 0 sz) l) (hz : l.length = sz) :
    HeapOk S ren id ⟨false, 1, sz, ty, lF l⟩ := .inr ⟨o, 1, F, .inl hr, rfl, hh, fun k hk j hj => by
      obtain rfl : k = 0 := by omega
      have key : ∀ (l m : List CV), LeL (LeC S.h ren) l m → ∀ (i : Nat) (x y : CV), l[i]? = some x → m[i]? = some y → LeC S.h ren x y := by
        intro l
        induction l with
        | nil => intro m h i x y h1; simp at h1
        | cons a l ih =>
          intro m h i x y h1 h2
          cases m with
          | nil => exact h.elim
          | cons b m =>
            cases i with
            | zero => simp at h1 h2; exact h1 ▸ h2 ▸ h.1
            | succ i => exact ih m h.2 i x y (by simpa using h1) (by simpa using h2)
      have hj' : j < sz := hj
      have h1 := cellsFrom_get (F 0) sz 0 j hj'
      rw [Nat.zero_add] at h1
      have h2 : l[j]? = some (lF l 0 j) := by
        unfold lF
        rw [List.getD, List.getElem?_eq_getElem (by omega)]
        rfl
      exact key _ _ hl j _ _ h1 h2⟩
theorem HeapOk.row {S : St} {ren : List (Nat × Option Nat)} {id o n n' sz : Nat} {ty : TypeId} {F G : Nat → Nat → CV} (hr : assoc ren id = some (some o)) (hh : S.h o = some ⟨true, n, sz, ty, F⟩) (hn : n' = n) (hc : ∀ k, k < n → ∀ j, j < sz → F k j = G k j ∧ immC (F k j) = true) :
    HeapOk S ren id ⟨true, n', sz, ty, G⟩ := .inr ⟨o, n, F, .inl hr, hn, hh, fun k hk j hj => LeC.eq (hc k hk j hj).1 (hc k hk j hj).2⟩
theorem cells_box {h : Nat → Option AB} {ren : List (Nat × Option Nat)} {sz : Nat} {F : Nat → Nat → CV} {l : List CV} (hc : cellsFrom (F 0) 0 sz = l) (hi : l.all immC = true) : ∀ k, k < 1 → ∀ j, j < sz → LeC h ren (F k j) (lF l k j) := fun k hk j hj => by
  obtain rfl : k = 0 := by omega
  have h1 := cellsFrom_get (F 0) sz 0 j hj
  rw [Nat.zero_add, hc] at h1
  have hlt := (List.getElem?_eq_some_iff.1 h1).1
  have h2 : lF l 0 j = F 0 j := by unfold lF; rw [List.getD, h1]; rfl
  rw [h2]
  exact .refl _ (List.all_eq_true.1 hi _ (List.mem_of_getElem? h1))
/-- A box of plain cells. -/
theorem HeapOk.same {S : St} {ren : List (Nat × Option Nat)} {id o sz : Nat} {ty : TypeId} {F : Nat → Nat → CV} {l : List CV} (hr : assoc ren id = some (some o)) (hh : S.h o = some ⟨false, 1, sz, ty, F⟩) (hc : cellsFrom (F 0) 0 sz = l) (hi : l.all immC = true) :
    HeapOk S ren id ⟨false, 1, sz, ty, lF l⟩ := .inr ⟨o, 1, F, .inl hr, rfl, hh, cells_box hc hi⟩
theorem HeapOk.lent {S : St} {ren : List (Nat × Option Nat)} {id sz : Nat} {ty : TypeId} {F : Nat → Nat → CV} {l : List CV} (hb : Nat.ble 1000 id = true) (hh : S.h id = some ⟨false, 1, sz, ty, F⟩) (hc : cellsFrom (F 0) 0 sz = l) (hi : l.all immC = true) :
    HeapOk S ren id ⟨false, 1, sz, ty, lF l⟩ := .inr ⟨id, 1, F, .inr ⟨Nat.ble_eq.mp hb, rfl⟩, rfl, hh, cells_box hc hi⟩
theorem app_F {F G : Nat → Nat → CV} {n sz : Nat} {l : List CV} (h1 : ∀ i, i < n → ∀ j, j < sz → F i j = G i j) (h2 : ∀ j, j < sz → l.getD j .any = G n j) (hi : ∀ i, i < n + 1 → ∀ j, j < sz → immC (G i j) = true) : ∀ i, i < n + 1 → ∀ j, j < sz → appF F n (sF l sz) i j = G i j ∧ immC (appF F n (sF l sz) i j) = true := fun i hlt j hj => by
  have : appF F n (sF l sz) i j = G i j := by
    unfold appF
    by_cases h : i < n
    · rw [Nat.blt_eq.mpr h]; exact h1 i h j hj
    · obtain rfl : i = n := by omega
      rw [show Nat.blt i i = false from Bool.eq_false_iff.2 fun h => by have := Nat.blt_eq.mp h; omega]
      simp only [cond_false, Nat.sub_self, sF, Nat.zero_mul, Nat.zero_add]
      exact h2 j hj
  exact ⟨this, by rw [this]; exact hi i hlt j hj⟩
theorem cell1 {P : Nat → Prop} (h0 : P 0) : ∀ j, j < 1 → P j := fun j hj => by
  match j, hj with
  | 0, _ => exact h0
theorem cell3 {P : Nat → Prop} (h0 : P 0) (h1 : P 1) (h2 : P 2) : ∀ j, j < 3 → P j := fun j hj => by
  match j, hj with
  | 0, _ => exact h0
  | 1, _ => exact h1
  | 2, _ => exact h2
theorem cell4 {P : Nat → Prop} (h0 : P 0) (h1 : P 1) (h2 : P 2) (h3 : P 3) : ∀ j, j < 4 → P j := fun j hj => by
  match j, hj with
  | 0, _ => exact h0
  | 1, _ => exact h1
  | 2, _ => exact h2
  | 3, _ => exact h3
theorem app_one {g g' : Nat → CV} {n : Nat} {x : CV} (h1 : ∀ i, i < n → g i = g' i) (h2 : x = g' n) (hi : ∀ i, i < n + 1 → immC (g' i) = true) : ∀ i, i < n + 1 → ∀ j, j < 1 → appF (fun i _ => g i) n (sF [x] 1) i j = g' i ∧ immC (appF (fun i _ => g i) n (sF [x] 1) i j) = true := fun i hlt j hj => by
  have : appF (fun i _ => g i) n (sF [x] 1) i j = g' i := by
    unfold appF
    by_cases h : i < n
    · rw [Nat.blt_eq.mpr h]; exact h1 i h
    · obtain rfl : i = n := by omega
      obtain rfl : j = 0 := by omega
      rw [show Nat.blt i i = false from Bool.eq_false_iff.2 fun h => by have := Nat.blt_eq.mp h; omega]
      simp only [cond_false, Nat.sub_self, sF]
      exact h2
  exact ⟨this, by rw [this]; exact hi i hlt⟩
theorem getD_l {α : Type} {l m : List α} {i : Nat} {d : α} (h : i < l.length) : (l ++ m).getD i d = l.getD i d := by simp [List.getD, List.getElem?_append_left h]
theorem getD_r {α : Type} {l : List α} {x d : α} : (l ++ [x]).getD l.length d = x := by simp [List.getD]
theorem HeapOk.nil {S : St} {ren : List (Nat × Option Nat)} {id n sz : Nat} {ty : TypeId} {F : Nat → Nat → CV} (hr : assoc ren id = some none) (hn : n = 0) : HeapOk S ren id ⟨true, n, sz, ty, F⟩ := .inl ⟨hr, rfl, hn⟩
end code
end
end Go.AV
end
