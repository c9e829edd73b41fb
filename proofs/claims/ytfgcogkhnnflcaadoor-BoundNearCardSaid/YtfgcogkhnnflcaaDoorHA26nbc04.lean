/- Parts of the proof: AMem9, AMemB, AMemC, ARange, ARange3, Ty, AOld, ASet. -/
import Derived.Test.YtfgcogkhnnflcaaDoorG11
import Derived.Test.YtfgcogkhnnflcaaDoorHA26nbc03
import Derived.Laws.StructEq
import Derived.Test.YtfgcogkhnnflcaaDoorG10
import Derived.Test.YtfgcogkhnnflcaaDoorHA26nbc02
import Derived.Great.BuildSlice
import Derived.Test.YtfgcogkhnnflcaaDoorG09
import Derived.RangeFuncLeaves
import Derived.RangeFuncRecord
import Derived.Test.YtfgcogkhnnflcaaDoorG08
import Derived.Test.YtfgcogkhnnflcaaDoorG06
import Derived.Test.YtfgcogkhnnflcaaDoorG04
import Derived.Deep.AppendLies
import Derived.Test.YtfgcogkhnnflcaaDoorG01
import Derived.OrdersIn
import Derived.TacticsIn
import Derived.RangeFuncCalls
import Derived.Maps.AppendAt
import Derived.OwnWalk
import Derived.StillTail
import Derived.Below
import Derived.Deep.Draws
import Derived.WalkKit
import Derived.KernelRfl
import Derived.Laws.Cover3
import Derived.RangeFuncNested
import Derived.Test.YtfgcogkhnnflcaaDoorG12
import Derived.Shelf.Abstract
import Derived.Test.YtfgcogkhnnflcaaDoorProg
import Derived.Test.YtfgcogkhnnflcaaDoorG14
import Derived.Test.YtfgcogkhnnflcaaDoorG13
import Derived.Test.YtfgcogkhnnflcaaDoorHA26nbc01
import Derived.Lib.Hide
import Derived.Deep.QuietTactic
import Derived.BigQuiet
import Derived.Deep.DrawnRows
set_option linter.unusedSimpArgs false
set_option linter.unusedVariables false
section
namespace Go.AV
open Go Go.RowKit Go.Flow
section
variable {P : Program}
def RetE (P : Program) (rs : List ResultVar) (R : AV → Prop) (e : Exit) (S : St) : Prop := ∃ r, R r ∧ RetOk P rs r [] e S
section ops
variable {ops : Array Oper} {rest : List Oper} {acc : List (List Nat × List Nat)} {S : St} {Q : List (List Nat × List Nat) → St → Prop} {dst : Option Tmp} {ty xt yt : TypeId} {pos : String} {after : Array Edge} {guard : Option (Nat × Bool)} {x y : Operand} {tab : List (TypeId × TD)}
theorem AList.neB {p q : Bool} (hw : S.wants ops { dst, op := .binOp .neq xt x y yt, type := ty, pos, after, guard } = some true) (hd : dOk S.n dst = true) (hx : S.opd x = some (.c (.p (.bool p)))) (hy : S.opd y = some (.c (.p (.bool q)))) (hu : P.underlying xt = some .bool)
    (hn : AList P ops rest (([], []) :: acc) (S.eff dst ⟨.c (.p (.bool (!(p == q)))), [], []⟩) Q) : AList P ops ({ dst, op := .binOp .neq xt x y yt, type := ty, pos, after, guard } :: rest) acc S Q :=
  AList.bin hw hd hx hy rfl (fun w => by simp [binOp, run_equal_bool w xt p q hu]) rfl hn
/-- An array in a box of ours: the address of an element. -/
theorem AList.idxArr (T : tabOk P tab = true) {t : TypeId} {id sz j i N : Nat} {d e : TD} {el : TypeId} {ki : IntKind} {n : Int} (hw : S.wants ops { dst, op := .indexAddr t x y, type := ty, pos, after, guard } = some true) (hd : dOk S.n dst = true)
    (hx : S.opd x = some (.c (.pt id sz 0 j))) (hy : S.opd y = some (.c (.p (.int ki n)))) (ht : assoc tab t = some d) (hk : d.k = .arr N el) (he : assoc tab el = some e) (hi : n = (i : Int)) (hlt : i < N)
    (hn : AList P ops rest (([], []) :: acc) (S.eff dst ⟨.c (.pt id sz 0 (j + i * e.size)), [], []⟩) Q) : AList P ops ({ dst, op := .indexAddr t x y, type := ty, pos, after, guard } :: rest) acc S Q :=
  AList.val [] _ hw hd (fun S1 h1 _ b0 σ a w R => by
    obtain ⟨-, v, b, e1, e2, e3⟩ := opd_rep R ((h1 x (by simp [Op.operands])).trans hx)
    have e4 := rep_int (opd_rep R ((h1 y (by simp [Op.operands])).trans hy))
    have g1 := ty_arr T ht hk
    obtain ⟨inf, z, u, i1, i2, i3, -⟩ := ty_info T he
    subst hi
    refine ⟨.pointer (some ⟨b, 0 * sz + (j + i * e.size), none⟩), ?_, rfl, v, b, e1, e2, rfl⟩
    have hlt' : (i : Int) < N := by omega
    simp only [execOp, e3, e4, Instr.indexAt, Instr.sureAddr, asIntOf, run_underlying g1, Sem.run_bind, Sem.run_pure, Result.andThen_ok]
    simp [sizeOf, typeInfo, i1, i2, hlt', Addr.add, Nat.add_assoc]) hn
end ops
section rows
variable {α : Type} {c : α → List CV} {z : α} {sz : Nat}
theorem getD_app {L M : List α} {k : Nat} : (L ++ M).getD k z = if k < L.length then L.getD k z else M.getD (k - L.length) z := by
  simp only [List.getD_eq_getElem?_getD, List.getElem?_append]
  split <;> rfl
theorem rowF_imm (hc : ∀ x, (c x).all immC = true) (L : List α) (k j : Nat) : immC (rowF c z L k j) = true := lF_imm (hc _) 0 j
theorem row_snoc (L : List α) (x : α) (hc : ∀ x, (c x).all immC = true) (hz : (c x).length = sz) : ∀ i, i < L.length + 1 → ∀ j, j < sz → appF (rowF c z L) L.length (sF (c x) sz) i j = rowF c z (L ++ [x]) i j ∧ immC (appF (rowF c z L) L.length (sF (c x) sz) i j) = true :=
  app_F (fun i hi j _ => by simp only [rowF, getD_app, if_pos hi]) (fun j _ => by simp only [rowF, getD_app, if_neg (Nat.lt_irrefl _), Nat.sub_self]; rfl) fun i _ j _ => rowF_imm hc _ i j
def rowN (c : α → List CV) (g : Nat → α) (k j : Nat) : CV := (c (g k)).getD j .any
theorem rowN_imm (hc : ∀ x, (c x).all immC = true) (g : Nat → α) (k j : Nat) : immC (rowN c g k j) = true := lF_imm (hc _) 0 j
end rows
end
end Go.AV
end

section
namespace Go.AV
open Go Go.RowKit Go.Flow
section
variable {P : Program}
section ops
variable {ops : Array Oper} {rest : List Oper} {acc : List (List Nat × List Nat)} {S : St} {Q : List (List Nat × List Nat) → St → Prop} {dst : Option Tmp} {ty xt yt : TypeId} {pos : String} {after : Array Edge} {guard : Option (Nat × Bool)} {x y : Operand}
/-- A call of a function value that has captured nothing. -/
theorem AList.call0 {f : FuncId} {fn : Func} {z : Operand} {xs : Array Operand} {ats : Array TypeId} {args : List V1} {r : AV} {C : Nat → CV} (hw : S.wants ops { dst, op := .call { callee := .value z, args := xs, argTypes := ats }, type := ty, pos, after, guard } = some true) (hd : dOk S.n dst = true)
    (hz : S.opd z = some (.c (.fn f 0 C))) (ha : S.opds xs.toList = some args) (hi : args.all immV = true) (hf : P.funcs[f]? = some fn) (hb : fn.body.isNone = false) (hnm : (fn.name == "runtime.NumGoroutine") = false) (hc : ACalls P f args r)
    (hn : AList P ops rest (([], []) :: acc) (S.eff dst ⟨r, [], []⟩) Q) : AList P ops ({ dst, op := .call { callee := .value z, args := xs, argTypes := ats }, type := ty, pos, after, guard } :: rest) acc S Q :=
  AList.ext [] _ hw hd (fun S1 h1 _ b0 σ a w R => by
    have h2 : S1.opds xs.toList = some args := (opds_congr fun x hx => h1 x (by simp only [Op.operands, Call.operands]; simp; exact .inr (by simpa using hx))).trans ha
    have h3 := opd_rep R ((h1 z (by simp [Op.operands, Call.operands])).trans hz)
    obtain ⟨_, vs, e1, e2, _⟩ := h3
    obtain rfl : vs = [] := List.length_eq_zero_iff.1 e2
    have := hc.at R (opds_rep R h2) hi
    rw [run_callf f fn hf hb hnm #[] #[] e1 w]
    simp only [Goes]
    rw [show (#[] ++ xs.map a.eval ++ #[] : Array Value) = (xs.toList.map a.eval).toArray from Array.ext' (by simp)]
    exact this.mono fun e w' ⟨v, g1, g2, g3⟩ => ⟨v, g1, g2, g3⟩) hn
/-- A conversion between kinds of integers. -/
theorem AList.convI {src t : TypeId} {k k' : IntKind} {i j : Int} (hj : k'.wrap i = j) (hs : (P.underlying src).isSome = true) (ht : P.underlying t = some (.int k')) (hw : S.wants ops { dst, op := .convert src t x, type := ty, pos, after, guard } = some true) (hd : dOk S.n dst = true) (hx : S.opd x = some (.c (.p (.int k i))))
    (hn : AList P ops rest (([], []) :: acc) (S.eff dst ⟨.c (.p (.int k' j)), [], []⟩) Q) : AList P ops ({ dst, op := .convert src t x, type := ty, pos, after, guard } :: rest) acc S Q :=
  AList.val [] _ hw hd (fun S1 g1 _ b0 σ a w R => by
    have e1 := rep_int (opd_rep R ((g1 x (by simp [Op.operands])).trans hx))
    have hk : P.intKind t = k' := by simp [Program.intKind, ht]
    refine ⟨.int k' j, ?_, rep_p rfl⟩
    have h := run_convert_int w src t k i hs (by rw [hk]; exact ht)
    rw [hk, hj] at h
    simp only [execOp, e1, Sem.run_bind, h, Result.andThen_ok, Sem.run_pure]) hn
end ops
end
end Go.AV
end

section
namespace Go.AV
open Go Go.RowKit Go.Flow
section
variable {P : Program}
/-- The result is r id, where id is the row B. -/
def OTCalls (P : Program) (f : FuncId) (args : List V1) (r : Nat → AV) (B : AB) : Prop :=
  ∀ (O : Nat → Prop) (w : World) (vals : List Value), (∀ b, O b → b < w.heap.size) → RepL (RepV (fun _ => none) O w) args vals →
    Calls P f vals.toArray w fun e w' => ∃ v rv, e = .returned v ∧ OFresh w.heap.size O w' rv B ∧ (∀ (σ : Nat → Option Value) (O' : Nat → Prop) (w'' : World) (id : Nat), σ id = some rv → RepA σ O' w'' (r id) v) ∧ Ext w w'
theorem Rel0.adoptR {b0 : Base} {σ : Nat → Option Value} {S : St} {a : Act} {w w' : World} {dst : Option Tmp} (R : Rel0 b0 σ S a w) (hd : dOk S.n dst = true) {id : Nat} (hf : S.fr id = true) {B : AB} {rv v : Value} {r : Nat → AV} (hE : Ext w w') (hB : OFresh w.heap.size (out b0 σ S.h) w' rv B)
    (hx : ∀ (σ' : Nat → Option Value) (O' : Nat → Prop) (w'' : World) (id : Nat), σ' id = some rv → RepA σ' O' w'' (r id) v) (hpc : ∀ k, k < B.n → ∀ j, j < B.sz → isP (B.F k j) = true) : Rel b0 (S.eff dst ⟨r id, [(id, some B)], [id]⟩) (a.put dst v) w' := by
  obtain ⟨hno, hlow⟩ := R.fr id hf
  obtain ⟨hrow, hB⟩ := hB
  have hsub : ∀ i u, σ i = some u → put σ id (some rv) i = some u := fun i u h => by
    rw [put_ne _ _ (fun e => by rw [e, hno] at h; cases h)]; exact h
  have hb' : ∀ b, baseBlk rv = some b → w.heap.size ≤ b := fun b hb => by
    rcases hB with ⟨rfl, _⟩ | ⟨b', cap, cs, h1, h2, _⟩
    · cases hb
    · rw [h1.blk] at hb; cases hb; exact h2
  have hout : ∀ b, out b0 (put σ id (some rv)) (put S.h id (some B)) b → out b0 σ S.h b ∨ w.heap.size ≤ b := fun b hb => by
    rcases hb with ⟨i, u, h1, h2, h3⟩ | hb
    · by_cases hi : i = id
      · subst hi
        rw [put_same] at h2
        cases h2
        exact .inr (hb' b h3)
      · rw [put_ne _ _ hi] at h1 h2
        exact .inl (.inl ⟨i, u, h1, h2, h3⟩)
    · exact .inl (.inr hb)
  obtain ⟨H, _, hO⟩ := R.hp.put (id := id) (B' := B) (v' := rv) (σ' := put σ id (some rv)) (h' := look [(id, some B)] S.h) (w' := w') hsub (put_same _ _ _) (put_same _ _ _) (fun i hi => .inr (put_ne _ _ hi)) (Keep.of_ext hE)
    (fun i u hi => by
      have h1 := (b0.one i u hi).1
      rw [look_one, put_ne _ _ (by omega)]
      exact (R.hp.fx i u hi).2) (fun i hi => put_ne _ _ (by omega))
    (fun i u b hi h1 h2 h3 => by
      have h1' : S.h i ≠ none := by rw [look_one, put_ne _ _ hi] at h1; exact h1
      exact Below.block hE b (R.hp.lt ⟨i, u, h1', h2, h3⟩))
    (by
      rcases hB with ⟨h1, h2⟩ | ⟨b, cap, cs, h1, h2, h3, h4, h5⟩
      · exact .inl ⟨hrow, h1, h2⟩
      · refine .inr ⟨b, cap, cs, h1, h3, h4, fun k hk j hj => ?_⟩
        obtain ⟨u, e1, e2⟩ := h5 k hk j hj
        exact ⟨u, e1, isP_rep (hpc k hk j hj) e2⟩)
    (fun b hb => by
      refine ⟨.inl (Nat.le_trans R.ext.size (hb' b hb)), .inr (hb' b hb), fun i u hi h1 h2 h3 => ?_⟩
      have h1' : S.h i ≠ none := by rw [look_one, put_ne _ _ hi] at h1; exact h1
      have := R.hp.lt ⟨i, u, h1', h2, h3⟩
      have := hb' b hb
      omega)
  exact ⟨put σ id (some rv), R.step (e := ⟨r id, [(id, some B)], [id]⟩) hd hsub (Keep.of_ext hE) H hO (fun _ => hx _ _ _ _ (put_same _ _ _)) (fun i hi => by
    by_cases e : i = id
    · exact .inr (by simp [e])
    · rw [put_ne _ _ e] at hi; exact .inl hi)⟩
def OwRes2 (tab : List (TypeId × TD)) (S : St) (rs : List ResultVar) (l1 l2 : List CV) (pv : Value) (B : AB) : Prop :=
  ∃ c t bid sz bt F id d e0, rs = [.cell c t, .tmp e0] ∧ S.t e0 = some (.c (.p pv)) ∧ S.t c = some (.c (.pt bid sz 0 0)) ∧ S.h bid = some ⟨false, 1, sz, bt, F⟩ ∧ assoc tab t = some d ∧ isAg d.k = true ∧ d.size = sz ∧ cellsFrom (F 0) 0 d.size = l1 ++ .ow id :: l2 ∧ S.h id = some B ∧ B.row = true ∧
    (∀ k, k < B.n → ∀ j, j < B.sz → immC (B.F k j) = true)
def RetOw2 (tab : List (TypeId × TD)) (rs : List ResultVar) (l1 l2 : List CV) (pv : Value) (B : AB) : Exit → St → Prop
  | .ret, S => ∃ S', Wk S S' ∧ OwRes2 tab S' rs l1 l2 pv B
  | .normal, S => ∃ S', Wk S S' ∧ OwRes2 tab S' rs l1 l2 pv B
  | _, _ => False
/-- A struct with a row of its own, and a plain value. -/
theorem otcalls2_at {tab : List (TypeId × TD)} (T : tabOk P tab = true) {f : FuncId} {fn : Func} {c : Code} {rs : List ResultVar} {args : List V1} {l1 l2 : List CV} {pv : Value} {B : AB} {n : Nat} (hf : P.funcs[f]? = some fn) (hb : fn.body = some c) (hr : fn.results = rs.toArray) (hn : fn.ntmps = n) (hl : Nat.ble args.length n = true)
    (hi : (l1.all isP && l2.all isP) = true) (h : AWp P c (RetOw2 tab rs l1 l2 pv B) (entry n args)) : OTCalls P f args (fun id => .tu [.ag (l1 ++ .ow id :: l2), .c (.p pv)]) B := fun O w vals hO hv => by
  subst hn
  rw [Bool.and_eq_true] at hi
  let b0 : Base := ⟨w, O, fun _ => False, fun _ => none, hO, fun b hb => hb.elim, fun b _ h => h, fun i v h => (by cases h), fun _ _ => False, fun _ _ _ => True, none, fun _ _ h => h.elim, fun _ _ _ _ _ _ _ _ => trivial⟩
  have hl' := hv.length
  have hO' : ∀ b, out b0 (fun _ => none) (assoc []) b → O b := fun b hb => hb.elim (fun ⟨i, v, h1, _⟩ => absurd rfl h1) fun h => h
  refine calls_of_awp (b0 := b0) hf hb rfl h ⟨fun _ => none, trivial, ?_, ⟨rfl, rfl, rfl, Nat.le_refl _, fun _ _ _ => rfl⟩, ⟨fun id B hB => (by cases hB), fun i j v1 v2 b hi => absurd rfl hi, fun b ⟨i, v, hi, _⟩ => absurd rfl hi, fun i v hi => (by cases hi), fun _ _ _ => rfl⟩, fun t x hx => ?_, fun id hid => ⟨rfl, Nat.blt_eq.mp hid⟩, fun i v hi => (by cases hi), rfl, trivial⟩ (fun e S hQ => by cases e <;> first | exact .inl rfl | exact .inr rfl | exact hQ.elim) fun e a w' S0 hR0 hQ0 hd0 => ?_
  · have := Nat.ble_eq.mp hl
    simp [entryL, hl']; omega
  · obtain ⟨y, e1, rfl⟩ : ∃ y, args[t]? = some y ∧ y.av = x := by simpa [entryL, Option.map_eq_some_iff] using hx
    obtain ⟨v, e2, e3⟩ := hv.get e1
    have ht : (vals.toArray ++ Array.replicate (fn.ntmps - vals.toArray.size) undef).getD t undef = v := by
      have hlt := (List.getElem?_eq_some_iff.1 e2).1
      have := (List.getElem?_eq_some_iff.1 e2).2
      simp [Array.getD_eq_getD_getElem?, Array.getElem?_append, hlt, this]
    rw [ht]
    exact (e3.keep ⟨rfl, rfl, rfl, Nat.le_refl _, fun _ _ _ => rfl⟩ (fun b hb => .inl (hO' b hb)) fun _ _ h => h).av
  · have fin : ∀ S, Rel b0 S a w' → (∃ S', Wk S S' ∧ OwRes2 tab S' rs l1 l2 pv B) → ∃ v, (results fn a.tmps).run P w' = .ok v w' ∧ ∃ v' rv, Ending.returned v = .returned v' ∧ OFresh w.heap.size O w' rv B ∧ (∀ (σ : Nat → Option Value) (O' : Nat → Prop) (w'' : World) (id : Nat), σ id = some rv → RepA σ O' w'' (.tu [.ag (l1 ++ .ow id :: l2), .c (.p pv)]) v') ∧ Ext w w' := fun S hR ⟨S', hw, c', t, bid, sz, bt, F, id, d, e0, hrs, he0, hc, hh, ht, hk, hz, hcl, hid, hrow, him⟩ => by
      obtain ⟨σ, R⟩ := hw b0 a w' hR
      obtain ⟨b, cap, cs, -, e1, -, e2, -, -, e3⟩ := at_pt R (R.sl c' _ hc) hh rfl (by simp : 0 < 1)
      obtain ⟨ud, g1, g2⟩ := ty_ag T ht hk
      obtain ⟨inf, z, u', i1, i2, i3, -⟩ := ty_info T ht
      simp only at e3
      have hcell : ∀ i, i < d.size → w'.cell? (Addr.add ⟨b, 0 * sz + 0, none⟩ i) = some (cs.getD (0 * sz + (0 + i)) undef) ∧ RepC σ (out b0 σ S'.h) w' (F 0 (0 + i)) (cs.getD (0 * sz + (0 + i)) undef) := fun i hi => by
        obtain ⟨u, f1, f2⟩ := e3 0 (by simp) (0 + i) (by omega)
        rw [add_off, Nat.add_assoc, Array.getD_eq_getD_getElem?, f1]
        exact ⟨(cell_of_row w' b _ cs bt (0, 0) e2).trans f1, f2⟩
      have hrl := rep_cells (R := RepC σ (out b0 σ S'.h) w') (F := F 0) (j := 0) fun i hi => (hcell i hi).2
      rw [hcl] at hrl
      have hsub : ∀ b, O b → out b0 σ S'.h b := fun b hb => .inr hb
      obtain ⟨rv, k1, k2⟩ := R.hp.blk id B hid
      have hs0 := R.sl e0 _ he0
      have hs1 : a.tmps.getD e0 undef = pv := hs0.2
      have hs2 : pv.oneCell' = true := hs1 ▸ hs0.1
      refine ⟨.tuple #[.agg ((List.range d.size).map fun i => cs.getD (0 * sz + (0 + i)) undef).toArray, pv], ?_, _, rv, rfl, ⟨hrow, ?_⟩, fun σ' O' w'' id' hs => ⟨[_, _], rfl, ⟨_, rfl, swap_p k1 hs hi.1 hi.2 hrl⟩, ⟨hs2, rfl⟩, trivial⟩, ?_⟩
      · have := run_agg (P := P) g1 g2 i1 (w := w') (a := ⟨b, 0 * sz + 0, none⟩) (f := fun i => cs.getD (0 * sz + (0 + i)) undef) (fun i hi => (hcell i (by omega)).1)
        rw [i2] at this
        have hres : (resV (.cell c' t) a.tmps).run P w' = .ok (.agg ((List.range d.size).map fun i => cs.getD (0 * sz + (0 + i)) undef).toArray) w' := by
          simp only [resV, e1, asAddr, Sem.run_bind, Sem.run_pure, Result.andThen_ok, this]
        have hres2 : (resV (.tmp e0) a.tmps).run P w' = .ok pv w' := by simp only [resV, hs1, Sem.run_pure]
        rw [results_eq, hr, hrs]
        generalize hf : (fun rv => resV rv a.tmps) = f
        have hfr : resV (.cell c' t) a.tmps = f (.cell c' t) := by rw [← hf]
        have hfr2 : resV (.tmp e0) a.tmps = f (.tmp e0) := by rw [← hf]
        rw [hfr] at hres
        rw [hfr2] at hres2
        simp [hres, hres2]
      · rcases k2 with ⟨_, m1, m2⟩ | ⟨b', cap', cs', m1, m2, m3, m4⟩
        · exact .inl ⟨m1, m2⟩
        · refine .inr ⟨b', cap', cs', m1, ?_, m2, m3, fun k hk j hj => ?_⟩
          · rcases R.hp.new b' ⟨id, rv, by rw [hid]; simp, k1, m1.blk⟩ with h | h
            · exact h
            · exact h.elim
          · obtain ⟨u, n1, n2⟩ := m4 k hk j hj
            exact ⟨u, n1, repC_imm (him k hk j hj) n2.1 ((repI_imm (him k hk j hj) n2).less hsub)⟩
      · exact ⟨R.ext.os, R.ext.tape, R.ext.output, R.ext.size, fun k hk => R.ext.block k hk fun h => h.elim (fun h => h) fun h => h⟩
    cases e with
    | ret => exact fin S0 hR0 hQ0
    | normal => exact fin S0 hR0 hQ0
    | _ => exact hQ0.elim

section ops
variable {ops : Array Oper} {rest : List Oper} {acc : List (List Nat × List Nat)} {S : St} {Q : List (List Nat × List Nat) → St → Prop} {ty : TypeId} {pos : String} {after : Array Edge} {guard : Option (Nat × Bool)}
/-- A call whose result's slice becomes the caller's own. -/
theorem AList.callT {f : FuncId} {fn : Func} {id : Nat} {xs : Array Operand} {ats : Array TypeId} {args : List V1} {r : Nat → AV} {B : AB} (hw : S.wants ops { dst := some id, op := .call { callee := .value (.func f), args := xs, argTypes := ats }, type := ty, pos, after, guard } = some true) (hd : dOk S.n (some id) = true) (hfr : S.fr id = true)
    (ha : S.opds xs.toList = some args) (hi : args.all immV = true) (hf : P.funcs[f]? = some fn) (hb : fn.body.isNone = false) (hnm : (fn.name == "runtime.NumGoroutine") = false) (hc : OTCalls P f args r B) (hpc : ∀ k, k < B.n → ∀ j, j < B.sz → isP (B.F k j) = true)
    (hn : AList P ops rest (([id], [id, id]) :: acc) (S.eff (some id) ⟨r id, [(id, some B)], [id]⟩) Q) : AList P ops ({ dst := some id, op := .call { callee := .value (.func f), args := xs, argTypes := ats }, type := ty, pos, after, guard } :: rest) acc S Q :=
  AList.cons [] ⟨r id, [(id, some B)], [id]⟩ (LStep.of hw fun S1 hA _ hal b0 σ a w R => by
    have h2 : S1.opds xs.toList = some args := (opds_congr fun x hx => hA.op x (by simp only [Op.operands, Call.operands]; simp; exact .inr (by simpa using hx))).trans ha
    have hv := opds_rep R h2
    have := hc (out b0 σ S1.h) w (xs.toList.map a.eval) (fun b hb => own_lt R hb) (RepL.of_get hv.length fun i x v h1 h2 => by
      obtain ⟨v', e1, e2⟩ := hv.get h1
      rw [h2] at e1
      cases e1
      exact strip0 (List.all_eq_true.1 hi _ (List.mem_of_getElem? h1)) e2)
    rw [run_callf f fn hf hb hnm #[] #[] rfl w]
    simp only [Goes]
    rw [show (#[] ++ xs.map a.eval ++ #[] : Array Value) = (xs.toList.map a.eval).toArray from Array.ext' (by simp)]
    exact this.mono fun e w' ⟨v, rv, g1, g2, g3, g4⟩ => ⟨v, g1, R.adoptR (by rw [hA.n]; exact hd) ((hal id (by simp)).trans hfr) g4 g2 g3 hpc⟩) hn
end ops
end
end Go.AV
end

section
namespace Go.AV
open Go Go.RowKit Go.Flow
section
variable {P : Program}
section ops
variable {ops : Array Oper} {rest : List Oper} {S : St} {Q : St → Prop} {dst : Option Tmp} {ty : TypeId} {pos : String} {after : Array Edge} {guard : Option (Nat × Bool)}
end ops

def RetIt (N : Nat) (stop : Bool) : Exit → St → Prop
  | .ret, S => S.gs = N ∧ S.dd = stop
  | .normal, S => S.gs = N ∧ S.dd = stop
  | _, _ => False
def entryI (G : Base → Prop) (n : Nat) (args : List V1) : St := { n, ln := 0, t := fun i => (args[i]?).map V1.av, h := fun _ => none, fr := fun id => Nat.blt id 1000, G, gs := 0, dd := false }
theorem itcalls_of {gf : FuncId} {fn : Func} {c : Code} {cs : List V1} {xs : Nat → List Value} {M n : Nat} (hf : P.funcs[gf]? = some fn) (hb : fn.body = some c) (hr : fn.results = #[]) (hn : fn.ntmps = n) (hl : Nat.ble (cs.length + 1) n = true)
    (h : ∀ (l N : Nat) (stop : Bool), (stop = true → 0 < N ∧ N ≤ M) → (stop = false → N = M) → AWp P c (RetIt N stop) (entryI (itG P l xs N stop) n (.c (.p (yv l)) :: cs))) : ItCalls P gf cs xs M := fun b0 l N stop vals hfix hY hrd hV h1 h2 hYo hJ hv => by
  subst hn
  have hl' := hv.length
  have hX : ∀ b, out b0 (fun _ => none) (fun _ => none) b → b0.X b := fun b hb => hb.elim (fun ⟨i, v, h1, _⟩ => absurd rfl h1) fun h => h
  refine calls_of_awp (b0 := b0) hf hb hrd (h l N stop h1 h2) ⟨fun _ => none, trivial, ?_, ⟨rfl, rfl, rfl, Nat.le_refl _, fun _ _ _ => rfl⟩, ⟨fun id B hB => (by cases hB), fun i j v1 v2 b hi => absurd rfl hi, fun b ⟨i, v, hi, _⟩ => absurd rfl hi, fun i v hi => (by rw [hfix] at hi; cases hi), fun _ _ _ => rfl⟩, fun t x hx => ?_, fun id hid => ⟨rfl, Nat.blt_eq.mp hid⟩, fun i v hi => (by rw [hfix] at hi; cases hi), ⟨hrd, hY, hV, hYo⟩, hJ⟩ (fun e S hQ => by cases e <;> first | exact .inl rfl | exact .inr rfl | exact hQ.elim) fun e a w S hR hQ hd => ?_
  · have := Nat.ble_eq.mp hl
    simp [entryI, hl']; omega
  · have hv' : RepL (RepV (fun _ => none) b0.X b0.w) (.c (.p (yv l)) :: cs) (yv l :: vals) := ⟨⟨rfl, rfl⟩, hv⟩
    obtain ⟨y, e1, rfl⟩ : ∃ y, (V1.c (.p (yv l)) :: cs)[t]? = some y ∧ y.av = x := by simpa [entryI, Option.map_eq_some_iff] using hx
    obtain ⟨v, e2, e3⟩ := hv'.get e1
    have ht : ((yv l :: vals).toArray ++ Array.replicate (fn.ntmps - (yv l :: vals).toArray.size) undef).getD t undef = v := by
      have hlt := (List.getElem?_eq_some_iff.1 e2).1
      have := (List.getElem?_eq_some_iff.1 e2).2
      simp only [Array.getD_eq_getD_getElem?, Array.getElem?_append, List.size_toArray, hlt, if_true, List.getElem?_toArray, e2, Option.getD_some]
    rw [ht]
    exact (e3.keep ⟨rfl, rfl, rfl, Nat.le_refl _, fun _ _ _ => rfl⟩ (fun b hb => .inl (hX b hb)) fun _ _ h => h).av
  · obtain ⟨g1, g2⟩ : S.gs = N ∧ S.dd = stop := by cases e <;> first | exact hQ | exact hQ.elim
    obtain ⟨σ, R⟩ := hR
    have hext := R.ext
    have hgh := R.gh
    unfold wild at hext
    rw [g1, g2] at hgh
    rw [g2] at hext
    exact ⟨.tuple #[], by rw [results_eq, hr]; simp, ⟨_, rfl⟩, hgh, hext.less fun b hb => hb.elim (fun h => (hY b h).elim) fun h => h⟩
end
end Go.AV
end

section
namespace Go.AV
open Go Go.RowKit Go.Flow
section
variable {P : Program}
def noFn : CV → Bool
  | .fn .. => false
  | _ => true
def cellsV : List V1 → Option (List CV)
  | [] => some []
  | .c x :: l => bif noFn x then (cellsV l).map (x :: ·) else none
  | _ => none
theorem cellsV_rep {σ : Nat → Option Value} {O : Nat → Prop} {w : World} : ∀ {l : List V1} {m : List CV} {us : List Value}, cellsV l = some m → RepL (RepV σ O w) l us → us.length = m.length ∧ ∀ (i : Nat), i < m.length → ∃ v, us[i]? = some v ∧ v.oneCell' = true ∧ RepB σ O w (m.getD i .any) v
  | [], _, [], h, _ => by cases h; exact ⟨rfl, fun i hi => absurd hi (Nat.not_lt_zero _)⟩
  | .c x :: l, m, u :: us, h, hr => by
    unfold cellsV at h
    cases hx : noFn x with
    | false => rw [hx] at h; cases h
    | true =>
      rw [hx] at h
      obtain ⟨m', h1, rfl⟩ := Option.map_eq_some_iff.1 h
      obtain ⟨e1, e2⟩ := cellsV_rep h1 hr.2
      refine ⟨by simp [e1], fun i hi => ?_⟩
      cases i with
      | zero =>
        refine ⟨u, rfl, hr.1.1, ?_⟩
        have h2 := hr.1.2
        cases x <;> first | exact h2 | cases hx
      | succ i => simpa using e2 i (by simpa using hi)
  | .c _ :: _, _, [], _, hr => hr.elim
  | .ag _ :: _, _, _, h, _ => by cases h
  | [], _, _ :: _, _, hr => hr.elim
section ops
variable {ops : Array Oper} {rest : List Oper} {acc : List (List Nat × List Nat)} {S : St} {Q : List (List Nat × List Nat) → St → Prop} {dst : Option Tmp} {ty : TypeId} {pos : String} {after : Array Edge} {guard : Option (Nat × Bool)}
theorem AList.makeFn {f : FuncId} {cs : Array Operand} {args : List V1} {m : List CV} (hw : S.wants ops { dst, op := .makeFunc (.func f) #[] cs, type := ty, pos, after, guard } = some true) (hd : dOk S.n dst = true)
    (ha : S.opds cs.toList = some args) (hc : cellsV args = some m) (hm : Nat.beq m.length m.length = true)
    (hn : AList P ops rest (([], []) :: acc) (S.eff dst ⟨.c (.fn f m.length fun i => m.getD i .any), [], []⟩) Q) : AList P ops ({ dst, op := .makeFunc (.func f) #[] cs, type := ty, pos, after, guard } :: rest) acc S Q :=
  AList.val [] _ hw hd (fun S1 h1 _ b0 σ a w R => by
    have h2 : S1.opds cs.toList = some args := (opds_congr fun x hx => h1 x (by simp only [Op.operands]; simp; exact by simpa using hx)).trans ha
    obtain ⟨e1, e2⟩ := cellsV_rep hc (opds_rep R h2)
    refine ⟨.func (.func f) #[] (cs.map a.eval), by simp [execOp, Instr.makeFunc], rfl, cs.toList.map a.eval, ?_, by simpa using e1, fun i hi => e2 i hi⟩
    rw [show (cs.toList.map a.eval).toArray = cs.map a.eval from Array.ext' (by simp)]) hn
end ops
theorem lendBox_eq {F : Nat → Nat → CV} {l : List CV} {sz : Nat} (hc : cellsFrom (F 0) 0 sz = l) (k : Nat) (hk : k < 1) (j : Nat) (hj : j < sz) : F k j = lF l k j := by
  obtain rfl : k = 0 := by omega
  have h1 := cellsFrom_get (F 0) sz 0 j hj
  rw [Nat.zero_add, hc] at h1
  show F 0 j = lF l 0 j
  unfold lF
  rw [List.getD, h1]
  rfl
theorem ViewC.roBox {S : St} {ids : List Nat} {id sz : Nat} {ty : TypeId} {F : Nat → Nat → CV} {l : List CV} (hr : posOf ids id = none) (hh : S.h id = some ⟨false, 1, sz, ty, F⟩) (hc : cellsFrom (F 0) 0 sz = l) (hi : l.all immC = true) : ViewC S ids (.pt id sz 0 0) (.pl 1 sz (lF l) 0 0) :=
  ViewC.ro id 1 sz 0 0 false ty F (lF l) hr hh (by omega) (fun k hk j hj => by rw [lendBox_eq hc k hk j hj]; exact lF_imm hi k j) fun k hk j hj => lendBox_eq hc k hk j hj
theorem PlainB.box {sz : Nat} {ty : TypeId} {l : List CV} (vs : List Value) (h : l = vs.map .p) (hl : Nat.beq vs.length sz = true) : PlainB ⟨false, 1, sz, ty, lF l⟩ := ⟨rfl, fun k _ j hj => by
  subst h
  have := Nat.eq_of_beq_eq_true hl
  refine ⟨vs[j]'(by show j < vs.length; rw [this]; exact hj), ?_⟩
  show (vs.map CV.p).getD j .any = _
  rw [List.getD_eq_getElem?_getD, List.getElem?_map, List.getElem?_eq_getElem (by rw [this]; exact hj)]
  rfl⟩
/-- A result box of one cell. -/
theorem ARes.box1 {tab : List (TypeId × TD)} (T : tabOk P tab = true) {S : St} {c : Tmp} {t : TypeId} {id : Nat} {bt : TypeId} {F : Nat → Nat → CV} {d : TD} {x : CV} (hc : S.t c = some (.c (.pt id 1 0 0))) (hh : S.h id = some ⟨false, 1, 1, bt, F⟩) (ht : assoc tab t = some d) (hk : isOne d.k = true)
    (hl : F 0 0 = x) (hi : immC x = true) : ARes P S (.cell c t) (.c x) := fun b0 σ a w R => by
  obtain ⟨b, cap, cs, -, e1, -, e2, -, -, e3⟩ := at_pt R (R.sl c _ hc) hh rfl (by simp : 0 < 1)
  obtain ⟨u, f1, f2⟩ := e3 0 (by simp) 0 (by simp)
  obtain ⟨ud, g1, g2⟩ := ty_na T ht hk
  subst hl
  refine ⟨u, ?_, strip (x := .c _) hi f2⟩
  have hcl : w.cell? ⟨b, 0 * 1 + 0, none⟩ = some u := (cell_of_row w b _ cs bt (0, 0) e2).trans f1
  simp only [resV, e1, asAddr, Sem.run_bind, Sem.run_pure, Result.andThen_ok, run_one g1 g2 hcl]
section
variable {ops : Array Oper} {rest : List Oper} {acc : List (List Nat × List Nat)} {S : St} {Q : List (List Nat × List Nat) → St → Prop} {dst : Option Tmp} {ty xt yt : TypeId} {pos : String} {after : Array Edge} {guard : Option (Nat × Bool)} {x y : Operand} {i j : Int} {k : IntKind}
/-- A field, of one cell, of a struct by value. -/
theorem AList.field1 {tab : List (TypeId × TD)} (T : tabOk P tab = true) {f : Nat} {fs : Array Field} {fld : Field} {d : TD} {l : List CV} {c : CV} (hw : S.wants ops { dst, op := .field xt x f, type := ty, pos, after, guard } = some true) (hd : dOk S.n dst = true) (hx : S.opd x = some (.ag l))
    (hu : P.underlying xt = some (.struct fs)) (hf : fs[f]? = some fld) (he : assoc tab fld.type = some d) (hk : isOne d.k = true) (hl : l[fld.offset]? = some c)
    (hn : AList P ops rest (([], []) :: acc) (S.eff dst ⟨.c c, [], []⟩) Q) : AList P ops ({ dst, op := .field xt x f, type := ty, pos, after, guard } :: rest) acc S Q :=
  AList.val [] _ hw hd (fun S1 h1 _ b0 σ a w R => by
    obtain ⟨vs, e1, e2⟩ := opd_rep R ((h1 x (by simp [Op.operands])).trans hx)
    obtain ⟨ud, g2, g3⟩ := ty_na T he hk
    have hag : ∀ w, (isAgg fld.type).run P w = .ok false w := fun w => by
      simp only [isAgg, Sem.run_bind, run_underlying g2, Result.andThen_ok]
      cases ud <;> first | rfl | cases g3
    obtain ⟨v, k1, k2⟩ := e2.get hl
    refine ⟨v, ?_, k2⟩
    simp only [execOp, e1, Instr.field, run_underlying hu, Sem.run_bind, Sem.run_pure, Result.andThen_ok]
    simp [hf, asAgg, part, hag, k1]) hn
/-- A number halved. -/
theorem AList.shr1 (hw : S.wants ops { dst, op := .binOp .shr xt x y yt, type := ty, pos, after, guard } = some true) (hd : dOk S.n dst = true) (hx : S.opd x = some (.c (.p (.int .u64 i)))) (hy : S.opd y = some (.c (.p (.int .u64 1))))
    (hn : AList P ops rest (([], []) :: acc) (S.eff dst ⟨.c (.p (.int .u64 (i / 2))), [], []⟩) Q) : AList P ops ({ dst, op := .binOp .shr xt x y yt, type := ty, pos, after, guard } :: rest) acc S Q :=
  AList.bin hw hd hx hy rfl (fun w => by
    have e : i.fdiv 2 = i / 2 := Int.fdiv_eq_ediv_of_nonneg i (by omega)
    simp [binOp, Op.shift, IntKind.bits, e]) rfl hn
end
end
end Go.AV
end

section
namespace Go.Proofs.YtfgcogkhnnflcaaDoor
open Go.RowKit Go.Flow Go.AV
def tyTab : List (TypeId × TD) := [(1, ⟨.one, 1, 8, [.nilFunc]⟩),
  (2, ⟨.one, 1, 8, [.int .i64 0]⟩),
  (3, ⟨.one, 1, 8, [.int .i64 0]⟩),
  (4, ⟨.one, 1, 1, [.bool false]⟩),
  (5, ⟨.one, 1, 1, [.int .u8 0]⟩),
  (6, ⟨.one, 1, 1, [.int .u8 0]⟩),
  (7, ⟨.st [(0, 1), (1, 1), (2, 1), (3, 1)], 4, 24, [.int .i64 0, .int .i64 0, .bool false, .int .u8 0]⟩),
  (8, ⟨.st [(0, 1), (1, 1), (2, 1), (3, 1)], 4, 24, [.int .i64 0, .int .i64 0, .bool false, .int .u8 0]⟩),
  (9, ⟨.one, 1, 16, [.string ⟨#[]⟩]⟩),
  (10, ⟨.one, 1, 16, [.string ⟨#[]⟩]⟩),
  (11, ⟨.one, 1, 16, [.string ⟨#[]⟩]⟩),
  (12, ⟨.one, 1, 8, [.int .u64 0]⟩),
  (13, ⟨.st [(0, 1), (1, 1)], 2, 24, [.string ⟨#[]⟩, .int .u64 0]⟩),
  (14, ⟨.st [(0, 1), (1, 1)], 2, 24, [.string ⟨#[]⟩, .int .u64 0]⟩),
  (15, ⟨.one, 1, 8, [.pointer none]⟩),
  (16, ⟨.one, 1, 8, [.pointer none]⟩),
  (17, ⟨.one, 1, 8, [.pointer none]⟩),
  (18, ⟨.st [(0, 1)], 1, 8, [.pointer none]⟩),
  (19, ⟨.st [(0, 1)], 1, 8, [.pointer none]⟩),
  (20, ⟨.one, 1, 16, [.nilIface]⟩),
  (21, ⟨.one, 1, 4, [.int .i32 0]⟩),
  (22, ⟨.sl 3, 1, 24, [.slice none 0 0]⟩),
  (23, ⟨.arr 2 22, 2, 48, [.slice none 0 0, .slice none 0 0]⟩),
  (24, ⟨.st [(0, 1), (1, 1), (2, 1), (3, 1)], 4, 32, [.int .i64 0, .int .i64 0, .int .i64 0, .int .i64 0]⟩),
  (25, ⟨.st [(0, 1), (1, 1), (2, 1), (3, 1)], 4, 32, [.int .i64 0, .int .i64 0, .int .i64 0, .int .i64 0]⟩),
  (26, ⟨.arr 2 25, 8, 64, [.int .i64 0, .int .i64 0, .int .i64 0, .int .i64 0, .int .i64 0, .int .i64 0, .int .i64 0, .int .i64 0]⟩),
  (27, ⟨.one, 1, 8, [.nilFunc]⟩),
  (28, ⟨.sl 4, 1, 24, [.slice none 0 0]⟩),
  (29, ⟨.st [(0, 1), (1, 1), (2, 1)], 3, 40, [.int .i64 0, .int .i64 0, .slice none 0 0]⟩),
  (30, ⟨.st [(0, 1), (1, 1), (2, 1)], 3, 40, [.int .i64 0, .int .i64 0, .slice none 0 0]⟩),
  (31, ⟨.one, 1, 8, [.nilFunc]⟩),
  (32, ⟨.one, 1, 8, [.nilFunc]⟩),
  (34, ⟨.one, 1, 8, [.nilFunc]⟩),
  (35, ⟨.sl 30, 1, 24, [.slice none 0 0]⟩),
  (37, ⟨.one, 1, 8, [.nilFunc]⟩),
  (38, ⟨.one, 1, 8, [.nilFunc]⟩),
  (39, ⟨.sl 26, 1, 24, [.slice none 0 0]⟩),
  (41, ⟨.one, 1, 8, [.nilFunc]⟩),
  (42, ⟨.one, 1, 8, [.nilFunc]⟩),
  (43, ⟨.one, 1, 8, [.nilFunc]⟩),
  (44, ⟨.one, 1, 8, [.int .i64 0]⟩),
  (46, ⟨.one, 1, 8, [.nilFunc]⟩),
  (47, ⟨.one, 1, 8, [.nilFunc]⟩),
  (48, ⟨.one, 1, 8, [.nilFunc]⟩),
  (49, ⟨.sl 22, 1, 24, [.slice none 0 0]⟩),
  (50, ⟨.sl 25, 1, 24, [.slice none 0 0]⟩),
  (51, ⟨.one, 1, 8, [.nilFunc]⟩),
  (52, ⟨.one, 1, 8, [.nilFunc]⟩),
  (53, ⟨.st [(0, 1), (1, 1), (2, 1)], 3, 24, [.int .i64 0, .int .i64 0, .int .i64 0]⟩),
  (54, ⟨.st [(0, 1), (1, 1), (2, 1)], 3, 24, [.int .i64 0, .int .i64 0, .int .i64 0]⟩),
  (56, ⟨.one, 1, 8, [.nilFunc]⟩),
  (57, ⟨.one, 1, 8, [.nilFunc]⟩),
  (58, ⟨.one, 1, 8, [.nilFunc]⟩),
  (59, ⟨.one, 1, 8, [.pointer none]⟩),
  (60, ⟨.st [(0, 1), (1, 1)], 2, 32, [.slice none 0 0, .int .i64 0]⟩),
  (61, ⟨.st [(0, 1), (1, 1)], 2, 32, [.slice none 0 0, .int .i64 0]⟩),
  (62, ⟨.one, 1, 8, [.nilFunc]⟩),
  (63, ⟨.one, 1, 8, [.nilFunc]⟩),
  (64, ⟨.one, 1, 8, [.nilFunc]⟩),
  (65, ⟨.one, 1, 8, [.pointer none]⟩),
  (66, ⟨.one, 1, 8, [.nilFunc]⟩),
  (67, ⟨.st [(0, 1), (1, 1), (2, 1)], 3, 24, [.nilFunc, .nilFunc, .bool false]⟩),
  (68, ⟨.st [(0, 1), (1, 1), (2, 1)], 3, 24, [.nilFunc, .nilFunc, .bool false]⟩),
  (69, ⟨.arr 2 68, 6, 48, [.nilFunc, .nilFunc, .bool false, .nilFunc, .nilFunc, .bool false]⟩),
  (70, ⟨.one, 1, 8, [.nilFunc]⟩),
  (74, ⟨.one, 1, 8, [.nilFunc]⟩),
  (75, ⟨.one, 1, 8, [.nilFunc]⟩),
  (76, ⟨.arr 2 3, 2, 16, [.int .i64 0, .int .i64 0]⟩),
  (77, ⟨.one, 1, 8, [.nilFunc]⟩),
  (78, ⟨.one, 1, 8, [.nilFunc]⟩),
  (79, ⟨.st [(0, 1), (1, 1)], 2, 16, [.int .i64 0, .int .i64 0]⟩),
  (80, ⟨.st [(0, 1), (1, 1)], 2, 16, [.int .i64 0, .int .i64 0]⟩),
  (81, ⟨.one, 1, 8, [.nilFunc]⟩),
  (82, ⟨.one, 1, 8, [.nilFunc]⟩),
  (83, ⟨.one, 1, 8, [.nilFunc]⟩),
  (84, ⟨.st [(0, 3), (3, 3), (6, 4), (10, 4)], 14, 144, [.int .i64 0, .int .i64 0, .slice none 0 0, .int .i64 0, .int .i64 0, .slice none 0 0, .int .i64 0, .int .i64 0, .int .i64 0, .int .i64 0, .int .i64 0, .int .i64 0, .int .i64 0, .int .i64 0]⟩),
  (85, ⟨.st [(0, 3), (3, 3), (6, 4), (10, 4)], 14, 144, [.int .i64 0, .int .i64 0, .slice none 0 0, .int .i64 0, .int .i64 0, .slice none 0 0, .int .i64 0, .int .i64 0, .int .i64 0, .int .i64 0, .int .i64 0, .int .i64 0, .int .i64 0, .int .i64 0]⟩),
  (86, ⟨.sl 89, 1, 24, [.slice none 0 0]⟩),
  (87, ⟨.one, 1, 8, [.nilFunc]⟩),
  (88, ⟨.st [(0, 1), (1, 1)], 2, 16, [.int .i64 0, .int .i64 0]⟩),
  (89, ⟨.st [(0, 1), (1, 1)], 2, 16, [.int .i64 0, .int .i64 0]⟩),
  (90, ⟨.one, 1, 8, [.nilFunc]⟩),
  (91, ⟨.one, 1, 8, [.nilFunc]⟩),
  (92, ⟨.one, 1, 8, [.nilFunc]⟩),
  (93, ⟨.one, 1, 8, [.nilFunc]⟩),
  (94, ⟨.one, 1, 8, [.nilFunc]⟩),
  (95, ⟨.one, 1, 8, [.nilFunc]⟩),
  (96, ⟨.one, 1, 8, [.nilFunc]⟩),
  (97, ⟨.one, 1, 8, [.nilFunc]⟩),
  (98, ⟨.one, 1, 8, [.nilFunc]⟩),
  (99, ⟨.one, 1, 8, [.nilFunc]⟩),
  (100, ⟨.one, 1, 8, [.nilFunc]⟩),
  (101, ⟨.one, 1, 8, [.nilFunc]⟩),
  (102, ⟨.sl 76, 1, 24, [.slice none 0 0]⟩),
  (103, ⟨.one, 1, 8, [.nilFunc]⟩),
  (104, ⟨.one, 1, 8, [.nilFunc]⟩),
  (105, ⟨.one, 1, 8, [.nilFunc]⟩),
  (106, ⟨.one, 1, 8, [.nilFunc]⟩),
  (107, ⟨.one, 1, 8, [.nilFunc]⟩),
  (108, ⟨.one, 1, 8, [.nilFunc]⟩),
  (109, ⟨.one, 1, 8, [.nilFunc]⟩),
  (110, ⟨.one, 1, 8, [.nilFunc]⟩),
  (111, ⟨.one, 1, 8, [.int .u64 0]⟩),
  (112, ⟨.one, 1, 8, [.nilFunc]⟩),
  (113, ⟨.st [(0, 1), (1, 1), (2, 1), (3, 1)], 4, 40, [.pointer none, .pointer none, .pointer none, .string ⟨#[]⟩]⟩),
  (114, ⟨.st [(0, 1), (1, 1), (2, 1), (3, 1)], 4, 40, [.pointer none, .pointer none, .pointer none, .string ⟨#[]⟩]⟩),
  (115, ⟨.arr 0 16, 0, 0, []⟩),
  (116, ⟨.st [(0, 0)], 0, 0, []⟩),
  (117, ⟨.st [(0, 0)], 0, 0, []⟩),
  (118, ⟨.one, 1, 4, [.int .u32 0]⟩),
  (119, ⟨.one, 1, 1, [.int .u8 0]⟩),
  (120, ⟨.one, 1, 1, [.int .u8 0]⟩),
  (121, ⟨.one, 1, 8, [.nilFunc]⟩),
  (122, ⟨.one, 1, 8, [.pointer none]⟩),
  (123, ⟨.one, 1, 4, [.int .i32 0]⟩),
  (124, ⟨.one, 1, 4, [.int .i32 0]⟩),
  (125, ⟨.st [(0, 1), (1, 1), (2, 1), (3, 1), (4, 1), (5, 1), (6, 1), (7, 1), (8, 1), (9, 1), (10, 1)], 11, 48, [.int .u64 0, .int .u64 0, .int .u32 0, .int .u8 0, .int .u8 0, .int .u8 0, .int .u8 0, .nilFunc, .pointer none, .int .i32 0, .int .i32 0]⟩),
  (126, ⟨.st [(0, 1), (1, 1), (2, 1), (3, 1), (4, 1), (5, 1), (6, 1), (7, 1), (8, 1), (9, 1), (10, 1)], 11, 48, [.int .u64 0, .int .u64 0, .int .u32 0, .int .u8 0, .int .u8 0, .int .u8 0, .int .u8 0, .nilFunc, .pointer none, .int .i32 0, .int .i32 0]⟩),
  (127, ⟨.one, 1, 8, [.pointer none]⟩)]
theorem tyOk : tabOk Tryd.prog tyTab = true := by kernel_rfl
theorem mixed : Tryd.prog.follows .mixedOrders = true := by kernel_rfl
end Go.Proofs.YtfgcogkhnnflcaaDoor
end

section
namespace Go.AV
open Go Go.RowKit Go.Flow
section
variable {P : Program}
/-- A contract at a plain value. -/
theorem ACalls.old {f : FuncId} {args : List V1} {v : Value} (hv : v.oneCell' = true) (h : ∀ (O : Nat → Prop) (w : World) (vals : List Value), RepL (RepV (fun _ => none) O w) args vals → Calls P f vals.toArray w fun e w' => e = .returned v ∧ Ext w w') : ACalls P f args (.c (.p v)) :=
  ACalls.of fun O w vals _ hr => (h O w vals hr).mono fun e w' ⟨h1, h2⟩ => ⟨v, h1, rep_p hv, h2⟩
variable {σ : Nat → Option Value} {O : Nat → Prop} {w : World} {u : Value} {n : Nat}
end
end Go.AV
namespace Go.Proofs.YtfgcogkhnnflcaaDoor
open Go.RowKit Go.Flow Go.AV
theorem rep_c {σ : Nat → Option Value} {O : Nat → Prop} {w : World} {u v : Value} (h : RepV σ O w (.c (.p v)) u) : u = v := h.2
/-- The lists of arguments, taken apart. -/
theorem args1 {R : V1 → Value → Prop} {a : V1} {vals : List Value} (h : RepL R [a] vals) : ∃ x, vals = [x] ∧ R a x := by
  match vals, h with
  | [x], ⟨h1, _⟩ => exact ⟨x, rfl, h1⟩
theorem args2 {R : V1 → Value → Prop} {a b : V1} {vals : List Value} (h : RepL R [a, b] vals) : ∃ x y, vals = [x, y] ∧ R a x ∧ R b y := by
  match vals, h with
  | [x, y], ⟨h1, h2, _⟩ => exact ⟨x, y, rfl, h1, h2⟩
end Go.Proofs.YtfgcogkhnnflcaaDoor
end

section
namespace Go.AV
open Go Go.RowKit Go.Flow
theorem set_oneB {n k : Nat} {f : Nat → Bool} {e : Bool} (g : Nat → Bool) (h1 : g k = e) (h2 : ∀ i, ¬i = k → g i = f i) : ∀ i, i < n → ∀ j, j < 1 → setF (bF f) k 0 1 [bC e] i j = bF g i j ∧ immC (setF (bF f) k 0 1 [bC e] i j) = true := fun i hi => cell1 (by
  have : setF (bF f) k 0 1 [bC e] i 0 = bF g i 0 := by
    unfold setF
    by_cases h : i = k
    · subst h
      rw [Nat.beq_refl]
      exact congrArg bC h1.symm
    · rw [show Nat.beq i k = false from Bool.eq_false_iff.2 fun h' => h (Nat.eq_of_beq_eq_true h')]
      exact congrArg bC (h2 i h).symm
  rw [this]
  exact ⟨rfl, rfl⟩)
end Go.AV
end
