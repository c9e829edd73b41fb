/- Parts of the proof: ACode, AOps, AMem, AMem2. -/
import Derived.Test.YtfgcogkhnnflcaaDoorG10
import Derived.Test.YtfgcogkhnnflcaaDoorG09
import Derived.RangeFuncLeaves
import Derived.RangeFuncRecord
import Derived.Test.YtfgcogkhnnflcaaDoorG08
import Derived.Test.YtfgcogkhnnflcaaDoorG06
import Derived.Test.YtfgcogkhnnflcaaDoorG04
import Derived.Deep.AppendLies
import Derived.Test.YtfgcogkhnnflcaaDoorG01
import Derived.OrdersIn
import Derived.TacticsIn
import Derived.RangeFuncCalls
import Derived.Maps.AppendAt
import Derived.OwnWalk
import Derived.StillTail
import Derived.Below
import Derived.Deep.Draws
import Derived.WalkKit
import Derived.KernelRfl
set_option linter.unusedSimpArgs false
set_option linter.unusedVariables false
section
namespace Go.AV
open Go Go.RowKit Go.Flow
section
variable {P : Program}
variable {Q Q' : Exit → St → Prop} {S S' : St}
theorem AWp.seq {x y : Code} (h : AWp P x (thenA (AWp P y Q) Q) S) : AWp P (.seq x y) Q S := ⟨fun b0 a w hR =>
  wpIn_seq (wpIn_mono (h.get b0 a w hR) fun e a w ⟨S', h1, h2⟩ => by cases e <;> first | exact h2.get b0 a w h1 | exact ⟨S', h1, h2⟩)⟩
theorem AWp.cond {c : Operand} {x y : Code} {b : Bool} (hc : S.opd c = some (.c (.p (.bool b)))) (ht : b = true → AWp P x Q S) (hf : b = false → AWp P y Q S) : AWp P (.cond c x y) Q S := ⟨fun b0 a w hR => by
  obtain ⟨σ, h0⟩ := hR
  have hv : a.eval c = .bool b := (opd_rep h0 hc).2
  exact wpIn_cond_split hv (fun h => (ht h).get b0 a w ⟨σ, h0⟩) fun h => (hf h).get b0 a w ⟨σ, h0⟩⟩

theorem AWp.weak {c : Code} (hw : Wk S S') (h : AWp P c Q S') : AWp P c Q S := ⟨fun b0 a w hR => h.get b0 a w (hw b0 a w hR)⟩
theorem Wk.mkL {S : St} {n ln : Nat} {ts : List (Nat × AV)} {hs : List (Nat × AB)} {ids : List Nat} (ren : List (Nat × Option Nat)) (hn : S.n = n) (hln : S.ln = ln) (hlent : lentIn hs ln = true) (hren : (renOk ren && renLow ren) = true) (hids : ren.all (fun p => ids.any (Nat.beq p.1)) = true)
    (ht : AllT S ren ts) (hh : AllH S ren hs) (hgs : S.gs = 0 := by rfl) (hdd : S.dd = false := by rfl) (hG : ∀ b, S.G b → b.rd = none := by exact fun _ h => h) : Wk S (mkL n ln ts hs ids) := Wk.mkG ren hn hln hlent hren hids ht hh hgs hdd hG
def RetOk (P : Program) (rs : List ResultVar) (r : AV) (hs' : List (Nat × AB)) : Exit → St → Prop
  | .ret, S => ∃ S' loc, Wk S S' ∧ S'.h = assoc (loc ++ hs') ∧ loc.all (fun p => Nat.blt p.1 1000) = true ∧ ARets P S' rs r
  | .normal, S => ∃ S' loc, Wk S S' ∧ S'.h = assoc (loc ++ hs') ∧ loc.all (fun p => Nat.blt p.1 1000) = true ∧ ARets P S' rs r
  | _, _ => False

def keysHi (hs : List (Nat × AB)) : Bool := hs.all fun p => Nat.ble 1000 p.1
theorem fix_eq {b0 : Base} {σ : Nat → Option Value} {hs : List (Nat × AB)} {w : World} (H : HRel b0 σ (assoc hs) w) (hk : keysHi hs = true) {i : Nat} (hi : assoc hs i ≠ none) : b0.fix i = σ i ∧ σ i ≠ none := by
  cases hB : assoc hs i with
  | none => exact absurd hB hi
  | some B =>
    have h1 := Nat.ble_eq.mp (List.all_eq_true.1 hk _ (assoc_mem hB))
    obtain ⟨v, e1, _⟩ := H.blk i B hB
    cases hf : b0.fix i with
    | none => have := H.big i h1 hf; rw [e1] at this; cases this
    | some v' => rw [(H.fx i v' hf).1]; exact ⟨rfl, by simp⟩
/-- The lent boxes alone. -/
theorem HRel.lent {b0 : Base} {σ : Nat → Option Value} {loc hs : List (Nat × AB)} {w : World} (H : HRel b0 σ (assoc (loc ++ hs)) w) (hl : loc.all (fun p => Nat.blt p.1 1000) = true) (hk : keysHi hs = true) :
    HRel b0 σ (assoc hs) w ∧ ∀ b, own σ (assoc hs) b → own σ (assoc (loc ++ hs)) b := by
  have up : ∀ i, assoc hs i ≠ none → assoc (loc ++ hs) i = assoc hs i := fun i hi => by
    cases hB : assoc hs i with
    | none => exact absurd hB hi
    | some B =>
      have h1 := Nat.ble_eq.mp (List.all_eq_true.1 hk _ (assoc_mem hB))
      rw [assoc_app]
      cases hc : assoc loc i with
      | none => exact hB
      | some B' =>
        have h2 := Nat.blt_eq.mp (List.all_eq_true.1 hl _ (assoc_mem hc))
        simp only at h1 h2
        omega
  have upn : ∀ i, assoc hs i ≠ none → assoc (loc ++ hs) i ≠ none := fun i hi => by rw [up i hi]; exact hi
  have hown : ∀ b, own σ (assoc hs) b → own σ (assoc (loc ++ hs)) b := fun b ⟨i, v, h1, h2, h3⟩ => ⟨i, v, upn i h1, h2, h3⟩
  refine ⟨⟨fun i B hB => ?_, fun i j v1 v2 b hi hj => H.inj i j v1 v2 b (upn i hi) (upn j hj), fun b hb => H.new b (hown b hb), fun i v hi => ⟨(H.fx i v hi).1, ?_⟩, H.big⟩, hown⟩
  · have hne : assoc hs i ≠ none := by rw [hB]; simp
    obtain ⟨v, e1, e2⟩ := H.blk i B ((up i hne).trans hB)
    refine ⟨v, e1, ?_⟩
    rcases e2 with h0 | ⟨b, cap, cs, k1, k2, k3, k4⟩
    · exact .inl h0
    · exact .inr ⟨b, cap, cs, k1, k2, k3, fun k hk j hj => let ⟨u, g1, g2⟩ := k4 k hk j hj; ⟨u, g1, g2.keep ⟨rfl, rfl, rfl, Nat.le_refl _, fun _ _ _ => rfl⟩ (fun b hb => .inl (hb.imp (hown b) fun h => h)) fun _ _ h => h⟩⟩
  · have h1 := (H.fx i v hi).2
    rw [assoc_app] at h1
    cases hc : assoc loc i with
    | none => rw [hc] at h1; exact h1
    | some B' =>
      have h2 := Nat.blt_eq.mp (List.all_eq_true.1 hl _ (assoc_mem hc))
      have := (b0.one i v hi).1
      simp only at h2
      omega
theorem to_fix {b0 : Base} {σ : Nat → Option Value} {hs : List (Nat × AB)} {w : World} (H : HRel b0 σ (assoc hs) w) (hk : keysHi hs = true) (hb : ∀ p ∈ hs, ∀ k j, k < p.2.n → j < p.2.sz → immC (p.2.F k j) = true) : HRel b0 b0.fix (assoc hs) w ∧ ∀ b, own σ (assoc hs) b ↔ own b0.fix (assoc hs) b := by
  have hown : ∀ b, own σ (assoc hs) b ↔ own b0.fix (assoc hs) b := fun b => ⟨fun ⟨i, v, h1, h2, h3⟩ => ⟨i, v, h1, by rw [(fix_eq H hk h1).1]; exact h2, h3⟩, fun ⟨i, v, h1, h2, h3⟩ => ⟨i, v, h1, by rw [← (fix_eq H hk h1).1]; exact h2, h3⟩⟩
  have hout : ∀ b, out b0 b0.fix (assoc hs) b → out b0 σ (assoc hs) b := fun b hb => hb.imp (hown b).2 fun h => h
  refine ⟨⟨fun i B hB => ?_, fun i j v1 v2 b hi hj h1 h2 => H.inj i j v1 v2 b hi hj (by rw [← (fix_eq H hk hi).1]; exact h1) (by rw [← (fix_eq H hk hj).1]; exact h2), fun b hb => H.new b ((hown b).2 hb), fun i v hi => ⟨hi, (H.fx i v hi).2⟩, fun i _ hf => hf⟩, hown⟩
  have hne : assoc hs i ≠ none := by rw [hB]; simp
  obtain ⟨v, e1, e2⟩ := H.blk i B hB
  refine ⟨v, (fix_eq H hk hne).1.trans e1, ?_⟩
  rcases e2 with h0 | ⟨b, cap, cs, k1, k2, k3, k4⟩
  · exact .inl h0
  · refine .inr ⟨b, cap, cs, k1, k2, k3, fun k hk' j hj => ?_⟩
    obtain ⟨u, g1, g2⟩ := k4 k hk' j hj
    have him := hb _ (assoc_mem hB) k j hk' hj
    exact ⟨u, g1, repC_imm him g2.1 ((repI_imm him g2).less hout)⟩
theorem Rel0.unmark {b0 : Base} {σ : Nat → Option Value} {S : St} {a : Act} {w : World} {d : Deferred} {ds : List Deferred} (R : Rel0 b0 σ S a w) (hd : a.defers = d :: ds) :
    ∃ D, d = { target := .collected D, args := #[] } ∧ (Instr.takeDeferred D).run P w = .ok [] (w.putObj D (.deferred none)) ∧ Rel0 b0 σ S { a with defers := ds } (w.putObj D (.deferred none)) := by
  have hm := R.df
  rw [hd] at hm
  obtain ⟨⟨D, e1, e2, e3, e4⟩, hm⟩ := hm
  have hD : ∀ cs t p, w.heap[D]? ≠ some (.cells cs t p) := fun cs t p h => by rw [e3] at h; cases h
  have hc := cell_turn (o := .deferred none) hD
  have hb : ∀ k, k ≠ D → (w.putObj D (.deferred none)).heap[k]? = w.heap[k]? := fun k hk => World.putObj_heap_other hk
  refine ⟨D, e1, run_takeDeferred e3, ?_, R.sz, ⟨R.ext.os, R.ext.tape, R.ext.output, by rw [World.putObj_size]; exact R.ext.size, fun k hk hn => (hb k (by omega)).trans (R.ext.block k hk hn)⟩, R.hp.turn hD hb hc, fun t x hx => (R.sl t x hx).cells hc, R.fr, R.le, R.gd, b0.jk _ _ (fun k => k = D) _ _ R.gh ⟨rfl, rfl, rfl, by rw [World.putObj_size]; exact Nat.le_refl _, fun k _ hk => hb k hk⟩ fun k hk => .inl (by rw [hk]; exact e2)⟩
  have : ∀ {ds : List Deferred}, (∀ d' ∈ ds, d' ≠ { target := .collected D, args := #[] }) → Marks b0.w.heap.size ds w → Marks b0.w.heap.size ds (w.putObj D (.deferred none)) := fun {ds} => by
    induction ds with
    | nil => exact fun _ _ => trivial
    | cons d' ds ih =>
      rintro h4 ⟨⟨D', f1, f2, f3, f4⟩, hm⟩
      refine ⟨⟨D', f1, f2, (hb D' fun e => ?_).trans f3, f4⟩, ih (fun d hd => h4 d (List.mem_cons_of_mem _ hd)) hm⟩
      subst e
      exact h4 d' (by simp) f1
  exact this e4 hm
theorem leaves_marks {b0 : Base} {S : St} {fn : Func} {R : Ending → World → Prop} (fin : ∀ a w, Rel b0 S a w → a.defers = [] → ∃ v, (results fn a.tmps).run P w = .ok v w ∧ R (.returned v) w) :
    ∀ (ds : List Deferred) (a : Act) (w : World), a.defers = ds → Rel b0 S a w → LeavesInM Fence.wide 0 P fn a.tmps R ds .returning w
  | [], a, w, hd, hR => fin a w hR hd
  | d :: ds, a, w, hd, ⟨σ, hR⟩ => by
    obtain ⟨D, e1, e2, e3⟩ := hR.unmark (P := P) hd
    refine ⟨by simp, .inl ⟨D, _, by rw [e1], e2, ?_⟩⟩
    exact leaves_marks fin ds { a with defers := ds } _ rfl ⟨σ, e3⟩
/-- A function's contract from its walk. -/
theorem calls_of_awp {f : FuncId} {fn : Func} {c : Code} {vals : Array Value} {w : World} {R : Ending → World → Prop} {b0 : Base} {Q : Exit → St → Prop} {S : St} (hf : P.funcs[f]? = some fn) (hb : fn.body = some c) (hrd : b0.rd = none)
    (h : AWp P c Q S) (hR : Rel b0 S { tmps := vals ++ Array.replicate (fn.ntmps - vals.size) undef, defers := [] } w) (hQ : ∀ e S, Q e S → e = .normal ∨ e = .ret)
    (fin : ∀ e a w S, Rel b0 S a w → Q e S → a.defers = [] → ∃ v, (results fn a.tmps).run P w = .ok v w ∧ R (.returned v) w) : Calls P f vals w R := by
  refine callsIn_wide.1 (callsIn_of_wp_marks (F := Fence.wide) (n := 0) hf hb trivial ?_)
  have := h.get b0 _ w hR
  rw [hrd] at this
  refine wpIn_mono this fun e a w ⟨S', h1, h2⟩ => ?_
  rcases hQ e S' h2 with rfl | rfl
  · exact leaves_marks (fun a w hR hd => fin _ a w S' hR h2 hd) _ a w rfl h1
  · exact leaves_marks (fun a w hR hd => fin _ a w S' hR h2 hd) _ a w rfl h1
theorem hcalls_of {f : FuncId} {fn : Func} {c : Code} {rs : List ResultVar} {args : List V1} {hs hs' : List (Nat × AB)} {r : AV} (hf : P.funcs[f]? = some fn) (hb : fn.body = some c) (hr : fn.results = rs.toArray) (hn : args.length ≤ fn.ntmps)
    (hk : keysHi hs' = true) (him : ∀ p ∈ hs', ∀ k j, k < p.2.n → j < p.2.sz → immC (p.2.F k j) = true)
    (h : AWp P c (RetOk P rs r hs') (entryL fn.ntmps args hs)) : HCalls P f args hs r hs' := fun b0 vals hH hle hY hv => by
  have hl := hv.length
  let b2 : Base := ⟨b0.w, b0.X, b0.Y, b0.fix, b0.lt, b0.ylt, b0.dis, b0.one, fun _ _ => False, fun _ _ _ => True, none, fun _ _ h => h.elim, fun _ _ _ _ _ _ _ _ => trivial⟩
  have up : ∀ {σ h w}, HRel b0 σ h w → HRel b2 σ h w := fun H => ⟨H.blk, H.inj, H.new, H.fx, H.big⟩
  have dn : ∀ {σ h w}, HRel b2 σ h w → HRel b0 σ h w := fun H => ⟨H.blk, H.inj, H.new, H.fx, H.big⟩
  refine calls_of_awp (b0 := b2) hf hb rfl h ⟨b0.fix, trivial, ?_, ⟨rfl, rfl, rfl, Nat.le_refl _, fun _ _ _ => rfl⟩, up hH, fun t x hx => ?_, fun id hid => ?_, hle, rfl, trivial⟩ (fun e S hQ => by cases e <;> first | exact .inl rfl | exact .inr rfl | exact hQ.elim) fun e a w S hR hQ hd => ?_
  · simp [entryL, hl]; omega
  · obtain ⟨y, e1, rfl⟩ : ∃ y, args[t]? = some y ∧ y.av = x := by simpa [entryL, Option.map_eq_some_iff] using hx
    obtain ⟨v, e2, e3⟩ := hv.get e1
    have ht : (vals.toArray ++ Array.replicate (fn.ntmps - vals.toArray.size) undef).getD t undef = v := by
      have hlt := (List.getElem?_eq_some_iff.1 e2).1
      have := (List.getElem?_eq_some_iff.1 e2).2
      simp [Array.getD_eq_getD_getElem?, Array.getElem?_append, hlt, this]
    rw [ht]
    exact e3.av
  · have h1 : id < 1000 := Nat.blt_eq.mp hid
    refine ⟨?_, h1⟩
    cases hc : b0.fix id with
    | none => rfl
    | some v => have := (b0.one id v hc).1; omega
  · obtain ⟨S', loc, hw, hS', hlc, hS⟩ : ∃ S' loc, Wk S S' ∧ S'.h = assoc (loc ++ hs') ∧ loc.all (fun p => Nat.blt p.1 1000) = true ∧ ARets P S' rs r := by cases e <;> first | exact hQ | exact hQ.elim
    obtain ⟨σ, R⟩ := hw b2 a w hR
    obtain ⟨v, h1, h2⟩ := hS.run hr R
    have hH0 := R.hp
    rw [hS'] at hH0 h2
    obtain ⟨hH', hsub⟩ := hH0.lent hlc hk
    replace h2 := h2.keep (σ' := fun _ => none) ⟨rfl, rfl, rfl, Nat.le_refl _, fun _ _ _ => rfl⟩ (fun b (hb : out b2 σ (assoc hs') b) => .inl (hb.imp (hsub b) fun h => h)) fun _ _ h => h
    obtain ⟨g1, g2⟩ := to_fix hH' hk him
    refine ⟨v, h1, v, rfl, h2.keep ⟨rfl, rfl, rfl, Nat.le_refl _, fun _ _ _ => rfl⟩ (fun b hb => .inl ?_) (fun _ _ h => h), dn g1, R.ext.less fun b hb => hb.elim id fun h => h.elim⟩
    rcases hb with ⟨i, u, k1, k2, k3⟩ | hb
    · exact .inl ((g2 b).2 ⟨i, u, (g1.fx i u k2).2, k2, k3⟩)
    · exact .inr hb
end
end Go.AV
end

section
namespace Go.AV
open Go Go.RowKit Go.Flow
section
variable {P : Program}

theorem ty_one {tab : List (TypeId × TD)} (h : tabOk P tab = true) {t : TypeId} {d : TD} (ht : assoc tab t = some d) (hk : d.k = .one) : ∃ u, P.underlying t = some u ∧ aggDesc u = false := by
  obtain ⟨i, z, u, -, -, -, -, -, -, h6, h7⟩ := ty_info h ht
  rw [hk] at h7
  exact ⟨u, h6, by simpa using h7⟩
section ops
variable {ops : Array Oper} {rest : List Oper} {acc : List (List Nat × List Nat)} {S : St} {Q : List (List Nat × List Nat) → St → Prop} {dst : Option Tmp} {ty : TypeId} {pos : String} {after : Array Edge} {guard : Option (Nat × Bool)}
theorem AList.pick {c x y : Operand} {b : Bool} {p q : AV} (hw : S.wants ops { dst, op := .pick c x y, type := ty, pos, after, guard } = some true) (hd : dOk S.n dst = true) (hc : S.opd c = some (.c (.p (.bool b)))) (hx : S.opd x = some p) (hy : S.opd y = some q)
    (hk : AList P ops rest (([], []) :: acc) (S.eff dst ⟨bif b then p else q, [], []⟩) Q) : AList P ops ({ dst, op := .pick c x y, type := ty, pos, after, guard } :: rest) acc S Q :=
  AList.val [] _ hw hd (fun S1 h1 _ b0 σ a w R => by
    have e1 := rep_int (opd_rep R ((h1 c (by simp [Op.operands])).trans hc))
    refine ⟨if b then a.eval x else a.eval y, ?_, ?_⟩
    · cases b <;> simp [execOp, e1, asBool]
    · cases b
      · exact opd_rep R ((h1 y (by simp [Op.operands])).trans hy)
      · exact opd_rep R ((h1 x (by simp [Op.operands])).trans hx)) hk
/-- pick where the operand that is not wanted may be missing. -/
theorem AList.pickT {c x y : Operand} {p : AV} (hw : S.wants ops { dst, op := .pick c x y, type := ty, pos, after, guard } = some true) (hd : dOk S.n dst = true) (hc : S.opd c = some (.c (.p (.bool true)))) (hx : S.opd x = some p)
    (hk : AList P ops rest (([], []) :: acc) (S.eff dst ⟨p, [], []⟩) Q) : AList P ops ({ dst, op := .pick c x y, type := ty, pos, after, guard } :: rest) acc S Q :=
  AList.val [] _ hw hd (fun S1 h1 _ b0 σ a w R => by
    have e1 := rep_int (opd_rep R ((h1 c (by simp [Op.operands])).trans hc))
    exact ⟨a.eval x, by simp [execOp, e1, asBool], opd_rep R ((h1 x (by simp [Op.operands])).trans hx)⟩) hk
theorem AList.pickF {c x y : Operand} {p : AV} (hw : S.wants ops { dst, op := .pick c x y, type := ty, pos, after, guard } = some true) (hd : dOk S.n dst = true) (hc : S.opd c = some (.c (.p (.bool false)))) (hx : S.opd y = some p)
    (hk : AList P ops rest (([], []) :: acc) (S.eff dst ⟨p, [], []⟩) Q) : AList P ops ({ dst, op := .pick c x y, type := ty, pos, after, guard } :: rest) acc S Q :=
  AList.val [] _ hw hd (fun S1 h1 _ b0 σ a w R => by
    have e1 := rep_int (opd_rep R ((h1 c (by simp [Op.operands])).trans hc))
    exact ⟨a.eval y, by simp [execOp, e1, asBool], opd_rep R ((h1 y (by simp [Op.operands])).trans hx)⟩) hk
theorem AList.extract {x : Operand} {i : Nat} {l : List V1} {y : V1} (hw : S.wants ops { dst, op := .extract x i, type := ty, pos, after, guard } = some true) (hd : dOk S.n dst = true) (hx : S.opd x = some (.tu l)) (hi : l[i]? = some y)
    (hk : AList P ops rest (([], []) :: acc) (S.eff dst ⟨y.av, [], []⟩) Q) : AList P ops ({ dst, op := .extract x i, type := ty, pos, after, guard } :: rest) acc S Q :=
  AList.val [] _ hw hd (fun S1 h1 _ b0 σ a w R => by
    obtain ⟨vs, e1, e2⟩ := opd_rep R ((h1 x (by simp [Op.operands])).trans hx)
    obtain ⟨v, e3, e4⟩ := e2.get hi
    exact ⟨v, by simp [execOp, e1, Instr.extract, e3], e4.av⟩) hk
theorem AList.un {x : Operand} {u r : Value} {op : UnOp} {xt : TypeId} (hw : S.wants ops { dst, op := .unOp op xt x, type := ty, pos, after, guard } = some true) (hd : dOk S.n dst = true) (hx : S.opd x = some (.c (.p u)))
    (hr : ∀ w, (Op.unary op u).run P w = .ok r w) (h1 : r.oneCell' = true)
    (hk : AList P ops rest (([], []) :: acc) (S.eff dst ⟨.c (.p r), [], []⟩) Q) : AList P ops ({ dst, op := .unOp op xt x, type := ty, pos, after, guard } :: rest) acc S Q :=
  AList.val [] _ hw hd (fun S1 g1 _ b0 σ a w R => by
    have e1 := rep_int (opd_rep R ((g1 x (by simp [Op.operands])).trans hx))
    exact ⟨r, by simp only [execOp, e1, Sem.run_bind, hr, Result.andThen_ok, Sem.run_pure], rep_p h1⟩) hk
end ops
end
end Go.AV
end

section
namespace Go.AV
open Go Go.RowKit Go.Flow
section
variable {P : Program} {tab : List (TypeId × TD)}
theorem add_off (b o j : Nat) : (⟨b, o, none⟩ : Addr).add j = ⟨b, o + j, none⟩ := by unfold Addr.add; split <;> simp_all
theorem add_two (a : Addr) (m n : Nat) : (a.add m).add n = a.add (m + n) := by
  unfold Addr.add
  split <;> split <;> split <;> first | rfl | omega | (simp_all; done) | (simp; omega)
def isOne : TK → Bool
  | .one | .sl _ => true
  | _ => false
theorem ty_na (h : tabOk P tab = true) {t : TypeId} {d : TD} (ht : assoc tab t = some d) (hk : isOne d.k = true) : ∃ u, P.underlying t = some u ∧ aggDesc u = false := by
  cases hd : d.k with
  | one => exact ty_one h ht hd
  | sl e => exact ⟨_, ty_sl h ht hd, rfl⟩
  | _ => rw [hd] at hk; cases hk
theorem run_one {t : TypeId} {u : TypeDesc} (hu : P.underlying t = some u) (ha : aggDesc u = false) {w : World} {a : Addr} {v : Value} (hc : w.cell? a = some v) : (loadVar t a).run P w = .ok v w := by
  cases u <;> first | (simp [loadVar, isAgg, run_underlying hu, hc]; done) | cases ha
theorem run_agg {t : TypeId} {u : TypeDesc} (hu : P.underlying t = some u) (ha : aggDesc u = true) {i : TypeInfo} (hi : P.info? t = some i) {w : World} {a : Addr} {f : Nat → Value} (hc : ∀ j, j < i.size → w.cell? (a.add j) = some (f j)) :
    (loadVar t a).run P w = .ok (.agg ((List.range i.size).map f).toArray) w := by
  have hl := run_loadCells (P := P) w a i.size f hc
  cases u <;> first | (simp [loadVar, isAgg, run_underlying hu, sizeOf, typeInfo, hi, hl]; done) | cases ha
theorem run_field {t : TypeId} {fs : Array Field} (hu : P.underlying t = some (.struct fs)) {f off size : Nat} (hp : (partsOf P fs)[f]? = some (off, size)) (hs : size ≠ 0) (w : World) (a : Addr) :
    (Instr.fieldAt t (.pointer (some a)) f).run P w = .ok (.pointer (some (a.add off))) w := by
  obtain ⟨fd, e1, e2, e3⟩ : ∃ fd, fs[f]? = some fd ∧ fd.offset = off ∧ sizeIs P fd.type = size := by
    unfold partsOf at hp
    rw [List.getElem?_map, Option.map_eq_some_iff] at hp
    obtain ⟨fd, h1, h2⟩ := hp
    exact ⟨fd, by simpa using h1, (Prod.ext_iff.1 h2).1, (Prod.ext_iff.1 h2).2⟩
  cases hi : P.info? fd.type with
  | none => simp [sizeIs, hi] at e3; omega
  | some i =>
    have hsz : i.size ≠ 0 := by simp [sizeIs, hi] at e3; omega
    simp [Instr.fieldAt, run_underlying hu, e1, Instr.sureAddr, fieldPlace, sizeOf, typeInfo, hi, hsz, e2]

theorem cellsFrom_length (F : Nat → CV) : ∀ (m j : Nat), (cellsFrom F j m).length = m
  | 0, _ => rfl
  | m + 1, j => by simp [cellsFrom, cellsFrom_length F m]
theorem rep_cells {R : CV → Value → Prop} {F : Nat → CV} {j m : Nat} {f : Nat → Value} (h : ∀ i, i < m → R (F (j + i)) (f i)) : RepL R (cellsFrom F j m) ((List.range m).map f) :=
  RepL.of_get (by simp [cellsFrom_length]) fun i x v h1 h2 => by
    have hi : i < m := by have := (List.getElem?_eq_some_iff.1 h1).1; rwa [cellsFrom_length] at this
    rw [cellsFrom_get F m j i hi] at h1
    cases h1
    rw [List.getElem?_map, List.getElem?_range hi] at h2
    cases h2
    exact h i hi

/-- What lies behind a pointer. -/
theorem at_pt {b0 : Base} {σ : Nat → Option Value} {S : St} {a : Act} {w : World} (R : Rel0 b0 σ S a w) {id sz k j : Nat} {B : AB} {u : Value} (hu : RepA σ (out b0 σ S.h) w (.c (.pt id sz k j)) u) (hh : S.h id = some B) (hs : B.sz = sz) (hk : k < B.n) :
    ∃ b cap cs, OBase B ((σ id).getD undef) b cap ∧ u = .pointer (some ⟨b, k * sz + j, none⟩) ∧ σ id = some ((σ id).getD undef) ∧ w.heap[b]? = some (.cells cs B.ty (0, 0)) ∧ cs.size = cap * B.sz ∧ k * B.sz + B.sz ≤ cs.size ∧
      ∀ k, k < B.n → ∀ j, j < B.sz → ∃ u, cs[k * B.sz + j]? = some u ∧ RepC σ (out b0 σ S.h) w (B.F k j) u := by
  obtain ⟨-, v, b, e1, e2, e3⟩ := hu
  obtain ⟨v', g1, g2⟩ := R.hp.blk id B hh
  rw [e1] at g1
  cases g1
  rcases g2 with ⟨_, _, h0⟩ | ⟨b', cap, cs, h1, h2, h3, h4⟩
  · omega
  · rw [h1.blk] at e2
    cases e2
    refine ⟨b, cap, cs, by rw [e1]; exact h1, e3, by rw [e1]; rfl, h2, h3, ?_, h4⟩
    rw [h3, ← Nat.succ_mul]
    exact Nat.mul_le_mul_right _ (by have := h1.le; omega)

section ops
variable {ops : Array Oper} {rest : List Oper} {acc : List (List Nat × List Nat)} {S : St} {Q : List (List Nat × List Nat) → St → Prop} {dst : Option Tmp} {ty : TypeId} {pos : String} {after : Array Edge} {guard : Option (Nat × Bool)}
theorem AList.fieldPt (T : tabOk P tab = true) {s : TypeId} {x : Operand} {f id sz k j off size : Nat} {d : TD} {parts : List (Nat × Nat)} (hw : S.wants ops { dst, op := .fieldAddr s x f, type := ty, pos, after, guard } = some true) (hd : dOk S.n dst = true)
    (hx : S.opd x = some (.c (.pt id sz k j))) (ht : assoc tab s = some d) (hk : d.k = .st parts) (hp : parts[f]? = some (off, size)) (hs : Nat.beq size 0 = false)
    (hn : AList P ops rest (([], []) :: acc) (S.eff dst ⟨.c (.pt id sz k (j + off)), [], []⟩) Q) : AList P ops ({ dst, op := .fieldAddr s x f, type := ty, pos, after, guard } :: rest) acc S Q :=
  AList.val [] _ hw hd (fun S1 h1 _ b0 σ a w R => by
    obtain ⟨-, v, b, e1, e2, e3⟩ := opd_rep R ((h1 x (by simp [Op.operands])).trans hx)
    obtain ⟨fs, g1, g2⟩ := ty_st T ht hk
    refine ⟨.pointer (some ⟨b, k * sz + (j + off), none⟩), ?_, rfl, v, b, e1, e2, rfl⟩
    have := run_field (P := P) g1 (f := f) (off := off) (size := size) (by rw [g2]; exact hp) (fun h => by rw [h] at hs; cases hs) w ⟨b, k * sz + j, none⟩
    rw [add_off, Nat.add_assoc] at this
    simp only [execOp, e3, this, Sem.run_bind, Result.andThen_ok, Sem.run_pure]) hn
theorem AList.fieldPl (T : tabOk P tab = true) {s : TypeId} {x : Operand} {f n sz k j off size : Nat} {F : Nat → Nat → CV} {d : TD} {parts : List (Nat × Nat)} (hw : S.wants ops { dst, op := .fieldAddr s x f, type := ty, pos, after, guard } = some true) (hd : dOk S.n dst = true)
    (hx : S.opd x = some (.c (.pl n sz F k j))) (ht : assoc tab s = some d) (hk : d.k = .st parts) (hp : parts[f]? = some (off, size)) (hs : Nat.beq size 0 = false)
    (hn : AList P ops rest (([], []) :: acc) (S.eff dst ⟨.c (.pl n sz F k (j + off)), [], []⟩) Q) : AList P ops ({ dst, op := .fieldAddr s x f, type := ty, pos, after, guard } :: rest) acc S Q :=
  AList.val [] _ hw hd (fun S1 h1 _ b0 σ a w R => by
    obtain ⟨-, ad, e1, e2⟩ := opd_rep R ((h1 x (by simp [Op.operands])).trans hx)
    obtain ⟨fs, g1, g2⟩ := ty_st T ht hk
    refine ⟨.pointer (some (ad.add (k * sz + (j + off)))), ?_, rfl, ad, rfl, e2⟩
    have := run_field (P := P) g1 (f := f) (off := off) (size := size) (by rw [g2]; exact hp) (fun h => by rw [h] at hs; cases hs) w (ad.add (k * sz + j))
    rw [add_two, Nat.add_assoc] at this
    simp only [execOp, e1, this, Sem.run_bind, Result.andThen_ok, Sem.run_pure]) hn
/-- An element of a slice that is only read. -/
theorem AList.idx (T : tabOk P tab = true) {t : TypeId} {x y : Operand} {n sz k : Nat} {F : Nat → Nat → CV} {d e : TD} {el : TypeId} {ki : IntKind} {i : Int} (hw : S.wants ops { dst, op := .indexAddr t x y, type := ty, pos, after, guard } = some true) (hd : dOk S.n dst = true)
    (hx : S.opd x = some (.c (.ls n sz F))) (hy : S.opd y = some (.c (.p (.int ki i)))) (ht : assoc tab t = some d) (hk : d.k = .sl el) (he : assoc tab el = some e) (hs : e.size = sz) (hi : i = (k : Int)) (hlt : k < n) (hz : 0 < sz)
    (hn : AList P ops rest (([], []) :: acc) (S.eff dst ⟨.c (.pl n sz F k 0), [], []⟩) Q) : AList P ops ({ dst, op := .indexAddr t x y, type := ty, pos, after, guard } :: rest) acc S Q :=
  AList.val [] _ hw hd (fun S1 h1 _ b0 σ a w R => by
    obtain ⟨-, A, cap, e1, e0, e2⟩ := opd_rep R ((h1 x (by simp [Op.operands])).trans hx)
    have e3 := rep_int (opd_rep R ((h1 y (by simp [Op.operands])).trans hy))
    have g1 := ty_sl T ht hk
    obtain ⟨inf, z, u, i1, i2, i3, -⟩ := ty_info T he
    obtain ⟨ad, v0, rfl, -⟩ := e2 k hlt 0 hz
    subst hi
    refine ⟨.pointer (some (ad.add (k * sz + 0))), ?_, rfl, ad, rfl, hlt, fun k hk j hj => ?_⟩
    · have hlt' : (k : Int) < n := by omega
      simp only [execOp, e1, e3, Instr.indexAt, asIntOf, run_underlying g1, Sem.run_bind, Sem.run_pure, Result.andThen_ok]
      simp [sizeOf, typeInfo, i1, i2, hs, hlt']
    · obtain ⟨ad', v, h1, h2, h3, h4, h5⟩ := e2 k hk j hj
      cases h1
      exact ⟨v, h2, h3, h4, h5⟩) hn
/-- An element of an own slice. -/
theorem AList.idxOw (T : tabOk P tab = true) {t : TypeId} {x y : Operand} {id k : Nat} {B : AB} {d e : TD} {el : TypeId} {ki : IntKind} {i : Int} (hw : S.wants ops { dst, op := .indexAddr t x y, type := ty, pos, after, guard } = some true) (hd : dOk S.n dst = true)
    (hx : S.opd x = some (.c (.ow id))) (hh : S.h id = some B) (hy : S.opd y = some (.c (.p (.int ki i)))) (ht : assoc tab t = some d) (hk : d.k = .sl el) (he : assoc tab el = some e) (hs : e.size = B.sz) (hr : B.row = true) (hi : i = (k : Int)) (hlt : k < B.n)
    (hn : AList P ops rest (([id], []) :: acc) (S.eff dst ⟨.c (.pt id B.sz k 0), [], []⟩) Q) : AList P ops ({ dst, op := .indexAddr t x y, type := ty, pos, after, guard } :: rest) acc S Q :=
  AList.val [id] _ hw hd (fun S1 h1 hr1 b0 σ a w R => by
    obtain ⟨-, e0, A, n, c, e1⟩ := opd_rep R ((h1 x (by simp [Op.operands])).trans hx)
    have e3 := rep_int (opd_rep R ((h1 y (by simp [Op.operands])).trans hy))
    have g1 := ty_sl T ht hk
    obtain ⟨inf, z, u, i1, i2, i3, -⟩ := ty_info T he
    obtain ⟨v, f1, f2⟩ := R.hp.blk id B ((hr1 id (by simp)).trans hh)
    rw [e0] at f1
    cases f1
    rcases f2 with ⟨_, _, h0⟩ | ⟨b, cap, cs, h1, h2, h3, h4⟩
    · omega
    · rcases h1 with ⟨_, h1, _⟩ | ⟨h1, _⟩
      · refine ⟨.pointer (some ⟨b, k * B.sz + 0, none⟩), ?_, rfl, _, b, e0, by rw [h1]; rfl, rfl⟩
        subst hi
        have hlt' : (k : Int) < B.n := by omega
        simp only [execOp, h1, e3, Instr.indexAt, asIntOf, run_underlying g1, Sem.run_bind, Sem.run_pure, Result.andThen_ok]
        simp [sizeOf, typeInfo, i1, i2, hs, hlt', add_off]
      · rw [hr] at h1; cases h1) hn
theorem AList.load1 (T : tabOk P tab = true) {t : TypeId} {x : Operand} {id sz k j : Nat} {B : AB} {d : TD} (hw : S.wants ops { dst, op := .load t x, type := ty, pos, after, guard } = some true) (hd : dOk S.n dst = true)
    (hx : S.opd x = some (.c (.pt id sz k j))) (hh : S.h id = some B) (hs : B.sz = sz) (ht : assoc tab t = some d) (hk : isOne d.k = true) (hkn : k < B.n) (hj : j < B.sz)
    (hn : AList P ops rest (([id], []) :: acc) (S.eff dst ⟨.c (B.F k j), [], []⟩) Q) : AList P ops ({ dst, op := .load t x, type := ty, pos, after, guard } :: rest) acc S Q :=
  AList.val [id] _ hw hd (fun S1 h1 hr1 b0 σ a w R => by
    obtain ⟨b, cap, cs, -, e1, -, e2, -, -, e3⟩ := at_pt R (opd_rep R ((h1 x (by simp [Op.operands])).trans hx)) ((hr1 id (by simp)).trans hh) hs hkn
    obtain ⟨u, f1, f2⟩ := e3 k hkn j hj
    obtain ⟨ud, g1, g2⟩ := ty_na T ht hk
    subst hs
    refine ⟨u, ?_, f2⟩
    have hc : w.cell? ⟨b, k * B.sz + j, none⟩ = some u := (cell_of_row w b _ cs B.ty (0, 0) e2).trans f1
    simp only [execOp, e1, Instr.loadAt, Instr.sureAddr, Sem.run_bind, Sem.run_pure, Result.andThen_ok, run_one g1 g2 hc]) hn
theorem AList.loadA (T : tabOk P tab = true) {t : TypeId} {x : Operand} {id sz k j : Nat} {B : AB} {d : TD} (hw : S.wants ops { dst, op := .load t x, type := ty, pos, after, guard } = some true) (hd : dOk S.n dst = true)
    (hx : S.opd x = some (.c (.pt id sz k j))) (hh : S.h id = some B) (hs : B.sz = sz) (ht : assoc tab t = some d) (hk : isAg d.k = true) (hkn : k < B.n) (hj : j + d.size ≤ B.sz)
    (hn : AList P ops rest (([id], []) :: acc) (S.eff dst ⟨.ag (cellsFrom (B.F k) j d.size), [], []⟩) Q) : AList P ops ({ dst, op := .load t x, type := ty, pos, after, guard } :: rest) acc S Q :=
  AList.val [id] _ hw hd (fun S1 h1 hr1 b0 σ a w R => by
    obtain ⟨b, cap, cs, -, e1, -, e2, -, -, e3⟩ := at_pt R (opd_rep R ((h1 x (by simp [Op.operands])).trans hx)) ((hr1 id (by simp)).trans hh) hs hkn
    obtain ⟨ud, g1, g2⟩ := ty_ag T ht hk
    obtain ⟨inf, z, u', i1, i2, i3, -⟩ := ty_info T ht
    subst hs
    have hcell : ∀ i, i < d.size → w.cell? (Addr.add ⟨b, k * B.sz + j, none⟩ i) = some (cs.getD (k * B.sz + (j + i)) undef) ∧ RepC σ (out b0 σ S1.h) w (B.F k (j + i)) (cs.getD (k * B.sz + (j + i)) undef) := fun i hi => by
      obtain ⟨u, f1, f2⟩ := e3 k hkn (j + i) (by omega)
      rw [add_off, Nat.add_assoc, Array.getD_eq_getD_getElem?, f1]
      exact ⟨(cell_of_row w b _ cs B.ty (0, 0) e2).trans f1, f2⟩
    refine ⟨.agg ((List.range d.size).map fun i => cs.getD (k * B.sz + (j + i)) undef).toArray, ?_, _, rfl, rep_cells fun i hi => (hcell i hi).2⟩
    have := run_agg (P := P) g1 g2 i1 (w := w) (a := ⟨b, k * B.sz + j, none⟩) (f := fun i => cs.getD (k * B.sz + (j + i)) undef) (fun i hi => (hcell i (by omega)).1)
    rw [i2] at this
    simp only [execOp, e1, Instr.loadAt, Instr.sureAddr, Sem.run_bind, Sem.run_pure, Result.andThen_ok, this]) hn
theorem AList.load1l (T : tabOk P tab = true) {t : TypeId} {x : Operand} {n sz k j : Nat} {F : Nat → Nat → CV} {d : TD} (hw : S.wants ops { dst, op := .load t x, type := ty, pos, after, guard } = some true) (hd : dOk S.n dst = true)
    (hx : S.opd x = some (.c (.pl n sz F k j))) (ht : assoc tab t = some d) (hk : isOne d.k = true) (hj : j < sz)
    (hn : AList P ops rest (([], []) :: acc) (S.eff dst ⟨.c (F k j), [], []⟩) Q) : AList P ops ({ dst, op := .load t x, type := ty, pos, after, guard } :: rest) acc S Q :=
  AList.val [] _ hw hd (fun S1 h1 _ b0 σ a w R => by
    obtain ⟨-, ad, e1, hkn, e3⟩ := opd_rep R ((h1 x (by simp [Op.operands])).trans hx)
    obtain ⟨u, f1, f2, f3, f4⟩ := e3 k hkn j hj
    obtain ⟨ud, g1, g2⟩ := ty_na T ht hk
    refine ⟨u, ?_, ?_⟩
    · simp only [execOp, e1, Instr.loadAt, Instr.sureAddr, Sem.run_bind, Sem.run_pure, Result.andThen_ok, run_one g1 g2 f2]
    · show RepC _ _ _ (F k j) u
      cases hF : F k j <;> rw [hF] at f4 <;> first | exact ⟨f3, f4⟩ | exact f4.elim) hn
theorem AList.loadAl (T : tabOk P tab = true) {t : TypeId} {x : Operand} {n sz k j : Nat} {F : Nat → Nat → CV} {d : TD} (hw : S.wants ops { dst, op := .load t x, type := ty, pos, after, guard } = some true) (hd : dOk S.n dst = true)
    (hx : S.opd x = some (.c (.pl n sz F k j))) (ht : assoc tab t = some d) (hk : isAg d.k = true) (hj : j + d.size ≤ sz)
    (hn : AList P ops rest (([], []) :: acc) (S.eff dst ⟨.ag (cellsFrom (F k) j d.size), [], []⟩) Q) : AList P ops ({ dst, op := .load t x, type := ty, pos, after, guard } :: rest) acc S Q :=
  AList.val [] _ hw hd (fun S1 h1 _ b0 σ a w R => by
    obtain ⟨-, ad, e1, hkn, e3⟩ := opd_rep R ((h1 x (by simp [Op.operands])).trans hx)
    obtain ⟨ud, g1, g2⟩ := ty_ag T ht hk
    obtain ⟨inf, z, u', i1, i2, i3, -⟩ := ty_info T ht
    have hcell : ∀ i, i < d.size → w.cell? ((ad.add (k * sz + j)).add i) = some ((w.cell? ((ad.add (k * sz + j)).add i)).getD undef) ∧ RepC σ (out b0 σ S1.h) w (F k (j + i)) ((w.cell? ((ad.add (k * sz + j)).add i)).getD undef) := fun i hi => by
      obtain ⟨u, f1, f2, f3, f4⟩ := e3 k hkn (j + i) (by omega)
      rw [add_two, Nat.add_assoc, f2]
      refine ⟨rfl, ?_⟩
      cases hF : F k (j + i) <;> rw [hF] at f4 <;> first | exact ⟨f3, f4⟩ | exact f4.elim
    refine ⟨.agg ((List.range d.size).map fun i => (w.cell? ((ad.add (k * sz + j)).add i)).getD undef).toArray, ?_, _, rfl, rep_cells fun i hi => (hcell i hi).2⟩
    have := run_agg (P := P) g1 g2 i1 (w := w) (a := ad.add (k * sz + j)) (f := fun i => (w.cell? ((ad.add (k * sz + j)).add i)).getD undef) (fun i hi => (hcell i (by omega)).1)
    rw [i2] at this
    simp only [execOp, e1, Instr.loadAt, Instr.sureAddr, Sem.run_bind, Sem.run_pure, Result.andThen_ok, this]) hn
theorem AList.len {x : Operand} {v : CV} {n : Nat} {rd : List Nat} {t1 : TypeId} (hw : S.wants ops { dst, op := .call { callee := .builtin .len, args := #[x], argTypes := #[t1] }, type := ty, pos, after, guard } = some true) (hd : dOk S.n dst = true) {el : TypeId} (hu : P.underlying t1 = some (.slice el))
    (hx : S.opd x = some (.c v)) (hl : ∀ S1 : St, (∀ id ∈ rd, S1.h id = S.h id) → ∀ b0 σ a w, Rel0 b0 σ S1 a w → ∀ u, RepC σ (out b0 σ S1.h) w v u → ∃ A c, u = .slice A n c)
    (hn : AList P ops rest ((rd ++ [], []) :: acc) (S.eff dst ⟨.c (.p (.int .i64 n)), [], []⟩) Q) : AList P ops ({ dst, op := .call { callee := .builtin .len, args := #[x], argTypes := #[t1] }, type := ty, pos, after, guard } :: rest) acc S Q :=
  AList.val rd _ hw hd (fun S1 h1 hr1 b0 σ a w R => by
    obtain ⟨A, c, e⟩ := hl S1 hr1 b0 σ a w R _ (opd_rep R ((h1 x (by simp [Op.operands, Call.operands])).trans hx))
    refine ⟨.int .i64 n, ?_, rep_p rfl⟩
    simp [execOp, resolve, invoke, builtin, Builtin.len_, e, run_underlying hu, goInt]) hn
theorem AList.lenLs (T : tabOk P tab = true) {x : Operand} {n sz : Nat} {F : Nat → Nat → CV} {t1 : TypeId} {d : TD} {el : TypeId} (hw : S.wants ops { dst, op := .call { callee := .builtin .len, args := #[x], argTypes := #[t1] }, type := ty, pos, after, guard } = some true) (hd : dOk S.n dst = true)
    (hx : S.opd x = some (.c (.ls n sz F))) (ht : assoc tab t1 = some d) (hk : d.k = .sl el)
    (hn : AList P ops rest (([], []) :: acc) (S.eff dst ⟨.c (.p (.int .i64 n)), [], []⟩) Q) : AList P ops ({ dst, op := .call { callee := .builtin .len, args := #[x], argTypes := #[t1] }, type := ty, pos, after, guard } :: rest) acc S Q :=
  AList.len (rd := []) hw hd (ty_sl T ht hk) hx (fun S1 _ b0 σ a w R u hu => let ⟨A, c, e, _⟩ := hu.2; ⟨A, c, e⟩) hn
theorem AList.lenOw (T : tabOk P tab = true) {x : Operand} {id : Nat} {B : AB} {t1 : TypeId} {d : TD} {el : TypeId} (hw : S.wants ops { dst, op := .call { callee := .builtin .len, args := #[x], argTypes := #[t1] }, type := ty, pos, after, guard } = some true) (hd : dOk S.n dst = true)
    (hx : S.opd x = some (.c (.ow id))) (hh : S.h id = some B) (hr : B.row = true) (ht : assoc tab t1 = some d) (hk : d.k = .sl el)
    (hn : AList P ops rest (([id], []) :: acc) (S.eff dst ⟨.c (.p (.int .i64 B.n)), [], []⟩) Q) : AList P ops ({ dst, op := .call { callee := .builtin .len, args := #[x], argTypes := #[t1] }, type := ty, pos, after, guard } :: rest) acc S Q :=
  AList.len (rd := [id]) hw hd (ty_sl T ht hk) hx (fun S1 hr1 b0 σ a w R u hu => by
    obtain ⟨v, f1, f2⟩ := R.hp.blk id B ((hr1 id (by simp)).trans hh)
    have e0 := hu.2.1
    rw [e0] at f1
    cases f1
    rcases f2 with ⟨_, h1, h0⟩ | ⟨b, cap, cs, h1, h2, h3, h4⟩
    · exact ⟨none, 0, by rw [h1, h0]⟩
    · rcases h1 with ⟨_, h1, _⟩ | ⟨h1, _⟩
      · exact ⟨_, _, h1⟩
      · rw [hr] at h1; cases h1) hn
end ops
end
end Go.AV
end

section
namespace Go.AV
open Go Go.RowKit Go.Flow
section
variable {P : Program} {tab : List (TypeId × TD)}
section ops
variable {ops : Array Oper} {rest : List Oper} {acc : List (List Nat × List Nat)} {S : St} {Q : List (List Nat × List Nat) → St → Prop} {dst : Option Tmp} {ty : TypeId} {pos : String} {after : Array Edge} {guard : Option (Nat × Bool)}
theorem cells_rep {σ : Nat → Option Value} {O : Nat → Prop} {w : World} {y : AV} {l : List CV} {u : Value} (h : y.cells = some l) (hu : RepA σ O w y u) : u.cells.toList.length = l.length ∧ ∀ (j : Nat) (x : CV), l[j]? = some x → ∃ v, u.cells[j]? = some v ∧ RepC σ O w x v := by
  cases y with
  | c x =>
    cases h
    have hc : u.cells = #[u] := by cases u <;> first | rfl | (have := hu.1; simp [Value.oneCell'] at this)
    rw [hc]
    refine ⟨rfl, fun j x' hx => ?_⟩
    cases j with
    | zero => cases hx; exact ⟨u, rfl, hu⟩
    | succ j => simp at hx
  | ag m =>
    cases h
    obtain ⟨vs, rfl, hl⟩ := hu
    exact ⟨by simp [Value.cells, hl.length], fun j x hx => by obtain ⟨v, e1, e2⟩ := hl.get hx; exact ⟨v, by simpa [Value.cells] using e1, e2⟩⟩
  | tu m => cases h
theorem AList.box {id : Nat} {el : TypeId} {x : Operand} {y : AV} {l : List CV} (hw : S.wants ops { dst := some id, op := .box el x, type := ty, pos, after, guard } = some true) (hd : dOk S.n (some id) = true) (hf : S.fr id = true) (hx : S.opd x = some y) (hl : y.cells = some l)
    (hn : AList P ops rest (([id], [id, id]) :: acc) (S.eff (some id) ⟨.c (.pt id l.length 0 0), [(id, some ⟨false, 1, l.length, el, lF l⟩)], [id]⟩) Q) : AList P ops ({ dst := some id, op := .box el x, type := ty, pos, after, guard } :: rest) acc S Q :=
  AList.new (B := ⟨false, 1, l.length, el, lF l⟩) [] hw hd hf (fun S1 h1 _ b0 σ a w R => by
    obtain ⟨e1, e2⟩ := cells_rep hl (opd_rep R ((h1 x (by simp [Op.operands])).trans hx))
    refine ⟨.pointer (some ⟨w.heap.size, 0, none⟩), 1, (a.eval x).cells, ?_, .inr ⟨rfl, rfl, rfl⟩, by simpa using e1, fun k hk j hj => ?_, fun σ' O' w' h => rep_pt h⟩
    · simp [execOp, Instr.box, newVar, newRow]
    · obtain rfl : k = 0 := by simp at hk; omega
      have hj' : j < l.length := hj
      obtain ⟨v, f1, f2⟩ := e2 j l[j] (List.getElem?_eq_getElem hj')
      refine ⟨v, by simpa using f1, ?_⟩
      simp only [lF]
      rw [show l.getD j .any = l[j] by simp [List.getD, hj']]
      exact f2) hn
/-- A block's element k from cell j on is written. -/
def setF (F : Nat → Nat → CV) (k j m : Nat) (l : List CV) (k' j' : Nat) : CV := bif Nat.beq k' k && (Nat.ble j j' && Nat.blt j' (j + m)) then l.getD (j' - j) .any else F k' j'
theorem AList.store (T : tabOk P tab = true) {t : TypeId} {x v : Operand} {id sz k j : Nat} {B : AB} {d : TD} {y : AV} {l : List CV} (hw : S.wants ops { dst := none, op := .store t x v, type := ty, pos, after, guard } = some true)
    (hx : S.opd x = some (.c (.pt id sz k j))) (hv : S.opd v = some y) (hl : y.cells = some l) (hh : S.h id = some B) (hs : B.sz = sz) (ht : assoc tab t = some d) (hz : l.length = d.size) (hkn : k < B.n) (hj : j + d.size ≤ B.sz)
    (hn : AList P ops rest (([id], [id]) :: acc) (S.eff none ⟨.tu [], [(id, some ⟨B.row, B.n, B.sz, B.ty, setF B.F k j d.size l⟩)], []⟩) Q) : AList P ops ({ dst := none, op := .store t x v, type := ty, pos, after, guard } :: rest) acc S Q :=
  AList.cons [id] ⟨.tu [], [(id, some ⟨B.row, B.n, B.sz, B.ty, setF B.F k j d.size l⟩)], []⟩ (LStep.of hw fun S1 hA hr1 _ b0 σ a w R => by
    have hh1 := (hr1 id (by simp)).trans hh
    obtain ⟨b, cap, cs, hb0, e1, hσ, e2, e3, hsz, e4⟩ := at_pt R (opd_rep R ((hA.op x (by simp [Op.operands])).trans hx)) hh1 hs hkn
    obtain ⟨inf, z, ud, i1, i2, i3, -⟩ := ty_info T ht
    obtain ⟨c1, c2⟩ := cells_rep hl (opd_rep R ((hA.op v (by simp [Op.operands])).trans hv))
    subst hs
    have hone : ∀ u ∈ (a.eval v).cells.toList, u.oneCell' = true := fun u hu => by
      obtain ⟨i, hi, rfl⟩ := List.getElem_of_mem hu
      obtain ⟨u', f1, f2⟩ := c2 i (l[i]'(by omega)) (List.getElem?_eq_getElem (by omega))
      have h3 : (a.eval v).cells.toList[i]? = some u' := by simpa using f1
      rw [List.getElem?_eq_getElem hi] at h3
      cases h3
      exact f2.1
    have hlen : (a.eval v).cells.toList.length = d.size := by omega
    have hk1 : k * B.sz + j + d.size ≤ cs.size := by omega
    have hcz : (a.eval v).cells.size = d.size := by simpa using hlen
    have hrun := run_storeCells_at (P := P) b (k * B.sz + j) B.ty (a.eval v).cells.toList 0 cs w e2 (by omega) hone
    simp only [Nat.add_zero] at hrun
    generalize hncs : (cs.toList.take (k * B.sz + j) ++ (a.eval v).cells.toList ++ cs.toList.drop (k * B.sz + j + (a.eval v).cells.toList.length)).toArray = ncs at hrun
    have hget : ∀ i : Nat, ncs[i]? = if k * B.sz + j ≤ i ∧ i < k * B.sz + j + d.size then (a.eval v).cells[i - (k * B.sz + j)]? else cs[i]? := fun i => by
      rw [← hncs, List.getElem?_toArray]
      by_cases h1 : i < k * B.sz + j
      · rw [if_neg (by omega), List.append_assoc, List.getElem?_append_left (by simp; omega), List.getElem?_take_of_lt h1]; simp
      · by_cases h2 : i < k * B.sz + j + d.size
        · rw [if_pos (by omega), List.getElem?_append_left (by simp; omega), List.getElem?_append_right (by simp; omega)]
          simp only [List.length_take, Array.length_toList]
          rw [show min (k * B.sz + j) cs.size = k * B.sz + j by omega]
          simp
        · rw [if_neg (by omega), List.getElem?_append_right (by simp; omega), List.getElem?_drop]
          simp only [List.length_append, List.length_take, Array.length_toList]
          rw [show min (k * B.sz + j) cs.size = k * B.sz + j by omega]
          have : (a.eval v).cells.size = d.size := by simpa using hlen
          rw [this]
          simp
          congr 1
          omega
    have hnsz : ncs.size = cs.size := by
      rw [← hncs]
      have : (a.eval v).cells.size = d.size := by simpa using hlen
      simp [this]
      omega
    have hobj : (w.setRow b ncs).heap[b]? = some (.cells ncs B.ty (0, 0)) := setRow_heap w b cs ncs B.ty (0, 0) e2
    have hoth : ∀ i, i ≠ b → (w.setRow b ncs).heap[i]? = w.heap[i]? := fun i hi => setRow_other w b i ncs hi
    have hbo : own σ S1.h b := ⟨id, _, by rw [hh1]; simp, hσ, hb0.blk⟩
    have hK : Keep (own σ S1.h) w (w.setRow b ncs) := ⟨rfl, rfl, rfl, by simp, fun i _ ho => hoth i fun e => ho (e ▸ hbo)⟩
    have hout : ∀ c, out b0 σ (put S1.h id (some ⟨B.row, B.n, B.sz, B.ty, setF B.F k j d.size l⟩)) c → out b0 σ S1.h c ∨ w.heap.size ≤ c := fun c hc => by
      rcases hc with ⟨i, u, h1, h2, h3⟩ | hc
      · by_cases hi : i = id
        · subst hi; exact .inl (.inl ⟨i, u, by rw [hh1]; simp, h2, h3⟩)
        · rw [put_ne _ _ hi] at h1; exact .inl (.inl ⟨i, u, h1, h2, h3⟩)
      · exact .inl (.inr hc)
    obtain ⟨H, _, hO⟩ := R.hp.put (id := id) (B' := ⟨B.row, B.n, B.sz, B.ty, setF B.F k j d.size l⟩) (v' := (σ id).getD undef) (σ' := σ) (h' := look [(id, some ⟨B.row, B.n, B.sz, B.ty, setF B.F k j d.size l⟩)] S1.h) (w' := w.setRow b ncs)
      (fun _ _ h => h) (put_same _ _ _) hσ (fun i hi => .inr (put_ne _ _ hi)) hK
      (fun i u hi => by
        by_cases h1 : i = id
        · subst h1; rw [look_one, put_same]; simp
        · rw [look_one, put_ne _ _ h1]; exact (R.hp.fx i u hi).2) (fun _ _ => rfl)
      (fun i u c hi h1 h2 h3 => hoth c fun e => by
        subst e
        have h1' : S1.h i ≠ none := by rw [look_one, put_ne _ _ hi] at h1; exact h1
        exact hi (R.hp.inj i id u _ c h1' (by rw [hh1]; simp) h2 hσ h3 hb0.blk))
      (.inr ⟨b, cap, ncs, hb0, hobj, by rw [hnsz]; exact e3, fun k' hk' j' hj' => by
        have hk'B : k' < B.n := hk'
        have hj'B : j' < B.sz := hj'
        obtain ⟨u, f1, f2⟩ := e4 k' hk'B j' hj'B
        show ∃ u, ncs[k' * B.sz + j']? = some u ∧ RepC σ _ _ (setF B.F k j d.size l k' j') u
        rw [hget]
        by_cases hc : k' = k ∧ (j ≤ j' ∧ j' < j + d.size)
        · obtain ⟨rfl, hc1, hc2⟩ := hc
          rw [if_pos (by omega)]
          obtain ⟨u', g1, g2⟩ := c2 (j' - j) (l[j' - j]'(by omega)) (List.getElem?_eq_getElem (by omega))
          refine ⟨u', by rw [← g1]; congr 1; omega, ?_⟩
          unfold setF
          rw [Nat.beq_refl, show Nat.ble j j' = true from Nat.ble_eq.mpr hc1, show Nat.blt j' (j + d.size) = true from Nat.blt_eq.mpr hc2]
          simp only [Bool.and_self, cond_true]
          rw [show l.getD (j' - j) .any = l[j' - j]'(by omega) by simp [List.getD, show j' - j < l.length by omega]]
          exact g2.keep hK.out hout fun _ _ h => h
        · rw [if_neg (by
            intro ⟨h1, h2⟩
            refine hc ?_
            have hkk : k' = k := by
              rcases Nat.lt_trichotomy k' k with h | h | h
              · have := Nat.mul_le_mul_right B.sz (show k' + 1 ≤ k by omega)
                rw [Nat.succ_mul] at this
                omega
              · exact h
              · have := Nat.mul_le_mul_right B.sz (show k + 1 ≤ k' by omega)
                rw [Nat.succ_mul] at this
                omega
            subst hkk
            exact ⟨rfl, by omega, by omega⟩)]
          refine ⟨u, f1, ?_⟩
          unfold setF
          rw [show (Nat.beq k' k && (Nat.ble j j' && Nat.blt j' (j + d.size))) = false from Bool.eq_false_iff.2 fun h => by
            simp only [Bool.and_eq_true] at h
            exact hc ⟨Nat.eq_of_beq_eq_true h.1, Nat.ble_eq.mp h.2.1, Nat.blt_eq.mp h.2.2⟩]
          exact f2.keep hK.out hout fun _ _ h => h⟩)
      (fun c hc => by
        rw [hb0.blk] at hc
        cases hc
        refine ⟨R.hp.new b hbo, .inl hbo, fun i u hi h1 h2 h3 => ?_⟩
        have h1' : S1.h i ≠ none := by rw [look_one, put_ne _ _ hi] at h1; exact h1
        exact hi (R.hp.inj i id u _ b h1' (by rw [hh1]; simp) h2 hσ h3 hb0.blk))
    have hex : (execOp a.eval { dst := none, op := .store t x v, type := ty, pos, after, guard }).run P w = .ok .skip (w.setRow b ncs) := by
      have hsz2 : (a.eval v).cells.size = inf.size := by rw [i2]; simpa using hlen
      simp only [execOp, e1, Instr.storeAt, Instr.sureAddr, Sem.run_bind, Sem.run_pure, Result.andThen_ok]
      simp [storeVar, sizeOf, typeInfo, i1, hsz2, hrun]
    rw [hex]
    exact ⟨σ, R.step (e := ⟨.tu [], [(id, some ⟨B.row, B.n, B.sz, B.ty, setF B.F k j d.size l⟩)], []⟩) rfl (fun _ _ h => h) hK H hO (fun h => absurd rfl h) (fun i h => .inl h)⟩) hn
end ops
end
end Go.AV
end
