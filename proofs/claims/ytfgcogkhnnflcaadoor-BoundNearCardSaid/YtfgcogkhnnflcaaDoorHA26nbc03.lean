/- Parts of the proof: AMem3, AMem4, AMem5, AMem6, AMem7, AMem8. -/
import Derived.Test.YtfgcogkhnnflcaaDoorG10
import Derived.Test.YtfgcogkhnnflcaaDoorHA26nbc02
import Derived.Great.BuildSlice
import Derived.Test.YtfgcogkhnnflcaaDoorG09
import Derived.RangeFuncLeaves
import Derived.RangeFuncRecord
import Derived.Test.YtfgcogkhnnflcaaDoorG08
import Derived.Test.YtfgcogkhnnflcaaDoorG06
import Derived.Test.YtfgcogkhnnflcaaDoorG04
import Derived.Deep.AppendLies
import Derived.Test.YtfgcogkhnnflcaaDoorG01
import Derived.OrdersIn
import Derived.TacticsIn
import Derived.RangeFuncCalls
import Derived.Maps.AppendAt
import Derived.OwnWalk
import Derived.StillTail
import Derived.Below
import Derived.Deep.Draws
import Derived.WalkKit
import Derived.KernelRfl
import Derived.Test.YtfgcogkhnnflcaaDoorG11
set_option linter.unusedSimpArgs false
set_option linter.unusedVariables false
section
namespace Go.AV
open Go Go.RowKit Go.Flow
section
variable {P : Program} {tab : List (TypeId × TD)}
section ops
variable {ops : Array Oper} {rest : List Oper} {acc : List (List Nat × List Nat)} {S : St} {Q : List (List Nat × List Nat) → St → Prop} {dst : Option Tmp} {ty : TypeId} {pos : String} {after : Array Edge} {guard : Option (Nat × Bool)}
theorem madeCells_get {z : Array Value} {n k j : Nat} (hj : j < z.size) (hk : k < n) : (madeCells z (n * z.size))[k * z.size + j]? = some (z[j]'hj) := by
  have hlt : k * z.size + j < n * z.size := by
    have := Nat.mul_le_mul_right z.size (show k + 1 ≤ n by omega)
    rw [Nat.succ_mul] at this
    omega
  have hm : (k * z.size + j) % z.size = j := by rw [Nat.add_comm, Nat.add_mul_mod_self_right]; exact Nat.mod_eq_of_lt hj
  simp [madeCells, hlt, hm, hj]
/-- make([]T, n). -/
theorem AList.makeSl (T : tabOk P tab = true) {id n : Nat} {t el : TypeId} {x y : Operand} {d e : TD} {kl kc : IntKind} {i i' : Int} (hw : S.wants ops { dst := some id, op := .makeSlice t x y, type := ty, pos, after, guard } = some true) (hd : dOk S.n (some id) = true) (hf : S.fr id = true)
    (hx : S.opd x = some (.c (.p (.int kl i)))) (hy : S.opd y = some (.c (.p (.int kc i')))) (ht : assoc tab t = some d) (hk : d.k = .sl el) (he : assoc tab el = some e) (ho : vsOne e.zero = true) (hi : i = (n : Int)) (hi' : i' = (n : Int)) (hb : e.bytes * n ≤ 281474976710656) (h63 : n ≤ 4611686018427387904)
    (hn : AList P ops rest (([id], [id, id]) :: acc) (S.eff (some id) ⟨.c (.ow id), [(id, some ⟨true, n, e.size, el, zF e.zero⟩)], [id]⟩) Q) : AList P ops ({ dst := some id, op := .makeSlice t x y, type := ty, pos, after, guard } :: rest) acc S Q :=
  AList.new (B := ⟨true, n, e.size, el, zF e.zero⟩) [] hw hd hf (fun S1 h1 _ b0 σ a w R => by
    obtain ⟨inf, z, u, i1, i2, i3, i4, i5, i6, -⟩ := ty_info T he
    have e1 := rep_int (opd_rep R ((h1 x (by simp [Op.operands])).trans hx))
    have e2 := rep_int (opd_rep R ((h1 y (by simp [Op.operands])).trans hy))
    have hb' : (inf.bytes : Int) * (n : Int) ≤ 281474976710656 := by
      rw [i3]
      have h : ((e.bytes * n : Nat) : Int) ≤ 281474976710656 := by omega
      rwa [Int.natCast_mul] at h
    have hrun := run_make (P := P) w t el inf z (ty_sl T ht hk) i1 i4 kl kc n n (by omega) (by omega) hb' (by omega)
    simp only [Int.toNat_natCast] at hrun
    have hzs : z.cells.size = e.size := by rw [i5]; simp [i6]
    subst hi hi'
    refine ⟨.slice (some ⟨w.heap.size, 0, none⟩) n n, n, madeCells z.cells (n * inf.size), ?_, .inl ⟨rfl, rfl, Nat.le_refl _, by simp only [maxLen]; omega⟩, by simp [size_madeCells, i2], fun k hk j hj => ?_, fun σ' O' w' h => rep_ow h⟩
    · simp only [execOp, e1, e2, hrun, Sem.run_bind, Result.andThen_ok, Sem.run_pure]
    · have hj' : j < z.cells.size := by rw [hzs]; exact hj
      refine ⟨z.cells[j], ?_, ?_⟩
      · have := madeCells_get (n := n) hj' hk
        rw [hzs] at this
        rw [i2]
        exact this
      · have hjz : j < e.zero.length := by rw [i6]; exact hj
        have hzj : z.cells[j] = e.zero[j] := by simp [i5]
        have := List.all_eq_true.1 ho e.zero[j] (List.getElem_mem hjz)
        simp only [zF]
        rw [show e.zero.getD j undef = e.zero[j] by simp [List.getD, hjz], hzj]
        exact ⟨this, rfl⟩) hn
/-- The parts of a literal, by their cells. -/
def partsV (S : St) : List (Nat × Operand) → Option (List (Nat × List CV))
  | [] => some []
  | p :: r => match S.opd p.2 with
    | none => none
    | some y => match y.cells with
      | none => none
      | some l => match partsV S r with
        | none => none
        | some m => some ((p.1, l) :: m)
def fillC (place : Nat → Option (Nat × Nat)) (cells : List CV) : List (Nat × List CV) → Option (List CV)
  | [] => some cells
  | (i, l) :: rest => match place i with
    | none => none
    | some (off, size) => bif Nat.beq l.length size && Nat.ble (off + l.length) cells.length then fillC place (cells.take off ++ l ++ cells.drop (off + l.length)) rest else none
theorem foldl_set_get : ∀ (cs : Array Value) (vs : List Value) (off n : Nat) (i : Nat), off + n + vs.length ≤ cs.size →
    ((vs.zipIdx n).foldl (fun cs p => cs.setIfInBounds (off + p.2) p.1) cs)[i]? = if off + n ≤ i ∧ i < off + n + vs.length then vs[i - (off + n)]? else cs[i]?
  | cs, [], off, n, i, _ => by simp; omega
  | cs, v :: vs, off, n, i, h => by
    rw [List.zipIdx_cons, List.foldl_cons, foldl_set_get (cs.setIfInBounds (off + n) v) vs off (n + 1) i (by simp at h ⊢; omega)]
    simp only [List.length_cons] at h ⊢
    by_cases h1 : off + (n + 1) ≤ i ∧ i < off + (n + 1) + vs.length
    · rw [if_pos h1, if_pos (by omega), show i - (off + n) = (i - (off + (n + 1))) + 1 by omega]
      simp
    · rw [if_neg h1]
      by_cases h2 : i = off + n
      · subst h2
        rw [if_pos (by omega), Array.getElem?_setIfInBounds_self_of_lt (by omega)]
        simp
      · rw [if_neg (by omega), Array.getElem?_setIfInBounds_ne (by omega)]
theorem foldl_set_size : ∀ (cs : Array Value) (vs : List (Value × Nat)) (off : Nat), (vs.foldl (fun cs p => cs.setIfInBounds (off + p.2) p.1) cs).size = cs.size
  | cs, [], off => rfl
  | cs, v :: vs, off => by rw [List.foldl_cons, foldl_set_size]; simp
theorem fill_rep {R : CV → Value → Prop} {place place' : Nat → Option (Nat × Nat)} (hpl : ∀ i, place' i = place i) : ∀ {pv : List (Nat × List CV)} {pr : List (Nat × Value)} {cells : List CV} {cs : Array Value} {l : List CV},
    fillC place cells pv = some l → RepL R cells cs.toList → pv.length = pr.length → (∀ (i : Nat) (p : Nat × List CV) (q : Nat × Value), pv[i]? = some p → pr[i]? = some q → p.1 = q.1 ∧ q.2.cells.toList.length = p.2.length ∧ ∀ (j : Nat) (x : CV), p.2[j]? = some x → ∃ v, q.2.cells[j]? = some v ∧ R x v) →
    ∃ cs', Instr.fill place' cs pr = some cs' ∧ RepL R l cs'.toList
  | [], [], cells, cs, l, h, hR, _, _ => ⟨cs, rfl, by cases h; exact hR⟩
  | (i, pl) :: pv, (i', v) :: pr, cells, cs, l, h, hR, hlen, hp => by
    obtain ⟨h1, h2, h3⟩ := hp 0 (i, pl) (i', v) rfl rfl
    simp only at h1 h2 h3
    subst h1
    unfold fillC at h
    unfold Instr.fill
    rw [hpl]
    cases hc : place i with
    | none => rw [hc] at h; cases h
    | some q =>
      obtain ⟨off, size⟩ := q
      rw [hc] at h
      simp only at h ⊢
      cases hb : (Nat.beq pl.length size && Nat.ble (off + pl.length) cells.length) with
      | false => rw [hb] at h; cases h
      | true =>
        rw [hb] at h
        simp only [cond_true] at h
        simp only [Bool.and_eq_true] at hb
        have b1 := Nat.eq_of_beq_eq_true hb.1
        have b2 := Nat.ble_eq.mp hb.2
        have hvs : v.cells.size = size := by rw [← b1, ← h2]; simp
        have hcl := hR.length
        have hcs : cs.size = cells.length := by simpa using hcl
        rw [if_neg (by simp [hvs]; omega)]
        refine fill_rep hpl h ?_ (by simpa using hlen) fun j p q e1 e2 => hp (j + 1) p q (by simpa using e1) (by simpa using e2)
        have hfold : v.cells.zipIdx.foldl (fun cs (x : Value × Nat) => match x with | (c, j) => cs.setIfInBounds (off + j) c) cs = (v.cells.toList.zipIdx 0).foldl (fun cs p => cs.setIfInBounds (off + p.2) p.1) cs := by
          rw [← Array.foldl_toList]
          simp
        rw [hfold]
        refine RepL.of_get ?_ fun j x u e1 e2 => ?_
        · have := foldl_set_size cs (v.cells.toList.zipIdx 0) off
          simp only [Array.length_toList, this]
          simp
          omega
        · have hg := foldl_set_get cs v.cells.toList off 0 j (by rw [h2]; omega)
          simp only [Nat.add_zero] at hg
          rw [Array.getElem?_toList, hg] at e2
          by_cases hin : off ≤ j ∧ j < off + v.cells.toList.length
          · rw [if_pos hin] at e2
            rw [List.append_assoc, List.getElem?_append_right (by simp; omega), List.getElem?_append_left (by simp; omega)] at e1
            obtain ⟨u', g1, g2⟩ := h3 _ _ e1
            rw [List.length_take, show min off cells.length = off by omega] at g1
            have : v.cells.toList[j - off]? = some u' := by simpa using g1
            rw [this] at e2
            cases e2
            exact g2
          · rw [if_neg hin] at e2
            have : cells[j]? = some x := by
              by_cases hj : j < off
              · rw [List.append_assoc, List.getElem?_append_left (by simp; omega), List.getElem?_take_of_lt hj] at e1
                exact e1
              · rw [List.getElem?_append_right (by simp; omega), List.getElem?_drop] at e1
                rw [← e1]
                congr 1
                simp
                omega
            obtain ⟨u', g1, g2⟩ := hR.get this
            rw [Array.getElem?_toList] at g1
            rw [g1] at e2
            cases e2
            exact g2
  | [], _ :: _, _, _, _, _, _, hlen, _ => by simp at hlen
  | _ :: _, [], _, _, _, _, _, hlen, _ => by simp at hlen
theorem parts_rep {b0 : Base} {σ : Nat → Option Value} {S1 : St} {a : Act} {w : World} (R : Rel0 b0 σ S1 a w) : ∀ {ps : List (Nat × Operand)} {pv : List (Nat × List CV)}, partsV S1 ps = some pv →
    pv.length = (ps.map fun p => (p.1, a.eval p.2)).length ∧ ∀ (i : Nat) (p : Nat × List CV) (q : Nat × Value), pv[i]? = some p → (ps.map fun p => (p.1, a.eval p.2))[i]? = some q → p.1 = q.1 ∧ q.2.cells.toList.length = p.2.length ∧ ∀ (j : Nat) (x : CV), p.2[j]? = some x → ∃ v, q.2.cells[j]? = some v ∧ RepC σ (out b0 σ S1.h) w x v
  | [], pv, h => by cases h; exact ⟨rfl, fun i p q h => by simp at h⟩
  | p :: r, pv, h => by
    unfold partsV at h
    cases hy : S1.opd p.2 with
    | none => rw [hy] at h; cases h
    | some y =>
      rw [hy] at h
      simp only at h
      cases hl : y.cells with
      | none => rw [hl] at h; cases h
      | some l =>
        rw [hl] at h
        simp only at h
        cases hm : partsV S1 r with
        | none => rw [hm] at h; cases h
        | some m =>
          rw [hm] at h
          cases h
          obtain ⟨i1, i2⟩ := parts_rep R hm
          refine ⟨by simpa using i1, fun i p' q e1 e2 => ?_⟩
          cases i with
          | zero =>
            cases e1
            cases e2
            exact ⟨rfl, cells_rep hl (opd_rep R hy)⟩
          | succ i => exact i2 i p' q (by simpa using e1) (by simpa using e2)
theorem partsV_congr {S S1 : St} : ∀ {ps : List (Nat × Operand)}, (∀ p ∈ ps, S1.opd p.2 = S.opd p.2) → partsV S1 ps = partsV S ps
  | [], _ => rfl
  | p :: r, h => by unfold partsV; rw [h p (by simp), partsV_congr fun q hq => h q (by simp [hq])]
theorem places_of {fs : List Field} (hall : ∀ f ∈ fs, sizeIs P f.type ≠ 0) : fs.mapM (fun f => (P.info? f.type).map fun i => (f.offset, i.size)) = some (fs.map fun f => (f.offset, sizeIs P f.type)) := by
  induction fs with
  | nil => rfl
  | cons f fs ih =>
    have hf := hall f (by simp)
    cases hi : P.info? f.type with
    | none => simp [sizeIs, hi] at hf
    | some i =>
      rw [List.mapM_cons, ih fun g hg => hall g (by simp [hg])]
      simp [hi, sizeIs]
theorem zero_rep {σ : Nat → Option Value} {O : Nat → Prop} {w : World} {z : List Value} (h : vsOne z = true) : RepL (RepC σ O w) (z.map .p) z :=
  RepL.of_get (by simp) fun i x v h1 h2 => by
    rw [List.getElem?_map, h2] at h1
    cases h1
    exact ⟨List.all_eq_true.1 h v (List.mem_of_getElem? h2), rfl⟩
theorem AList.buildSt (T : tabOk P tab = true) {t : TypeId} {d : TD} {pl : List (Nat × Nat)} {ps : Array (Nat × Operand)} {pv : List (Nat × List CV)} {l : List CV} (hw : S.wants ops { dst, op := .build t ps, type := ty, pos, after, guard } = some true) (hd : dOk S.n dst = true)
    (ht : assoc tab t = some d) (hk : d.k = .st pl) (hz : pl.all (fun p => !(Nat.beq p.2 0)) = true) (ho : vsOne d.zero = true) (hp : partsV S ps.toList = some pv) (hl : fillC (fun i => pl[i]?) (d.zero.map .p) pv = some l)
    (hn : AList P ops rest (([], []) :: acc) (S.eff dst ⟨.ag l, [], []⟩) Q) : AList P ops ({ dst, op := .build t ps, type := ty, pos, after, guard } :: rest) acc S Q :=
  AList.val [] _ hw hd (fun S1 h1 _ b0 σ a w R => by
    obtain ⟨inf, z, u, i1, i2, i3, i4, i5, i6, -⟩ := ty_info T ht
    obtain ⟨fs, g1, g2⟩ := ty_st T ht hk
    have hp1 : partsV S1 ps.toList = some pv := (partsV_congr fun p hp => h1 p.2 (by simp only [Op.operands]; simp; exact ⟨p.1, by simpa using hp⟩)).trans hp
    obtain ⟨q1, q2⟩ := parts_rep R hp1
    have hplaces := places_of (P := P) (fs := fs.toList) fun f hf h0 => by
      have := List.all_eq_true.1 hz (f.offset, sizeIs P f.type) (by rw [← g2]; exact List.mem_map_of_mem hf)
      rw [h0] at this
      cases this
    obtain ⟨cs', r1, r2⟩ := fill_rep (R := RepC σ (out b0 σ S1.h) w) (place' := fun i => pl.toArray[i]?) (fun i => by simp) (cs := z.cells) hl (by rw [i5]; exact zero_rep ho) q1 q2
    refine ⟨.agg cs', ?_, cs'.toList, rfl, r2⟩
    have hb : P.built t (ps.map fun p => (p.1, a.eval p.2)).toList = some cs' := by
      unfold Program.built
      simp only [i1, g1, i4, hplaces]
      rw [show fs.toList.map (fun f => (f.offset, sizeIs P f.type)) = pl from g2]
      simpa using r1
    have := run_build (P := P) w t (ps.map fun p => (p.1, a.eval p.2)) cs' hb
    simp only [execOp, this, Sem.run_bind, Result.andThen_ok, Sem.run_pure]) hn
theorem AList.buildArr (T : tabOk P tab = true) {t el n : Nat} {d e : TD} {ps : Array (Nat × Operand)} {pv : List (Nat × List CV)} {l : List CV} (hw : S.wants ops { dst, op := .build t ps, type := ty, pos, after, guard } = some true) (hd : dOk S.n dst = true)
    (ht : assoc tab t = some d) (hk : d.k = .arr n el) (he : assoc tab el = some e) (ho : vsOne d.zero = true) (hp : partsV S ps.toList = some pv) (hl : fillC (fun i => some (i * e.size, e.size)) (d.zero.map .p) pv = some l)
    (hn : AList P ops rest (([], []) :: acc) (S.eff dst ⟨.ag l, [], []⟩) Q) : AList P ops ({ dst, op := .build t ps, type := ty, pos, after, guard } :: rest) acc S Q :=
  AList.val [] _ hw hd (fun S1 h1 _ b0 σ a w R => by
    obtain ⟨inf, z, u, i1, i2, i3, i4, i5, i6, -⟩ := ty_info T ht
    obtain ⟨inf', z', u', j1, j2, -⟩ := ty_info T he
    have hp1 : partsV S1 ps.toList = some pv := (partsV_congr fun p hp => h1 p.2 (by simp only [Op.operands]; simp; exact ⟨p.1, by simpa using hp⟩)).trans hp
    obtain ⟨q1, q2⟩ := parts_rep R hp1
    obtain ⟨cs', r1, r2⟩ := fill_rep (R := RepC σ (out b0 σ S1.h) w) (place' := fun i => some (i * inf'.size, inf'.size)) (fun i => by rw [j2]) (cs := z.cells) hl (by rw [i5]; exact zero_rep ho) q1 q2
    refine ⟨.agg cs', ?_, cs'.toList, rfl, r2⟩
    have hb : P.built t (ps.map fun p => (p.1, a.eval p.2)).toList = some cs' := by
      unfold Program.built
      simp only [i1, ty_arr T ht hk, i4, j1]
      simpa using r1
    have := run_build (P := P) w t (ps.map fun p => (p.1, a.eval p.2)) cs' hb
    simp only [execOp, this, Sem.run_bind, Result.andThen_ok, Sem.run_pure]) hn
def sF (l : List CV) (sz k j : Nat) : CV := l.getD (k * sz + j) .any
/-- A slice literal that is not written to. -/
theorem AList.litSl (T : tabOk P tab = true) {t el len : Nat} {d e : TD} {ps : Array (Nat × Operand)} {pv : List (Nat × List CV)} {l : List CV} (hw : S.wants ops { dst, op := .buildSlice t len ps, type := ty, pos, after, guard } = some true) (hd : dOk S.n dst = true)
    (ht : assoc tab t = some d) (hk : d.k = .sl el) (he : assoc tab el = some e) (ho : vsOne e.zero = true) (hp : partsV S ps.toList = some pv) (hpos : Nat.beq (len * e.size) 0 = false) (hsm : Nat.ble (len * e.size) 65536 = true)
    (hl : fillC (fun i => some (i * e.size, e.size)) ((List.range (len * e.size)).map fun p => .p (e.zero.getD (p % e.size) undef)) pv = some l) (hi : l.all immC = true)
    (hn : AList P ops rest (([], []) :: acc) (S.eff dst ⟨.c (.ls len e.size (sF l e.size)), [], []⟩) Q) : AList P ops ({ dst, op := .buildSlice t len ps, type := ty, pos, after, guard } :: rest) acc S Q :=
  AList.ext [] _ hw hd (fun S1 h1 _ b0 σ a w R => by
    obtain ⟨inf, z, u, i1, i2, i3, i4, i5, i6, -⟩ := ty_info T he
    have hp1 : partsV S1 ps.toList = some pv := (partsV_congr fun p hp => h1 p.2 (by simp only [Op.operands]; simp; exact ⟨p.1, by simpa using hp⟩)).trans hp
    obtain ⟨q1, q2⟩ := parts_rep R hp1
    have hne : ¬ len * e.size = 0 := fun h => by rw [h] at hpos; cases hpos
    have hzs : z.cells.size = e.size := by rw [i5]; simp [i6]
    have hep : 0 < e.size := Nat.pos_of_ne_zero fun h => hne (by rw [h, Nat.mul_zero])
    have hz0 : RepL (RepC σ (out b0 σ S1.h) w) ((List.range (len * e.size)).map fun p => CV.p (e.zero.getD (p % e.size) undef)) ((Array.range (len * inf.size)).map (z.cells[· % z.cells.size]!)).toList := by
      rw [i2]
      refine RepL.of_get (by simp) fun i x v g1 g2 => ?_
      have hi : i < len * e.size := by have := (List.getElem?_eq_some_iff.1 g1).1; simpa using this
      have hm : i % e.size < e.zero.length := by rw [i6]; exact Nat.mod_lt _ hep
      rw [List.getElem?_map, List.getElem?_range hi] at g1
      cases g1
      have : v = e.zero[i % e.size] := by
        rw [Array.getElem?_toList] at g2
        have hm2 : i % z.cells.size < z.cells.size := by rw [hzs]; exact Nat.mod_lt _ hep
        simp [hi] at g2
        rw [← g2]
        have h3 : i % z.cells.size = i % e.size := by rw [hzs]
        simp only [h3]
        simp [i5, hm]
      subst this
      show RepC _ _ _ (CV.p (e.zero.getD (i % e.size) undef)) _
      rw [show e.zero.getD (i % e.size) undef = e.zero[i % e.size] by simp [List.getD, hm]]
      exact ⟨List.all_eq_true.1 ho _ (List.getElem_mem hm), rfl⟩
    obtain ⟨cs', r1, r2⟩ := fill_rep (R := RepC σ (out b0 σ S1.h) w) (place' := fun i => some (i * inf.size, inf.size)) (fun i => by rw [i2]) hl hz0 q1 q2
    have hrun := run_buildSlice (P := P) w t el len (ps.map fun p => (p.1, a.eval p.2)) cs' inf z (ty_sl T ht hk) i1 i4 (by rw [i2]; have := Nat.ble_eq.mp hsm; omega) (by rw [i2]; exact hne) (by simpa using r1)
    have hex : (execOp a.eval { dst, op := .buildSlice t len ps, type := ty, pos, after, guard }).run P w = .ok (.value (.slice (some ⟨w.heap.size, 0, none⟩) len len)) (w.alloc (.cells cs' el)) := by
      simp only [execOp, hrun, Sem.run_bind, Result.andThen_ok, Sem.run_pure]
    rw [hex]
    refine ⟨⟨rfl, some ⟨w.heap.size, 0, none⟩, len, rfl, Nat.le_refl _, fun k hk j hj => ?_⟩, (Ext.refl w).alloc _⟩
    have hcl := r2.length
    have hll : l.length = len * e.size := by
      have : ∀ (pv : List (Nat × List CV)) (c l : List CV), fillC (fun i => some (i * e.size, e.size)) c pv = some l → l.length = c.length := by
        intro pv
        induction pv with
        | nil => intro c l h; cases h; rfl
        | cons p pv ih =>
          intro c l h
          unfold fillC at h
          simp only at h
          cases hb : (Nat.beq p.2.length e.size && Nat.ble (p.1 * e.size + p.2.length) c.length) with
          | false => rw [hb] at h; cases h
          | true =>
            rw [hb] at h
            rw [ih _ _ h]
            simp only [Bool.and_eq_true] at hb
            have := Nat.ble_eq.mp hb.2
            simp
            omega
      rw [this _ _ _ hl]
      simp
    have hlt : k * e.size + j < l.length := by
      rw [hll]
      have := Nat.mul_le_mul_right e.size (show k + 1 ≤ len by omega)
      rw [Nat.succ_mul] at this
      omega
    obtain ⟨v, f1, f2⟩ := r2.get (List.getElem?_eq_getElem hlt)
    refine ⟨⟨w.heap.size, 0, none⟩, v, rfl, fun ho => Nat.lt_irrefl _ (own_lt R ho), ?_, f2.1, ?_⟩
    · rw [add_off, Nat.zero_add, World.cell?_alloc_new]
      simpa using f1
    · have himm := List.all_eq_true.1 hi _ (List.getElem_mem hlt)
      unfold sF
      rw [show l.getD (k * e.size + j) .any = l[k * e.size + j] by simp [List.getD, hlt]]
      exact (repI_imm himm f2).keep (Keep.of_ext ((Ext.refl w).alloc _)) fun b hb => .inl hb) hn
end ops
end
end Go.AV
end

section
namespace Go.AV
open Go Go.RowKit Go.Flow
section
variable {P : Program} {tab : List (TypeId × TD)}
theorem src_ls {σ : Nat → Option Value} {O : Nat → Prop} {w : World} {u : Value} {m sz : Nat} {G : Nat → Nat → CV} (h : RepA σ O w (.c (.ls m sz G)) u) : Src σ O w u m sz G := by
  obtain ⟨-, A, cap, rfl, hcap, hc⟩ := h
  let g : Nat → Value := fun p => match A with | some ad => (w.cell? (ad.add p)).getD undef | none => undef
  refine ⟨A, cap, (List.range (m * sz)).map g, rfl, by simp, fun p v hp => ?_, fun k hk j hj => ?_⟩
  · have hlt : p < m * sz := by have := (List.getElem?_eq_some_iff.1 hp).1; simpa using this
    obtain ⟨h1, h2, h3⟩ := cell_split hlt
    obtain ⟨ad, v', e1, e2, e3, e4, e5⟩ := hc _ h1 _ h2
    rw [h3] at e3
    subst e1
    refine ⟨ad, rfl, ?_⟩
    rw [List.getElem?_map, List.getElem?_range hlt] at hp
    cases hp
    simp only [g, e3]
    rfl
  · obtain ⟨ad, v', e1, e2, e3, e4, e5⟩ := hc k hk j hj
    subst e1
    refine ⟨v', ?_, ?_⟩
    · rw [List.getElem?_map, List.getElem?_range (cell_in hk hj)]
      simp only [g, e3, Option.map_some, Option.getD_some]
    · show RepC σ O w (G k j) v'
      cases hG : G k j <;> rw [hG] at e5 <;> first | exact ⟨e4, e5⟩ | exact e5.elim
theorem src_nil {σ : Nat → Option Value} {O : Nat → Prop} {w : World} {u : Value} {sz : Nat} {G : Nat → Nat → CV} (h : RepA σ O w (.c (.p (.slice none 0 0))) u) : Src σ O w u 0 sz G :=
  ⟨none, 0, [], h.2, by simp, fun p v hp => by simp at hp, fun k hk => absurd hk (Nat.not_lt_zero _)⟩
theorem src_ow {b0 : Base} {σ : Nat → Option Value} {S : St} {a : Act} {w : World} (R : Rel0 b0 σ S a w) {u : Value} {id : Nat} {B : AB} (h : RepA σ (out b0 σ S.h) w (.c (.ow id)) u) (hh : S.h id = some B) (hr : B.row = true) : Src σ (out b0 σ S.h) w u B.n B.sz B.F := by
  obtain ⟨v, f1, f2⟩ := R.hp.blk id B hh
  have e0 := h.2.1
  rw [e0] at f1
  cases f1
  rcases f2 with ⟨_, h1, h0⟩ | ⟨b, cap, cs, h1, h2, h3, h4⟩
  · exact ⟨none, 0, [], by rw [h1, h0], by rw [h0]; simp, fun p v hp => by simp at hp, fun k hk => by omega⟩
  · rcases h1 with ⟨_, h1, h5, h6⟩ | ⟨h1, _⟩
    · have hle : B.n * B.sz ≤ cs.size := by rw [h3]; exact Nat.mul_le_mul_right _ h5
      refine ⟨some ⟨b, 0, none⟩, cap, cs.toList.take (B.n * B.sz), h1, by simp; omega, fun p v hp => ⟨⟨b, 0, none⟩, rfl, ?_⟩, fun k hk j hj => ?_⟩
      · have hlt : p < B.n * B.sz := by have := (List.getElem?_eq_some_iff.1 hp).1; simp at this; omega
        rw [List.getElem?_take_of_lt hlt] at hp
        rw [add_off, Nat.zero_add]
        exact (cell_of_row w b _ cs B.ty (0, 0) h2).trans (by simpa using hp)
      · obtain ⟨v, g1, g2⟩ := h4 k hk j hj
        exact ⟨v, by rw [List.getElem?_take_of_lt (cell_in hk hj)]; simpa using g1, g2⟩
    · rw [hr] at h1; cases h1
section ops
variable {ops : Array Oper} {rest : List Oper} {acc : List (List Nat × List Nat)} {S : St} {Q : List (List Nat × List Nat) → St → Prop} {dst : Option Tmp} {ty : TypeId} {pos : String} {after : Array Edge} {guard : Option (Nat × Bool)}
end ops
end
end Go.AV
end

section
namespace Go.AV
open Go Go.RowKit Go.Flow
section
variable {P : Program} {tab : List (TypeId × TD)}
section ops
variable {ops : Array Oper} {rest : List Oper} {acc : List (List Nat × List Nat)} {S : St} {Q : List (List Nat × List Nat) → St → Prop} {dst : Option Tmp} {ty : TypeId} {pos : String} {after : Array Edge} {guard : Option (Nat × Bool)}
theorem AList.nilPt {x : Operand} {y : CV} (hw : S.wants ops { dst, op := .nilCheck x, type := ty, pos, after, guard } = some true) (hd : dOk S.n dst = true) (hx : S.opd x = some (.c y)) (hp : (match y with | .pt .. | .pl .. => true | _ => false) = true)
    (hn : AList P ops rest (([], []) :: acc) (S.eff dst ⟨.c y, [], []⟩) Q) : AList P ops ({ dst, op := .nilCheck x, type := ty, pos, after, guard } :: rest) acc S Q :=
  AList.val [] _ hw hd (fun S1 h1 _ b0 σ a w R => by
    have hr := opd_rep R ((h1 x (by simp [Op.operands])).trans hx)
    refine ⟨a.eval x, ?_, hr⟩
    cases y with
    | pt id sz k j => obtain ⟨-, v, b, e1, e2, e3⟩ := hr; simp only [execOp, e3, Sem.run_pure]
    | pl n sz F k j => obtain ⟨-, ad, e1, e2⟩ := hr; simp only [execOp, e1, Sem.run_pure]
    | _ => cases hp) hn
/-- s[lo:hi] of a slice that is only read. -/
theorem AList.cut (T : tabOk P tab = true) {t el : TypeId} {x : Operand} {lo hi : Option Operand} {n sz l h : Nat} {F : Nat → Nat → CV} {d e : TD} (hw : S.wants ops { dst, op := .slice t x lo hi none, type := ty, pos, after, guard } = some true) (hd : dOk S.n dst = true)
    (hx : S.opd x = some (.c (.ls n sz F))) (ht : assoc tab t = some d) (hk : d.k = .sl el) (he : assoc tab el = some e) (hs : e.size = sz)
    (hlo : match lo with | none => l = 0 | some y => ∃ k i, S.opd y = some (.c (.p (.int k i))) ∧ i = (l : Int)) (hhi : match hi with | none => h = n | some y => ∃ k i, S.opd y = some (.c (.p (.int k i))) ∧ i = (h : Int)) (h1 : l ≤ h) (h2 : h ≤ n)
    (hn : AList P ops rest (([], []) :: acc) (S.eff dst ⟨.c (.ls (h - l) sz fun k j => F (l + k) j), [], []⟩) Q) : AList P ops ({ dst, op := .slice t x lo hi none, type := ty, pos, after, guard } :: rest) acc S Q :=
  AList.val [] _ hw hd (fun S1 g1 _ b0 σ a w R => by
    obtain ⟨-, A, cap, e1, e0, e2⟩ := opd_rep R ((g1 x (by simp [Op.operands])).trans hx)
    obtain ⟨inf, z, u, i1, i2, i3, -⟩ := ty_info T he
    have hu := ty_sl T ht hk
    refine ⟨.slice (if cap = l then A else A.map (·.add (l * sz))) (h - l) (cap - l), ?_, rfl, _, _, rfl, by omega, fun k hk j hj => ?_⟩
    · have elo : ∀ y, lo = some y → ∃ k, a.eval y = .int k l := fun y hy => by
        subst hy
        obtain ⟨k, i, f1, f2⟩ := hlo
        exact ⟨k, by rw [← f2]; exact rep_int (opd_rep R ((g1 y (by simp [Op.operands])).trans f1))⟩
      have ehi : ∀ y, hi = some y → ∃ k, a.eval y = .int k h := fun y hy => by
        subst hy
        obtain ⟨k, i, f1, f2⟩ := hhi
        exact ⟨k, by rw [← f2]; exact rep_int (opd_rep R ((g1 y (by simp [Op.operands])).trans f1))⟩
      have c1 : (h : Int) ≤ cap := by omega
      have c2 : (l : Int) ≤ h := by omega
      have c3 : h ≤ cap := by omega
      have c4 : ¬ cap < h := by omega
      have c5 : ¬ h < l := by omega
      cases lo with
      | none =>
        have hl0 : l = 0 := hlo
        subst hl0
        cases hi with
        | none =>
          have hh : h = n := hhi
          subst hh
          simp [execOp, Instr.sliceAt, Instr.slice, run_underlying hu, e1, Instr.sliceBounds, sizeOf, typeInfo, i1, i2, hs]
        | some y =>
          obtain ⟨k, f⟩ := ehi y rfl
          simp [execOp, Instr.sliceAt, Instr.slice, run_underlying hu, e1, Instr.sliceBounds, Instr.sliceBound, asIntOf, f, sizeOf, typeInfo, i1, i2, hs, c1, c3, c4, h1]
      | some yl =>
        obtain ⟨kl, fl⟩ := elo yl rfl
        cases hi with
        | none =>
          have hh : h = n := hhi
          subst hh
          simp [execOp, Instr.sliceAt, Instr.slice, run_underlying hu, e1, Instr.sliceBounds, Instr.sliceBound, asIntOf, fl, sizeOf, typeInfo, i1, i2, hs, c2, c5, h1]
        | some y =>
          obtain ⟨k, f⟩ := ehi y rfl
          simp [execOp, Instr.sliceAt, Instr.slice, run_underlying hu, e1, Instr.sliceBounds, Instr.sliceBound, asIntOf, f, fl, sizeOf, typeInfo, i1, i2, hs, c1, c2, c3, c4, c5, h1]
    · obtain ⟨ad, v, r1, r2, r3, r4, r5⟩ := e2 (l + k) (by omega) j hj
      subst r1
      refine ⟨ad.add (l * sz), v, by rw [if_neg (by omega)]; rfl, by rw [block_add]; exact r2, ?_, r4, r5⟩
      rw [add_two, ← Nat.add_assoc, ← Nat.add_mul]
      exact r3) hn

variable {x y : Operand} {xt yt : TypeId} {i j : Int}
theorem AList.sub (hw : S.wants ops { dst, op := .binOp .sub xt x y yt, type := ty, pos, after, guard } = some true) (hd : dOk S.n dst = true) (hx : S.opd x = some (.c (.p (.int .i64 i)))) (hy : S.opd y = some (.c (.p (.int .i64 j)))) (h1 : -9223372036854775808 ≤ i - j) (h2 : i - j ≤ 9223372036854775807)
    (hn : AList P ops rest (([], []) :: acc) (S.eff dst ⟨.c (.p (.int .i64 (i - j))), [], []⟩) Q) : AList P ops ({ dst, op := .binOp .sub xt x y yt, type := ty, pos, after, guard } :: rest) acc S Q :=
  AList.bin hw hd hx hy rfl (fun w => by rw [← show IntKind.i64.wrap (i - j) = i - j by rw [IntKind.wrap_i64]; omega]; rfl) rfl hn
theorem AList.mul (hw : S.wants ops { dst, op := .binOp .mul xt x y yt, type := ty, pos, after, guard } = some true) (hd : dOk S.n dst = true) (hx : S.opd x = some (.c (.p (.int .i64 i)))) (hy : S.opd y = some (.c (.p (.int .i64 j)))) (h1 : -9223372036854775808 ≤ i * j) (h2 : i * j ≤ 9223372036854775807)
    (hn : AList P ops rest (([], []) :: acc) (S.eff dst ⟨.c (.p (.int .i64 (i * j))), [], []⟩) Q) : AList P ops ({ dst, op := .binOp .mul xt x y yt, type := ty, pos, after, guard } :: rest) acc S Q :=
  AList.bin hw hd hx hy rfl (fun w => by rw [← show IntKind.i64.wrap (i * j) = i * j by rw [IntKind.wrap_i64]; omega]; rfl) rfl hn
theorem AList.quo (hw : S.wants ops { dst, op := .binOp .quo xt x y yt, type := ty, pos, after, guard } = some true) (hd : dOk S.n dst = true) (hx : S.opd x = some (.c (.p (.int .i64 i)))) (hy : S.opd y = some (.c (.p (.int .i64 j)))) (h1 : 0 ≤ i) (h2 : i ≤ 9223372036854775807) (h3 : 0 < j)
    (hn : AList P ops rest (([], []) :: acc) (S.eff dst ⟨.c (.p (.int .i64 (i / j))), [], []⟩) Q) : AList P ops ({ dst, op := .binOp .quo xt x y yt, type := ty, pos, after, guard } :: rest) acc S Q :=
  AList.bin hw hd hx hy rfl (fun w => by
    have e1 : i.tdiv j = i / j := Int.tdiv_eq_ediv_of_nonneg h1
    have e2 : IntKind.i64.wrap (i / j) = i / j := by
      rw [IntKind.wrap_i64]
      have := Int.ediv_nonneg h1 (show 0 ≤ j by omega)
      have := Int.ediv_le_self j h1
      omega
    have e3 : ¬ j = 0 := by omega
    simp [binOp, Op.intDiv, e1, e2, e3]) rfl hn
theorem AList.rem (hw : S.wants ops { dst, op := .binOp .rem xt x y yt, type := ty, pos, after, guard } = some true) (hd : dOk S.n dst = true) (hx : S.opd x = some (.c (.p (.int .i64 i)))) (hy : S.opd y = some (.c (.p (.int .i64 j)))) (h1 : 0 ≤ i) (h3 : 0 < j)
    (hn : AList P ops rest (([], []) :: acc) (S.eff dst ⟨.c (.p (.int .i64 (i % j))), [], []⟩) Q) : AList P ops ({ dst, op := .binOp .rem xt x y yt, type := ty, pos, after, guard } :: rest) acc S Q :=
  AList.bin hw hd hx hy rfl (fun w => by
    have e1 : i.tmod j = i % j := Int.tmod_eq_emod_of_nonneg h1
    have e3 : ¬ j = 0 := by omega
    simp [binOp, Op.intDiv, e1, e3]) rfl hn
/-- A comparison of integers: p says when it holds. -/
def cmpP (op : BinOp) (i j : Int) : Bool :=
  match op with
  | .lss => decide (i < j)
  | .leq => decide (i ≤ j)
  | .gtr => decide (j < i)
  | .geq => decide (j ≤ i)
  | .eql => decide (i = j)
  | _ => !decide (i = j)
def isCmp : BinOp → Bool
  | .lss | .leq | .gtr | .geq | .eql | .neq => true
  | _ => false
theorem AList.cmp {op : BinOp} {k : IntKind} (hw : S.wants ops { dst, op := .binOp op xt x y yt, type := ty, pos, after, guard } = some true) (hd : dOk S.n dst = true) (ho : isCmp op = true) (hx : S.opd x = some (.c (.p (.int k i)))) (hy : S.opd y = some (.c (.p (.int k j))))
    (hn : AList P ops rest (([], []) :: acc) (S.eff dst ⟨.c (.p (.bool (cmpP op i j))), [], []⟩) Q) : AList P ops ({ dst, op := .binOp op xt x y yt, type := ty, pos, after, guard } :: rest) acc S Q :=
  AList.bin hw hd hx hy rfl (fun w => by
    cases op <;> first | (simp [binOp, Op.intCmp, cmpP]; done) | cases ho | skip
    · by_cases h : i = j <;> simp [binOp, Op.intCmp, cmpP, h]
    · by_cases h : i = j <;> simp [binOp, Op.intCmp, cmpP, h]) rfl hn
theorem oM {P : Prop} (h : P := by first | omega | (dsimp only; omega) | exact of_decide_eq_true rfl | (simp; done) | (simp; omega)) : P := h
theorem cmT {P : Prop} (h : P := by unfold cmpP; simp only [decide_eq_true_eq, Bool.not_eq_true', decide_eq_false_iff_not]; omega) : P := h
theorem cmF {P : Prop} (h : P := by unfold cmpP; simp only [decide_eq_false_iff_not, Bool.not_eq_false', decide_eq_true_eq]; omega) : P := h
theorem AList.cmpT {op : BinOp} {k : IntKind} (hw : S.wants ops { dst, op := .binOp op xt x y yt, type := ty, pos, after, guard } = some true) (hd : dOk S.n dst = true) (ho : isCmp op = true) (hx : S.opd x = some (.c (.p (.int k i)))) (hy : S.opd y = some (.c (.p (.int k j)))) (hc : cmpP op i j = true)
    (hn : AList P ops rest (([], []) :: acc) (S.eff dst ⟨.c (.p (.bool true)), [], []⟩) Q) : AList P ops ({ dst, op := .binOp op xt x y yt, type := ty, pos, after, guard } :: rest) acc S Q :=
  AList.cmp hw hd ho hx hy (by rw [hc]; exact hn)
theorem AList.cmpF {op : BinOp} {k : IntKind} (hw : S.wants ops { dst, op := .binOp op xt x y yt, type := ty, pos, after, guard } = some true) (hd : dOk S.n dst = true) (ho : isCmp op = true) (hx : S.opd x = some (.c (.p (.int k i)))) (hy : S.opd y = some (.c (.p (.int k j)))) (hc : cmpP op i j = false)
    (hn : AList P ops rest (([], []) :: acc) (S.eff dst ⟨.c (.p (.bool false)), [], []⟩) Q) : AList P ops ({ dst, op := .binOp op xt x y yt, type := ty, pos, after, guard } :: rest) acc S Q :=
  AList.cmp hw hd ho hx hy (by rw [hc]; exact hn)
theorem AList.notB {b : Bool} (hw : S.wants ops { dst, op := .unOp .not xt x, type := ty, pos, after, guard } = some true) (hd : dOk S.n dst = true) (hx : S.opd x = some (.c (.p (.bool b))))
    (hn : AList P ops rest (([], []) :: acc) (S.eff dst ⟨.c (.p (.bool !b)), [], []⟩) Q) : AList P ops ({ dst, op := .unOp .not xt x, type := ty, pos, after, guard } :: rest) acc S Q :=
  AList.un hw hd hx (fun w => rfl) rfl hn
theorem AList.neg (hw : S.wants ops { dst, op := .unOp .neg xt x, type := ty, pos, after, guard } = some true) (hd : dOk S.n dst = true) (hx : S.opd x = some (.c (.p (.int .i64 i)))) (h1 : -9223372036854775807 ≤ i) (h2 : i ≤ 9223372036854775807)
    (hn : AList P ops rest (([], []) :: acc) (S.eff dst ⟨.c (.p (.int .i64 (-i))), [], []⟩) Q) : AList P ops ({ dst, op := .unOp .neg xt x, type := ty, pos, after, guard } :: rest) acc S Q :=
  AList.un hw hd hx (fun w => by
    have e : IntKind.i64.wrap (-i) = -i := by rw [IntKind.wrap_i64]; omega
    simp [Op.unary, Op.intArith, e]) rfl hn
theorem AList.maxI {k : IntKind} {ats : Array TypeId} (hw : S.wants ops { dst, op := .call { callee := .builtin .max, args := #[x, y], argTypes := ats }, type := ty, pos, after, guard } = some true) (hd : dOk S.n dst = true) (hx : S.opd x = some (.c (.p (.int k i)))) (hy : S.opd y = some (.c (.p (.int k j))))
    (hn : AList P ops rest (([], []) :: acc) (S.eff dst ⟨.c (.p (.int k (max i j))), [], []⟩) Q) : AList P ops ({ dst, op := .call { callee := .builtin .max, args := #[x, y], argTypes := ats }, type := ty, pos, after, guard } :: rest) acc S Q :=
  AList.val [] _ hw hd (fun S1 h1 _ b0 σ a w R => by
    have e1 := rep_int (opd_rep R ((h1 x (by simp [Op.operands, Call.operands])).trans hx))
    have e2 := rep_int (opd_rep R ((h1 y (by simp [Op.operands, Call.operands])).trans hy))
    refine ⟨.int k (max i j), ?_, rep_p rfl⟩
    simp only [execOp, resolve, invoke, builtin, Sem.run_bind, Sem.run_pure, Result.andThen_ok, List.map_toArray, List.map_cons, List.map_nil, e1, e2, Builtin.max_, List.foldlM_cons, List.foldlM_nil, Builtin.max2]
    rw [show (if j > i then j else i) = max i j by split <;> omega]) hn
theorem AList.minI {k : IntKind} {ats : Array TypeId} (hw : S.wants ops { dst, op := .call { callee := .builtin .min, args := #[x, y], argTypes := ats }, type := ty, pos, after, guard } = some true) (hd : dOk S.n dst = true) (hx : S.opd x = some (.c (.p (.int k i)))) (hy : S.opd y = some (.c (.p (.int k j))))
    (hn : AList P ops rest (([], []) :: acc) (S.eff dst ⟨.c (.p (.int k (min i j))), [], []⟩) Q) : AList P ops ({ dst, op := .call { callee := .builtin .min, args := #[x, y], argTypes := ats }, type := ty, pos, after, guard } :: rest) acc S Q :=
  AList.val [] _ hw hd (fun S1 h1 _ b0 σ a w R => by
    have e1 := rep_int (opd_rep R ((h1 x (by simp [Op.operands, Call.operands])).trans hx))
    have e2 := rep_int (opd_rep R ((h1 y (by simp [Op.operands, Call.operands])).trans hy))
    refine ⟨.int k (min i j), ?_, rep_p rfl⟩
    simp only [execOp, resolve, invoke, builtin, Sem.run_bind, Sem.run_pure, Result.andThen_ok, List.map_toArray, List.map_cons, List.map_nil, e1, e2, Builtin.min_, List.foldlM_cons, List.foldlM_nil, Builtin.min2]
    rw [show (if j < i then j else i) = min i j by split <;> omega]) hn
/-- append: an own slice and a slice; an own slice and an own one; nil and a slice. -/
theorem AList.appL (T : tabOk P tab = true) {id id1 : Nat} {s : Operand} {t el : TypeId} {d e : TD} {n m : Nat} {F G : Nat → Nat → CV}
    (hw : S.wants ops { dst := some id, op := .call { callee := .builtin .append, args := #[s, x], argTypes := #[t, t] }, type := ty, pos, after, guard } = some true) (hd : dOk S.n (some id) = true) (hf : S.fr id = true)
    (hs : S.opd s = some (.c (.ow id1))) (hx : S.opd x = some (.c (.ls m e.size G))) (ht : assoc tab t = some d) (hk : d.k = .sl el) (he : assoc tab el = some e) (hh : S.h id1 = some ⟨true, n, e.size, el, F⟩) (hsz : (Nat.blt 0 e.size && Nat.blt id1 1000) = true)
    (h63 : n + m ≤ 4611686018427387904) (hb : (n + m) * e.bytes ≤ 140737488355328)
    (hn : AList P ops rest (([id1, id], [id1, id, id]) :: acc) (S.eff (some id) ⟨.c (.ow id), [(id1, none), (id, some ⟨true, n + m, e.size, el, appF F n G⟩)], [id]⟩) Q) :
    AList P ops ({ dst := some id, op := .call { callee := .builtin .append, args := #[s, x], argTypes := #[t, t] }, type := ty, pos, after, guard } :: rest) acc S Q :=
  AList.app T (o := some id1) (F := F) (G := G) [] hw hd hf hs hx ht hk he (Nat.blt_eq.mp (Bool.and_eq_true_iff.1 hsz).1) (.inr ⟨id1, rfl, rfl, hh, Nat.blt_eq.mp (Bool.and_eq_true_iff.1 hsz).2⟩) (fun S1 _ b0 σ a w R u hu => src_ls hu) h63 hb hn
theorem AList.appO (T : tabOk P tab = true) {id id1 id2 : Nat} {s : Operand} {t el : TypeId} {d e : TD} {n m : Nat} {F G : Nat → Nat → CV}
    (hw : S.wants ops { dst := some id, op := .call { callee := .builtin .append, args := #[s, x], argTypes := #[t, t] }, type := ty, pos, after, guard } = some true) (hd : dOk S.n (some id) = true) (hf : S.fr id = true)
    (hs : S.opd s = some (.c (.ow id1))) (hx : S.opd x = some (.c (.ow id2))) (ht : assoc tab t = some d) (hk : d.k = .sl el) (he : assoc tab el = some e) (hh : S.h id1 = some ⟨true, n, e.size, el, F⟩) (hh2 : S.h id2 = some ⟨true, m, e.size, el, G⟩) (hsz : (Nat.blt 0 e.size && Nat.blt id1 1000) = true)
    (h63 : n + m ≤ 4611686018427387904) (hb : (n + m) * e.bytes ≤ 140737488355328)
    (hn : AList P ops rest (([id1, id2, id], [id1, id, id]) :: acc) (S.eff (some id) ⟨.c (.ow id), [(id1, none), (id, some ⟨true, n + m, e.size, el, appF F n G⟩)], [id]⟩) Q) :
    AList P ops ({ dst := some id, op := .call { callee := .builtin .append, args := #[s, x], argTypes := #[t, t] }, type := ty, pos, after, guard } :: rest) acc S Q :=
  AList.app T (o := some id1) (F := F) (G := G) [id2] hw hd hf hs hx ht hk he (Nat.blt_eq.mp (Bool.and_eq_true_iff.1 hsz).1) (.inr ⟨id1, rfl, rfl, hh, Nat.blt_eq.mp (Bool.and_eq_true_iff.1 hsz).2⟩) (fun S1 hr b0 σ a w R u hu => src_ow R hu ((hr id2 (by simp)).trans hh2) rfl) h63 hb hn
theorem AList.appN (T : tabOk P tab = true) {id : Nat} {s : Operand} {t el : TypeId} {d e : TD} {m : Nat} {G : Nat → Nat → CV}
    (hw : S.wants ops { dst := some id, op := .call { callee := .builtin .append, args := #[s, x], argTypes := #[t, t] }, type := ty, pos, after, guard } = some true) (hd : dOk S.n (some id) = true) (hf : S.fr id = true)
    (hs : S.opd s = some (.c (.p (.slice none 0 0)))) (hx : S.opd x = some (.c (.ls m e.size G))) (ht : assoc tab t = some d) (hk : d.k = .sl el) (he : assoc tab el = some e) (hsz : Nat.blt 0 e.size = true)
    (h63 : m ≤ 4611686018427387904) (hb : m * e.bytes ≤ 140737488355328)
    (hn : AList P ops rest (([id], [id, id]) :: acc) (S.eff (some id) ⟨.c (.ow id), [(id, some ⟨true, m, e.size, el, G⟩)], [id]⟩) Q) :
    AList P ops ({ dst := some id, op := .call { callee := .builtin .append, args := #[s, x], argTypes := #[t, t] }, type := ty, pos, after, guard } :: rest) acc S Q :=
  AList.app T (o := none) (F := fun _ _ => .any) (G := G) [] hw hd hf hs hx ht hk he (Nat.blt_eq.mp hsz) (.inl ⟨rfl, rfl, rfl⟩) (fun S1 _ b0 σ a w R u hu => src_ls hu) (by omega) (by rw [Nat.zero_add]; exact hb) (by rw [Nat.zero_add]; exact hn)
/-- A list appended to an empty own row. -/
theorem AList.appL0 (T : tabOk P tab = true) {id id1 : Nat} {s : Operand} {t el : TypeId} {d e : TD} {m : Nat} {F G : Nat → Nat → CV}
    (hw : S.wants ops { dst := some id, op := .call { callee := .builtin .append, args := #[s, x], argTypes := #[t, t] }, type := ty, pos, after, guard } = some true) (hd : dOk S.n (some id) = true) (hf : S.fr id = true)
    (hs : S.opd s = some (.c (.ow id1))) (hx : S.opd x = some (.c (.ls m e.size G))) (ht : assoc tab t = some d) (hk : d.k = .sl el) (he : assoc tab el = some e) (hh : S.h id1 = some ⟨true, 0, e.size, el, F⟩) (hsz : (Nat.blt 0 e.size && Nat.blt id1 1000) = true)
    (h63 : m ≤ 4611686018427387904) (hb : m * e.bytes ≤ 140737488355328)
    (hn : AList P ops rest (([id1, id], [id1, id, id]) :: acc) (S.eff (some id) ⟨.c (.ow id), [(id1, none), (id, some ⟨true, m, e.size, el, G⟩)], [id]⟩) Q) :
    AList P ops ({ dst := some id, op := .call { callee := .builtin .append, args := #[s, x], argTypes := #[t, t] }, type := ty, pos, after, guard } :: rest) acc S Q :=
  AList.appL T hw hd hf hs hx ht hk he hh hsz (by omega) (by rw [Nat.zero_add]; exact hb) (by rw [Nat.zero_add]; exact hn)
theorem AList.appE (T : tabOk P tab = true) {id id1 : Nat} {s : Operand} {t el : TypeId} {d e : TD} {n : Nat} {F : Nat → Nat → CV}
    (hw : S.wants ops { dst := some id, op := .call { callee := .builtin .append, args := #[s, x], argTypes := #[t, t] }, type := ty, pos, after, guard } = some true) (hd : dOk S.n (some id) = true) (hf : S.fr id = true)
    (hs : S.opd s = some (.c (.ow id1))) (hx : S.opd x = some (.c (.p (.slice none 0 0)))) (ht : assoc tab t = some d) (hk : d.k = .sl el) (he : assoc tab el = some e) (hh : S.h id1 = some ⟨true, n, e.size, el, F⟩) (hsz : (Nat.blt 0 e.size && Nat.blt id1 1000) = true)
    (h63 : n + 0 ≤ 4611686018427387904) (hb : (n + 0) * e.bytes ≤ 140737488355328)
    (hn : AList P ops rest (([id1, id], [id1, id, id]) :: acc) (S.eff (some id) ⟨.c (.ow id), [(id1, none), (id, some ⟨true, n + 0, e.size, el, appF F n (fun _ _ => .any)⟩)], [id]⟩) Q) :
    AList P ops ({ dst := some id, op := .call { callee := .builtin .append, args := #[s, x], argTypes := #[t, t] }, type := ty, pos, after, guard } :: rest) acc S Q :=
  AList.app T (o := some id1) (F := F) (G := fun _ _ => .any) [] hw hd hf hs hx ht hk he (Nat.blt_eq.mp (Bool.and_eq_true_iff.1 hsz).1) (.inr ⟨id1, rfl, rfl, hh, Nat.blt_eq.mp (Bool.and_eq_true_iff.1 hsz).2⟩) (fun S1 _ b0 σ a w R u hu => src_nil hu) h63 hb hn
end ops
section code
theorem ARes.box {tab : List (TypeId × TD)} (T : tabOk P tab = true) {S : St} {c : Tmp} {t : TypeId} {id sz : Nat} {bt : TypeId} {F : Nat → Nat → CV} {d : TD} {l : List CV} (hc : S.t c = some (.c (.pt id sz 0 0))) (hh : S.h id = some ⟨false, 1, sz, bt, F⟩) (ht : assoc tab t = some d) (hk : isAg d.k = true) (hz : d.size = sz)
    (hl : cellsFrom (F 0) 0 d.size = l) (hi : l.all immC = true) : ARes P S (.cell c t) (.ag l) := fun b0 σ a w R => by
  obtain ⟨b, cap, cs, -, e1, -, e2, -, -, e3⟩ := at_pt R (R.sl c _ hc) hh rfl (by simp : 0 < 1)
  obtain ⟨ud, g1, g2⟩ := ty_ag T ht hk
  obtain ⟨inf, z, u', i1, i2, i3, -⟩ := ty_info T ht
  subst hl
  simp only at e3
  have hcell : ∀ i, i < d.size → w.cell? (Addr.add ⟨b, 0 * sz + 0, none⟩ i) = some (cs.getD (0 * sz + (0 + i)) undef) ∧ RepC σ (out b0 σ S.h) w (F 0 (0 + i)) (cs.getD (0 * sz + (0 + i)) undef) := fun i hi => by
    obtain ⟨u, f1, f2⟩ := e3 0 (by simp) (0 + i) (by omega)
    rw [add_off, Nat.add_assoc, Array.getD_eq_getD_getElem?, f1]
    exact ⟨(cell_of_row w b _ cs bt (0, 0) e2).trans f1, f2⟩
  refine ⟨.agg ((List.range d.size).map fun i => cs.getD (0 * sz + (0 + i)) undef).toArray, ?_, ?_⟩
  · have := run_agg (P := P) g1 g2 i1 (w := w) (a := ⟨b, 0 * sz + 0, none⟩) (f := fun i => cs.getD (0 * sz + (0 + i)) undef) (fun i hi => (hcell i (by omega)).1)
    rw [i2] at this
    simp only [resV, e1, asAddr, Sem.run_bind, Sem.run_pure, Result.andThen_ok, this]
  · exact strip (x := .ag _) hi ⟨_, rfl, rep_cells fun i hi => (hcell i hi).2⟩
variable {next : St → Prop} {Q : Exit → St → Prop} {S : St} {id k : Nat}
theorem thenA_n (h : next S) : thenA next Q .normal S := h
theorem thenA_e (h : Q (.exit k) S) : thenA next Q (.exit k) S := h
theorem thenA_r (h : Q .ret S) : thenA next Q .ret S := h
theorem inBlk_n (h : Q .normal S) : inBlk id Q .normal S := h
theorem inBlk_r (h : Q .ret S) : inBlk id Q .ret S := h
theorem inBlk_hit (h : Q .normal S) : inBlk id Q (.exit id) S := by show (bif Nat.beq id id then Q .normal S else Q (.exit id) S); rw [show Nat.beq id id = true from Nat.beq_refl id]; exact h
theorem inBlk_miss (hne : Nat.beq k id = false) (h : Q (.exit k) S) : inBlk id Q (.exit k) S := by show (bif Nat.beq k id then Q .normal S else Q (.exit k) S); rw [hne]; exact h
theorem AWp.condT {c : Operand} {x y : Code} {b : Bool} (hc : S.opd c = some (.c (.p (.bool b)))) (hb : b = true) (h : AWp P x Q S) : AWp P (.cond c x y) Q S := AWp.cond hc (fun _ => h) fun h' => by rw [hb] at h'; cases h'
theorem AWp.condF {c : Operand} {x y : Code} {b : Bool} (hc : S.opd c = some (.c (.p (.bool b)))) (hb : b = false) (h : AWp P y Q S) : AWp P (.cond c x y) Q S := AWp.cond hc (fun h' => by rw [hb] at h'; cases h') fun _ => h
theorem acalls_at {f : FuncId} {fn : Func} {c : Code} {rs : List ResultVar} {args : List V1} {r : AV} {n : Nat} (hf : P.funcs[f]? = some fn) (hb : fn.body = some c) (hr : fn.results = rs.toArray) (hn : fn.ntmps = n) (hl : Nat.ble args.length n = true)
    (h : AWp P c (RetOk P rs r []) (entry n args)) : ACalls P f args r := by
  subst hn
  exact hcalls_of hf hb hr (Nat.ble_eq.mp hl) rfl (fun p hp => by cases hp) h
theorem hcalls_at {f : FuncId} {fn : Func} {c : Code} {rs : List ResultVar} {args : List V1} {hs hs' : List (Nat × AB)} {r : AV} {n : Nat} (hf : P.funcs[f]? = some fn) (hb : fn.body = some c) (hr : fn.results = rs.toArray) (hn : fn.ntmps = n) (hl : Nat.ble args.length n = true)
    (hk : keysHi hs' = true) (him : ∀ p ∈ hs', ∀ k j, k < p.2.n → j < p.2.sz → immC (p.2.F k j) = true) (h : AWp P c (RetOk P rs r hs') (entryL n args hs)) : HCalls P f args hs r hs' := by
  subst hn
  exact hcalls_of hf hb hr (Nat.ble_eq.mp hl) hk him h
def renNo (ren : List (Nat × Option Nat)) (o : Nat) : Bool := Nat.blt o 1000 && ren.all fun p => match p.2 with | some o' => !(Nat.beq o' o) | none => true
theorem renNo_lt {ren : List (Nat × Option Nat)} {o : Nat} (h : renNo ren o = true) : o < 1000 := by
  unfold renNo at h
  rw [Bool.and_eq_true] at h
  exact Nat.blt_eq.mp h.1
theorem renNo_at {ren : List (Nat × Option Nat)} {o : Nat} (h : renNo ren o = true) (m : Nat) : assoc ren m ≠ some (some o) := fun e => by
  unfold renNo at h
  rw [Bool.and_eq_true] at h
  have := List.all_eq_true.1 h.2 _ (assoc_mem e)
  simp [Nat.beq_refl] at this
theorem LeC.fz {h : Nat → Option AB} {ren : List (Nat × Option Nat)} {o n n' sz : Nat} {ty : TypeId} {F G : Nat → Nat → CV} (hh : h o = some ⟨true, n, sz, ty, F⟩) (hr : renNo ren o = true) (hn : n' = n) (hc : ∀ k, k < n → ∀ j, j < sz → F k j = G k j ∧ immC (F k j) = true) : LeC h ren (.ow o) (.ls n' sz G) := by
  subst hn
  exact .frz o n' sz ty F G hh (fun k hk j hj => (hc k hk j hj).2) (fun k hk j hj => (hc k hk j hj).1) (renNo_at hr) (renNo_lt hr)
theorem LeC.lz {h : Nat → Option AB} {ren : List (Nat × Option Nat)} {n n' sz : Nat} {F G : Nat → Nat → CV} (hn : n' = n) (hc : ∀ k, k < n → ∀ j, j < sz → F k j = G k j) : LeC h ren (.ls n sz F) (.ls n' sz G) := by
  subst hn
  exact .ls n' sz F G hc
/-- A box that is kept. -/
theorem HeapOk.box {S : St} {ren : List (Nat × Option Nat)} {id o sz : Nat} {ty : TypeId} {F : Nat → Nat → CV} {l : List CV} (hr : assoc ren id = some (some o)) (hh : S.h o = some ⟨false, 1, sz, ty, F⟩) (hl : LeL (LeC S.h ren) (cellsFrom (F 0) 0 sz) l) (hz : l.length = sz) :
    HeapOk S ren id ⟨false, 1, sz, ty, lF l⟩ := .inr ⟨o, 1, F, .inl hr, rfl, hh, fun k hk j hj => by
      obtain rfl : k = 0 := by omega
      have key : ∀ (l m : List CV), LeL (LeC S.h ren) l m → ∀ (i : Nat) (x y : CV), l[i]? = some x → m[i]? = some y → LeC S.h ren x y := by
        intro l
        induction l with
        | nil => intro m h i x y h1; simp at h1
        | cons a l ih =>
          intro m h i x y h1 h2
          cases m with
          | nil => exact h.elim
          | cons b m =>
            cases i with
            | zero => simp at h1 h2; exact h1 ▸ h2 ▸ h.1
            | succ i => exact ih m h.2 i x y (by simpa using h1) (by simpa using h2)
      have hj' : j < sz := hj
      have h1 := cellsFrom_get (F 0) sz 0 j hj'
      rw [Nat.zero_add] at h1
      have h2 : l[j]? = some (lF l 0 j) := by
        unfold lF
        rw [List.getD, List.getElem?_eq_getElem (by omega)]
        rfl
      exact key _ _ hl j _ _ h1 h2⟩
theorem HeapOk.lent {S : St} {ren : List (Nat × Option Nat)} {id sz : Nat} {ty : TypeId} {F : Nat → Nat → CV} {l : List CV} (hb : Nat.ble 1000 id = true) (hh : S.h id = some ⟨false, 1, sz, ty, F⟩) (hc : cellsFrom (F 0) 0 sz = l) (hi : l.all immC = true) :
    HeapOk S ren id ⟨false, 1, sz, ty, lF l⟩ := .inr ⟨id, 1, F, .inr ⟨Nat.ble_eq.mp hb, rfl⟩, rfl, hh, cells_box hc hi⟩
theorem app_F {F G : Nat → Nat → CV} {n sz : Nat} {l : List CV} (h1 : ∀ i, i < n → ∀ j, j < sz → F i j = G i j) (h2 : ∀ j, j < sz → l.getD j .any = G n j) (hi : ∀ i, i < n + 1 → ∀ j, j < sz → immC (G i j) = true) : ∀ i, i < n + 1 → ∀ j, j < sz → appF F n (sF l sz) i j = G i j ∧ immC (appF F n (sF l sz) i j) = true := fun i hlt j hj => by
  have : appF F n (sF l sz) i j = G i j := by
    unfold appF
    by_cases h : i < n
    · rw [Nat.blt_eq.mpr h]; exact h1 i h j hj
    · obtain rfl : i = n := by omega
      rw [show Nat.blt i i = false from Bool.eq_false_iff.2 fun h => by have := Nat.blt_eq.mp h; omega]
      simp only [cond_false, Nat.sub_self, sF, Nat.zero_mul, Nat.zero_add]
      exact h2 j hj
  exact ⟨this, by rw [this]; exact hi i hlt j hj⟩
theorem cell1 {P : Nat → Prop} (h0 : P 0) : ∀ j, j < 1 → P j := fun j hj => by
  match j, hj with
  | 0, _ => exact h0
theorem app_one {g g' : Nat → CV} {n : Nat} {x : CV} (h1 : ∀ i, i < n → g i = g' i) (h2 : x = g' n) (hi : ∀ i, i < n + 1 → immC (g' i) = true) : ∀ i, i < n + 1 → ∀ j, j < 1 → appF (fun i _ => g i) n (sF [x] 1) i j = g' i ∧ immC (appF (fun i _ => g i) n (sF [x] 1) i j) = true := fun i hlt j hj => by
  have : appF (fun i _ => g i) n (sF [x] 1) i j = g' i := by
    unfold appF
    by_cases h : i < n
    · rw [Nat.blt_eq.mpr h]; exact h1 i h
    · obtain rfl : i = n := by omega
      obtain rfl : j = 0 := by omega
      rw [show Nat.blt i i = false from Bool.eq_false_iff.2 fun h => by have := Nat.blt_eq.mp h; omega]
      simp only [cond_false, Nat.sub_self, sF]
      exact h2
  exact ⟨this, by rw [this]; exact hi i hlt⟩
end code
end
end Go.AV
end

section
namespace Go.AV
open Go Go.RowKit Go.Flow
section
variable {P : Program}
theorem lF_imm {l : List CV} (h : l.all immC = true) (k j : Nat) : immC (lF l k j) = true := by
  unfold lF
  rw [List.getD]
  cases hc : l[j]? with
  | none => rfl
  | some x => exact List.all_eq_true.1 h _ (List.mem_of_getElem? hc)
theorem LendOk.box {S : St} {id sz : Nat} {ty : TypeId} {F : Nat → Nat → CV} {l : List CV} {ids : List Nat} {bs : List AB} (hh : S.h id = some ⟨false, 1, sz, ty, F⟩) (hc : cellsFrom (F 0) 0 sz = l) (hi : l.all immC = true) (hr : LendOk S ids bs) : LendOk S (id :: ids) (⟨false, 1, sz, ty, lF l⟩ :: bs) :=
  ⟨⟨F, hh, fun h => (by cases h), fun k hk j hj => ⟨by
    obtain rfl : k = 0 := by simp at hk; omega
    have h1 := cellsFrom_get (F 0) sz 0 j hj
    rw [Nat.zero_add, hc] at h1
    show F 0 j = lF l 0 j
    unfold lF
    rw [List.getD, h1]
    rfl, lF_imm hi k j⟩⟩, hr⟩
/-- A lent row, in the callee. -/
theorem HeapOk.lentRow {S : St} {ren : List (Nat × Option Nat)} {id n sz : Nat} {ty : TypeId} {F G : Nat → Nat → CV} (hb : Nat.ble 1000 id = true) (hh : S.h id = some ⟨true, n, sz, ty, F⟩) (hc : ∀ k, k < n → ∀ j, j < sz → F k j = G k j ∧ immC (F k j) = true) :
    HeapOk S ren id ⟨true, n, sz, ty, G⟩ := .inr ⟨id, n, F, .inr ⟨Nat.ble_eq.mp hb, rfl⟩, rfl, hh, fun k hk j hj => LeC.eq (hc k hk j hj).1 (hc k hk j hj).2⟩
theorem LendImm.box {sz n : Nat} {ty : TypeId} {l : List CV} {bs : List AB} {row : Bool} (hi : l.all immC = true) (hr : LendImm bs) : LendImm (⟨row, n, sz, ty, lF l⟩ :: bs) := ⟨fun k _ j _ => lF_imm hi k j, hr⟩
section ops
variable {ops : Array Oper} {rest : List Oper} {acc : List (List Nat × List Nat)} {S : St} {Q : List (List Nat × List Nat) → St → Prop} {dst : Option Tmp} {ty : TypeId} {pos : String} {after : Array Edge} {guard : Option (Nat × Bool)}
theorem lendOk_congr {S S1 : St} : ∀ {ids : List Nat} {bs : List AB}, (∀ id ∈ ids, S1.h id = S.h id) → LendOk S ids bs → LendOk S1 ids bs
  | [], [], _, h => h
  | id :: ids, B :: bs, he, h => ⟨let ⟨F, h1, h2⟩ := h.1; ⟨F, (he id (by simp)).trans h1, h2⟩, lendOk_congr (fun i hi => he i (by simp [hi])) h.2⟩
  | [], _ :: _, _, h => h.elim
  | _ :: _, [], _, h => h.elim
/-- A call that is lent the boxes ids. -/
theorem AList.callH {f : FuncId} {fn : Func} {xs : Array Operand} {ats : Array TypeId} {args : List V1} {r : AV} (ids : List Nat) (bs bs' : List AB) (hw : S.wants ops { dst, op := .call { callee := .value (.func f), args := xs, argTypes := ats }, type := ty, pos, after, guard } = some true) (hd : dOk S.n dst = true)
    (ha : S.opds xs.toList = some args) (hf : P.funcs[f]? = some fn) (hb : fn.body.isNone = false) (hnm : (fn.name == "runtime.NumGoroutine") = false) (hL : LendOk S ids bs) (hnd : (nodupB ids && Nat.beq bs'.length bs.length) = true) (hI : LendImm bs')
    (hc : HCalls P f (args.map (lendV ids)) (lentL 0 bs) r (lentL 0 bs'))
    (hn : AList P ops rest ((ids ++ [], (zipW ids bs').map (·.1) ++ []) :: acc) (S.eff dst ⟨r, zipW ids bs', []⟩) Q) : AList P ops ({ dst, op := .call { callee := .value (.func f), args := xs, argTypes := ats }, type := ty, pos, after, guard } :: rest) acc S Q :=
  AList.cons ids ⟨r, zipW ids bs', []⟩ (LStep.of hw fun S1 hA hr _ b0 σ a w R => by
    rw [Bool.and_eq_true] at hnd
    have h2 : S1.opds xs.toList = some args := (opds_congr fun x hx => hA.op x (by simp only [Op.operands, Call.operands]; simp; exact .inr (by simpa using hx))).trans ha
    have := hc.at R (dst := dst) (by rw [hA.n]; exact hd) (opds_rep R h2) (lendOk_congr hr hL) hnd.1 (Nat.eq_of_beq_eq_true hnd.2) hI
    rw [run_callf f fn hf hb hnm #[] #[] rfl w]
    simp only [Goes]
    rw [show (#[] ++ xs.map a.eval ++ #[] : Array Value) = (xs.toList.map a.eval).toArray from Array.ext' (by simp)]
    exact this.mono fun e w' ⟨v, g1, g2⟩ => ⟨v, g1, g2⟩) hn
end ops
end
end Go.AV
end

section
namespace Go.AV
open Go Go.RowKit Go.Flow
section
variable {P : Program}
/-- A row that nobody else knows. -/
def OFresh (base : Nat) (O : Nat → Prop) (w : World) (rv : Value) (B : AB) : Prop :=
  B.row = true ∧ ((rv = .slice none 0 0 ∧ B.n = 0) ∨ ∃ b cap cs, OBase B rv b cap ∧ base ≤ b ∧ w.heap[b]? = some (.cells cs B.ty (0, 0)) ∧ cs.size = cap * B.sz ∧ ∀ k, k < B.n → ∀ j, j < B.sz → ∃ u, cs[k * B.sz + j]? = some u ∧ RepC (fun _ => none) O w (B.F k j) u)
def isP : CV → Bool
  | .p _ => true
  | _ => false
theorem isP_rep {σ σ' : Nat → Option Value} {O O' : Nat → Prop} {w w' : World} {x : CV} {u : Value} (h : isP x = true) (hx : RepC σ O w x u) : RepC σ' O' w' x u := by
  cases x <;> first | exact hx | cases h
theorem swap_p {σ σ' : Nat → Option Value} {O O' : Nat → Prop} {w w' : World} {id id' : Nat} {rv : Value} (h1 : σ id = some rv) (h2 : σ' id' = some rv) : ∀ {l1 : List CV} {l2 : List CV} {vs : List Value}, l1.all isP = true → l2.all isP = true → RepL (RepC σ O w) (l1 ++ .ow id :: l2) vs → RepL (RepC σ' O' w') (l1 ++ .ow id' :: l2) vs
  | x :: l1, l2, v :: vs, hi, hj, h => by
    rw [List.all_cons, Bool.and_eq_true] at hi
    exact ⟨isP_rep hi.1 h.1, swap_p h1 h2 hi.2 hj h.2⟩
  | [], l2, v :: vs, _, hj, h => by
    obtain ⟨g1, g2, g3⟩ := h.1
    rw [h1] at g2
    refine ⟨⟨g1, h2.trans g2, g3⟩, RepL.of_get h.2.length fun i x u e1 e2 => ?_⟩
    obtain ⟨u', e3, e4⟩ := h.2.get e1
    rw [e2] at e3
    cases e3
    exact isP_rep (List.all_eq_true.1 hj _ (List.mem_of_getElem? e1)) e4
  | [], _, [], _, _, h => h.elim
  | _ :: _, _, [], _, _, h => h.elim
section ops
variable {ops : Array Oper} {rest : List Oper} {acc : List (List Nat × List Nat)} {S : St} {Q : List (List Nat × List Nat) → St → Prop} {ty : TypeId} {pos : String} {after : Array Edge} {guard : Option (Nat × Bool)}
end ops
end
end Go.AV
end

section
namespace Go.AV
open Go Go.RowKit Go.Flow
section
variable {P : Program}
theorem AText.split {ops : Array Oper} {l : List Oper} {S : St} {Q : St → Prop} (n : Nat) (h : AList P ops (l.take n) [] S (fun _ S1 => AText P ops (l.drop n) S1 Q)) : AText P ops l S Q := ⟨fun rd b0 a w K hR hK => by
  have key : ∀ (l1 : List Oper) (l2 : List Oper) (acc : List (List Nat × List Nat)) (S : St) (a : Act) (w : World), AListD P ops l1 acc S (fun _ S1 => AText P ops l2 S1 Q) → Rel b0 S a w → wpListIn (fnc rd) 0 P ops K (l1 ++ l2) a w := by
    intro l1 l2
    induction l1 with
    | nil => exact fun acc S a w h hR => h.get rd b0 a w K hR hK
    | cons o l1 ih =>
      rintro acc S a w ⟨rd', e, hs, hk⟩ hR
      rw [List.cons_append]
      unfold wpListIn
      rcases hs.at hR with ⟨hw, hg⟩ | ⟨hw, hR'⟩
      · rw [if_pos hw]
        exact hg.wpIn fun v w' hR' => ih _ _ _ _ hk hR'
      · rw [if_neg (by simp [hw])]
        exact ⟨fun _ _ => trivial, ih _ _ _ _ hk hR'⟩
  have := key (l.take n) (l.drop n) [] S a w h.get hR
  rwa [List.take_append_drop] at this⟩
theorem AWp.text {id : Nat} {l : List Oper} {S : St} {Q : Exit → St → Prop} (h : AText P l.toArray l S (Q .normal)) : AWp P (.region id l.toArray false) Q S := ⟨fun b0 a w hR =>
  wpIn_region_lit (h.get _ b0 a w _ hR fun S a w h1 h2 => ⟨S, h1, h2⟩)⟩
section ops
variable {ops : Array Oper} {rest : List Oper} {S : St} {Q : St → Prop} {dst : Option Tmp} {ty : TypeId} {pos : String} {after : Array Edge} {guard : Option (Nat × Bool)}
end ops
end
end Go.AV
end
