/- Parts of the proof: AMemA. -/
import Derived.Test.YtcdnpnbjloaihaaG08
set_option linter.unusedSimpArgs false
set_option linter.unusedVariables false
section
/- Calls that read own rows; contracts at other arguments. No condition. -/
namespace Go.AV
open Go Go.RowKit Go.Flow
section
variable {P : Program}
def FzV (S : St) (rd : List Nat) (x y : V1) : Prop :=
  (x = y ∧ immV x = true) ∨ ∃ (id n sz : Nat) (ty : TypeId) (F G : Nat → Nat → CV), x = .c (.ow id) ∧ y = .c (.ls n sz G) ∧ id ∈ rd ∧ S.h id = some ⟨true, n, sz, ty, F⟩ ∧ ∀ k, k < n → ∀ j, j < sz → F k j = G k j ∧ immC (F k j) = true
theorem fzV_rep {S S1 : St} {rd : List Nat} {b0 : Base} {σ : Nat → Option Value} {a : Act} {w : World} (R : Rel0 b0 σ S1 a w) (hr : ∀ id ∈ rd, S1.h id = S.h id) {x y : V1} {u : Value} (h : FzV S rd x y) (hu : RepV σ (out b0 σ S1.h) w x u) : RepV (fun _ => none) (fun _ => False) w y u := by
  rcases h with ⟨rfl, hi⟩ | ⟨id, n, sz, ty, F, G, rfl, rfl, hid, hh, hc⟩
  · have h1 := strip0 hi hu
    exact h1.keep ⟨rfl, rfl, rfl, Nat.le_refl _, fun _ _ _ => rfl⟩ (fun b hb => hb.elim) fun _ _ h => h
  · exact ⟨hu.1, RepI.ls_congr (fun k hk j hj => (hc k hk j hj).1) (frz_rep R.hp ((hr id hid).trans hh) (fun k hk j hj => (hc k hk j hj).2) (fun b hb => hb.elim) (fun v b _ _ h => h) hu.2.1)⟩
theorem fzL_rep {S S1 : St} {rd : List Nat} {b0 : Base} {σ : Nat → Option Value} {a : Act} {w : World} (R : Rel0 b0 σ S1 a w) (hr : ∀ id ∈ rd, S1.h id = S.h id) : ∀ {l m : List V1} {us : List Value}, LeL (FzV S rd) l m → RepL (RepV σ (out b0 σ S1.h) w) l us → RepL (RepV (fun _ => none) (fun _ => False) w) m us
  | [], [], [], _, _ => trivial
  | x :: l, y :: m, u :: us, h, hu => ⟨fzV_rep R hr h.1 hu.1, fzL_rep R hr h.2 hu.2⟩
  | [], _ :: _, _, h, _ => h.elim
  | _ :: _, [], _, h, _ => h.elim
  | [], [], _ :: _, _, h => h.elim
  | _ :: _, _ :: _, [], _, h => h.elim
section ops
variable {ops : Array Oper} {rest : List Oper} {acc : List (List Nat × List Nat)} {S : St} {Q : List (List Nat × List Nat) → St → Prop} {dst : Option Tmp} {ty : TypeId} {pos : String} {after : Array Edge} {guard : Option (Nat × Bool)}
section
variable {tab : List (TypeId × TD)}
/-- A slice literal that is our own. -/
theorem AList.litOw (T : tabOk P tab = true) {id t el len : Nat} {d e : TD} {ps : Array (Nat × Operand)} {pv : List (Nat × List CV)} {l : List CV} (hw : S.wants ops { dst := some id, op := .buildSlice t len ps, type := ty, pos, after, guard } = some true) (hd : dOk S.n (some id) = true) (hf : S.fr id = true)
    (ht : assoc tab t = some d) (hk : d.k = .sl el) (he : assoc tab el = some e) (ho : vsOne e.zero = true) (hp : partsV S ps.toList = some pv) (hpos : Nat.beq (len * e.size) 0 = false) (hsm : Nat.ble (len * e.size) 65536 = true)
    (hl : fillC (fun i => some (i * e.size, e.size)) ((List.range (len * e.size)).map fun p => .p (e.zero.getD (p % e.size) undef)) pv = some l)
    (hn : AList P ops rest (([id], [id, id]) :: acc) (S.eff (some id) ⟨.c (.ow id), [(id, some ⟨true, len, e.size, el, sF l e.size⟩)], [id]⟩) Q) : AList P ops ({ dst := some id, op := .buildSlice t len ps, type := ty, pos, after, guard } :: rest) acc S Q :=
  AList.new (B := ⟨true, len, e.size, el, sF l e.size⟩) [] hw hd hf (fun S1 h1 _ b0 σ a w R => by
    obtain ⟨inf, z, u, i1, i2, i3, i4, i5, i6, -⟩ := ty_info T he
    have hp1 : partsV S1 ps.toList = some pv := (partsV_congr fun p hp => h1 p.2 (by simp only [Op.operands]; simp; exact ⟨p.1, by simpa using hp⟩)).trans hp
    obtain ⟨q1, q2⟩ := parts_rep R hp1
    have hne : ¬ len * e.size = 0 := fun h => by rw [h] at hpos; cases hpos
    have hzs : z.cells.size = e.size := by rw [i5]; simp [i6]
    have hep : 0 < e.size := Nat.pos_of_ne_zero fun h => hne (by rw [h, Nat.mul_zero])
    have hz0 : RepL (RepC σ (out b0 σ S1.h) w) ((List.range (len * e.size)).map fun p => CV.p (e.zero.getD (p % e.size) undef)) ((Array.range (len * inf.size)).map (z.cells[· % z.cells.size]!)).toList := by
      rw [i2]
      refine RepL.of_get (by simp) fun i x v g1 g2 => ?_
      have hi : i < len * e.size := by have := (List.getElem?_eq_some_iff.1 g1).1; simpa using this
      have hm : i % e.size < e.zero.length := by rw [i6]; exact Nat.mod_lt _ hep
      rw [List.getElem?_map, List.getElem?_range hi] at g1
      cases g1
      have : v = e.zero[i % e.size] := by
        rw [Array.getElem?_toList] at g2
        have hm2 : i % z.cells.size < z.cells.size := by rw [hzs]; exact Nat.mod_lt _ hep
        simp [hi] at g2
        rw [← g2]
        have h3 : i % z.cells.size = i % e.size := by rw [hzs]
        simp only [h3]
        simp [i5, hm]
      subst this
      show RepC _ _ _ (CV.p (e.zero.getD (i % e.size) undef)) _
      rw [show e.zero.getD (i % e.size) undef = e.zero[i % e.size] by simp [List.getD, hm]]
      exact ⟨List.all_eq_true.1 ho _ (List.getElem_mem hm), rfl⟩
    obtain ⟨cs', r1, r2⟩ := fill_rep (R := RepC σ (out b0 σ S1.h) w) (place' := fun i => some (i * inf.size, inf.size)) (fun i => by rw [i2]) hl hz0 q1 q2
    have hrun := run_buildSlice (P := P) w t el len (ps.map fun p => (p.1, a.eval p.2)) cs' inf z (ty_sl T ht hk) i1 i4 (by rw [i2]; have := Nat.ble_eq.mp hsm; omega) (by rw [i2]; exact hne) (by simpa using r1)
    have hex : (execOp a.eval { dst := some id, op := .buildSlice t len ps, type := ty, pos, after, guard }).run P w = .ok (.value (.slice (some ⟨w.heap.size, 0, none⟩) len len)) (w.alloc (.cells cs' el)) := by
      simp only [execOp, hrun, Sem.run_bind, Result.andThen_ok, Sem.run_pure]
    have hcl := r2.length
    have hll : l.length = len * e.size := by
      have : ∀ (pv : List (Nat × List CV)) (c l : List CV), fillC (fun i => some (i * e.size, e.size)) c pv = some l → l.length = c.length := by
        intro pv
        induction pv with
        | nil => intro c l h; cases h; rfl
        | cons p pv ih =>
          intro c l h
          unfold fillC at h
          simp only at h
          cases hb : (Nat.beq p.2.length e.size && Nat.ble (p.1 * e.size + p.2.length) c.length) with
          | false => rw [hb] at h; cases h
          | true =>
            rw [hb] at h
            rw [ih _ _ h]
            simp only [Bool.and_eq_true] at hb
            have := Nat.ble_eq.mp hb.2
            simp
            omega
      rw [this _ _ _ hl]
      simp
    refine ⟨.slice (some ⟨w.heap.size, 0, none⟩) len len, len, cs', hex, .inl ⟨rfl, rfl, Nat.le_refl _, ?_⟩, by simpa [hll] using hcl, fun k hk j hj => ?_, fun σ' O' w' h => rep_ow h⟩
    · have h1 := Nat.ble_eq.mp hsm
      have h2 := Nat.le_mul_of_pos_right len hep
      simp only [maxLen]
      omega
    · have hlt := cell_in hk hj
      have e1 := List.getElem?_eq_getElem (l := l) (i := k * e.size + j) (by rw [hll]; exact hlt)
      obtain ⟨u, f1, f2⟩ := r2.get e1
      refine ⟨u, by rw [← Array.getElem?_toList]; exact f1, ?_⟩
      have : sF l e.size k j = l[k * e.size + j]'(by rw [hll]; exact hlt) := by unfold sF; rw [List.getD_eq_getElem?_getD, e1]; rfl
      show RepC _ _ _ (sF l e.size k j) u
      rw [this]
      exact f2) hn
end
/-- A call that reads own rows and returns a plain value. -/
theorem AList.callP {f : FuncId} {fn : Func} {xs : Array Operand} {ats : Array TypeId} {args args1 : List V1} {v : Value} (rd : List Nat) (hw : S.wants ops { dst, op := .call { callee := .value (.func f), args := xs, argTypes := ats }, type := ty, pos, after, guard } = some true) (hd : dOk S.n dst = true)
    (ha : S.opds xs.toList = some args) (hf : P.funcs[f]? = some fn) (hb : fn.body.isNone = false) (hnm : (fn.name == "runtime.NumGoroutine") = false) (hc : ACalls P f args1 (.c (.p v))) (hz : LeL (FzV S rd) args args1)
    (hn : AList P ops rest ((rd ++ [], []) :: acc) (S.eff dst ⟨.c (.p v), [], []⟩) Q) : AList P ops ({ dst, op := .call { callee := .value (.func f), args := xs, argTypes := ats }, type := ty, pos, after, guard } :: rest) acc S Q :=
  AList.ext rd _ hw hd (fun S1 h1 hr b0 σ a w R => by
    have h2 : S1.opds xs.toList = some args := (opds_congr fun x hx => h1 x (by simp only [Op.operands, Call.operands]; simp; exact .inr (by simpa using hx))).trans ha
    have := (ECalls.of hc) (fun _ => False) w _ (fun b hb => hb.elim) (fzL_rep R hr hz (opds_rep R h2))
    rw [run_callf f fn hf hb hnm #[] #[] rfl w]
    simp only [Goes]
    rw [show (#[] ++ xs.map a.eval ++ #[] : Array Value) = (xs.toList.map a.eval).toArray from Array.ext' (by simp)]
    exact this.mono fun e w' ⟨u, r, g1, g2, g3, g4⟩ => by
      subst g2
      exact ⟨u, g1, ⟨g3.1, g3.2⟩, g4⟩) hn
theorem AList.loadAF {tab : List (TypeId × TD)} (T : tabOk P tab = true) {t : TypeId} {x : Operand} {id sz k j : Nat} {B : AB} {d : TD} {l : List CV} (hw : S.wants ops { dst, op := .load t x, type := ty, pos, after, guard } = some true) (hd : dOk S.n dst = true)
    (hx : S.opd x = some (.c (.pt id sz k j))) (hh : S.h id = some B) (hs : B.sz = sz) (ht : assoc tab t = some d) (hk : isAg d.k = true) (hkn : k < B.n) (hj : j + d.size ≤ B.sz) (hl : cellsFrom (B.F k) j d.size = l)
    (hn : AList P ops rest (([id], []) :: acc) (S.eff dst ⟨.ag l, [], []⟩) Q) : AList P ops ({ dst, op := .load t x, type := ty, pos, after, guard } :: rest) acc S Q := AList.loadAE T hl hw hd hx hh hs ht hk hkn hj hn
end ops
/-- A contract, at arguments that say no less. -/
theorem ACalls.conv {f : FuncId} {args args' : List V1} {r : AV} (h : ACalls P f args r) (hc : ∀ (σ : Nat → Option Value) (O : Nat → Prop) (w : World) (vals : List Value), RepL (RepV σ O w) args' vals → RepL (RepV σ O w) args vals) : ACalls P f args' r := fun b0 vals h1 h2 h3 h4 => h b0 vals h1 h2 h3 (hc _ _ _ _ h4)
theorem ls_conv {σ : Nat → Option Value} {O : Nat → Prop} {w : World} {n sz : Nat} {F G : Nat → Nat → CV} {u : Value} (hc : ∀ k, k < n → ∀ j, j < sz → G k j = F k j) (h : RepV σ O w (.c (.ls n sz G)) u) : RepV σ O w (.c (.ls n sz F)) u := ⟨h.1, RepI.ls_congr hc h.2⟩
end
end Go.AV
end
