/- Parts of the proof: AMem9, AMemA, ARange, ARange2. -/
import Derived.Test.YtekkldgmjdllbaaG06
import Derived.Laws.StructEq
import Derived.RangeFuncNested
import Derived.Laws.Cover3
set_option linter.unusedSimpArgs false
set_option linter.unusedVariables false
section
namespace Go.AV
open Go Go.RowKit Go.Flow
section
variable {P : Program}
theorem ECalls.of {f : FuncId} {args : List V1} {r : AV} (h : ACalls P f args r) : ECalls P f args (fun x => x = r) := fun O w vals hO hv => by
 let b0 : Base := ⟨w, O, fun _ => False, fun _ => none, hO, fun b hb => hb.elim, fun b _ h => h, fun i v h => (by cases h), fun _ _ => False, fun _ _ _ => True, none, fun _ _ h => h.elim, fun _ _ _ _ _ _ _ _ => trivial⟩
 have hO' : ∀ b, O b → out b0 (fun _ => none) (assoc []) b := fun b hb => .inr hb
 have hO2 : ∀ b, out b0 (fun _ => none) (assoc []) b → O b := fun b hb => hb.elim (fun ⟨i, v, h1, _⟩ => absurd rfl h1) fun h => h
 have he : out b0 (fun _ => none) (assoc []) = O := funext fun b => propext ⟨hO2 b, hO' b⟩
 refine (h b0 vals ⟨fun i B hB => (by cases hB), fun i j v1 v2 b hi => absurd rfl hi, fun b ⟨i, v, h1, _⟩ => absurd rfl h1, fun i v hi => (by cases hi), fun _ _ _ => rfl⟩ (fun i v h => by cases h) (fun b h => h.elim) (by rw [he]; exact hv)).mono fun e w' ⟨v, g1, g2, _, g4⟩ => ⟨v, r, g1, rfl, by rw [he] at g2; exact g2, g4.os, g4.tape, g4.output, g4.size, fun k hk => g4.block k hk fun h => h⟩
section ops
variable {ops : Array Oper} {rest : List Oper} {acc : List (List Nat × List Nat)} {S : St} {Q : List (List Nat × List Nat) → St → Prop} {dst : Option Tmp} {ty xt yt : TypeId} {pos : String} {after : Array Edge} {guard : Option (Nat × Bool)} {x y : Operand} {tab : List (TypeId × TD)}
theorem AList.loadAlE (T : tabOk P tab = true) {t : TypeId} {n sz k j : Nat} {F : Nat → Nat → CV} {d : TD} {l : List CV} (hl : cellsFrom (F k) j d.size = l) (hw : S.wants ops { dst, op := .load t x, type := ty, pos, after, guard } = some true) (hd : dOk S.n dst = true)
 (hx : S.opd x = some (.c (.pl n sz F k j))) (ht : assoc tab t = some d) (hk : isAg d.k = true) (hj : j + d.size ≤ sz)
 (hn : AList P ops rest (([], []) :: acc) (S.eff dst ⟨.ag l, [], []⟩) Q) : AList P ops ({ dst, op := .load t x, type := ty, pos, after, guard } :: rest) acc S Q := by
 subst hl
 exact AList.loadAl T hw hd hx ht hk hj hn
end ops
def rowF {α : Type} (c : α → List CV) (z : α) (L : List α) (k j : Nat) : CV := (c (L.getD k z)).getD j .any
section rows
variable {α : Type} {c : α → List CV} {z : α} {sz : Nat}
theorem getD_app {L M : List α} {k : Nat} : (L ++ M).getD k z = if k < L.length then L.getD k z else M.getD (k - L.length) z := by
 simp only [List.getD_eq_getElem?_getD, List.getElem?_append]
 split <;> rfl
theorem rowF_imm (hc : ∀ x, (c x).all immC = true) (L : List α) (k j : Nat) : immC (rowF c z L k j) = true := lF_imm (hc _) 0 j
theorem row_snoc (L : List α) (x : α) (hc : ∀ x, (c x).all immC = true) (hz : (c x).length = sz) : ∀ i, i < L.length + 1 → ∀ j, j < sz → appF (rowF c z L) L.length (sF (c x) sz) i j = rowF c z (L ++ [x]) i j ∧ immC (appF (rowF c z L) L.length (sF (c x) sz) i j) = true :=
 app_F (fun i hi j _ => by simp only [rowF, getD_app, if_pos hi]) (fun j _ => by simp only [rowF, getD_app, if_neg (Nat.lt_irrefl _), Nat.sub_self]; rfl) fun i _ j _ => rowF_imm hc _ i j
def rowN (c : α → List CV) (g : Nat → α) (k j : Nat) : CV := (c (g k)).getD j .any
theorem rowN_imm (hc : ∀ x, (c x).all immC = true) (g : Nat → α) (k j : Nat) : immC (rowN c g k j) = true := lF_imm (hc _) 0 j
end rows
end
/- Short forms of what is printed often: proofs by default. -/
theorem qr2 {A0 A1 N G : Prop} (f : A0 → A1 → N → G) (hn : N) (h0 : A0 := by exact rfl) (h1 : A1 := by exact rfl) : G := f h0 h1 hn
theorem qr3 {A0 A1 A2 N G : Prop} (f : A0 → A1 → A2 → N → G) (hn : N) (h0 : A0 := by exact rfl) (h1 : A1 := by exact rfl) (h2 : A2 := by exact rfl) : G := f h0 h1 h2 hn
theorem qr4 {A0 A1 A2 A3 N G : Prop} (f : A0 → A1 → A2 → A3 → N → G) (hn : N) (h0 : A0 := by exact rfl) (h1 : A1 := by exact rfl) (h2 : A2 := by exact rfl) (h3 : A3 := by exact rfl) : G := f h0 h1 h2 h3 hn
theorem qr5 {A0 A1 A2 A3 A4 N G : Prop} (f : A0 → A1 → A2 → A3 → A4 → N → G) (hn : N) (h0 : A0 := by exact rfl) (h1 : A1 := by exact rfl) (h2 : A2 := by exact rfl) (h3 : A3 := by exact rfl) (h4 : A4 := by exact rfl) : G := f h0 h1 h2 h3 h4 hn
theorem qr5f {A0 A1 A2 A3 A4 A5 N G : Prop} (f : A0 → A1 → A2 → A3 → A4 → A5 → N → G) (hn : N) (h0 : A0 := by exact rfl) (h1 : A1 := by exact rfl) (h2 : A2 := by exact rfl) (h3 : A3 := by exact rfl) (h4 : A4 := by exact rfl) (h5 : A5 := by exact cmF) : G := f h0 h1 h2 h3 h4 h5 hn
theorem qr5o {A0 A1 A2 A3 A4 A5 N G : Prop} (f : A0 → A1 → A2 → A3 → A4 → A5 → N → G) (hn : N) (h0 : A0 := by exact rfl) (h1 : A1 := by exact rfl) (h2 : A2 := by exact rfl) (h3 : A3 := by exact rfl) (h4 : A4 := by exact rfl) (h5 : A5 := by exact oM) : G := f h0 h1 h2 h3 h4 h5 hn
theorem qr7 {A0 A1 A2 A3 A4 A5 A6 N G : Prop} (f : A0 → A1 → A2 → A3 → A4 → A5 → A6 → N → G) (hn : N) (h0 : A0 := by exact rfl) (h1 : A1 := by exact rfl) (h2 : A2 := by exact rfl) (h3 : A3 := by exact rfl) (h4 : A4 := by exact rfl) (h5 : A5 := by exact rfl) (h6 : A6 := by exact rfl) : G := f h0 h1 h2 h3 h4 h5 h6 hn
theorem qr8 {A0 A1 A2 A3 A4 A5 A6 A7 N G : Prop} (f : A0 → A1 → A2 → A3 → A4 → A5 → A6 → A7 → N → G) (hn : N) (h0 : A0 := by exact rfl) (h1 : A1 := by exact rfl) (h2 : A2 := by exact rfl) (h3 : A3 := by exact rfl) (h4 : A4 := by exact rfl) (h5 : A5 := by exact rfl) (h6 : A6 := by exact rfl) (h7 : A7 := by exact rfl) : G := f h0 h1 h2 h3 h4 h5 h6 h7 hn
theorem qr8eo2 {A0 A1 A2 A3 A4 A5 A6 A7 A8 A9 A10 N G : Prop} (f : A0 → A1 → A2 → A3 → A4 → A5 → A6 → A7 → A8 → A9 → A10 → N → G) (hn : N) (h0 : A0 := by exact rfl) (h1 : A1 := by exact rfl) (h2 : A2 := by exact rfl) (h3 : A3 := by exact rfl) (h4 : A4 := by exact rfl) (h5 : A5 := by exact rfl) (h6 : A6 := by exact rfl) (h7 : A7 := by exact rfl) (h8 : A8 := by first | rfl | omega) (h9 : A9 := by exact oM) (h10 : A10 := by exact oM) : G := f h0 h1 h2 h3 h4 h5 h6 h7 h8 h9 h10 hn
theorem qr9e2o2 {A0 A1 A2 A3 A4 A5 A6 A7 A8 A9 A10 A11 A12 N G : Prop} (f : A0 → A1 → A2 → A3 → A4 → A5 → A6 → A7 → A8 → A9 → A10 → A11 → A12 → N → G) (hn : N) (h0 : A0 := by exact rfl) (h1 : A1 := by exact rfl) (h2 : A2 := by exact rfl) (h3 : A3 := by exact rfl) (h4 : A4 := by exact rfl) (h5 : A5 := by exact rfl) (h6 : A6 := by exact rfl) (h7 : A7 := by exact rfl) (h8 : A8 := by exact rfl) (h9 : A9 := by first | rfl | omega) (h10 : A10 := by first | rfl | omega) (h11 : A11 := by exact oM) (h12 : A12 := by exact oM) : G := f h0 h1 h2 h3 h4 h5 h6 h7 h8 h9 h10 h11 h12 hn
theorem qr10eo {A0 A1 A2 A3 A4 A5 A6 A7 A8 A9 A10 A11 N G : Prop} (f : A0 → A1 → A2 → A3 → A4 → A5 → A6 → A7 → A8 → A9 → A10 → A11 → N → G) (hn : N) (h0 : A0 := by exact rfl) (h1 : A1 := by exact rfl) (h2 : A2 := by exact rfl) (h3 : A3 := by exact rfl) (h4 : A4 := by exact rfl) (h5 : A5 := by exact rfl) (h6 : A6 := by exact rfl) (h7 : A7 := by exact rfl) (h8 : A8 := by exact rfl) (h9 : A9 := by exact rfl) (h10 : A10 := by first | rfl | omega) (h11 : A11 := by exact oM) : G := f h0 h1 h2 h3 h4 h5 h6 h7 h8 h9 h10 h11 hn
theorem qr11 {A0 A1 A2 A3 A4 A5 A6 A7 A8 A9 A10 N G : Prop} (f : A0 → A1 → A2 → A3 → A4 → A5 → A6 → A7 → A8 → A9 → A10 → N → G) (hn : N) (h0 : A0 := by exact rfl) (h1 : A1 := by exact rfl) (h2 : A2 := by exact rfl) (h3 : A3 := by exact rfl) (h4 : A4 := by exact rfl) (h5 : A5 := by exact rfl) (h6 : A6 := by exact rfl) (h7 : A7 := by exact rfl) (h8 : A8 := by exact rfl) (h9 : A9 := by exact rfl) (h10 : A10 := by exact rfl) : G := f h0 h1 h2 h3 h4 h5 h6 h7 h8 h9 h10 hn
theorem qr5t {A0 A1 A2 A3 A4 A5 N G : Prop} (f : A0 → A1 → A2 → A3 → A4 → A5 → N → G) (hn : N) (h0 : A0 := by exact rfl) (h1 : A1 := by exact rfl) (h2 : A2 := by exact rfl) (h3 : A3 := by exact rfl) (h4 : A4 := by exact rfl) (h5 : A5 := by exact cmT) : G := f h0 h1 h2 h3 h4 h5 hn
theorem qr4w2 {A0 A1 A2 A3 A4 A5 N G : Prop} (f : A0 → A1 → A2 → A3 → A4 → A5 → N → G) (hn : N) (h0 : A0 := by exact rfl) (h1 : A1 := by exact rfl) (h2 : A2 := by exact rfl) (h3 : A3 := by exact rfl) (h4 : A4 := by omega) (h5 : A5 := by omega) : G := f h0 h1 h2 h3 h4 h5 hn
theorem qr4w3 {A0 A1 A2 A3 A4 A5 A6 N G : Prop} (f : A0 → A1 → A2 → A3 → A4 → A5 → A6 → N → G) (hn : N) (h0 : A0 := by exact rfl) (h1 : A1 := by exact rfl) (h2 : A2 := by exact rfl) (h3 : A3 := by exact rfl) (h4 : A4 := by omega) (h5 : A5 := by omega) (h6 : A6 := by omega) : G := f h0 h1 h2 h3 h4 h5 h6 hn
theorem qr3w2 {A0 A1 A2 A3 A4 N G : Prop} (f : A0 → A1 → A2 → A3 → A4 → N → G) (hn : N) (h0 : A0 := by exact rfl) (h1 : A1 := by exact rfl) (h2 : A2 := by exact rfl) (h3 : A3 := by omega) (h4 : A4 := by omega) : G := f h0 h1 h2 h3 h4 hn
theorem allT {P : Prop} (h : P := by repeat (first | exact trivial | refine ⟨⟨_, rfl, by first | exact LeA.c (LeC.refl _ rfl) | exact LeA.c (LeC.ow _ _ rfl) | exact LeA.c (LeC.pt _ _ _ _ _ rfl) | exact LeA.c (LeC.nil _ rfl) | exact LeA.c (LeC.nils _ _) | (refine LeA.int ?_; omega) | (refine LeA.int ?_; dsimp only; omega) | exact LeA.c (LeC.fz rfl rfl (by first | rfl | omega) (fun i _ j _ => ⟨rfl, by first | rfl | exact rowN_imm (fun _ => rfl) _ i j | exact rowF_imm (fun _ => rfl) _ i j⟩))⟩, ?_⟩)) : P := h
theorem allH {P : Prop} (h : P := by repeat (first | exact trivial | refine ⟨by first | exact HeapOk.same rfl rfl rfl rfl | exact HeapOk.lent rfl rfl rfl rfl | exact HeapOk.nil rfl rfl | exact HeapOk.row rfl rfl (by first | rfl | omega) (fun i _ j _ => ⟨rfl, by first | rfl | exact rowN_imm (fun _ => rfl) _ i j | exact rowF_imm (fun _ => rfl) _ i j⟩) | exact HeapOk.box rfl rfl (by repeat (first | exact trivial | refine ⟨by first | exact LeC.refl _ rfl | exact LeC.ow _ _ rfl | exact LeC.nil _ rfl | exact LeC.nils _ _ | exact LeC.fz rfl rfl (by first | rfl | omega) (fun i _ j _ => ⟨rfl, by first | rfl | exact rowN_imm (fun _ => rfl) _ i j | exact rowF_imm (fun _ => rfl) _ i j⟩) | exact LeC.int (by omega), ?_⟩)) rfl, ?_⟩)) : P := h
theorem cnT {P : Prop} (h : P := by first | rfl | assumption | exact cmT) : P := h
theorem cnF {P : Prop} (h : P := by first | rfl | assumption | exact cmF) : P := h
theorem aB : type_of% @AList.nil := @AList.nil
theorem aG : type_of% @AList.skip := @AList.skip
theorem aH : type_of% @AList.call := @AList.call
theorem aJ : type_of% @AList.cmpF := @AList.cmpF
theorem aK : type_of% @AList.cmpT := @AList.cmpT
theorem aL : type_of% @AList.add := @AList.add
theorem aM : type_of% @AList.alloc := @AList.alloc
theorem aN : type_of% @AList.extract := @AList.extract
theorem aO : type_of% @AList.lenLs := @AList.lenLs
theorem aP : type_of% @AList.idx := @AList.idx
theorem aQ : type_of% @AList.box := @AList.box
theorem aR : type_of% @AList.pickF := @AList.pickF
theorem aS : type_of% @AList.pickT := @AList.pickT
theorem aT : type_of% @AList.loadAl := @AList.loadAl
theorem aV : type_of% @AList.load1l := @AList.load1l
theorem aW : type_of% @AList.cmp := @AList.cmp
theorem aX : type_of% @AList.buildSt := @AList.buildSt
section
variable {P : Program}
section ops
variable {ops : Array Oper} {rest : List Oper} {acc : List (List Nat × List Nat)} {S : St} {Q : List (List Nat × List Nat) → St → Prop} {dst : Option Tmp} {ty : TypeId} {pos : String} {after : Array Edge} {guard : Option (Nat × Bool)}
section
variable {tab : List (TypeId × TD)}
theorem AList.litOw (T : tabOk P tab = true) {id t el len : Nat} {d e : TD} {ps : Array (Nat × Operand)} {pv : List (Nat × List CV)} {l : List CV} (hw : S.wants ops { dst := some id, op := .buildSlice t len ps, type := ty, pos, after, guard } = some true) (hd : dOk S.n (some id) = true) (hf : S.fr id = true)
 (ht : assoc tab t = some d) (hk : d.k = .sl el) (he : assoc tab el = some e) (ho : vsOne e.zero = true) (hp : partsV S ps.toList = some pv) (hpos : Nat.beq (len * e.size) 0 = false) (hsm : Nat.ble (len * e.size) 65536 = true)
 (hl : fillC (fun i => some (i * e.size, e.size)) ((List.range (len * e.size)).map fun p => .p (e.zero.getD (p % e.size) undef)) pv = some l)
 (hn : AList P ops rest (([id], [id, id]) :: acc) (S.eff (some id) ⟨.c (.ow id), [(id, some ⟨true, len, e.size, el, sF l e.size⟩)], [id]⟩) Q) : AList P ops ({ dst := some id, op := .buildSlice t len ps, type := ty, pos, after, guard } :: rest) acc S Q :=
 AList.new (B := ⟨true, len, e.size, el, sF l e.size⟩) [] hw hd hf (fun S1 h1 _ b0 σ a w R => by
  obtain ⟨inf, z, u, i1, i2, i3, i4, i5, i6, -⟩ := ty_info T he
  have hp1 : partsV S1 ps.toList = some pv := (partsV_congr fun p hp => h1 p.2 (by simp only [Op.operands]; simp; exact ⟨p.1, by simpa using hp⟩)).trans hp
  obtain ⟨q1, q2⟩ := parts_rep R hp1
  have hne : ¬ len * e.size = 0 := fun h => by rw [h] at hpos; cases hpos
  have hzs : z.cells.size = e.size := by rw [i5]; simp [i6]
  have hep : 0 < e.size := Nat.pos_of_ne_zero fun h => hne (by rw [h, Nat.mul_zero])
  have hz0 : RepL (RepC σ (out b0 σ S1.h) w) ((List.range (len * e.size)).map fun p => CV.p (e.zero.getD (p % e.size) undef)) ((Array.range (len * inf.size)).map (z.cells[· % z.cells.size]!)).toList := by
   rw [i2]
   refine RepL.of_get (by simp) fun i x v g1 g2 => ?_
   have hi : i < len * e.size := by have := (List.getElem?_eq_some_iff.1 g1).1; simpa using this
   have hm : i % e.size < e.zero.length := by rw [i6]; exact Nat.mod_lt _ hep
   rw [List.getElem?_map, List.getElem?_range hi] at g1
   cases g1
   have : v = e.zero[i % e.size] := by
    rw [Array.getElem?_toList] at g2
    have hm2 : i % z.cells.size < z.cells.size := by rw [hzs]; exact Nat.mod_lt _ hep
    simp [hi] at g2
    rw [← g2]
    have h3 : i % z.cells.size = i % e.size := by rw [hzs]
    simp only [h3]
    simp [i5, hm]
   subst this
   show RepC _ _ _ (CV.p (e.zero.getD (i % e.size) undef)) _
   rw [show e.zero.getD (i % e.size) undef = e.zero[i % e.size] by simp [List.getD, hm]]
   exact ⟨List.all_eq_true.1 ho _ (List.getElem_mem hm), rfl⟩
  obtain ⟨cs', r1, r2⟩ := fill_rep (R := RepC σ (out b0 σ S1.h) w) (place' := fun i => some (i * inf.size, inf.size)) (fun i => by rw [i2]) hl hz0 q1 q2
  have hrun := run_buildSlice (P := P) w t el len (ps.map fun p => (p.1, a.eval p.2)) cs' inf z (ty_sl T ht hk) i1 i4 (by rw [i2]; have := Nat.ble_eq.mp hsm; omega) (by rw [i2]; exact hne) (by simpa using r1)
  have hex : (execOp a.eval { dst := some id, op := .buildSlice t len ps, type := ty, pos, after, guard }).run P w = .ok (.value (.slice (some ⟨w.heap.size, 0, none⟩) len len)) (w.alloc (.cells cs' el)) := by
   simp only [execOp, hrun, Sem.run_bind, Result.andThen_ok, Sem.run_pure]
  have hcl := r2.length
  have hll : l.length = len * e.size := by
   have : ∀ (pv : List (Nat × List CV)) (c l : List CV), fillC (fun i => some (i * e.size, e.size)) c pv = some l → l.length = c.length := by
    intro pv
    induction pv with
    | nil => intro c l h; cases h; rfl
    | cons p pv ih =>
      intro c l h
      unfold fillC at h
      simp only at h
      cases hb : (Nat.beq p.2.length e.size && Nat.ble (p.1 * e.size + p.2.length) c.length) with
      | false => rw [hb] at h; cases h
      | true =>
        rw [hb] at h
        rw [ih _ _ h]
        simp only [Bool.and_eq_true] at hb
        have := Nat.ble_eq.mp hb.2
        simp
        omega
   rw [this _ _ _ hl]
   simp
  refine ⟨.slice (some ⟨w.heap.size, 0, none⟩) len len, len, cs', hex, .inl ⟨rfl, rfl, Nat.le_refl _, ?_⟩, by simpa [hll] using hcl, fun k hk j hj => ?_, fun σ' O' w' h => rep_ow h⟩
  ·have h1 := Nat.ble_eq.mp hsm
   have h2 := Nat.le_mul_of_pos_right len hep
   simp only [maxLen]
   omega
  ·have hlt := cell_in hk hj
   have e1 := List.getElem?_eq_getElem (l := l) (i := k * e.size + j) (by rw [hll]; exact hlt)
   obtain ⟨u, f1, f2⟩ := r2.get e1
   refine ⟨u, by rw [← Array.getElem?_toList]; exact f1, ?_⟩
   have : sF l e.size k j = l[k * e.size + j]'(by rw [hll]; exact hlt) := by unfold sF; rw [List.getD_eq_getElem?_getD, e1]; rfl
   show RepC _ _ _ (sF l e.size k j) u
   rw [this]
   exact f2) hn
end
end ops
theorem ACalls.conv {f : FuncId} {args args' : List V1} {r : AV} (h : ACalls P f args r) (hc : ∀ (σ : Nat → Option Value) (O : Nat → Prop) (w : World) (vals : List Value), RepL (RepV σ O w) args' vals → RepL (RepV σ O w) args vals) : ACalls P f args' r := fun b0 vals h1 h2 h3 h4 => h b0 vals h1 h2 h3 (hc _ _ _ _ h4)
end
section
variable {P : Program}
abbrev yv (l : Nat) : Value := .func (.yield l) #[] #[]
def goesB (N : Nat) (stop : Bool) (i : Nat) : Bool := !(stop && Nat.beq (i + 1) N)
def YieldOk (P : Program) (b0 : Base) (l : Nat) (xs : Nat → List Value) (N : Nat) (stop : Bool) : Prop :=
 ∀ i, i < N → ∀ W, b0.J i false W → Keep (b0.V false) b0.w W → YieldAt Fence.wide 0 P l (xs i).toArray W fun e W' => e = .returned (.bool (goesB N stop i)) ∧ b0.J (i + 1) (!goesB N stop i) W' ∧ Keep (b0.V (!goesB N stop i)) W W'
def itG (P : Program) (l : Nat) (xs : Nat → List Value) (N : Nat) (stop : Bool) (b : Base) : Prop := b.rd = none ∧ (∀ k, ¬ b.Y k) ∧ (∀ k, b.V false k → b.V true k) ∧ YieldOk P b l xs N stop
def St.yielded (S : St) (dst : Option Tmp) (g : Bool) : St :=
 { S with t := match dst with | some d => put S.t d (some (.c (.p (.bool g)))) | none => S.t, gs := S.gs + 1, dd := !g }
theorem Marks.keep2 {n0 : Nat} {O : Nat → Prop} {w w' : World} (hK : Keep O w w') (hO : ∀ D, O D → D < n0) : ∀ {ds : List Deferred}, Marks n0 ds w → Marks n0 ds w'
 | [], _ => trivial
 | _ :: _, ⟨⟨D, e1, e2, e3, e4⟩, h⟩ => ⟨⟨D, e1, e2, (hK.block D (Array.getElem?_eq_some_iff.1 e3).1 fun ho => by have := hO D ho; omega).trans e3, e4⟩, h.keep2 hK hO⟩
theorem opds_p {b0 : Base} {σ : Nat → Option Value} {S : St} {a : Act} {w : World} (R : Rel0 b0 σ S a w) {xs : List Operand} {vs : List Value} (h : S.opds xs = some (vs.map fun v => .c (.p v))) : xs.map a.eval = vs := by
 have := opds_rep R h
 have key : ∀ (vs us : List Value), RepL (RepV σ (out b0 σ S.h) w) (vs.map fun v => V1.c (.p v)) us → us = vs := fun vs => by
  induction vs with
  | nil => intro us h; cases us with
    | nil => rfl
    | cons u us => exact h.elim
  | cons v vs ih => intro us h; cases us with
    | nil => exact h.elim
    | cons u us => rw [ih us h.2, show u = v from h.1.2]
 exact key _ _ this
theorem Rel0.yield {b0 : Base} {σ : Nat → Option Value} {S : St} {a : Act} {w w' : World} {dst : Option Tmp} {g : Bool} (R : Rel0 b0 σ S a w) (hd : dOk S.n dst = true) (hdd : S.dd = false) (hY : ∀ k, ¬ b0.Y k) (hV : ∀ k, b0.V false k → b0.V true k)
 (hK : Keep (b0.V (!g)) w w') (hJ : b0.J (S.gs + 1) (!g) w') : Rel0 b0 σ (S.yielded dst g) (a.put dst (.bool g)) w' := by
 have hVlt : ∀ {d k}, b0.V d k → k < b0.w.heap.size := fun h => b0.lt _ (b0.vx _ _ h)
 have hKo : Keep (out b0 σ S.h) w w' := hK.less fun k hk => .inr (b0.vx _ _ hk)
 have hext := R.ext
 unfold wild at hext
 rw [hdd] at hext
 refine ⟨by rw [defers_put]; exact R.df.keep2 hK fun D h => hVlt h, size_put.trans R.sz, ?_, ⟨fun id B hB => ?_, R.hp.inj, R.hp.new, R.hp.fx, R.hp.big⟩, fun t x ht => ?_, R.fr, R.le, R.gd, hJ⟩
 ·refine (hext.less fun b hb => ?_).trans hK fun i h => .inr (.inr h)
  rcases hb with hb | hb
  ·exact .inl hb
  ·refine .inr ?_
   show b0.V (!g) b
   cases g with
   | true => exact hb
   | false => exact hV b hb
 ·obtain ⟨v, e1, e2⟩ := R.hp.blk id B hB
  refine ⟨v, e1, e2.keep hKo (fun b hb => .inl hb) (fun _ _ h => h) fun b hb => ?_⟩
  have ho : own σ S.h b := ⟨id, v, by rw [show S.h id = some B from hB]; simp, e1, hb⟩
  refine hK.block b (R.hp.lt ho) fun h => ?_
  rcases R.hp.new b ho with h1 | h1
  ·have := hVlt h; omega
  ·exact hY b h1
 ·have keep : ∀ {t x}, S.t t = some x → RepA σ (out b0 σ S.h) w' x (a.tmps.getD t undef) := fun h => (R.sl _ _ h).keep hKo (fun b hb => .inl hb) fun _ _ h => h
  cases dst with
  | none => exact keep ht
  | some d =>
    have hlt : d < a.tmps.size := by rw [R.sz]; exact Nat.blt_eq.mp hd
    rw [getD_put hlt]
    simp only [St.yielded] at ht
    by_cases e : t = d
    ·subst e
     rw [put_same] at ht
     cases ht
     rw [if_pos rfl]
     exact ⟨rfl, rfl⟩
    ·rw [put_ne _ _ e] at ht
     rw [if_neg e]
     exact keep ht
section ops
variable {ops : Array Oper} {rest : List Oper} {S : St} {Q : St → Prop} {dst : Option Tmp} {ty : TypeId} {pos : String} {after : Array Edge} {guard : Option (Nat × Bool)}
theorem AText.yield {l N i : Nat} {stop : Bool} {xs : Nat → List Value} {vs : List Value} {z : Operand} {avs : Array Operand} {ats : Array TypeId} (g : Bool) (hw : S.wants ops { dst, op := .call { callee := .value z, args := avs, argTypes := ats }, type := ty, pos, after, guard } = some true) (hd : dOk S.n dst = true)
 (hz : S.opd z = some (.c (.p (yv l)))) (ha : S.opds avs.toList = some (vs.map fun v => .c (.p v))) (hG : ∀ b, S.G b → itG P l xs N stop b) (hgs : S.gs = i) (hdd : S.dd = false) (hi : i < N) (hx : xs i = vs) (hg : goesB N stop i = g)
 (hn : AText P ops rest (S.yielded dst g) Q) : AText P ops ({ dst, op := .call { callee := .value z, args := avs, argTypes := ats }, type := ty, pos, after, guard } :: rest) S Q := ⟨fun rd b0 a w K hR hK => by
 obtain ⟨σ, R0⟩ := hR
 obtain ⟨_, hY, hV, hYo⟩ := hG b0 R0.gd
 unfold wpListIn
 rw [if_pos (wants_rep R0 hw)]
 refine ⟨fun _ _ => trivial, ?_⟩
 have hzv : a.eval z = yv l := (opd_rep R0 hz).2
 have hav := opds_p R0 ha
 have hext := R0.ext
 unfold wild at hext
 rw [hdd] at hext
 have hgh := R0.gh
 rw [hgs, hdd] at hgh
 subst hx hg
 obtain ⟨fn, tmps, assign, body, e1, e2⟩ := hYo i hi w hgh (hext.less fun b hb => hb.elim (fun h => (hY b h).elim) fun h => h)
 rw [Oper.semAt_eq _ _ _ (fun c hc => by cases hc)]
 have hrun : (execOp a.eval { dst, op := .call { callee := .value z, args := avs, argTypes := ats }, type := ty, pos, after, guard }).run P w = .ok (.round l fn tmps assign body) w := by
  have hm : avs.map a.eval = (xs i).toArray := by rw [← hav]; exact Array.ext' (by simp)
  simp only [execOp, resolve, hzv, hm, Deferred.ofValue, Sem.run_bind, Sem.run_pure, Result.andThen_ok]
  simp [invoke, e1]
 rw [hrun, Oper.uponIn_round]
 refine ⟨fun hd => (by cases hd), RoundIn.mono (F := fnc rd) e2 fun e w' ⟨h1, h2, h3⟩ => ?_⟩
 subst h1
 exact hn.get rd b0 _ _ K ⟨σ, R0.yield hd hdd hY hV h3 (by rw [hgs]; exact h2)⟩ hK⟩
end ops

def ItCalls (P : Program) (gf : FuncId) (cs : List V1) (xs : Nat → List Value) (M : Nat) : Prop :=
 ∀ (b0 : Base) (l N : Nat) (stop : Bool) (vals : List Value), b0.fix = (fun _ => none) → (∀ k, ¬ b0.Y k) → b0.rd = none → (∀ k, b0.V false k → b0.V true k) → (stop = true → 0 < N ∧ N ≤ M) → (stop = false → N = M) →
   YieldOk P b0 l xs N stop → b0.J 0 false b0.w → RepL (RepV (fun _ => none) b0.X b0.w) cs vals →
   Calls P gf (yv l :: vals).toArray b0.w fun e w' => (∃ v, e = .returned v) ∧ b0.J N stop w' ∧ Keep (b0.V stop) b0.w w'
end
section
variable {P : Program}
def fixOf (ids : List Nat) (σ : Nat → Option Value) (i : Nat) : Option Value := if 1000 ≤ i then (ids[i - 1000]?).bind σ else none
def lentBlk (ids : List Nat) (σ : Nat → Option Value) (b : Nat) : Prop := ∃ (p id : Nat) (v : Value), ids[p]? = some id ∧ σ id = some v ∧ baseBlk v = some b
theorem fixOf_some {ids : List Nat} {σ : Nat → Option Value} {i : Nat} {v : Value} (h : fixOf ids σ i = some v) : 1000 ≤ i ∧ ∃ id, ids[i - 1000]? = some id ∧ σ id = some v := by
 unfold fixOf at h
 split at h
 ·rename_i h1
  obtain ⟨id, e1, e2⟩ := Option.bind_eq_some_iff.1 h
  exact ⟨h1, id, e1, e2⟩
 ·cases h
theorem fixOf_at {ids : List Nat} {σ : Nat → Option Value} {p id : Nat} (h : ids[p]? = some id) : fixOf ids σ (1000 + p) = σ id := by
 unfold fixOf
 rw [if_pos (by omega), show 1000 + p - 1000 = p by omega, h]
 rfl
theorem posOf_none : ∀ {ids : List Nat} {id : Nat}, posOf ids id = none → ∀ (p : Nat), ids[p]? ≠ some id
 | a :: l, id, h, p => by
   unfold posOf at h
   cases hb : Nat.beq a id with
   | true => rw [hb] at h; cases h
   | false =>
     rw [hb] at h
     simp only [cond_false] at h
     cases hp : posOf l id with
     | some i => rw [hp] at h; cases h
     | none =>
       cases p with
       | zero => intro e; cases e; rw [Nat.beq_refl] at hb; cases hb
       | succ p => simpa using posOf_none hp p
 | [], _, _, p => by simp
inductive ViewC (S : St) (ids : List Nat) : CV → CV → Prop
 | imm (x : CV) (h : immC x = true) : ViewC S ids x x
 | any (x : CV) : ViewC S ids x .any
 | lend (id q sz k j : Nat) (h : (posOf ids id).map (fun p => 1000 + p) = some q) : ViewC S ids (.pt id sz k j) (.pt q sz k j)
 | ro (id n sz k j : Nat) (row : Bool) (ty : TypeId) (F G : Nat → Nat → CV) (hr : posOf ids id = none) (hh : S.h id = some ⟨row, n, sz, ty, F⟩) (hk : k < n) (hi : ∀ k, k < n → ∀ j, j < sz → immC (F k j) = true) (hc : ∀ k, k < n → ∀ j, j < sz → F k j = G k j) : ViewC S ids (.pt id sz k j) (.pl n sz G k j)
 | roRow (id n sz : Nat) (ty : TypeId) (F G : Nat → Nat → CV) (hr : posOf ids id = none) (hh : S.h id = some ⟨true, n, sz, ty, F⟩) (hi : ∀ k, k < n → ∀ j, j < sz → immC (F k j) = true) (hc : ∀ k, k < n → ∀ j, j < sz → F k j = G k j) : ViewC S ids (.ow id) (.ls n sz G)
inductive ViewA (S : St) (ids : List Nat) : AV → AV → Prop
 | c {x y : CV} (h : ViewC S ids x y) : ViewA S ids (.c x) (.c y)
 | ag {l m : List CV} (h : LeL (ViewC S ids) l m) : ViewA S ids (.ag l) (.ag m)
def AllV (S : St) (ids : List Nat) : List (Nat × AV) → Prop
 | [] => True
 | p :: r => (∃ y, S.t p.1 = some y ∧ ViewA S ids y p.2) ∧ AllV S ids r
theorem allV_mem {S : St} {ids : List Nat} : ∀ {ts : List (Nat × AV)}, AllV S ids ts → ∀ p ∈ ts, ∃ y, S.t p.1 = some y ∧ ViewA S ids y p.2
 | _ :: _, h, p, hp => by
   rcases List.mem_cons.1 hp with rfl | hp
   ·exact h.1
   ·exact allV_mem h.2 p hp
theorem ViewC.rep {b0 : Base} {σ : Nat → Option Value} {S : St} {a : Act} {w : World} {ids : List Nat} {O' : Nat → Prop} (R : Rel0 b0 σ S a w) (hp : ∀ (p id : Nat), ids[p]? = some id → S.h id ≠ none) (hO : ∀ b, O' b → lentBlk ids σ b) {x y : CV} (hv : ViewC S ids x y) {u : Value} (hu : RepC σ (out b0 σ S.h) w x u) : RepC (fixOf ids σ) O' w y u := by
 have hsub : ∀ b, O' b → out b0 σ S.h b := fun b hb => let ⟨p, id, v, h1, h2, h3⟩ := hO b hb; .inl ⟨id, v, hp p id h1, h2, h3⟩
 have hno : ∀ {id : Nat}, posOf ids id = none → S.h id ≠ none → ∀ v b, σ id = some v → baseBlk v = some b → ¬ O' b := fun {id} hr hh v b h1 h2 hb => by
  obtain ⟨p, id', v', g1, g2, g3⟩ := hO b hb
  have := R.hp.inj id id' v v' b hh (hp p id' g1) h1 g2 h2 g3
  subst this
  exact posOf_none hr p g1
 cases hv with
 | imm x h => exact repC_imm h hu.1 ((repI_imm h hu).less hsub)
 | any x => exact ⟨hu.1, trivial⟩
 | lend id q sz k j h =>
   obtain ⟨v, b, e1, e2, e3⟩ := hu.2
   obtain ⟨p, h1, rfl⟩ := Option.map_eq_some_iff.1 h
   exact ⟨hu.1, v, b, (fixOf_at (posOf_at h1)).trans e1, e2, e3⟩
 | ro id n sz k j row ty F G hr hh hk hi hc => exact ⟨hu.1, frzP_rep R.hp hh hk hi hc hsub (hno hr (by rw [hh]; simp)) hu.2⟩
 | roRow id n sz ty F G hr hh hi hc => exact ⟨hu.1, RepI.ls_congr hc (frz_rep R.hp hh hi hsub (hno hr (by rw [hh]; simp)) hu.2.1)⟩
theorem ViewL.rep {b0 : Base} {σ : Nat → Option Value} {S : St} {a : Act} {w : World} {ids : List Nat} {O' : Nat → Prop} (R : Rel0 b0 σ S a w) (hp : ∀ (p id : Nat), ids[p]? = some id → S.h id ≠ none) (hO : ∀ b, O' b → lentBlk ids σ b) : ∀ {l m : List CV} {us : List Value}, LeL (ViewC S ids) l m → RepL (RepC σ (out b0 σ S.h) w) l us → RepL (RepC (fixOf ids σ) O' w) m us
 | [], [], [], _, _ => trivial
 | x :: l, y :: m, u :: us, h, hu => ⟨h.1.rep R hp hO hu.1, ViewL.rep R hp hO h.2 hu.2⟩
 | [], _ :: _, _, h, _ => h.elim
 | _ :: _, [], _, h, _ => h.elim
 | [], [], _ :: _, _, h => h.elim
 | _ :: _, _ :: _, [], _, h => h.elim
theorem ViewA.rep {b0 : Base} {σ : Nat → Option Value} {S : St} {a : Act} {w : World} {ids : List Nat} {O' : Nat → Prop} (R : Rel0 b0 σ S a w) (hp : ∀ (p id : Nat), ids[p]? = some id → S.h id ≠ none) (hO : ∀ b, O' b → lentBlk ids σ b) {x y : AV} (hv : ViewA S ids x y) {u : Value} (hu : RepA σ (out b0 σ S.h) w x u) : RepA (fixOf ids σ) O' w y u := by
 cases hv with
 | c h => exact h.rep R hp hO hu
 | ag h => obtain ⟨vs, e, hl⟩ := hu; exact ⟨vs, e, ViewL.rep R hp hO h hl⟩
def PlainB (B : AB) : Prop := B.row = false ∧ ∀ k, k < B.n → ∀ j, j < B.sz → ∃ v, B.F k j = .p v
theorem PlainB.no_mo {B : AB} {b : Nat} {o : Obj} (hp : PlainB B) (m2 : B.n = 1) (m3 : B.sz = 1) (h : MoOk (B.F 0 0) b o) : False := by
 obtain ⟨v, hv⟩ := hp.2 0 (by omega) 0 (by omega)
 rw [hv] at h
 rcases h.2 with h | ⟨K, h, _⟩ <;> cases h
theorem OBk.plain {σ σ' : Nat → Option Value} {O O' : Nat → Prop} {w w' : World} {v : Value} {B : AB} (hp : PlainB B) (h : OBk σ O w v B) (hb : ∀ b cs, baseBlk v = some b → w.heap[b]? = some (.cells cs B.ty (0, 0)) → w'.heap[b]? = w.heap[b]?) : OBk σ' O' w' v B := by
 rcases h with ⟨h, _⟩ | ⟨b, cap, cs, h1, h2, h3, h4⟩ | ⟨_, m2, m3, _, _, _, _, m5⟩
 ·rw [hp.1] at h; cases h
 rotate_left
 ·exact (hp.no_mo m2 m3 m5).elim
 ·refine .inr (.inl ⟨b, cap, cs, h1, (hb b cs h1.blk h2).trans h2, h3, fun k hk j hj => ?_⟩)
  obtain ⟨u, e1, e2⟩ := h4 k hk j hj
  obtain ⟨x, hx⟩ := hp.2 k hk j hj
  rw [hx] at e2 ⊢
  exact ⟨u, e1, e2.1, e2.2⟩
def setPs : List Tmp → List Value → List (Nat × AV)
 | p :: ps, v :: vs => (p, .c (.p v)) :: setPs ps vs
 | _, _ => []
theorem setPs_get : ∀ {ps : List Tmp} {vs : List Value} {t : Nat} {x : AV}, nodupB ps = true → assoc (setPs ps vs) t = some x → ∃ v, v ∈ vs ∧ x = .c (.p v) ∧ ∀ (tm : Array Value), (∀ p ∈ ps, p < tm.size) → ((ps.zip vs).foldl (fun t (p, v) => t.setIfInBounds p v) tm).getD t undef = v
 | p :: ps, v :: vs, t, x, hn, h => by
   unfold nodupB at hn
   rw [Bool.and_eq_true, Bool.not_eq_true'] at hn
   unfold setPs assoc at h
   cases hb : Nat.beq t p with
   | true =>
     have := Nat.eq_of_beq_eq_true hb
     subst this
     rw [hb] at h
     cases h
     refine ⟨v, by simp, rfl, fun tm hp => ?_⟩
     have hlt := hp t (by simp)
     have hout : ∀ (ps : List Tmp) (vs : List Value) (tm : Array Value), ps.any (Nat.beq t) = false → ((ps.zip vs).foldl (fun t (p, v) => t.setIfInBounds p v) tm).getD t undef = tm.getD t undef := fun ps => by
      induction ps with
      | nil => intro vs tm _; rfl
      | cons q ps ih =>
        intro vs tm hq
        rw [List.any_cons, Bool.or_eq_false_iff] at hq
        cases vs with
        | nil => rfl
        | cons y vs =>
          show ((ps.zip vs).foldl _ (tm.setIfInBounds q y)).getD t undef = _
          rw [ih vs _ hq.2]
          have hne : q ≠ t := fun e => by rw [e, Nat.beq_refl] at hq; cases hq.1
          simp [Array.getD_eq_getD_getElem?, Array.getElem?_setIfInBounds_ne hne]
     show ((ps.zip vs).foldl _ (tm.setIfInBounds t v)).getD t undef = v
     rw [hout ps vs _ hn.1]
     simp [Array.getD_eq_getD_getElem?, hlt]
   | false =>
     rw [hb] at h
     obtain ⟨u, e0, e1, e2⟩ := setPs_get hn.2 h
     exact ⟨u, List.mem_cons_of_mem _ e0, e1, fun tm hp => e2 (tm.setIfInBounds p v) fun q hq => by rw [Array.size_setIfInBounds]; exact hp q (List.mem_cons_of_mem _ hq)⟩
 | [], _, _, _, _, h => by cases h
 | _ :: _, [], _, _, _, h => by cases h
theorem setPs_no : ∀ {ps : List Tmp} {vs : List Value} {t : Nat}, vs.length = ps.length → assoc (setPs ps vs) t = none → ∀ (tm : Array Value), ((ps.zip vs).foldl (fun t (p, v) => t.setIfInBounds p v) tm).getD t undef = tm.getD t undef
 | p :: ps, v :: vs, t, hl, h, tm => by
   unfold setPs assoc at h
   cases hb : Nat.beq t p with
   | true => rw [hb] at h; cases h
   | false =>
     rw [hb] at h
     show ((ps.zip vs).foldl _ (tm.setIfInBounds p v)).getD t undef = _
     rw [setPs_no (by simpa using hl) h]
     have hne : p ≠ t := fun e => by rw [e, Nat.beq_refl] at hb; cases hb
     simp [Array.getD_eq_getD_getElem?, Array.getElem?_setIfInBounds_ne hne]
 | [], _, _, _, _, _ => rfl
 | _ :: _, [], _, hl, _, _ => by simp at hl
theorem size_foldset : ∀ (l : List (Tmp × Value)) (tm : Array Value), (l.foldl (fun t (p, v) => t.setIfInBounds p v) tm).size = tm.size
 | [], _ => rfl
 | (p, v) :: l, tm => by show (l.foldl _ (tm.setIfInBounds p v)).size = _; rw [size_foldset l]; simp
def St.inBody (S : St) : St := { S with dd := true }
def jumpC : Exit → Code
 | .exit id => .exit id
 | _ => .ret
def RetB (g : Bool) (eS : Exit) (hs' : List (Nat × AB)) (e : Exit) (S : St) : Prop :=
 (bif g then e = .normal else e = eS) ∧ ∃ S' loc, Wk S S' ∧ S'.h = assoc (loc ++ hs') ∧ loc.all (fun p => Nat.blt p.1 1000) = true
abbrev roundS (n ln : Nat) (ps : List Tmp) (vs : List Value) (ts : List (Nat × AV)) (hs : List (Nat × AB)) : St := mkG (fun _ => True) 0 false n ln (setPs ps vs ++ ts) hs []
theorem getD_assoc {tm : Array Value} {ps : List Tmp} {vs : List Value} {ts : List (Nat × AV)} {t : Nat} {x : AV} (hn : nodupB ps = true) (hl : vs.length = ps.length) (hp : ∀ p ∈ ps, p < tm.size) (h : assoc (setPs ps vs ++ ts) t = some x) :
 (∃ v, v ∈ vs ∧ x = .c (.p v) ∧ ((ps.zip vs).foldl (fun t (p, v) => t.setIfInBounds p v) tm).getD t undef = v) ∨ (assoc ts t = some x ∧ ((ps.zip vs).foldl (fun t (p, v) => t.setIfInBounds p v) tm).getD t undef = tm.getD t undef) := by
 rw [assoc_app] at h
 cases hc : assoc (setPs ps vs) t with
 | some y =>
   rw [hc] at h
   cases h
   obtain ⟨v, e0, e1, e2⟩ := setPs_get hn hc
   exact .inl ⟨v, e0, e1, e2 tm hp⟩
 | none =>
   rw [hc] at h
   exact .inr ⟨h, setPs_no hl hc tm⟩
theorem AWp.range {g : Operand} {ps : Array Tmp} {assign body : Code} {S : St} {Q : Exit → St → Prop} {gf m : Nat} {C : Nat → CV} {ys : List CV} {xs : Nat → List Value} {M N : Nat} {stop : Bool} {eS : Exit} {ids : List Nat} {bsI : Nat → List AB} {ts : List (Nat × AV)}
 (hg : S.opd g = some (.c (.fn gf m C))) (eg : ∀ args w, (callFunc gf args).run P w = .ok (.enter gf args) w) (hcs : LeL (ViewC S ids) ((List.range m).map C) ys) (hys : ys.all immC = true) (hit : ItCalls P gf (ys.map .c) xs M)
 (hrd : ∀ b, S.G b → b.rd = none) (hN1 : stop = true → 0 < N ∧ N ≤ M) (hN2 : stop = false → N = M) (hnd : nodupB ids = true) (hL : LendOk S ids (bsI 0)) (hbx : ∀ i, i ≤ N → (bsI i).length = ids.length ∧ ∀ B ∈ bsI i, PlainB B)
 (hts : AllV S ids ts) (hps : (nodupB ps.toList && ps.toList.all (fun p => Nat.blt p S.n)) = true) (hxl : ∀ i, i < N → (xs i).length = ps.size ∧ ∀ v ∈ xs i, v.oneCell' = true) (hj : eS = .ret ∨ ∃ id, eS = .exit id)
 (hround : ∀ i, i < N → AWp P assign (thenA (fun S' => S'.dd = false ∧ AWp P body (RetB (goesB N stop i) eS (lentL 0 (bsI (i + 1)))) S'.inBody) (fun _ _ => False)) (roundS S.n ids.length ps.toList (xs i) ts (lentL 0 (bsI i))))
 (hq : Q (bif stop then eS else .normal) (S.eff none ⟨.tu [], zipW ids (bsI N), []⟩)) : AWp P (.rangeFunc g ps assign body) Q S := ⟨fun b0 a w hR => by
 obtain ⟨σ, R⟩ := hR
 have hrd0 := hrd b0 R.gd
 rw [hrd0]
 rw [Bool.and_eq_true] at hps
 obtain ⟨hlen0, hat⟩ := lendOk_at hL
 have hidn : ∀ (p id : Nat), ids[p]? = some id → S.h id ≠ none := fun p id hp => by obtain ⟨B, F, _, h2, _⟩ := hat p id hp; rw [h2]; simp
 have hLo : ∀ b, lentBlk ids σ b → own σ S.h b := fun b ⟨p, id, v, h1, h2, h3⟩ => ⟨id, v, hidn p id h1, h2, h3⟩
 have hLlt : ∀ b, lentBlk ids σ b → b < w.heap.size := fun b hb => R.hp.lt (hLo b hb)
 obtain ⟨hu1, vs, hgv, hvl, hvr⟩ := opd_rep R hg
 obtain ⟨fn0, rec, hrec⟩ : ∃ (fn0 : FuncId → LoopState → Option Code → Loop) (_ : Unit), fn0 = fun fn st pe => { state := st, pending := pe, fn, tmps := a.tmps, params := ps, assign, body, defers := w.heap.size } := ⟨_, (), rfl⟩
 refine wpIn_rangeFunc ?_
 intro fn _
 obtain ⟨W1, hW1⟩ : ∃ W1, (w.alloc (.deferred (some []))).alloc (.loop (fn0 fn .ready none)) = W1 := ⟨_, rfl⟩
 have hW1s : W1.heap.size = w.heap.size + 2 := by rw [← hW1]; simp
 have hL1 : W1.heap[w.heap.size + 1]? = some (.loop (fn0 fn .ready none)) := by
  rw [← hW1]; have := World.alloc_heap_new (w.alloc (.deferred (some []))) (.loop (fn0 fn .ready none)); rwa [World.size_alloc] at this
 have hK1 : W1.heap[w.heap.size]? = some (.deferred (some [])) := by
  rw [← hW1]; exact (Below.heap_alloc _ _ _ (by simp)).trans (World.alloc_heap_new w _)
 have hE1 : Ext w W1 := by rw [← hW1]; exact (((Ext.refl w).alloc _).alloc _)
 obtain ⟨jc, hjc⟩ : ∃ jc, jumpC eS = jc := ⟨_, rfl⟩
 let J : Nat → Bool → World → Prop := fun i d W => (∀ (p id : Nat) (B : AB), ids[p]? = some id → (bsI i)[p]? = some B → PlainB B → ∃ v, σ id = some v ∧ OBk (fun _ => none) (fun _ => False) W v B) ∧ (d = true → W.heap[w.heap.size + 1]? = some (.loop (fn0 fn .done (some jc))))
 have hJ0 : J 0 false W1 := by
  refine ⟨fun p id B hp hB hpl => ?_, fun h => by cases h⟩
  obtain ⟨B', F, h1, h2, _, h4⟩ := hat p id hp
  rw [hB] at h1
  cases h1
  obtain ⟨v, e1, e2⟩ := R.hp.blk id _ h2
  refine ⟨v, e1, ?_⟩
  rcases e2 with ⟨h, _⟩ | ⟨b, cap, cs, g1, g2, g3, g4⟩ | ⟨_, m2, m3, _, _, _, _, m5⟩
  ·rw [hpl.1] at h; cases h
  rotate_left
  ·replace m2 : B.n = 1 := m2
   replace m3 : B.sz = 1 := m3
   replace m5 : MoOk (F 0 0) _ _ := m5
   rw [(h4 0 (by omega) 0 (by omega)).1] at m5
   exact (hpl.no_mo m2 m3 m5).elim
  ·refine .inr <| .inl ⟨b, cap, cs, g1, Ext.block hE1 g2, g3, fun k hk j hj => ?_⟩
   obtain ⟨u, q1, q2⟩ := g4 k hk j hj
   obtain ⟨x, hx⟩ := hpl.2 k hk j hj
   simp only [(h4 k hk j hj).1, hx] at q2
   rw [hx]
   exact ⟨u, q1, q2.1, q2.2⟩
 have hJk : ∀ i d O A B, J i d A → Keep O A B → (∀ k, O k → W1.heap.size ≤ k ∨ False) → J i d B := fun i d O A B ⟨h1, h2⟩ hK hO => by
  have hno : ∀ k, k < W1.heap.size → ¬ O k := fun k hk ho => (hO k ho).elim (fun h => by omega) id
  refine ⟨fun p id B' hp hB hpl => ?_, fun hd => (hK.block _ (Array.getElem?_eq_some_iff.1 (h2 hd)).1 (hno _ (by omega))).trans (h2 hd)⟩
  obtain ⟨v, e1, e2⟩ := h1 p id B' hp hB hpl
  exact ⟨v, e1, e2.plain hpl fun b cs hb hc => hK.block b (Array.getElem?_eq_some_iff.1 hc).1 (hno b (by have := hLlt b ⟨p, id, v, hp, e1, hb⟩; omega))⟩
 let V : Bool → Nat → Prop := fun d b => lentBlk ids σ b ∨ (d = true ∧ b = w.heap.size + 1)
 let bI : Base := ⟨W1, fun b => lentBlk ids σ b ∨ b = w.heap.size + 1, fun _ => False, fun _ => none, fun b hb => hb.elim (fun h => by have := hLlt b h; omega) (fun h => by omega), fun b hb => hb.elim, fun b _ h => h, fun i v h => (by cases h), V, J, none, fun d b hb => hb.imp id fun h => h.2, hJk⟩
 refine ⟨w.heap.size + 1, [{ target := .collected w.heap.size, args := #[] }], W1, { target := .fn (.func gf) vs.toArray, args := #[yv (w.heap.size + 1)] }, W1, gf, (yv (w.heap.size + 1) :: vs).toArray, W1, ?_, ?_, fun _ _ => trivial, ?_, fun hd => (by cases hd), ?_⟩
 ·rw [← hW1, hrec]; exact run_enterLoop_outer _ _ _ _ _
 ·simp only [resolve, hgv]
  simp [go_sem]
 ·simp [invoke, go_sem, eg]
 · -- what has been captured
   have hl : ∀ b, bI.X b → lentBlk ids σ b ∨ w.heap.size ≤ b := fun b hb => hb.imp id fun h => by omega
   have hcap : RepL (RepV (fun _ => none) bI.X W1) (ys.map .c) vs := by
    have h1 : RepL (RepC σ (out b0 σ S.h) w) ((List.range m).map C) vs := RepL.of_get (by simp [hvl]) fun i x v q1 q2 => by
     have hi : i < m := by have := (List.getElem?_eq_some_iff.1 q1).1; simpa using this
     rw [List.getElem?_map, List.getElem?_range hi] at q1
     cases q1
     obtain ⟨v', e1, e2, e3⟩ := hvr i hi
     rw [q2] at e1
     cases e1
     refine ⟨e2, ?_⟩
     cases hC : C i <;> rw [hC] at e3 <;> first | exact e3 | exact e3.elim
    have h2 := ViewL.rep (O' := lentBlk ids σ) R hidn (fun _ h => h) hcs h1
    refine RepL.of_get (by simpa using h2.length) fun i x v q1 q2 => ?_
    obtain ⟨y, e1, rfl⟩ : ∃ y, ys[i]? = some y ∧ V1.c y = x := by simpa [List.getElem?_map, Option.map_eq_some_iff] using q1
    obtain ⟨v', e2, e3⟩ := h2.get e1
    rw [q2] at e2
    cases e2
    have him := List.all_eq_true.1 hys _ (List.mem_of_getElem? e1)
    exact repC_imm him e3.1 ((repI_imm him e3).keep (Keep.of_ext hE1) hl)
   have hround' : YieldOk P bI (w.heap.size + 1) xs N stop := fun i hi W hJW hKW => by
    have hWs : w.heap.size + 2 ≤ W.heap.size := by have : W1.heap.size ≤ W.heap.size := hKW.size; omega
    have hlW : W.heap[w.heap.size + 1]? = some (.loop (fn0 fn .ready none)) := (hKW.block _ (by show _ < W1.heap.size; omega) fun h => h.elim (fun h => by have := hLlt _ h; omega) fun h => by cases h.1).trans hL1
    have hlW' : W.heap[w.heap.size + 1]? = some (.loop { state := .ready, pending := none, fn, tmps := a.tmps, params := ps, assign, body, defers := w.heap.size }) := by rw [hlW, hrec]
    have hy := run_yield (P := P) (args := (xs i).toArray) hlW' (by simpa using (hxl i hi).1)
    refine ⟨fn, _, assign, body, hy, ?_⟩
    have hfx : ∀ {i v}, fixOf ids σ i = some v → ∃ p id, i = 1000 + p ∧ ids[p]? = some id ∧ σ id = some v := fun h => by
     obtain ⟨h1, id, h2, h3⟩ := fixOf_some h
     exact ⟨_, id, by omega, h2, h3⟩
    have hbl : ∀ {p id : Nat} {v : Value}, ids[p]? = some id → σ id = some v → ∃ b, baseBlk v = some b := fun {p id v} h1 h2 => by
     have hlt := (List.getElem?_eq_some_iff.1 h1).1
     have hB := List.getElem?_eq_getElem (l := bsI i) (i := p) (by rw [(hbx i (by omega)).1]; exact hlt)
     have hpl := (hbx i (by omega)).2 _ (List.mem_of_getElem? hB)
     obtain ⟨v', e1, e2⟩ := hJW.1 p id _ h1 hB hpl
     rw [h2] at e1
     cases e1
     rcases e2 with ⟨h, _⟩ | ⟨b, cap, cs, g1, _⟩ | ⟨_, _, _, b, _, rfl, _⟩
     ·rw [hpl.1] at h; cases h
     ·exact ⟨b, g1.blk⟩
     ·exact ⟨b, rfl⟩
    let bA : Base := ⟨W, fun b => b = w.heap.size + 1, lentBlk ids σ, fixOf ids σ, fun b hb => by omega, fun b hb => by have := hLlt b hb; omega, fun b hb h => by have := hLlt b h; omega, fun j v hj => by
     obtain ⟨p, id, rfl, h1, h2⟩ := hfx hj
     exact ⟨by omega, hbl h1 h2⟩, fun _ b => b = w.heap.size + 1, fun _ d W => W.heap[w.heap.size + 1]? = some (.loop { fn0 fn .ready none with state := if d then .busy else .ready }), some (w.heap.size + 1), fun _ _ h => h, fun _ d O A B h hK hO => by
      refine (hK.block _ (Array.getElem?_eq_some_iff.1 h).1 fun ho => ?_).trans h
      rcases hO _ ho with h | h
      ·have : W.heap.size ≤ w.heap.size + 1 := h
       omega
      ·have := hLlt _ h; omega⟩
    have hKw : Keep (lentBlk ids σ) w W := (Keep.of_ext (O := lentBlk ids σ) hE1).trans (hKW.less (O' := lentBlk ids σ) fun b hb => hb.elim id fun h => by cases h.1) fun k hk => .inr hk
    have hown : ∀ b, own (fixOf ids σ) (assoc (lentL 0 (bsI i))) b → lentBlk ids σ b := fun b ⟨j, v, _, h2, h3⟩ => by
     obtain ⟨p, id, rfl, a1, a2⟩ := hfx h2
     exact ⟨p, id, v, a1, a2, h3⟩
    have hH : HRel bA (fixOf ids σ) (assoc (lentL 0 (bsI i))) W := by
     refine ⟨fun j B hB => ?_, fun j1 j2 v1 v2 b _ _ h1 h2 e1 e2 => ?_, fun b hb => .inr (hown b hb), fun j v hj => ⟨hj, ?_⟩, fun j _ hj => hj⟩
     ·rw [lentL_at] at hB
      split at hB
      ·rename_i h1
       obtain ⟨p, rfl⟩ : ∃ p, j = 1000 + p := ⟨j - 1000, by omega⟩
       rw [show 1000 + p - (1000 + 0) = p by omega] at hB
       have hlt := (List.getElem?_eq_some_iff.1 hB).1
       have hid := List.getElem?_eq_getElem (l := ids) (i := p) (by rw [← (hbx i (by omega)).1]; exact hlt)
       have hpl := (hbx i (by omega)).2 _ (List.mem_of_getElem? hB)
       obtain ⟨v, e1, e2⟩ := hJW.1 _ _ B hid hB hpl
       exact ⟨v, (fixOf_at hid).trans e1, e2.plain hpl fun _ _ _ _ => rfl⟩
      ·cases hB
     ·obtain ⟨p1, id1, rfl, a1, a2⟩ := hfx h1
      obtain ⟨p2, id2, rfl, c1, c2⟩ := hfx h2
      have := R.hp.inj id1 id2 v1 v2 b (hidn _ _ a1) (hidn _ _ c1) a2 c2 e1 e2
      subst this
      rw [nodupB_inj hnd a1 c1]
     ·obtain ⟨p, id, rfl, a1, a2⟩ := hfx hj
      rw [lentL_at, if_pos (by omega), show 1000 + p - (1000 + 0) = p by omega]
      have := (List.getElem?_eq_some_iff.1 a1).1
      rw [List.getElem?_eq_getElem (by rw [(hbx i (by omega)).1]; exact this)]
      simp
    have hfold : (ps.zip (xs i).toArray).foldl (fun tmps (t, a) => tmps.setIfInBounds t a) a.tmps = (ps.toList.zip (xs i)).foldl (fun t (p, v) => t.setIfInBounds p v) a.tmps := by
     rw [← Array.foldl_toList]
     simp
    have hin : ∀ p ∈ ps.toList, p < a.tmps.size := fun p hp => by rw [R.sz]; exact Nat.blt_eq.mp (List.all_eq_true.1 hps.2 p hp)
    have hRA : Rel bA (roundS S.n ids.length ps.toList (xs i) ts (lentL 0 (bsI i))) { tmps := (ps.zip (xs i).toArray).foldl (fun tmps (t, a) => tmps.setIfInBounds t a) a.tmps, defers := [] } W := by
     refine ⟨fixOf ids σ, trivial, ?_, ⟨rfl, rfl, rfl, Nat.le_refl _, fun _ _ _ => rfl⟩, hH, fun t x hx => ?_, fun id hid => ?_, fun j v hj => ?_, trivial, ?_⟩
     ·show Array.size _ = S.n
      rw [hfold, size_foldset]; exact R.sz
     ·show RepA _ _ W x (Array.getD _ t undef)
      rw [hfold]
      rcases getD_assoc (tm := a.tmps) hps.1 (by simpa using (hxl i hi).1) hin hx with ⟨v, h0, rfl, h2⟩ | ⟨h1, h2⟩
      ·rw [h2]
       exact ⟨(hxl i hi).2 v h0, rfl⟩
      ·rw [h2]
       obtain ⟨y, q1, q2⟩ := allV_mem hts _ (assoc_mem h1)
       exact (q2.rep (O' := lentBlk ids σ) R hidn (fun _ h => h) (R.sl t y q1)).keep hKw (fun b hb => hb.elim (fun h => .inl (hown b h)) fun h => .inr (by have : b = w.heap.size + 1 := h; omega)) fun _ _ h => h
     ·have h1 : id < 1000 := by
       have : (Nat.blt id 1000 && !(([] : List Nat).any (Nat.beq id))) = true := hid
       rw [Bool.and_eq_true] at this
       exact Nat.blt_eq.mp this.1
      refine ⟨?_, h1⟩
      unfold fixOf
      rw [if_neg (by omega)]
     ·obtain ⟨p, id, rfl, a1, a2⟩ := hfx hj
      have := (List.getElem?_eq_some_iff.1 a1).1
      show _ < 1000 + ids.length
      omega
     ·show W.heap[w.heap.size + 1]? = _
      rw [hlW, hrec]; rfl
    refine roundIn_of_wpIn (F := Fence.wide) trivial ?_
    refine wpIn_mono ((hround i hi).get bA _ W hRA) fun e a1 w1 ⟨S', ⟨σ', R'⟩, h2⟩ => ?_
    cases e with
    | normal =>
      obtain ⟨hdd, hB⟩ := h2
      have hl1 : w1.heap[w.heap.size + 1]? = some (.loop { fn0 fn .ready none with state := if S'.dd then .busy else .ready }) := R'.gh
      rw [hdd] at hl1
      have hnc : ∀ cs t p, w1.heap[w.heap.size + 1]? ≠ some (.cells cs t p) := fun cs t p h => by rw [hl1] at h; cases h
      have hbr := run_beginRound (P := P) hl1 rfl
      refine ⟨_, hbr, ?_⟩
      obtain ⟨w2, hw2⟩ : ∃ w2, w1.putObj (w.heap.size + 1) (.loop { { fn0 fn .ready none with state := if false = true then .busy else .ready } with state := .busy }) = w2 := ⟨_, rfl⟩
      rw [hw2]
      have hoth : ∀ k, k ≠ w.heap.size + 1 → w2.heap[k]? = w1.heap[k]? := fun k hk => by rw [← hw2]; exact World.putObj_heap_other hk
      have hcc : ∀ a v, w1.cell? a = some v → w2.cell? a = some v := by rw [← hw2]; exact cell_turn hnc
      have hKp : Keep (fun k => k = w.heap.size + 1) w1 w2 := by rw [← hw2]; exact ⟨rfl, rfl, rfl, by rw [World.putObj_size]; exact Nat.le_refl _, fun k _ hk => World.putObj_heap_other hk⟩
      have R2 : Rel0 bA σ' S'.inBody a1 w2 := ⟨R'.df.keep2 hKp fun D h => by show D < W.heap.size; omega, R'.sz,
       (R'.ext.less (O' := wild bA S'.inBody) fun b hb => hb).trans hKp fun k hk => .inr (.inr hk), R'.hp.turn hnc (fun o h => by rw [hl1] at h; cases h; rfl) hoth hcc, fun t x hx => (R'.sl t x hx).cells hcc, R'.fr, R'.le, R'.gd, by
         show w2.heap[w.heap.size + 1]? = _
         rw [← hw2, World.putObj_heap_same (Array.getElem?_eq_some_iff.1 hl1).1]
         rfl⟩
      refine wpIn_mono (hB.get bA a1 w2 ⟨σ', R2⟩) fun e a3 W3 ⟨S3, hR3, h3, S'', loc, hwk, hS'', hlc⟩ => ?_
      obtain ⟨σ3, R3⟩ := hR3
      obtain ⟨σ4, R4⟩ := hwk bA a3 W3 ⟨σ3, R3⟩
      have hl3 : W3.heap[w.heap.size + 1]? = some (.loop { fn0 fn .ready none with state := if S3.dd then .busy else .ready }) := R3.gh
      have fin : ∀ jump : Option Code, jump.isNone = goesB N stop i → (goesB N stop i = false → jump = some jc) → ∃ w', (Instr.endRound (w.heap.size + 1) jump).run P W3 = .ok (.bool (goesB N stop i)) w' ∧ J (i + 1) (!goesB N stop i) w' ∧ Keep (V (!goesB N stop i)) W w' := fun jump hjn hjc' => by
       obtain ⟨o, hrun, ho⟩ : ∃ o, (Instr.endRound (w.heap.size + 1) jump).run P W3 = .ok (.bool jump.isNone) (W3.putObj (w.heap.size + 1) (.loop o)) ∧ o = fn0 fn (if jump.isNone then .ready else .done) jump := ⟨_, run_endRound (P := P) jump hl3, by rw [hrec]⟩
       refine ⟨W3.putObj (w.heap.size + 1) (.loop o), by rw [← hjn]; exact hrun, ⟨fun p id B hp hB hpl => ?_, fun hd => ?_⟩, ⟨R4.ext.os, R4.ext.tape, R4.ext.output, by rw [World.putObj_size]; exact R4.ext.size, fun k hk hno => ?_⟩⟩
       ·have hBs : S''.h (1000 + p) = some B := by
         rw [hS'', assoc_app]
         have : assoc loc (1000 + p) = none := by
          cases hc : assoc loc (1000 + p) with
          | none => rfl
          | some B' =>
            have h2 := Nat.blt_eq.mp (List.all_eq_true.1 hlc _ (assoc_mem hc))
            simp only at h2
            omega
         rw [this, lentL_at, if_pos (by omega), show 1000 + p - (1000 + 0) = p by omega]
         exact hB
        obtain ⟨v, e1, e2⟩ := R4.hp.blk _ _ hBs
        have hlt := (List.getElem?_eq_some_iff.1 hp).1
        have hB0 := List.getElem?_eq_getElem (l := bsI i) (i := p) (by rw [(hbx i (by omega)).1]; exact hlt)
        obtain ⟨v0, q1, _⟩ := hJW.1 p id _ hp hB0 ((hbx i (by omega)).2 _ (List.mem_of_getElem? hB0))
        have q2 := (R4.hp.fx (1000 + p) v0 ((fixOf_at hp).trans q1)).1
        rw [e1] at q2
        cases q2
        refine ⟨v, q1, e2.plain hpl fun b cs hb hc => World.putObj_heap_other fun e => ?_⟩
        rw [e, hl3] at hc
        cases hc
       ·have hg0 : goesB N stop i = false := by cases h : goesB N stop i with
         | false => rfl
         | true => rw [h] at hd; cases hd
        rw [World.putObj_heap_same (Array.getElem?_eq_some_iff.1 hl3).1, ho, hjc' hg0]
        rfl
       ·by_cases e : k = w.heap.size + 1
        ·subst e
         rw [World.putObj_heap_same (Array.getElem?_eq_some_iff.1 hl3).1, hlW]
         cases hg0 : goesB N stop i with
         | false => rw [hg0] at hno; exact absurd (.inr ⟨rfl, rfl⟩) hno
         | true =>
           rw [hg0] at hjn
           cases jump with
           | none => rw [ho]; rfl
           | some c => cases hjn
        ·exact (World.putObj_heap_other e).trans (R4.ext.block k hk fun h => h.elim (fun h => hno (.inl h)) e)
      have fin' : ∀ jump : Option Code, jump.isNone = goesB N stop i → (goesB N stop i = false → jump = some jc) → ∃ v w', (Instr.endRound (w.heap.size + 1) jump).run P W3 = .ok v w' ∧ Ending.returned v = .returned (.bool (goesB N stop i)) ∧ J (i + 1) (!goesB N stop i) w' ∧ Keep (V (!goesB N stop i)) W w' := fun jump a b => let ⟨w', q1, q2, q3⟩ := fin jump a b; ⟨_, w', q1, rfl, q2, q3⟩
      cases hg0 : goesB N stop i with
      | true =>
        rw [hg0] at h3
        obtain rfl : e = .normal := h3
        have := fin' none (by rw [hg0]; rfl) (by rw [hg0]; intro h; cases h)
        rw [hg0] at this
        exact this
      | false =>
        rw [hg0] at h3
        obtain rfl : e = eS := h3
        have := fin' (some jc) (by rw [hg0]; rfl) (fun _ => rfl)
        rw [hg0] at this
        rcases hj with rfl | ⟨id, rfl⟩
        ·subst hjc; exact this
        ·subst hjc; exact this
    | _ => exact h2.elim
   have hVm : ∀ k, bI.V false k → bI.V true k := fun k hk => hk.elim .inl fun h => absurd h.1 (by decide)
   have hcall : Calls P gf (yv (w.heap.size + 1) :: vs).toArray W1 fun e w' => (∃ v, e = .returned v) ∧ J N stop w' ∧ Keep (V stop) W1 w' := hit bI (w.heap.size + 1) N stop vs rfl (fun _ h => h) rfl hVm hN1 hN2 hround' hJ0 hcap
   refine (wide_fnc none).calls (Calls.mono hcall ?_)
   rintro e w3 ⟨⟨v, rfl⟩, hJ3, hK3⟩
   have hK3' : Keep (V stop) W1 w3 := hK3
   have hs3 : w.heap.size + 2 ≤ w3.heap.size := by have := hK3'.size; omega
   obtain ⟨st, pe, hl3, hne, hpe⟩ : ∃ st pe, w3.heap[w.heap.size + 1]? = some (.loop (fn0 fn st pe)) ∧ st ≠ .busy ∧ pe = bif stop then some jc else none := by
    cases stop with
    | false => exact ⟨_, _, (hK3'.block _ (by omega) fun h => h.elim (fun h => by have := hLlt _ h; omega) fun h => by cases h.1).trans hL1, by simp, rfl⟩
    | true => exact ⟨_, _, hJ3.2 rfl, by simp, rfl⟩
   have hend := run_endLoop (P := P) hl3 (by rw [hrec]; exact hne)
   obtain ⟨w4, hw4⟩ : ∃ w4, w3.putObj (w.heap.size + 1) (.loop { fn0 fn st pe with state := .exhausted }) = w4 := ⟨_, rfl⟩
   rw [hw4, show (fn0 fn st pe).pending = pe by rw [hrec]] at hend
   have hoth : ∀ k, k ≠ w.heap.size + 1 → w4.heap[k]? = w3.heap[k]? := fun k hk => by rw [← hw4]; exact World.putObj_heap_other hk
   have hK4 : Keep (lentBlk ids σ) w w4 := by
    refine ⟨?_, ?_, ?_, ?_, fun k hk hno => ?_⟩
    ·rw [← hw4]; exact hK3'.os.trans hE1.os
    ·rw [← hw4]; exact hK3'.tape.trans hE1.tape
    ·rw [← hw4]; exact hK3'.output.trans hE1.output
    ·rw [← hw4, World.putObj_size]; omega
    ·exact (hoth k (by omega)).trans ((hK3'.block k (by omega) fun h => h.elim hno fun h => by omega).trans (Below.block hE1 k hk))
   have hfin : Rel b0 (S.eff none ⟨.tu [], zipW ids (bsI N), []⟩) { a with defers := { target := .collected w.heap.size, args := #[] } :: a.defers } w4 := by
    have hbl : ids.length = (bsI N).length := (hbx N (Nat.le_refl _)).1.symm
    have hlook : ∀ i, (∃ (k id : Nat) (B : AB), ids[k]? = some id ∧ (bsI N)[k]? = some B ∧ i = id ∧ look (zipW ids (bsI N)) S.h i = some B) ∨ (i ∉ ids ∧ look (zipW ids (bsI N)) S.h i = S.h i) := fun i => by
     by_cases hm : i ∈ ids
     ·obtain ⟨k, hk, e1⟩ := List.getElem_of_mem hm
      have e2 : ids[k]? = some i := by rw [List.getElem?_eq_getElem hk, e1]
      have e3 := List.getElem?_eq_getElem (l := bsI N) (i := k) (by omega)
      exact .inl ⟨k, i, _, e2, e3, rfl, zipW_in hbl hnd k _ _ S.h e2 e3⟩
     ·exact .inr ⟨hm, zipW_out i S.h hm⟩
    have hne : ∀ i, look (zipW ids (bsI N)) S.h i ≠ none ↔ S.h i ≠ none := fun i => by
     rcases hlook i with ⟨k, id, B, e1, _, rfl, e3⟩ | ⟨_, e⟩
     ·rw [e3]; exact ⟨fun _ => hidn k _ e1, fun _ => by simp⟩
     ·rw [e]
    have hown : ∀ b, own σ (look (zipW ids (bsI N)) S.h) b ↔ own σ S.h b := fun b => ⟨fun ⟨i, v, h1, h2, h3⟩ => ⟨i, v, (hne i).1 h1, h2, h3⟩, fun ⟨i, v, h1, h2, h3⟩ => ⟨i, v, (hne i).2 h1, h2, h3⟩⟩
    have hout : ∀ b, out b0 σ (look (zipW ids (bsI N)) S.h) b ↔ out b0 σ S.h b := fun b => or_congr (hown b) Iff.rfl
    have hKo : Keep (out b0 σ S.h) w w4 := hK4.less fun b hb => .inl (hLo b hb)
    refine ⟨σ, ⟨⟨_, rfl, R.ext.size, ?_, fun d' hd' => ?_⟩, R.df.keep hK4 fun D hD => R.hp.nodef (hLo D hD)⟩, R.sz, (R.ext.trans hK4 fun k hk => (R.hp.new k (hLo k hk)).imp id .inl), ⟨fun i B hB => ?_, fun i j v1 v2 b hi hj => R.hp.inj i j v1 v2 b ((hne i).1 hi) ((hne j).1 hj), fun b hb => R.hp.new b ((hown b).1 hb), fun i v hi => ⟨(R.hp.fx i v hi).1, (hne i).2 (R.hp.fx i v hi).2⟩, R.hp.big⟩, fun t x hx => ?_, fun id hid => ?_, R.le, R.gd, b0.jk _ _ _ _ _ R.gh hK4 fun k hk => R.hp.new k (hLo k hk)⟩
    ·rw [hoth _ (by omega)]
     exact (hK3'.block _ (by omega) fun h => h.elim (fun h => by have := hLlt _ h; omega) fun h => by omega).trans hK1
    ·have : ∀ {ds : List Deferred}, Marks b0.w.heap.size ds w → ∀ d ∈ ds, d ≠ { target := .collected w.heap.size, args := #[] } := fun {ds} => by
      induction ds with
      | nil => intro _ d hd; simp at hd
      | cons d0 ds ih =>
        rintro ⟨⟨D, e1, _, e3, _⟩, hm⟩ d hd
        rcases List.mem_cons.1 hd with rfl | hd
        ·rw [e1]
         intro e
         have h1 := (Array.getElem?_eq_some_iff.1 e3).1
         have : D = w.heap.size := by simpa using e
         omega
        ·exact ih hm d hd
     exact this R.df d' hd'
    ·have hB' : look (zipW ids (bsI N)) S.h i = some B := hB
     rcases hlook i with ⟨k, id, B', e1, e2, rfl, e3⟩ | ⟨hm, e⟩
     ·rw [e3] at hB'
      cases hB'
      have hpl := (hbx N (Nat.le_refl _)).2 _ (List.mem_of_getElem? e2)
      obtain ⟨v, q1, q2⟩ := hJ3.1 k _ _ e1 e2 hpl
      refine ⟨v, q1, q2.plain hpl fun b cs hb hc => hoth b fun e => ?_⟩
      rw [e, hl3] at hc
      cases hc
     ·rw [e] at hB'
      obtain ⟨v, q1, q2⟩ := R.hp.blk i B hB'
      refine ⟨v, q1, q2.keep hKo (fun b hb => .inl ((hout b).1 hb)) (fun _ _ h => h) fun b hb => hK4.block b (R.hp.lt ⟨i, v, by rw [hB']; simp, q1, hb⟩) fun ⟨p, id, v', g1, g2, g3⟩ => ?_⟩
      have := R.hp.inj i id v v' b (by rw [hB']; simp) (hidn p id g1) q1 g2 hb g3
      subst this
      exact hm (List.mem_of_getElem? g1)
    ·exact (R.sl t x hx).keep hKo (fun b hb => .inl ((hout b).1 hb)) fun _ _ h => h
    ·have : (S.fr id && !(([] : List Nat).any (Nat.beq id))) = true := hid
     rw [Bool.and_eq_true] at this
     exact R.fr id this.1
   refine ⟨pe, w4, hend, ?_⟩
   subst hpe
   cases stop with
   | false => exact ⟨_, hfin, hq⟩
   | true =>
     subst hjc
     rcases hj with rfl | ⟨id, rfl⟩
     ·exact wpIn_ret ⟨_, hfin, hq⟩
     ·exact wpIn_exit ⟨_, hfin, hq⟩⟩
end
end Go.AV
end
