/- Parts of the proof: AMem9, AMemA, AMemB, ARange. -/
import Derived.Test.YtjjaehpkccejaaaG06
import Derived.Laws.StructEq
import Derived.Laws.Cover3
import Derived.RangeFuncNested
set_option linter.unusedSimpArgs false
set_option linter.unusedVariables false
section
namespace Go.AV
open Go Go.RowKit Go.Flow
section
variable {P : Program}
theorem ECalls.of {f : FuncId} {args : List V1} {r : AV} (h : ACalls P f args r) : ECalls P f args (fun x => x = r) := fun O w vals hO hv => by
 let b0 : Base := ⟨w, O, fun _ => False, fun _ => none, hO, fun b hb => hb.elim, fun b _ h => h, fun i v h => (by cases h), fun _ _ => False, fun _ _ _ => True, none, fun _ _ h => h.elim, fun _ _ _ _ _ _ _ _ => trivial⟩
 have hO' : ∀ b, O b → out b0 (fun _ => none) (assoc []) b := fun b hb => .inr hb
 have hO2 : ∀ b, out b0 (fun _ => none) (assoc []) b → O b := fun b hb => hb.elim (fun ⟨i, v, h1, _⟩ => absurd rfl h1) fun h => h
 have he : out b0 (fun _ => none) (assoc []) = O := funext fun b => propext ⟨hO2 b, hO' b⟩
 refine (h b0 vals ⟨fun i B hB => (by cases hB), fun i j v1 v2 b hi => absurd rfl hi, fun b ⟨i, v, h1, _⟩ => absurd rfl h1, fun i v hi => (by cases hi), fun _ _ _ => rfl⟩ (fun i v h => by cases h) (fun b h => h.elim) (by rw [he]; exact hv)).mono fun e w' ⟨v, g1, g2, _, g4⟩ => ⟨v, r, g1, rfl, by rw [he] at g2; exact g2, g4.os, g4.tape, g4.output, g4.size, fun k hk => g4.block k hk fun h => h⟩
/-- The values of cells, if each is one. -/
def pvals : List CV → Option (List Value)
 | [] => some []
 | .p v :: l => (pvals l).map (v :: ·)
 | _ => none
theorem pvals_rep {σ : Nat → Option Value} {O : Nat → Prop} {w : World} : ∀ {l : List CV} {us vs : List Value}, pvals l = some us → RepL (RepC σ O w) l vs → vs = us
 | [], us, [], h, _ => by cases h; rfl
 | .p v :: l, us, u :: vs, h, hr => by
   obtain ⟨us', h1, rfl⟩ := Option.map_eq_some_iff.1 h
   rw [pvals_rep h1 hr.2, hr.1.2]
 | .p _ :: _, _, [], _, hr => hr.elim
 | [], _, _ :: _, _, hr => hr.elim
section ops
variable {ops : Array Oper} {rest : List Oper} {acc : List (List Nat × List Nat)} {S : St} {Q : List (List Nat × List Nat) → St → Prop} {dst : Option Tmp} {ty xt yt : TypeId} {pos : String} {after : Array Edge} {guard : Option (Nat × Bool)} {x y : Operand} {tab : List (TypeId × TD)}
/-- Structs of plain cells, compared. -/
theorem AList.binAg {op : BinOp} {l m : List CV} {us vs : List Value} {r : Bool} (hw : S.wants ops { dst, op := .binOp op xt x y yt, type := ty, pos, after, guard } = some true) (hd : dOk S.n dst = true) (hx : S.opd x = some (.ag l)) (hy : S.opd y = some (.ag m))
 (hl : pvals l = some us) (hm : pvals m = some vs) (hg : P.eqGuardType P.depth xt = false) (hr : ∀ w, (Go.binOp op xt (.agg us.toArray) (.agg vs.toArray)).run P w = .ok (.bool r) w)
 (hn : AList P ops rest (([], []) :: acc) (S.eff dst ⟨.c (.p (.bool r)), [], []⟩) Q) : AList P ops ({ dst, op := .binOp op xt x y yt, type := ty, pos, after, guard } :: rest) acc S Q :=
 AList.val [] _ hw hd (fun S1 g1 _ b0 σ a w R => by
  obtain ⟨us', e1, e2⟩ := opd_rep R ((g1 x (by simp [Op.operands])).trans hx)
  obtain ⟨vs', e3, e4⟩ := opd_rep R ((g1 y (by simp [Op.operands])).trans hy)
  obtain rfl := pvals_rep hl e2
  obtain rfl := pvals_rep hm e4
  refine ⟨.bool r, ?_, rep_p rfl⟩
  simp only [execOp, e1, e3, Sem.run_bind, run_eqGuard_agg w op xt x y _ _ hg, hr, Result.andThen_ok, Sem.run_pure]) hn
/-- An array in a box of ours: the address of an element. -/
theorem AList.idxArr (T : tabOk P tab = true) {t : TypeId} {id sz j i N : Nat} {d e : TD} {el : TypeId} {ki : IntKind} {n : Int} (hw : S.wants ops { dst, op := .indexAddr t x y, type := ty, pos, after, guard } = some true) (hd : dOk S.n dst = true)
 (hx : S.opd x = some (.c (.pt id sz 0 j))) (hy : S.opd y = some (.c (.p (.int ki n)))) (ht : assoc tab t = some d) (hk : d.k = .arr N el) (he : assoc tab el = some e) (hi : n = (i : Int)) (hlt : i < N)
 (hn : AList P ops rest (([], []) :: acc) (S.eff dst ⟨.c (.pt id sz 0 (j + i * e.size)), [], []⟩) Q) : AList P ops ({ dst, op := .indexAddr t x y, type := ty, pos, after, guard } :: rest) acc S Q :=
 AList.val [] _ hw hd (fun S1 h1 _ b0 σ a w R => by
  obtain ⟨-, v, b, e1, e2, e3⟩ := opd_rep R ((h1 x (by simp [Op.operands])).trans hx)
  have e4 := rep_int (opd_rep R ((h1 y (by simp [Op.operands])).trans hy))
  have g1 := ty_arr T ht hk
  obtain ⟨inf, z, u, i1, i2, i3, -⟩ := ty_info T he
  subst hi
  refine ⟨.pointer (some ⟨b, 0 * sz + (j + i * e.size), none⟩), ?_, rfl, v, b, e1, e2, rfl⟩
  have hlt' : (i : Int) < N := by omega
  simp only [execOp, e3, e4, Instr.indexAt, Instr.sureAddr, asIntOf, run_underlying g1, Sem.run_bind, Sem.run_pure, Result.andThen_ok]
  simp [sizeOf, typeInfo, i1, i2, hlt', Addr.add, Nat.add_assoc]) hn
/-- An element of an array of structs. -/
theorem AList.index (T : tabOk P tab = true) {t : TypeId} {i N : Nat} {d e : TD} {el : TypeId} {ki : IntKind} {n : Int} {l m : List CV} (hm : (l.drop (i * e.size)).take e.size = m) (hw : S.wants ops { dst, op := .index t x y, type := ty, pos, after, guard } = some true) (hd : dOk S.n dst = true)
 (hx : S.opd x = some (.ag l)) (hy : S.opd y = some (.c (.p (.int ki n)))) (ht : assoc tab t = some d) (hk : d.k = .arr N el) (he : assoc tab el = some e) (ha : isAg e.k = true) (hi : n = (i : Int)) (hlt : i < N)
 (hn : AList P ops rest (([], []) :: acc) (S.eff dst ⟨.ag m, [], []⟩) Q) : AList P ops ({ dst, op := .index t x y, type := ty, pos, after, guard } :: rest) acc S Q := by
 subst hm
 exact AList.val [] _ hw hd (fun S1 h1 _ b0 σ a w R => by
  obtain ⟨vs, e1, e2⟩ := opd_rep R ((h1 x (by simp [Op.operands])).trans hx)
  have e4 := rep_int (opd_rep R ((h1 y (by simp [Op.operands])).trans hy))
  have g1 := ty_arr T ht hk
  obtain ⟨ud, g2, g3⟩ := ty_ag T he ha
  obtain ⟨inf, z, u, i1, i2, i3, -⟩ := ty_info T he
  subst hi
  have hlt' : (i : Int) < N := by omega
  have hag : ∀ w, (isAgg el).run P w = .ok true w := fun w => by
   simp only [isAgg, Sem.run_bind, run_underlying g2, Result.andThen_ok]
   cases ud <;> first | rfl | cases g3
  refine ⟨.agg ((vs.drop (i * e.size)).take e.size).toArray, ?_, _, rfl, RepL.of_get (by simp [e2.length]) fun j x v hj hv => ?_⟩
  ·simp only [execOp, e1, e4, Instr.index, asIntOf, run_underlying g1, Sem.run_bind, Sem.run_pure, Result.andThen_ok]
   simp [hlt', part, hag, sizeOf, typeInfo, i1, i2]
  ·rw [List.getElem?_take] at hj hv
   split at hj
   ·rename_i hlt2
    rw [if_pos hlt2] at hv
    rw [List.getElem?_drop] at hj hv
    obtain ⟨v', k1, k2⟩ := e2.get hj
    rw [k1] at hv
    cases hv
    exact k2
   ·cases hj) hn
end ops
/-- Rows of structs. -/
def rowF {α : Type} (c : α → List CV) (z : α) (L : List α) (k j : Nat) : CV := (c (L.getD k z)).getD j .any
section rows
variable {α : Type} {c : α → List CV} {z : α} {sz : Nat}
theorem getD_app {L M : List α} {k : Nat} : (L ++ M).getD k z = if k < L.length then L.getD k z else M.getD (k - L.length) z := by
 simp only [List.getD_eq_getElem?_getD, List.getElem?_append]
 split <;> rfl
theorem rowF_imm (hc : ∀ x, (c x).all immC = true) (L : List α) (k j : Nat) : immC (rowF c z L k j) = true := lF_imm (hc _) 0 j
theorem row_snoc (L : List α) (x : α) (hc : ∀ x, (c x).all immC = true) (hz : (c x).length = sz) : ∀ i, i < L.length + 1 → ∀ j, j < sz → appF (rowF c z L) L.length (sF (c x) sz) i j = rowF c z (L ++ [x]) i j ∧ immC (appF (rowF c z L) L.length (sF (c x) sz) i j) = true :=
 app_F (fun i hi j _ => by simp only [rowF, getD_app, if_pos hi]) (fun j _ => by simp only [rowF, getD_app, if_neg (Nat.lt_irrefl _), Nat.sub_self]; rfl) fun i _ j _ => rowF_imm hc _ i j
def rowN (c : α → List CV) (g : Nat → α) (k j : Nat) : CV := (c (g k)).getD j .any
theorem rowN_imm (hc : ∀ x, (c x).all immC = true) (g : Nat → α) (k j : Nat) : immC (rowN c g k j) = true := lF_imm (hc _) 0 j
end rows
end
/- Short forms of what is printed often: proofs by default. -/
theorem qr2 {A0 A1 N G : Prop} (f : A0 → A1 → N → G) (hn : N) (h0 : A0 := by exact rfl) (h1 : A1 := by exact rfl) : G := f h0 h1 hn
theorem qr3 {A0 A1 A2 N G : Prop} (f : A0 → A1 → A2 → N → G) (hn : N) (h0 : A0 := by exact rfl) (h1 : A1 := by exact rfl) (h2 : A2 := by exact rfl) : G := f h0 h1 h2 hn
theorem qr4 {A0 A1 A2 A3 N G : Prop} (f : A0 → A1 → A2 → A3 → N → G) (hn : N) (h0 : A0 := by exact rfl) (h1 : A1 := by exact rfl) (h2 : A2 := by exact rfl) (h3 : A3 := by exact rfl) : G := f h0 h1 h2 h3 hn
theorem qr5 {A0 A1 A2 A3 A4 N G : Prop} (f : A0 → A1 → A2 → A3 → A4 → N → G) (hn : N) (h0 : A0 := by exact rfl) (h1 : A1 := by exact rfl) (h2 : A2 := by exact rfl) (h3 : A3 := by exact rfl) (h4 : A4 := by exact rfl) : G := f h0 h1 h2 h3 h4 hn
theorem qr5f {A0 A1 A2 A3 A4 A5 N G : Prop} (f : A0 → A1 → A2 → A3 → A4 → A5 → N → G) (hn : N) (h0 : A0 := by exact rfl) (h1 : A1 := by exact rfl) (h2 : A2 := by exact rfl) (h3 : A3 := by exact rfl) (h4 : A4 := by exact rfl) (h5 : A5 := by exact cmF) : G := f h0 h1 h2 h3 h4 h5 hn
theorem qr5o {A0 A1 A2 A3 A4 A5 N G : Prop} (f : A0 → A1 → A2 → A3 → A4 → A5 → N → G) (hn : N) (h0 : A0 := by exact rfl) (h1 : A1 := by exact rfl) (h2 : A2 := by exact rfl) (h3 : A3 := by exact rfl) (h4 : A4 := by exact rfl) (h5 : A5 := by exact oM) : G := f h0 h1 h2 h3 h4 h5 hn
theorem qr7 {A0 A1 A2 A3 A4 A5 A6 N G : Prop} (f : A0 → A1 → A2 → A3 → A4 → A5 → A6 → N → G) (hn : N) (h0 : A0 := by exact rfl) (h1 : A1 := by exact rfl) (h2 : A2 := by exact rfl) (h3 : A3 := by exact rfl) (h4 : A4 := by exact rfl) (h5 : A5 := by exact rfl) (h6 : A6 := by exact rfl) : G := f h0 h1 h2 h3 h4 h5 h6 hn
theorem qr8 {A0 A1 A2 A3 A4 A5 A6 A7 N G : Prop} (f : A0 → A1 → A2 → A3 → A4 → A5 → A6 → A7 → N → G) (hn : N) (h0 : A0 := by exact rfl) (h1 : A1 := by exact rfl) (h2 : A2 := by exact rfl) (h3 : A3 := by exact rfl) (h4 : A4 := by exact rfl) (h5 : A5 := by exact rfl) (h6 : A6 := by exact rfl) (h7 : A7 := by exact rfl) : G := f h0 h1 h2 h3 h4 h5 h6 h7 hn
theorem qr8eo2 {A0 A1 A2 A3 A4 A5 A6 A7 A8 A9 A10 N G : Prop} (f : A0 → A1 → A2 → A3 → A4 → A5 → A6 → A7 → A8 → A9 → A10 → N → G) (hn : N) (h0 : A0 := by exact rfl) (h1 : A1 := by exact rfl) (h2 : A2 := by exact rfl) (h3 : A3 := by exact rfl) (h4 : A4 := by exact rfl) (h5 : A5 := by exact rfl) (h6 : A6 := by exact rfl) (h7 : A7 := by exact rfl) (h8 : A8 := by first | rfl | omega) (h9 : A9 := by exact oM) (h10 : A10 := by exact oM) : G := f h0 h1 h2 h3 h4 h5 h6 h7 h8 h9 h10 hn
theorem qr8o {A0 A1 A2 A3 A4 A5 A6 A7 A8 N G : Prop} (f : A0 → A1 → A2 → A3 → A4 → A5 → A6 → A7 → A8 → N → G) (hn : N) (h0 : A0 := by exact rfl) (h1 : A1 := by exact rfl) (h2 : A2 := by exact rfl) (h3 : A3 := by exact rfl) (h4 : A4 := by exact rfl) (h5 : A5 := by exact rfl) (h6 : A6 := by exact rfl) (h7 : A7 := by exact rfl) (h8 : A8 := by exact oM) : G := f h0 h1 h2 h3 h4 h5 h6 h7 h8 hn
theorem qr9e2 {A0 A1 A2 A3 A4 A5 A6 A7 A8 A9 A10 N G : Prop} (f : A0 → A1 → A2 → A3 → A4 → A5 → A6 → A7 → A8 → A9 → A10 → N → G) (hn : N) (h0 : A0 := by exact rfl) (h1 : A1 := by exact rfl) (h2 : A2 := by exact rfl) (h3 : A3 := by exact rfl) (h4 : A4 := by exact rfl) (h5 : A5 := by exact rfl) (h6 : A6 := by exact rfl) (h7 : A7 := by exact rfl) (h8 : A8 := by exact rfl) (h9 : A9 := by first | rfl | omega) (h10 : A10 := by first | rfl | omega) : G := f h0 h1 h2 h3 h4 h5 h6 h7 h8 h9 h10 hn
theorem qr9e2o2 {A0 A1 A2 A3 A4 A5 A6 A7 A8 A9 A10 A11 A12 N G : Prop} (f : A0 → A1 → A2 → A3 → A4 → A5 → A6 → A7 → A8 → A9 → A10 → A11 → A12 → N → G) (hn : N) (h0 : A0 := by exact rfl) (h1 : A1 := by exact rfl) (h2 : A2 := by exact rfl) (h3 : A3 := by exact rfl) (h4 : A4 := by exact rfl) (h5 : A5 := by exact rfl) (h6 : A6 := by exact rfl) (h7 : A7 := by exact rfl) (h8 : A8 := by exact rfl) (h9 : A9 := by first | rfl | omega) (h10 : A10 := by first | rfl | omega) (h11 : A11 := by exact oM) (h12 : A12 := by exact oM) : G := f h0 h1 h2 h3 h4 h5 h6 h7 h8 h9 h10 h11 h12 hn
theorem qr10eo {A0 A1 A2 A3 A4 A5 A6 A7 A8 A9 A10 A11 N G : Prop} (f : A0 → A1 → A2 → A3 → A4 → A5 → A6 → A7 → A8 → A9 → A10 → A11 → N → G) (hn : N) (h0 : A0 := by exact rfl) (h1 : A1 := by exact rfl) (h2 : A2 := by exact rfl) (h3 : A3 := by exact rfl) (h4 : A4 := by exact rfl) (h5 : A5 := by exact rfl) (h6 : A6 := by exact rfl) (h7 : A7 := by exact rfl) (h8 : A8 := by exact rfl) (h9 : A9 := by exact rfl) (h10 : A10 := by first | rfl | omega) (h11 : A11 := by exact oM) : G := f h0 h1 h2 h3 h4 h5 h6 h7 h8 h9 h10 h11 hn
theorem qr11 {A0 A1 A2 A3 A4 A5 A6 A7 A8 A9 A10 N G : Prop} (f : A0 → A1 → A2 → A3 → A4 → A5 → A6 → A7 → A8 → A9 → A10 → N → G) (hn : N) (h0 : A0 := by exact rfl) (h1 : A1 := by exact rfl) (h2 : A2 := by exact rfl) (h3 : A3 := by exact rfl) (h4 : A4 := by exact rfl) (h5 : A5 := by exact rfl) (h6 : A6 := by exact rfl) (h7 : A7 := by exact rfl) (h8 : A8 := by exact rfl) (h9 : A9 := by exact rfl) (h10 : A10 := by exact rfl) : G := f h0 h1 h2 h3 h4 h5 h6 h7 h8 h9 h10 hn
theorem qr5t {A0 A1 A2 A3 A4 A5 N G : Prop} (f : A0 → A1 → A2 → A3 → A4 → A5 → N → G) (hn : N) (h0 : A0 := by exact rfl) (h1 : A1 := by exact rfl) (h2 : A2 := by exact rfl) (h3 : A3 := by exact rfl) (h4 : A4 := by exact rfl) (h5 : A5 := by exact cmT) : G := f h0 h1 h2 h3 h4 h5 hn
theorem qr4w2 {A0 A1 A2 A3 A4 A5 N G : Prop} (f : A0 → A1 → A2 → A3 → A4 → A5 → N → G) (hn : N) (h0 : A0 := by exact rfl) (h1 : A1 := by exact rfl) (h2 : A2 := by exact rfl) (h3 : A3 := by exact rfl) (h4 : A4 := by omega) (h5 : A5 := by omega) : G := f h0 h1 h2 h3 h4 h5 hn
theorem qr4w3 {A0 A1 A2 A3 A4 A5 A6 N G : Prop} (f : A0 → A1 → A2 → A3 → A4 → A5 → A6 → N → G) (hn : N) (h0 : A0 := by exact rfl) (h1 : A1 := by exact rfl) (h2 : A2 := by exact rfl) (h3 : A3 := by exact rfl) (h4 : A4 := by omega) (h5 : A5 := by omega) (h6 : A6 := by omega) : G := f h0 h1 h2 h3 h4 h5 h6 hn
theorem qr3w2 {A0 A1 A2 A3 A4 N G : Prop} (f : A0 → A1 → A2 → A3 → A4 → N → G) (hn : N) (h0 : A0 := by exact rfl) (h1 : A1 := by exact rfl) (h2 : A2 := by exact rfl) (h3 : A3 := by omega) (h4 : A4 := by omega) : G := f h0 h1 h2 h3 h4 hn
theorem leT {P : Prop} (h : P := by first | exact LeA.c (LeC.refl _ rfl) | exact LeA.c (LeC.ow _ _ rfl) | exact LeA.c (LeC.pt _ _ _ _ _ rfl) | exact LeA.c (LeC.nil _ rfl) | exact LeA.c (LeC.nils _ _) | (refine LeA.int ?_; omega) | (refine LeA.int ?_; dsimp only; omega) | exact LeA.c (LeC.fz rfl rfl (by first | rfl | omega) (fun i _ j _ => ⟨rfl, by first | rfl | exact rowN_imm (fun _ => rfl) _ i j | exact rowF_imm (fun _ => rfl) _ i j⟩))) : P := h
theorem allT {P : Prop} (h : P := by repeat (first | exact trivial | refine ⟨⟨_, rfl, by first | exact LeA.c (LeC.refl _ rfl) | exact LeA.c (LeC.ow _ _ rfl) | exact LeA.c (LeC.pt _ _ _ _ _ rfl) | exact LeA.c (LeC.nil _ rfl) | exact LeA.c (LeC.nils _ _) | (refine LeA.int ?_; omega) | (refine LeA.int ?_; dsimp only; omega) | exact LeA.c (LeC.fz rfl rfl (by first | rfl | omega) (fun i _ j _ => ⟨rfl, by first | rfl | exact rowN_imm (fun _ => rfl) _ i j | exact rowF_imm (fun _ => rfl) _ i j⟩))⟩, ?_⟩)) : P := h
theorem allH {P : Prop} (h : P := by repeat (first | exact trivial | refine ⟨by first | exact HeapOk.same rfl rfl rfl rfl | exact HeapOk.lent rfl rfl rfl rfl | exact HeapOk.nil rfl rfl | exact HeapOk.row rfl rfl (by first | rfl | omega) (fun i _ j _ => ⟨rfl, by first | rfl | exact rowN_imm (fun _ => rfl) _ i j | exact rowF_imm (fun _ => rfl) _ i j⟩) | exact HeapOk.box rfl rfl (by repeat (first | exact trivial | refine ⟨by first | exact LeC.refl _ rfl | exact LeC.ow _ _ rfl | exact LeC.nil _ rfl | exact LeC.nils _ _ | exact LeC.fz rfl rfl (by first | rfl | omega) (fun i _ j _ => ⟨rfl, by first | rfl | exact rowN_imm (fun _ => rfl) _ i j | exact rowF_imm (fun _ => rfl) _ i j⟩) | exact LeC.int (by omega), ?_⟩)) rfl, ?_⟩)) : P := h
theorem allF {P : Prop} (h : P := by repeat (first | exact trivial | refine ⟨⟨_, rfl, by first | exact LeA.c (LeC.fn _ 0 _ _ (fun i hi => absurd hi (Nat.not_lt_zero _)) (fun i hi => absurd hi (Nat.not_lt_zero _))) | exact LeA.c (LeC.owB 1000 rfl) | exact LeA.c (LeC.refl _ rfl) | exact LeA.c (LeC.ow _ _ rfl) | exact LeA.c (LeC.pt _ _ _ _ _ rfl) | exact LeA.c (LeC.nil _ rfl) | exact LeA.c (LeC.nils _ _) | (refine LeA.int ?_; omega) | (refine LeA.int ?_; dsimp only; omega) | exact LeA.c (LeC.fz rfl rfl (by first | rfl | omega) (fun i _ j _ => ⟨rfl, by first | rfl | exact rowN_imm (fun _ => rfl) _ i j | exact rowF_imm (fun _ => rfl) _ i j⟩))⟩, ?_⟩)) : P := h
theorem cnT {P : Prop} (h : P := by first | rfl | assumption | exact cmT) : P := h
theorem cnF {P : Prop} (h : P := by first | rfl | assumption | exact cmF) : P := h
theorem hrF {α : Type} {c : α → List CV} (hc : ∀ x, (c x).all immC = true) {z : α} {L : List α} {S : St} {ren : List (Nat × Option Nat)} {id o n n' sz : Nat} {ty : TypeId} (hr : assoc ren id = some (some o) := by exact rfl) (hh : S.h o = some ⟨true, n, sz, ty, rowF c z L⟩ := by exact rfl) (hn : n' = n := by exact rfl) : HeapOk S ren id ⟨true, n', sz, ty, rowF c z L⟩ := HeapOk.row hr hh hn (fun i _ j _ => ⟨rfl, rowF_imm hc _ i j⟩)
theorem aB : type_of% @AList.nil := @AList.nil
theorem aG : type_of% @AList.skip := @AList.skip
theorem aH : type_of% @AList.call := @AList.call
theorem aJ : type_of% @AList.cmpF := @AList.cmpF
theorem aK : type_of% @AList.cmpT := @AList.cmpT
theorem aL : type_of% @AList.add := @AList.add
theorem aM : type_of% @AList.alloc := @AList.alloc
theorem aN : type_of% @AList.extract := @AList.extract
theorem aO : type_of% @AList.lenLs := @AList.lenLs
theorem aP : type_of% @AList.idx := @AList.idx
theorem aQ : type_of% @AList.box := @AList.box
theorem aR : type_of% @AList.pickF := @AList.pickF
theorem aS : type_of% @AList.pickT := @AList.pickT
theorem aT : type_of% @AList.loadAl := @AList.loadAl
theorem aU : type_of% @AList.idxArr := @AList.idxArr
theorem aV : type_of% @AList.load1l := @AList.load1l
theorem aW : type_of% @AList.cmp := @AList.cmp
theorem aX : type_of% @AList.buildSt := @AList.buildSt
theorem aY : type_of% @AWp.region := @AWp.region
end Go.AV
end

section
namespace Go.AV
open Go Go.RowKit Go.Flow
section
variable {P : Program}
def FzV (S : St) (rd : List Nat) (x y : V1) : Prop :=
 (x = y ∧ immV x = true) ∨ ∃ (id n sz : Nat) (ty : TypeId) (F G : Nat → Nat → CV), x = .c (.ow id) ∧ y = .c (.ls n sz G) ∧ id ∈ rd ∧ S.h id = some ⟨true, n, sz, ty, F⟩ ∧ ∀ k, k < n → ∀ j, j < sz → F k j = G k j ∧ immC (F k j) = true
theorem fzV_rep {S S1 : St} {rd : List Nat} {b0 : Base} {σ : Nat → Option Value} {a : Act} {w : World} (R : Rel0 b0 σ S1 a w) (hr : ∀ id ∈ rd, S1.h id = S.h id) {x y : V1} {u : Value} (h : FzV S rd x y) (hu : RepV σ (out b0 σ S1.h) w x u) : RepV (fun _ => none) (fun _ => False) w y u := by
 rcases h with ⟨rfl, hi⟩ | ⟨id, n, sz, ty, F, G, rfl, rfl, hid, hh, hc⟩
 ·have h1 := strip0 hi hu
  exact h1.keep ⟨rfl, rfl, rfl, Nat.le_refl _, fun _ _ _ => rfl⟩ (fun b hb => hb.elim) fun _ _ h => h
 ·exact ⟨hu.1, RepI.ls_congr (fun k hk j hj => (hc k hk j hj).1) (frz_rep R.hp ((hr id hid).trans hh) (fun k hk j hj => (hc k hk j hj).2) (fun b hb => hb.elim) (fun v b _ _ h => h) hu.2.1)⟩
section ops
variable {ops : Array Oper} {rest : List Oper} {acc : List (List Nat × List Nat)} {S : St} {Q : List (List Nat × List Nat) → St → Prop} {dst : Option Tmp} {ty : TypeId} {pos : String} {after : Array Edge} {guard : Option (Nat × Bool)}
section
variable {tab : List (TypeId × TD)}
end
end ops
/-- A contract, at arguments that say no less. -/
theorem ACalls.conv {f : FuncId} {args args' : List V1} {r : AV} (h : ACalls P f args r) (hc : ∀ (σ : Nat → Option Value) (O : Nat → Prop) (w : World) (vals : List Value), RepL (RepV σ O w) args' vals → RepL (RepV σ O w) args vals) : ACalls P f args' r := fun b0 vals h1 h2 h3 h4 => h b0 vals h1 h2 h3 (hc _ _ _ _ h4)
end
end Go.AV
end

section
namespace Go.AV
open Go Go.RowKit Go.Flow
section
variable {P : Program}
section ops
variable {ops : Array Oper} {rest : List Oper} {acc : List (List Nat × List Nat)} {S : St} {Q : List (List Nat × List Nat) → St → Prop} {dst : Option Tmp} {ty xt yt : TypeId} {pos : String} {after : Array Edge} {guard : Option (Nat × Bool)} {x y : Operand}
/-- A call of a function value that has captured nothing. -/
theorem AList.call0 {f : FuncId} {fn : Func} {z : Operand} {xs : Array Operand} {ats : Array TypeId} {args : List V1} {r : AV} {C : Nat → CV} (hw : S.wants ops { dst, op := .call { callee := .value z, args := xs, argTypes := ats }, type := ty, pos, after, guard } = some true) (hd : dOk S.n dst = true)
 (hz : S.opd z = some (.c (.fn f 0 C))) (ha : S.opds xs.toList = some args) (hi : args.all immV = true) (hf : P.funcs[f]? = some fn) (hb : fn.body.isNone = false) (hnm : (fn.name == "runtime.NumGoroutine") = false) (hc : ACalls P f args r)
 (hn : AList P ops rest (([], []) :: acc) (S.eff dst ⟨r, [], []⟩) Q) : AList P ops ({ dst, op := .call { callee := .value z, args := xs, argTypes := ats }, type := ty, pos, after, guard } :: rest) acc S Q :=
 AList.ext [] _ hw hd (fun S1 h1 _ b0 σ a w R => by
  have h2 : S1.opds xs.toList = some args := (opds_congr fun x hx => h1 x (by simp only [Op.operands, Call.operands]; simp; exact .inr (by simpa using hx))).trans ha
  have h3 := opd_rep R ((h1 z (by simp [Op.operands, Call.operands])).trans hz)
  obtain ⟨_, vs, e1, e2, _⟩ := h3
  obtain rfl : vs = [] := List.length_eq_zero_iff.1 e2
  have := hc.at R (opds_rep R h2) hi
  rw [run_callf f fn hf hb hnm #[] #[] e1 w]
  simp only [Goes]
  rw [show (#[] ++ xs.map a.eval ++ #[] : Array Value) = (xs.toList.map a.eval).toArray from Array.ext' (by simp)]
  exact this.mono fun e w' ⟨v, g1, g2, g3⟩ => ⟨v, g1, g2, g3⟩) hn
/-- A conversion between kinds of integers. -/
theorem AList.convI {src t : TypeId} {k k' : IntKind} {i j : Int} (hj : k'.wrap i = j) (hs : (P.underlying src).isSome = true) (ht : P.underlying t = some (.int k')) (hw : S.wants ops { dst, op := .convert src t x, type := ty, pos, after, guard } = some true) (hd : dOk S.n dst = true) (hx : S.opd x = some (.c (.p (.int k i))))
 (hn : AList P ops rest (([], []) :: acc) (S.eff dst ⟨.c (.p (.int k' j)), [], []⟩) Q) : AList P ops ({ dst, op := .convert src t x, type := ty, pos, after, guard } :: rest) acc S Q :=
 AList.val [] _ hw hd (fun S1 g1 _ b0 σ a w R => by
  have e1 := rep_int (opd_rep R ((g1 x (by simp [Op.operands])).trans hx))
  have hk : P.intKind t = k' := by simp [Program.intKind, ht]
  refine ⟨.int k' j, ?_, rep_p rfl⟩
  have h := run_convert_int w src t k i hs (by rw [hk]; exact ht)
  rw [hk, hj] at h
  simp only [execOp, e1, Sem.run_bind, h, Result.andThen_ok, Sem.run_pure]) hn
end ops
end
end Go.AV
end

section
namespace Go.AV
open Go Go.RowKit Go.Flow
section
variable {P : Program}
/-- yield of loop l. -/
abbrev yv (l : Nat) : Value := .func (.yield l) #[] #[]
/-- Round i lets the iterator go on. -/
def goesB (N : Nat) (stop : Bool) (i : Nat) : Bool := !(stop && Nat.beq (i + 1) N)
/-- What the rounds 0 .. N - 1 do, whose arguments are xs 0 ..; stop: the last one stops the iterator. -/
def YieldOk (P : Program) (b0 : Base) (l : Nat) (xs : Nat → List Value) (N : Nat) (stop : Bool) : Prop :=
 ∀ i, i < N → ∀ W, b0.J i false W → Keep (b0.V false) b0.w W → YieldAt Fence.wide 0 P l (xs i).toArray W fun e W' => e = .returned (.bool (goesB N stop i)) ∧ b0.J (i + 1) (!goesB N stop i) W' ∧ Keep (b0.V (!goesB N stop i)) W W'
def itG (P : Program) (l : Nat) (xs : Nat → List Value) (N : Nat) (stop : Bool) (b : Base) : Prop := b.rd = none ∧ (∀ k, ¬ b.Y k) ∧ (∀ k, b.V false k → b.V true k) ∧ YieldOk P b l xs N stop
def St.yielded (S : St) (dst : Option Tmp) (g : Bool) : St :=
 { S with t := match dst with | some d => put S.t d (some (.c (.p (.bool g)))) | none => S.t, gs := S.gs + 1, dd := !g }
theorem Marks.keep2 {n0 : Nat} {O : Nat → Prop} {w w' : World} (hK : Keep O w w') (hO : ∀ D, O D → D < n0) : ∀ {ds : List Deferred}, Marks n0 ds w → Marks n0 ds w'
 | [], _ => trivial
 | _ :: _, ⟨⟨D, e1, e2, e3, e4⟩, h⟩ => ⟨⟨D, e1, e2, (hK.block D (Array.getElem?_eq_some_iff.1 e3).1 fun ho => by have := hO D ho; omega).trans e3, e4⟩, h.keep2 hK hO⟩
theorem opds_p {b0 : Base} {σ : Nat → Option Value} {S : St} {a : Act} {w : World} (R : Rel0 b0 σ S a w) {xs : List Operand} {vs : List Value} (h : S.opds xs = some (vs.map fun v => .c (.p v))) : xs.map a.eval = vs := by
 have := opds_rep R h
 have key : ∀ (vs us : List Value), RepL (RepV σ (out b0 σ S.h) w) (vs.map fun v => V1.c (.p v)) us → us = vs := fun vs => by
  induction vs with
  | nil => intro us h; cases us with
    | nil => rfl
    | cons u us => exact h.elim
  | cons v vs ih => intro us h; cases us with
    | nil => exact h.elim
    | cons u us => rw [ih us h.2, show u = v from h.1.2]
 exact key _ _ this
/-- A round. -/
theorem Rel0.yield {b0 : Base} {σ : Nat → Option Value} {S : St} {a : Act} {w w' : World} {dst : Option Tmp} {g : Bool} (R : Rel0 b0 σ S a w) (hd : dOk S.n dst = true) (hdd : S.dd = false) (hY : ∀ k, ¬ b0.Y k) (hV : ∀ k, b0.V false k → b0.V true k)
 (hK : Keep (b0.V (!g)) w w') (hJ : b0.J (S.gs + 1) (!g) w') : Rel0 b0 σ (S.yielded dst g) (a.put dst (.bool g)) w' := by
 have hVlt : ∀ {d k}, b0.V d k → k < b0.w.heap.size := fun h => b0.lt _ (b0.vx _ _ h)
 have hKo : Keep (out b0 σ S.h) w w' := hK.less fun k hk => .inr (b0.vx _ _ hk)
 have hext := R.ext
 unfold wild at hext
 rw [hdd] at hext
 refine ⟨by rw [defers_put]; exact R.df.keep2 hK fun D h => hVlt h, size_put.trans R.sz, ?_, ⟨fun id B hB => ?_, R.hp.inj, R.hp.new, R.hp.fx, R.hp.big⟩, fun t x ht => ?_, R.fr, R.le, R.gd, hJ⟩
 ·refine (hext.less fun b hb => ?_).trans hK fun i h => .inr (.inr h)
  rcases hb with hb | hb
  ·exact .inl hb
  ·refine .inr ?_
   show b0.V (!g) b
   cases g with
   | true => exact hb
   | false => exact hV b hb
 ·obtain ⟨v, e1, e2⟩ := R.hp.blk id B hB
  refine ⟨v, e1, e2.keep hKo (fun b hb => .inl hb) (fun _ _ h => h) fun b hb => ?_⟩
  have ho : own σ S.h b := ⟨id, v, by rw [show S.h id = some B from hB]; simp, e1, hb⟩
  refine hK.block b (R.hp.lt ho) fun h => ?_
  rcases R.hp.new b ho with h1 | h1
  ·have := hVlt h; omega
  ·exact hY b h1
 ·have keep : ∀ {t x}, S.t t = some x → RepA σ (out b0 σ S.h) w' x (a.tmps.getD t undef) := fun h => (R.sl _ _ h).keep hKo (fun b hb => .inl hb) fun _ _ h => h
  cases dst with
  | none => exact keep ht
  | some d =>
    have hlt : d < a.tmps.size := by rw [R.sz]; exact Nat.blt_eq.mp hd
    rw [getD_put hlt]
    simp only [St.yielded] at ht
    by_cases e : t = d
    ·subst e
     rw [put_same] at ht
     cases ht
     rw [if_pos rfl]
     exact ⟨rfl, rfl⟩
    ·rw [put_ne _ _ e] at ht
     rw [if_neg e]
     exact keep ht
section ops
variable {ops : Array Oper} {rest : List Oper} {S : St} {Q : St → Prop} {dst : Option Tmp} {ty : TypeId} {pos : String} {after : Array Edge} {guard : Option (Nat × Bool)}
theorem AText.yield {l N i : Nat} {stop : Bool} {xs : Nat → List Value} {vs : List Value} {z : Operand} {avs : Array Operand} {ats : Array TypeId} (g : Bool) (hw : S.wants ops { dst, op := .call { callee := .value z, args := avs, argTypes := ats }, type := ty, pos, after, guard } = some true) (hd : dOk S.n dst = true)
 (hz : S.opd z = some (.c (.p (yv l)))) (ha : S.opds avs.toList = some (vs.map fun v => .c (.p v))) (hG : ∀ b, S.G b → itG P l xs N stop b) (hgs : S.gs = i) (hdd : S.dd = false) (hi : i < N) (hx : xs i = vs) (hg : goesB N stop i = g)
 (hn : AText P ops rest (S.yielded dst g) Q) : AText P ops ({ dst, op := .call { callee := .value z, args := avs, argTypes := ats }, type := ty, pos, after, guard } :: rest) S Q := ⟨fun rd b0 a w K hR hK => by
 obtain ⟨σ, R0⟩ := hR
 obtain ⟨_, hY, hV, hYo⟩ := hG b0 R0.gd
 unfold wpListIn
 rw [if_pos (wants_rep R0 hw)]
 refine ⟨fun _ _ => trivial, ?_⟩
 have hzv : a.eval z = yv l := (opd_rep R0 hz).2
 have hav := opds_p R0 ha
 have hext := R0.ext
 unfold wild at hext
 rw [hdd] at hext
 have hgh := R0.gh
 rw [hgs, hdd] at hgh
 subst hx hg
 obtain ⟨fn, tmps, assign, body, e1, e2⟩ := hYo i hi w hgh (hext.less fun b hb => hb.elim (fun h => (hY b h).elim) fun h => h)
 rw [Oper.semAt_eq _ _ _ (fun c hc => by cases hc)]
 have hrun : (execOp a.eval { dst, op := .call { callee := .value z, args := avs, argTypes := ats }, type := ty, pos, after, guard }).run P w = .ok (.round l fn tmps assign body) w := by
  have hm : avs.map a.eval = (xs i).toArray := by rw [← hav]; exact Array.ext' (by simp)
  simp only [execOp, resolve, hzv, hm, Deferred.ofValue, Sem.run_bind, Sem.run_pure, Result.andThen_ok]
  simp [invoke, e1]
 rw [hrun, Oper.uponIn_round]
 refine ⟨fun hd => (by cases hd), RoundIn.mono (F := fnc rd) e2 fun e w' ⟨h1, h2, h3⟩ => ?_⟩
 subst h1
 exact hn.get rd b0 _ _ K ⟨σ, R0.yield hd hdd hY hV h3 (by rw [hgs]; exact h2)⟩ hK⟩
end ops

/-- An iterator: M rounds at most, whose arguments are xs 0, xs 1 ..; cs: what it has captured. -/
def ItCalls (P : Program) (gf : FuncId) (cs : List V1) (xs : Nat → List Value) (M : Nat) : Prop :=
 ∀ (b0 : Base) (l N : Nat) (stop : Bool) (vals : List Value), b0.fix = (fun _ => none) → (∀ k, ¬ b0.Y k) → b0.rd = none → (∀ k, b0.V false k → b0.V true k) → (stop = true → 0 < N ∧ N ≤ M) → (stop = false → N = M) →
   YieldOk P b0 l xs N stop → b0.J 0 false b0.w → RepL (RepV (fun _ => none) b0.X b0.w) cs vals →
   Calls P gf (yv l :: vals).toArray b0.w fun e w' => (∃ v, e = .returned v) ∧ b0.J N stop w' ∧ Keep (b0.V stop) b0.w w'
def RetIt (N : Nat) (stop : Bool) : Exit → St → Prop
 | .ret, S => S.gs = N ∧ S.dd = stop
 | .normal, S => S.gs = N ∧ S.dd = stop
 | _, _ => False
def entryI (G : Base → Prop) (n : Nat) (args : List V1) : St := { n, ln := 0, t := fun i => (args[i]?).map V1.av, h := fun _ => none, fr := fun id => Nat.blt id 1000, G, gs := 0, dd := false }
theorem itcalls_of {gf : FuncId} {fn : Func} {c : Code} {cs : List V1} {xs : Nat → List Value} {M n : Nat} (hf : P.funcs[gf]? = some fn) (hb : fn.body = some c) (hr : fn.results = #[]) (hn : fn.ntmps = n) (hl : Nat.ble (cs.length + 1) n = true)
 (h : ∀ (l N : Nat) (stop : Bool), (stop = true → 0 < N ∧ N ≤ M) → (stop = false → N = M) → AWp P c (RetIt N stop) (entryI (itG P l xs N stop) n (.c (.p (yv l)) :: cs))) : ItCalls P gf cs xs M := fun b0 l N stop vals hfix hY hrd hV h1 h2 hYo hJ hv => by
 subst hn
 have hl' := hv.length
 have hX : ∀ b, out b0 (fun _ => none) (fun _ => none) b → b0.X b := fun b hb => hb.elim (fun ⟨i, v, h1, _⟩ => absurd rfl h1) fun h => h
 refine calls_of_awp (b0 := b0) hf hb hrd (h l N stop h1 h2) ⟨fun _ => none, trivial, ?_, ⟨rfl, rfl, rfl, Nat.le_refl _, fun _ _ _ => rfl⟩, ⟨fun id B hB => (by cases hB), fun i j v1 v2 b hi => absurd rfl hi, fun b ⟨i, v, hi, _⟩ => absurd rfl hi, fun i v hi => (by rw [hfix] at hi; cases hi), fun _ _ _ => rfl⟩, fun t x hx => ?_, fun id hid => ⟨rfl, Nat.blt_eq.mp hid⟩, fun i v hi => (by rw [hfix] at hi; cases hi), ⟨hrd, hY, hV, hYo⟩, hJ⟩ (fun e S hQ => by cases e <;> first | exact .inl rfl | exact .inr rfl | exact hQ.elim) fun e a w S hR hQ hd => ?_
 ·have := Nat.ble_eq.mp hl
  simp [entryI, hl']; omega
 ·have hv' : RepL (RepV (fun _ => none) b0.X b0.w) (.c (.p (yv l)) :: cs) (yv l :: vals) := ⟨⟨rfl, rfl⟩, hv⟩
  obtain ⟨y, e1, rfl⟩ : ∃ y, (V1.c (.p (yv l)) :: cs)[t]? = some y ∧ y.av = x := by simpa [entryI, Option.map_eq_some_iff] using hx
  obtain ⟨v, e2, e3⟩ := hv'.get e1
  have ht : ((yv l :: vals).toArray ++ Array.replicate (fn.ntmps - (yv l :: vals).toArray.size) undef).getD t undef = v := by
   have hlt := (List.getElem?_eq_some_iff.1 e2).1
   have := (List.getElem?_eq_some_iff.1 e2).2
   simp only [Array.getD_eq_getD_getElem?, Array.getElem?_append, List.size_toArray, hlt, if_true, List.getElem?_toArray, e2, Option.getD_some]
  rw [ht]
  exact (e3.keep ⟨rfl, rfl, rfl, Nat.le_refl _, fun _ _ _ => rfl⟩ (fun b hb => .inl (hX b hb)) fun _ _ h => h).av
 ·obtain ⟨g1, g2⟩ : S.gs = N ∧ S.dd = stop := by cases e <;> first | exact hQ | exact hQ.elim
  obtain ⟨σ, R⟩ := hR
  have hext := R.ext
  have hgh := R.gh
  unfold wild at hext
  rw [g1, g2] at hgh
  rw [g2] at hext
  exact ⟨.tuple #[], by rw [results_eq, hr]; simp, ⟨_, rfl⟩, hgh, hext.less fun b hb => hb.elim (fun h => (hY b h).elim) fun h => h⟩
end
end Go.AV
end
