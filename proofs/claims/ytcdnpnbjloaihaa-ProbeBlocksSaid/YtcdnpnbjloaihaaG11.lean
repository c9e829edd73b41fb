/- Parts of the proof: AMem9, Ty, Low. -/
import Derived.Test.YtcdnpnbjloaihaaG10
import Derived.Laws.StructEq
import Derived.Test.YtcdnpnbjloaihaaProg
import Derived.Test.YtcdnpnbjloaihaaG02
import Derived.Lib.Hide
import Derived.Deep.QuietTactic
import Derived.BigQuiet
import Derived.Deep.DrawnRows
set_option linter.unusedSimpArgs false
set_option linter.unusedVariables false
section
/- Comparisons of bools and of structs, arrays in a box, rows of structs; functions of which only a relation is known. No condition. -/
namespace Go.AV
open Go Go.RowKit Go.Flow
section
variable {P : Program}
def RetE (P : Program) (rs : List ResultVar) (R : AV → Prop) (e : Exit) (S : St) : Prop := ∃ r, R r ∧ RetOk P rs r [] e S
theorem ecalls_at {f : FuncId} {fn : Func} {c : Code} {rs : List ResultVar} {args : List V1} {R : AV → Prop} {n : Nat} (hf : P.funcs[f]? = some fn) (hb : fn.body = some c) (hr : fn.results = rs.toArray) (hn : fn.ntmps = n) (hl : Nat.ble args.length n = true)
    (h : AWp P c (RetE P rs R) (entry n args)) : ECalls P f args R := fun O w vals hO hv => by
  subst hn
  let b0 : Base := ⟨w, O, fun _ => False, fun _ => none, hO, fun b hb => hb.elim, fun b _ h => h, fun i v h => by cases h⟩
  have hl' := hv.length
  have hO' : ∀ b, out b0 (fun _ => none) (assoc []) b → O b := fun b hb => hb.elim (fun ⟨i, v, h1, _⟩ => absurd rfl h1) fun h => h
  refine calls_of_wp hf hb (wp_mono (h.get b0 _ w ⟨fun _ => none, rfl, ?_, ⟨rfl, rfl, rfl, Nat.le_refl _, fun _ _ _ => rfl⟩, ⟨fun id B hB => (by cases hB), fun i j v1 v2 b hi => absurd rfl hi, fun b ⟨i, v, hi, _⟩ => absurd rfl hi, fun i v hi => (by cases hi), fun _ _ _ => rfl⟩, fun t x hx => ?_, fun id hid => ⟨rfl, Nat.blt_eq.mp hid⟩, fun i v hi => (by cases hi)⟩) fun e a w' hQ => ?_)
  · have := Nat.ble_eq.mp hl
    simp [entryL, hl']; omega
  · obtain ⟨y, e1, rfl⟩ : ∃ y, args[t]? = some y ∧ y.av = x := by simpa [entryL, Option.map_eq_some_iff] using hx
    obtain ⟨v, e2, e3⟩ := hv.get e1
    have ht : (vals.toArray ++ Array.replicate (fn.ntmps - vals.toArray.size) undef).getD t undef = v := by
      have hlt := (List.getElem?_eq_some_iff.1 e2).1
      have := (List.getElem?_eq_some_iff.1 e2).2
      simp [Array.getD_eq_getD_getElem?, Array.getElem?_append, hlt, this]
    rw [ht]
    exact (e3.keep ⟨rfl, rfl, rfl, Nat.le_refl _, fun _ _ _ => rfl⟩ (fun b hb => .inl (hO' b hb)) fun _ _ h => h).av
  · have fin : ∀ S r, R r → Rel b0 S a w' → (∃ S' loc, Wk S S' ∧ S'.h = assoc (loc ++ []) ∧ loc.all (fun p => Nat.blt p.1 1000) = true ∧ ARets P S' rs r) → a.defers = [] ∧ ∃ v, (results fn a.tmps).run P w' = .ok v w' ∧ ∃ v' r, Ending.returned v = .returned v' ∧ R r ∧ RepA (fun _ => none) O w' r v' ∧ Ext w w' := fun S r hr1 hR ⟨S', loc, hw, hS', hlc, hS⟩ => by
      obtain ⟨σ, Rr⟩ := hw b0 a w' hR
      obtain ⟨v, h1, h2⟩ := hS.run hr Rr
      have hH0 := Rr.hp
      rw [hS'] at hH0 h2
      obtain ⟨hH', hsub⟩ := hH0.lent hlc rfl
      replace h2 := h2.keep (σ' := fun _ => none) ⟨rfl, rfl, rfl, Nat.le_refl _, fun _ _ _ => rfl⟩ (fun b (hb : O b) => .inl (.inr hb)) fun _ _ h => h
      exact ⟨Rr.df, v, h1, v, r, rfl, hr1, h2, Rr.ext.os, Rr.ext.tape, Rr.ext.output, Rr.ext.size, fun k hk => Rr.ext.block k hk fun h => h⟩
    obtain ⟨S, hR, r, hr1, hQ⟩ := hQ
    cases e with
    | ret => exact fin S r hr1 hR hQ
    | normal => exact fin S r hr1 hR hQ
    | _ => exact hQ.elim
theorem ECalls.of {f : FuncId} {args : List V1} {r : AV} (h : ACalls P f args r) : ECalls P f args (fun x => x = r) := fun O w vals hO hv => by
  let b0 : Base := ⟨w, O, fun _ => False, fun _ => none, hO, fun b hb => hb.elim, fun b _ h => h, fun i v h => by cases h⟩
  have hO' : ∀ b, O b → out b0 (fun _ => none) (assoc []) b := fun b hb => .inr hb
  have hO2 : ∀ b, out b0 (fun _ => none) (assoc []) b → O b := fun b hb => hb.elim (fun ⟨i, v, h1, _⟩ => absurd rfl h1) fun h => h
  have he : out b0 (fun _ => none) (assoc []) = O := funext fun b => propext ⟨hO2 b, hO' b⟩
  refine (h b0 vals ⟨fun i B hB => (by cases hB), fun i j v1 v2 b hi => absurd rfl hi, fun b ⟨i, v, h1, _⟩ => absurd rfl h1, fun i v hi => (by cases hi), fun _ _ _ => rfl⟩ (fun i v h => by cases h) (fun b h => h.elim) (by rw [he]; exact hv)).mono fun e w' ⟨v, g1, g2, _, g4⟩ => ⟨v, r, g1, rfl, by rw [he] at g2; exact g2, g4.os, g4.tape, g4.output, g4.size, fun k hk => g4.block k hk fun h => h⟩
/-- The values of cells, if each is one. -/
def pvals : List CV → Option (List Value)
  | [] => some []
  | .p v :: l => (pvals l).map (v :: ·)
  | _ => none
theorem pvals_rep {σ : Nat → Option Value} {O : Nat → Prop} {w : World} : ∀ {l : List CV} {us vs : List Value}, pvals l = some us → RepL (RepC σ O w) l vs → vs = us
  | [], us, [], h, _ => by cases h; rfl
  | .p v :: l, us, u :: vs, h, hr => by
    obtain ⟨us', h1, rfl⟩ := Option.map_eq_some_iff.1 h
    rw [pvals_rep h1 hr.2, hr.1.2]
  | .p _ :: _, _, [], _, hr => hr.elim
  | [], _, _ :: _, _, hr => hr.elim
section ops
variable {ops : Array Oper} {rest : List Oper} {acc : List (List Nat × List Nat)} {S : St} {Q : List (List Nat × List Nat) → St → Prop} {dst : Option Tmp} {ty xt yt : TypeId} {pos : String} {after : Array Edge} {guard : Option (Nat × Bool)} {x y : Operand} {tab : List (TypeId × TD)}
theorem AList.eqB {p q : Bool} (hw : S.wants ops { dst, op := .binOp .eql xt x y yt, type := ty, pos, after, guard } = some true) (hd : dOk S.n dst = true) (hx : S.opd x = some (.c (.p (.bool p)))) (hy : S.opd y = some (.c (.p (.bool q)))) (hu : P.underlying xt = some .bool)
    (hn : AList P ops rest (([], []) :: acc) (S.eff dst ⟨.c (.p (.bool (p == q))), [], []⟩) Q) : AList P ops ({ dst, op := .binOp .eql xt x y yt, type := ty, pos, after, guard } :: rest) acc S Q :=
  AList.bin hw hd hx hy rfl (fun w => by simp [binOp, run_equal_bool w xt p q hu]) rfl hn
theorem AList.neB {p q : Bool} (hw : S.wants ops { dst, op := .binOp .neq xt x y yt, type := ty, pos, after, guard } = some true) (hd : dOk S.n dst = true) (hx : S.opd x = some (.c (.p (.bool p)))) (hy : S.opd y = some (.c (.p (.bool q)))) (hu : P.underlying xt = some .bool)
    (hn : AList P ops rest (([], []) :: acc) (S.eff dst ⟨.c (.p (.bool (!(p == q)))), [], []⟩) Q) : AList P ops ({ dst, op := .binOp .neq xt x y yt, type := ty, pos, after, guard } :: rest) acc S Q :=
  AList.bin hw hd hx hy rfl (fun w => by simp [binOp, run_equal_bool w xt p q hu]) rfl hn
/-- Structs of plain cells, compared. -/
theorem AList.binAg {op : BinOp} {l m : List CV} {us vs : List Value} {r : Bool} (hw : S.wants ops { dst, op := .binOp op xt x y yt, type := ty, pos, after, guard } = some true) (hd : dOk S.n dst = true) (hx : S.opd x = some (.ag l)) (hy : S.opd y = some (.ag m))
    (hl : pvals l = some us) (hm : pvals m = some vs) (hg : P.eqGuardType P.depth xt = false) (hr : ∀ w, (Go.binOp op xt (.agg us.toArray) (.agg vs.toArray)).run P w = .ok (.bool r) w)
    (hn : AList P ops rest (([], []) :: acc) (S.eff dst ⟨.c (.p (.bool r)), [], []⟩) Q) : AList P ops ({ dst, op := .binOp op xt x y yt, type := ty, pos, after, guard } :: rest) acc S Q :=
  AList.val [] _ hw hd (fun S1 g1 _ b0 σ a w R => by
    obtain ⟨us', e1, e2⟩ := opd_rep R ((g1 x (by simp [Op.operands])).trans hx)
    obtain ⟨vs', e3, e4⟩ := opd_rep R ((g1 y (by simp [Op.operands])).trans hy)
    obtain rfl := pvals_rep hl e2
    obtain rfl := pvals_rep hm e4
    refine ⟨.bool r, ?_, rep_p rfl⟩
    simp only [execOp, e1, e3, Sem.run_bind, run_eqGuard_agg w op xt x y _ _ hg, hr, Result.andThen_ok, Sem.run_pure]) hn
/-- An array in a box of ours: the address of an element. -/
theorem AList.idxArr (T : tabOk P tab = true) {t : TypeId} {id sz j i N : Nat} {d e : TD} {el : TypeId} {ki : IntKind} {n : Int} (hw : S.wants ops { dst, op := .indexAddr t x y, type := ty, pos, after, guard } = some true) (hd : dOk S.n dst = true)
    (hx : S.opd x = some (.c (.pt id sz 0 j))) (hy : S.opd y = some (.c (.p (.int ki n)))) (ht : assoc tab t = some d) (hk : d.k = .arr N el) (he : assoc tab el = some e) (hi : n = (i : Int)) (hlt : i < N)
    (hn : AList P ops rest (([], []) :: acc) (S.eff dst ⟨.c (.pt id sz 0 (j + i * e.size)), [], []⟩) Q) : AList P ops ({ dst, op := .indexAddr t x y, type := ty, pos, after, guard } :: rest) acc S Q :=
  AList.val [] _ hw hd (fun S1 h1 _ b0 σ a w R => by
    obtain ⟨-, v, b, e1, e2, e3⟩ := opd_rep R ((h1 x (by simp [Op.operands])).trans hx)
    have e4 := rep_int (opd_rep R ((h1 y (by simp [Op.operands])).trans hy))
    have g1 := ty_arr T ht hk
    obtain ⟨inf, z, u, i1, i2, i3, -⟩ := ty_info T he
    subst hi
    refine ⟨.pointer (some ⟨b, 0 * sz + (j + i * e.size), none⟩), ?_, rfl, v, b, e1, e2, rfl⟩
    have hlt' : (i : Int) < N := by omega
    simp only [execOp, e3, e4, Instr.indexAt, Instr.sureAddr, asIntOf, run_underlying g1, Sem.run_bind, Sem.run_pure, Result.andThen_ok]
    simp [sizeOf, typeInfo, i1, i2, hlt', Addr.add, Nat.add_assoc]) hn
theorem AList.loadAE (T : tabOk P tab = true) {t : TypeId} {id sz k j : Nat} {B : AB} {d : TD} {l : List CV} (hl : cellsFrom (B.F k) j d.size = l) (hw : S.wants ops { dst, op := .load t x, type := ty, pos, after, guard } = some true) (hd : dOk S.n dst = true)
    (hx : S.opd x = some (.c (.pt id sz k j))) (hh : S.h id = some B) (hs : B.sz = sz) (ht : assoc tab t = some d) (hk : isAg d.k = true) (hkn : k < B.n) (hj : j + d.size ≤ B.sz)
    (hn : AList P ops rest (([id], []) :: acc) (S.eff dst ⟨.ag l, [], []⟩) Q) : AList P ops ({ dst, op := .load t x, type := ty, pos, after, guard } :: rest) acc S Q := by
  subst hl
  exact AList.loadA T hw hd hx hh hs ht hk hkn hj hn
theorem AList.loadAlE (T : tabOk P tab = true) {t : TypeId} {n sz k j : Nat} {F : Nat → Nat → CV} {d : TD} {l : List CV} (hl : cellsFrom (F k) j d.size = l) (hw : S.wants ops { dst, op := .load t x, type := ty, pos, after, guard } = some true) (hd : dOk S.n dst = true)
    (hx : S.opd x = some (.c (.pl n sz F k j))) (ht : assoc tab t = some d) (hk : isAg d.k = true) (hj : j + d.size ≤ sz)
    (hn : AList P ops rest (([], []) :: acc) (S.eff dst ⟨.ag l, [], []⟩) Q) : AList P ops ({ dst, op := .load t x, type := ty, pos, after, guard } :: rest) acc S Q := by
  subst hl
  exact AList.loadAl T hw hd hx ht hk hj hn
/-- An element of an array of structs. -/
theorem AList.index (T : tabOk P tab = true) {t : TypeId} {i N : Nat} {d e : TD} {el : TypeId} {ki : IntKind} {n : Int} {l m : List CV} (hm : (l.drop (i * e.size)).take e.size = m) (hw : S.wants ops { dst, op := .index t x y, type := ty, pos, after, guard } = some true) (hd : dOk S.n dst = true)
    (hx : S.opd x = some (.ag l)) (hy : S.opd y = some (.c (.p (.int ki n)))) (ht : assoc tab t = some d) (hk : d.k = .arr N el) (he : assoc tab el = some e) (ha : isAg e.k = true) (hi : n = (i : Int)) (hlt : i < N)
    (hn : AList P ops rest (([], []) :: acc) (S.eff dst ⟨.ag m, [], []⟩) Q) : AList P ops ({ dst, op := .index t x y, type := ty, pos, after, guard } :: rest) acc S Q := by
  subst hm
  exact AList.val [] _ hw hd (fun S1 h1 _ b0 σ a w R => by
    obtain ⟨vs, e1, e2⟩ := opd_rep R ((h1 x (by simp [Op.operands])).trans hx)
    have e4 := rep_int (opd_rep R ((h1 y (by simp [Op.operands])).trans hy))
    have g1 := ty_arr T ht hk
    obtain ⟨ud, g2, g3⟩ := ty_ag T he ha
    obtain ⟨inf, z, u, i1, i2, i3, -⟩ := ty_info T he
    subst hi
    have hlt' : (i : Int) < N := by omega
    have hag : ∀ w, (isAgg el).run P w = .ok true w := fun w => by
      simp only [isAgg, Sem.run_bind, run_underlying g2, Result.andThen_ok]
      cases ud <;> first | rfl | cases g3
    refine ⟨.agg ((vs.drop (i * e.size)).take e.size).toArray, ?_, _, rfl, RepL.of_get (by simp [e2.length]) fun j x v hj hv => ?_⟩
    · simp only [execOp, e1, e4, Instr.index, asIntOf, run_underlying g1, Sem.run_bind, Sem.run_pure, Result.andThen_ok]
      simp [hlt', part, hag, sizeOf, typeInfo, i1, i2]
    · rw [List.getElem?_take] at hj hv
      split at hj
      · rename_i hlt2
        rw [if_pos hlt2] at hv
        rw [List.getElem?_drop] at hj hv
        obtain ⟨v', k1, k2⟩ := e2.get hj
        rw [k1] at hv
        cases hv
        exact k2
      · cases hj) hn
end ops
/-- Rows of structs. -/
def rowF {α : Type} (c : α → List CV) (z : α) (L : List α) (k j : Nat) : CV := (c (L.getD k z)).getD j .any
section rows
variable {α : Type} {c : α → List CV} {z : α} {sz : Nat}
theorem getD_app {L M : List α} {k : Nat} : (L ++ M).getD k z = if k < L.length then L.getD k z else M.getD (k - L.length) z := by
  simp only [List.getD_eq_getElem?_getD, List.getElem?_append]
  split <;> rfl
theorem rowF_imm (hc : ∀ x, (c x).all immC = true) (L : List α) (k j : Nat) : immC (rowF c z L k j) = true := lF_imm (hc _) 0 j
theorem row_app (L M : List α) : ∀ i, ∀ j, appF (rowF c z L) L.length (rowF c z M) i j = rowF c z (L ++ M) i j := fun i j => by
  unfold appF
  by_cases h : i < L.length
  · rw [Nat.blt_eq.mpr h]
    simp only [cond_true, rowF, getD_app, if_pos h]
  · rw [show Nat.blt i L.length = false from Bool.eq_false_iff.2 fun h' => h (Nat.blt_eq.mp h')]
    simp only [cond_false, rowF, getD_app, if_neg h]
theorem row_snoc (L : List α) (x : α) (hc : ∀ x, (c x).all immC = true) (hz : (c x).length = sz) : ∀ i, i < L.length + 1 → ∀ j, j < sz → appF (rowF c z L) L.length (sF (c x) sz) i j = rowF c z (L ++ [x]) i j ∧ immC (appF (rowF c z L) L.length (sF (c x) sz) i j) = true :=
  app_F (fun i hi j _ => by simp only [rowF, getD_app, if_pos hi]) (fun j _ => by simp only [rowF, getD_app, if_neg (Nat.lt_irrefl _), Nat.sub_self]; rfl) fun i _ j _ => rowF_imm hc _ i j
theorem row_drop (L : List α) (l : Nat) : (fun k j => rowF c z L (l + k) j) = rowF c z (L.drop l) := by
  funext k j
  simp only [rowF, List.getD_eq_getElem?_getD, List.getElem?_drop]
theorem row_take (L : List α) (h : Nat) : ∀ k, k < h → ∀ j, j < sz → rowF c z L k j = rowF c z (L.take h) k j := fun k hk j _ => by
  simp only [rowF, List.getD_eq_getElem?_getD, List.getElem?_take, if_pos hk]
def rowN (c : α → List CV) (g : Nat → α) (k j : Nat) : CV := (c (g k)).getD j .any
theorem rowN_imm (hc : ∀ x, (c x).all immC = true) (g : Nat → α) (k j : Nat) : immC (rowN c g k j) = true := lF_imm (hc _) 0 j
theorem rowN_snoc (g : Nat → α) (n : Nat) {l : List CV} (hc : ∀ x, (c x).all immC = true) (hl : l = c (g n)) : ∀ i, i < n + 1 → ∀ j, j < sz → appF (rowN c g) n (sF l sz) i j = rowN c g i j ∧ immC (appF (rowN c g) n (sF l sz) i j) = true :=
  app_F (fun i _ j _ => rfl) (fun j _ => by subst hl; rfl) fun i _ j _ => rowN_imm hc _ i j
theorem row_one (x : α) : rowF c z [x] 0 = fun j => (c x).getD j .any := rfl
end rows
end
end Go.AV
end

section
/- The seat's types, and the order of operations. No condition. -/
namespace Go.Proofs.Ytcdnpnbjloaihaa
open Go.RowKit Go.Flow Go.AV
def tyTab : List (TypeId × TD) := [(1, ⟨.one, 1, 8, [.nilFunc]⟩),
  (2, ⟨.one, 1, 8, [.int .i64 0]⟩),
  (3, ⟨.one, 1, 8, [.int .i64 0]⟩),
  (4, ⟨.one, 1, 1, [.bool false]⟩),
  (5, ⟨.one, 1, 1, [.int .u8 0]⟩),
  (6, ⟨.one, 1, 1, [.int .u8 0]⟩),
  (7, ⟨.st [(0, 1), (1, 1), (2, 1), (3, 1)], 4, 24, [.int .i64 0, .int .i64 0, .bool false, .int .u8 0]⟩),
  (8, ⟨.st [(0, 1), (1, 1), (2, 1), (3, 1)], 4, 24, [.int .i64 0, .int .i64 0, .bool false, .int .u8 0]⟩),
  (9, ⟨.one, 1, 16, [.string ⟨#[]⟩]⟩),
  (10, ⟨.one, 1, 16, [.string ⟨#[]⟩]⟩),
  (11, ⟨.one, 1, 16, [.string ⟨#[]⟩]⟩),
  (12, ⟨.one, 1, 8, [.int .u64 0]⟩),
  (13, ⟨.st [(0, 1), (1, 1)], 2, 24, [.string ⟨#[]⟩, .int .u64 0]⟩),
  (14, ⟨.st [(0, 1), (1, 1)], 2, 24, [.string ⟨#[]⟩, .int .u64 0]⟩),
  (15, ⟨.one, 1, 8, [.pointer none]⟩),
  (16, ⟨.one, 1, 8, [.pointer none]⟩),
  (17, ⟨.one, 1, 8, [.pointer none]⟩),
  (18, ⟨.st [(0, 1)], 1, 8, [.pointer none]⟩),
  (19, ⟨.st [(0, 1)], 1, 8, [.pointer none]⟩),
  (20, ⟨.one, 1, 16, [.nilIface]⟩),
  (21, ⟨.one, 1, 4, [.int .i32 0]⟩),
  (22, ⟨.sl 23, 1, 24, [.slice none 0 0]⟩),
  (23, ⟨.sl 3, 1, 24, [.slice none 0 0]⟩),
  (24, ⟨.st [(0, 1), (1, 1), (2, 1), (3, 1), (4, 1)], 5, 88, [.slice none 0 0, .slice none 0 0, .int .i64 0, .int .i64 0, .slice none 0 0]⟩),
  (25, ⟨.st [(0, 1), (1, 1), (2, 1), (3, 1), (4, 1)], 5, 88, [.slice none 0 0, .slice none 0 0, .int .i64 0, .int .i64 0, .slice none 0 0]⟩),
  (26, ⟨.st [(0, 1), (1, 1), (2, 1)], 3, 40, [.int .i64 0, .int .i64 0, .slice none 0 0]⟩),
  (27, ⟨.st [(0, 1), (1, 1), (2, 1)], 3, 40, [.int .i64 0, .int .i64 0, .slice none 0 0]⟩),
  (28, ⟨.st [(0, 1), (1, 1), (2, 1), (3, 1)], 4, 32, [.int .i64 0, .int .i64 0, .int .i64 0, .int .i64 0]⟩),
  (29, ⟨.st [(0, 1), (1, 1), (2, 1), (3, 1)], 4, 32, [.int .i64 0, .int .i64 0, .int .i64 0, .int .i64 0]⟩),
  (30, ⟨.one, 1, 8, [.nilFunc]⟩),
  (31, ⟨.sl 48, 1, 24, [.slice none 0 0]⟩),
  (32, ⟨.sl 50, 1, 24, [.slice none 0 0]⟩),
  (34, ⟨.one, 1, 8, [.nilFunc]⟩),
  (35, ⟨.one, 1, 8, [.nilFunc]⟩),
  (36, ⟨.one, 1, 8, [.nilFunc]⟩),
  (37, ⟨.arr 4 27, 12, 160, [.int .i64 0, .int .i64 0, .slice none 0 0, .int .i64 0, .int .i64 0, .slice none 0 0, .int .i64 0, .int .i64 0, .slice none 0 0, .int .i64 0, .int .i64 0, .slice none 0 0]⟩),
  (38, ⟨.one, 1, 8, [.nilFunc]⟩),
  (39, ⟨.sl 29, 1, 24, [.slice none 0 0]⟩),
  (40, ⟨.one, 1, 8, [.nilFunc]⟩),
  (41, ⟨.one, 1, 8, [.int .i64 0]⟩),
  (43, ⟨.one, 1, 8, [.nilFunc]⟩),
  (44, ⟨.one, 1, 8, [.nilFunc]⟩),
  (45, ⟨.one, 1, 8, [.nilFunc]⟩),
  (46, ⟨.sl 4, 1, 24, [.slice none 0 0]⟩),
  (47, ⟨.st [(0, 1), (1, 1), (2, 1)], 3, 40, [.int .i64 0, .int .i64 0, .slice none 0 0]⟩),
  (48, ⟨.st [(0, 1), (1, 1), (2, 1)], 3, 40, [.int .i64 0, .int .i64 0, .slice none 0 0]⟩),
  (49, ⟨.st [(0, 1), (1, 1), (2, 1), (3, 1)], 4, 32, [.int .i64 0, .int .i64 0, .int .i64 0, .int .i64 0]⟩),
  (50, ⟨.st [(0, 1), (1, 1), (2, 1), (3, 1)], 4, 32, [.int .i64 0, .int .i64 0, .int .i64 0, .int .i64 0]⟩),
  (51, ⟨.arr 3 27, 9, 120, [.int .i64 0, .int .i64 0, .slice none 0 0, .int .i64 0, .int .i64 0, .slice none 0 0, .int .i64 0, .int .i64 0, .slice none 0 0]⟩),
  (53, ⟨.one, 1, 8, [.nilFunc]⟩),
  (54, ⟨.one, 1, 8, [.nilFunc]⟩),
  (55, ⟨.one, 1, 8, [.nilFunc]⟩),
  (56, ⟨.one, 1, 8, [.nilFunc]⟩),
  (57, ⟨.one, 1, 8, [.nilFunc]⟩),
  (58, ⟨.one, 1, 8, [.nilFunc]⟩),
  (60, ⟨.one, 1, 8, [.nilFunc]⟩),
  (61, ⟨.one, 1, 8, [.nilFunc]⟩),
  (63, ⟨.one, 1, 8, [.nilFunc]⟩),
  (64, ⟨.one, 1, 8, [.nilFunc]⟩),
  (65, ⟨.one, 1, 8, [.pointer none]⟩),
  (66, ⟨.st [(0, 1), (1, 1)], 2, 32, [.slice none 0 0, .int .i64 0]⟩),
  (67, ⟨.st [(0, 1), (1, 1)], 2, 32, [.slice none 0 0, .int .i64 0]⟩),
  (69, ⟨.one, 1, 8, [.nilFunc]⟩),
  (70, ⟨.one, 1, 8, [.nilFunc]⟩),
  (71, ⟨.one, 1, 8, [.nilFunc]⟩),
  (72, ⟨.one, 1, 8, [.nilFunc]⟩),
  (73, ⟨.one, 1, 8, [.nilFunc]⟩),
  (74, ⟨.one, 1, 8, [.nilFunc]⟩),
  (75, ⟨.one, 1, 8, [.nilFunc]⟩),
  (76, ⟨.one, 1, 8, [.nilFunc]⟩),
  (77, ⟨.sl 27, 1, 24, [.slice none 0 0]⟩),
  (78, ⟨.one, 1, 8, [.nilFunc]⟩),
  (79, ⟨.one, 1, 8, [.nilFunc]⟩),
  (80, ⟨.one, 1, 8, [.nilFunc]⟩),
  (82, ⟨.one, 1, 8, [.nilFunc]⟩),
  (83, ⟨.one, 1, 8, [.nilFunc]⟩),
  (84, ⟨.one, 1, 8, [.nilFunc]⟩),
  (85, ⟨.one, 1, 8, [.nilFunc]⟩),
  (86, ⟨.one, 1, 8, [.nilFunc]⟩),
  (87, ⟨.one, 1, 8, [.nilFunc]⟩),
  (88, ⟨.one, 1, 8, [.nilFunc]⟩),
  (89, ⟨.one, 1, 8, [.map none]⟩),
  (90, ⟨.arr 16 3, 16, 128, [.int .i64 0, .int .i64 0, .int .i64 0, .int .i64 0, .int .i64 0, .int .i64 0, .int .i64 0, .int .i64 0, .int .i64 0, .int .i64 0, .int .i64 0, .int .i64 0, .int .i64 0, .int .i64 0, .int .i64 0, .int .i64 0]⟩),
  (91, ⟨.arr 16 3, 16, 128, [.int .i64 0, .int .i64 0, .int .i64 0, .int .i64 0, .int .i64 0, .int .i64 0, .int .i64 0, .int .i64 0, .int .i64 0, .int .i64 0, .int .i64 0, .int .i64 0, .int .i64 0, .int .i64 0, .int .i64 0, .int .i64 0]⟩),
  (92, ⟨.one, 1, 8, [.nilFunc]⟩),
  (93, ⟨.one, 1, 8, [.nilFunc]⟩),
  (94, ⟨.one, 1, 8, [.nilFunc]⟩),
  (95, ⟨.st [(0, 1), (1, 1), (2, 1), (3, 1)], 4, 40, [.pointer none, .pointer none, .pointer none, .string ⟨#[]⟩]⟩),
  (96, ⟨.st [(0, 1), (1, 1), (2, 1), (3, 1)], 4, 40, [.pointer none, .pointer none, .pointer none, .string ⟨#[]⟩]⟩),
  (97, ⟨.arr 0 16, 0, 0, []⟩),
  (98, ⟨.st [(0, 0)], 0, 0, []⟩),
  (99, ⟨.st [(0, 0)], 0, 0, []⟩),
  (100, ⟨.one, 1, 8, [.nilFunc]⟩),
  (101, ⟨.one, 1, 4, [.int .u32 0]⟩),
  (102, ⟨.one, 1, 1, [.int .u8 0]⟩),
  (103, ⟨.one, 1, 1, [.int .u8 0]⟩),
  (104, ⟨.one, 1, 8, [.nilFunc]⟩),
  (105, ⟨.one, 1, 8, [.pointer none]⟩),
  (106, ⟨.one, 1, 4, [.int .i32 0]⟩),
  (107, ⟨.one, 1, 4, [.int .i32 0]⟩),
  (108, ⟨.st [(0, 1), (1, 1), (2, 1), (3, 1), (4, 1), (5, 1), (6, 1), (7, 1), (8, 1), (9, 1), (10, 1)], 11, 48, [.int .u64 0, .int .u64 0, .int .u32 0, .int .u8 0, .int .u8 0, .int .u8 0, .int .u8 0, .nilFunc, .pointer none, .int .i32 0, .int .i32 0]⟩),
  (109, ⟨.st [(0, 1), (1, 1), (2, 1), (3, 1), (4, 1), (5, 1), (6, 1), (7, 1), (8, 1), (9, 1), (10, 1)], 11, 48, [.int .u64 0, .int .u64 0, .int .u32 0, .int .u8 0, .int .u8 0, .int .u8 0, .int .u8 0, .nilFunc, .pointer none, .int .i32 0, .int .i32 0]⟩),
  (110, ⟨.one, 1, 8, [.pointer none]⟩)]
theorem tyOk : tabOk Try.prog tyTab = true := by kernel_rfl
theorem mixed : Try.prog.follows .mixedOrders = true := by kernel_rfl
end Go.Proofs.Ytcdnpnbjloaihaa
end

section
/- The contracts of the small functions. No condition but those that each states. -/
namespace Go.Proofs.Ytcdnpnbjloaihaa
open Go.RowKit Go.Flow
open Go.Proofs
attribute [local go_sem] block_add
attribute [local go_sem ↓] Go.wp_at_zero Go.wp_at_succ

theorem ret_int {k : IntKind} {a b : Int} (h : a = b) : Ending.returned (.int k a) = .returned (.int k b) := by rw [h]
theorem ret_bool {a b : Bool} (h : a = b) : Ending.returned (.bool a) = .returned (.bool b) := by rw [h]

def sideB (n : Int) : Bool := decide (0 ≤ n ∧ n ≤ 96)

theorem side_any (n : Int) (w : World) :
    Calls Try.prog 55 #[.int .i64 n] w fun e w' => e = .returned (.bool (sideB n)) ∧ w = w' := by
  go_enter Try.func55, Try.ntmps55
  go_wp2
  all_goals go_ret
  all_goals exact ⟨ret_bool (by unfold sideB; simp; omega), rfl⟩

theorem side2_any (n : Int) (w : World) :
    Calls Try.prog 52 #[.int .i64 n] w fun e w' => e = .returned (.bool (sideB n)) ∧ w = w' := by
  go_enter Try.func52, Try.ntmps52
  go_wp2
  all_goals go_ret
  all_goals exact ⟨ret_bool (by unfold sideB; simp; omega), rfl⟩

theorem sideB_iff {n : Int} : sideB n = true ↔ 0 ≤ n ∧ n ≤ 96 := by unfold sideB; simp
theorem area_bd {W H : Int} (hW : 0 ≤ W ∧ W ≤ 96) (hH : 0 ≤ H ∧ H ≤ 96) : 0 ≤ W * H ∧ W * H ≤ 9216 :=
  ⟨Int.mul_nonneg hW.1 hH.1, by have := Int.mul_le_mul hW.2 hH.2 hH.1 (by omega : (0 : Int) ≤ 96); omega⟩

/-- A bitmap by value. -/
abbrev bmp (W H : Int) (A : Option Addr) (n c : Nat) : Value := .agg #[.int .i64 W, .int .i64 H, .slice A n c]
/-- What Check returns. -/
def chk (W H : Int) (n : Nat) : Int := if sideB W && sideB H then (if (n : Int) = W * H then 0 else 5) else 13

theorem okB {W H : Int} {n : Nat} (h : chk W H n = 0) : 0 ≤ W ∧ W ≤ 96 ∧ 0 ≤ H ∧ H ≤ 96 ∧ (n : Int) = W * H := by
  unfold chk at h
  split at h
  · rename_i h1
    simp only [Bool.and_eq_true, sideB_iff] at h1
    split at h
    · exact ⟨h1.1.1, h1.1.2, h1.2.1, h1.2.2, ‹_›⟩
    · omega
  · omega

def hasB (W H : Int) (dot : Nat → Bool) (x y : Int) : Bool := if 0 ≤ x ∧ x < W ∧ 0 ≤ y ∧ y < H then dot (y * W + x).toNat else false

theorem Check_any (W H : Int) (A : Option Addr) (n c : Nat) (w : World) :
    Calls Try.prog 45 #[bmp W H A n c] w fun e w' => e = .returned (.int .i64 (chk W H n)) ∧ Ext w w' := by
  have hfin : Ext w (w.alloc (.cells #[.int .i64 W, .int .i64 H, .slice A n c] 48)) := (Ext.refl w).alloc _
  replace hfin := Lib.hid hfin
  cases hW : sideB W
  · have hr : chk W H n = 13 := by simp [chk, hW]
    replace hr := Lib.hid hr
    go_enter Try.func45, Try.ntmps45
    go_wp2_with (first | (go_at_call 55; refine (side_any _ _).mono ?_; rintro e w' ⟨rfl, rfl⟩))
    go_ret
    exact ⟨ret_int hr.out.symm, hfin.out⟩
  cases hH : sideB H
  · have hr : chk W H n = 13 := by simp [chk, hH]
    replace hr := Lib.hid hr
    go_enter Try.func45, Try.ntmps45
    go_wp2_with (first | (go_at_call 55; refine (side_any _ _).mono ?_; rintro e w' ⟨rfl, rfl⟩))
    go_ret
    exact ⟨ret_int hr.out.symm, hfin.out⟩
  have hb := area_bd (sideB_iff.1 hW) (sideB_iff.1 hH)
  have hr : chk W H n = if (n : Int) = W * H then 0 else 5 := by simp [chk, hH, hW]
  replace hr := Lib.hid hr
  go_enter Try.func45, Try.ntmps45
  go_wp2_with (first | (go_at_call 55; refine (side_any _ _).mono ?_; rintro e w' ⟨rfl, rfl⟩))
  all_goals go_ret
  all_goals refine ⟨?_, hfin.out⟩
  all_goals rw [hr.out]
  all_goals simp_all

theorem Check2_any (W H : Int) (A : Option Addr) (n c : Nat) (w : World) :
    Calls Try.prog 40 #[bmp W H A n c] w fun e w' => e = .returned (.int .i64 (chk W H n)) ∧ Ext w w' := by
  have hfin : Ext w (w.alloc (.cells #[.int .i64 W, .int .i64 H, .slice A n c] 48)) := (Ext.refl w).alloc _
  replace hfin := Lib.hid hfin
  cases hW : sideB W
  · have hr : chk W H n = 13 := by simp [chk, hW]
    replace hr := Lib.hid hr
    go_enter Try.func40, Try.ntmps40
    go_wp2_with (first | (go_at_call 52; refine (side2_any _ _).mono ?_; rintro e w' ⟨rfl, rfl⟩))
    go_ret
    exact ⟨ret_int hr.out.symm, hfin.out⟩
  cases hH : sideB H
  · have hr : chk W H n = 13 := by simp [chk, hH]
    replace hr := Lib.hid hr
    go_enter Try.func40, Try.ntmps40
    go_wp2_with (first | (go_at_call 52; refine (side2_any _ _).mono ?_; rintro e w' ⟨rfl, rfl⟩))
    go_ret
    exact ⟨ret_int hr.out.symm, hfin.out⟩
  have hb := area_bd (sideB_iff.1 hW) (sideB_iff.1 hH)
  have hr : chk W H n = if (n : Int) = W * H then 0 else 5 := by simp [chk, hH, hW]
  replace hr := Lib.hid hr
  go_enter Try.func40, Try.ntmps40
  go_wp2_with (first | (go_at_call 52; refine (side2_any _ _).mono ?_; rintro e w' ⟨rfl, rfl⟩))
  all_goals go_ret
  all_goals refine ⟨?_, hfin.out⟩
  all_goals rw [hr.out]
  all_goals simp_all

theorem Mod_any (n m : Int) (hm : 0 < m) (hM : m ≤ 1000000) (w : World) :
    Calls Try.prog 31 #[.int .i64 n, .int .i64 m] w fun e w' => e = .returned (.int .i64 (n % m)) ∧ w = w' := by
  have h1 : -m < n.tmod m := by have := Int.lt_tmod_of_pos n hm; omega
  have h2 : n.tmod m < m := Int.tmod_lt_of_pos n hm
  have h3 : (n.tmod m + m) % m = n % m := by
    rw [Int.add_emod_right, Int.emod_def, Int.emod_def]
    have e1 := Int.mul_tdiv_add_tmod n m
    have e2 : n.tmod m = n - m * n.tdiv m := by omega
    rw [e2, show n - m * n.tdiv m = n + m * (- n.tdiv m) by rw [Int.mul_neg]; omega, Int.add_mul_ediv_left _ _ (by omega), Int.mul_add]
    omega
  replace h3 := Lib.hid h3
  go_enter Try.func31, Try.ntmps31
  go_wp2
  all_goals go_ret
  all_goals exact ⟨ret_int (by rw [← h3.out]; try simp), rfl⟩

/-- What a draw yields, and where it stands then. -/
def dval (N : Nat) (f : Nat → Int) (at_ : Nat) (m : Int) : Int := if at_ < N then f at_ % m else 0
def dat (N at_ : Nat) : Nat := if at_ < N then at_ + 1 else at_

theorem Next_any (w0 : World) (g : Nat) (A : Option Addr) (N c : Nat) (f : Nat → Int) (at_ : Nat) (m : Int) (hm : 0 < m) (hM : m ≤ 1000000) (w : World)
    (hN : N ≤ 4611686018427387904) (hat : at_ ≤ N)
    (hE : Ext w0 w) (hf : Ints w0 A N f) (hg : w0.heap.size ≤ g) (hB : Blk w g 67 #[.slice A N c, .int .i64 (at_ : Int)]) :
    Calls Try.prog 30 #[.pointer (some ⟨g, 0, none⟩), .int .i64 m] w fun e w' => e = .returned (.int .i64 (dval N f at_ m)) ∧
      Blk w' g 67 #[.slice A N c, .int .i64 (dat N at_ : Int)] ∧ Only w w' g := by
  obtain ⟨hBc, hBf, hBl⟩ := hB.rules
  by_cases hlt : at_ < N
  · have hlt' : (at_ : Int) < N := by omega
    obtain ⟨ad, rfl, hc⟩ := hf at_ hlt
    have hadl : ad.block < w0.heap.size := by have := World.block_lt_of_cell? w0 _ hc; rwa [block_add] at this
    have hv : dval N f at_ m = f at_ % m := by simp [dval, hlt]
    have ht : dat N at_ = at_ + 1 := by simp [dat, hlt]
    replace hv := Lib.hid hv
    replace ht := Lib.hid ht
    go_enter Try.func30, Try.ntmps30
    go_wp2_with fail
    refine Flow.wp_flow 10 [(0, true), (1, true), (2, true), (3, true), (4, true), (5, true), (6, true), (7, true), (8, true), (9, true)] (by kernel_rfl) (by kernel_rfl) ?_
    simp only [List.map_cons, List.map_nil, List.getD_cons_succ, List.getD_cons_zero]
    repeat (first
      | (refine Flow.WalkL.move rfl ?_
         simp only [Act.put, Act.eval, Array.getD_eq_getD_getElem?, List.getElem?_toArray, List.getElem?_cons_succ, List.getElem?_cons_zero, Option.getD_some, List.setIfInBounds_toArray, List.set_cons_zero, List.set_cons_succ])
      | (refine Flow.WalkL.assign rfl ?_
         simp only [Act.put, Act.eval, Array.getD_eq_getD_getElem?, List.getElem?_toArray, List.getElem?_cons_succ, List.getElem?_cons_zero, Option.getD_some, List.setIfInBounds_toArray, List.set_cons_zero, List.set_cons_succ])
      | (refine Flow.WalkL.run (v := ?_) rfl (fun w1 hC => ?_) ?_
         rotate_left
         · obtain ⟨hCc, hCf⟩ := hC.rules
           go_simp
           with_reducible rfl
         simp only [Act.put, List.setIfInBounds_toArray, List.set_cons_zero, List.set_cons_succ]))
    refine Flow.WalkL.nil ?_
    simp only [List.drop]
    intro w1 hC
    obtain ⟨hCc, hCf⟩ := hC.rules
    go_wp2_with fail
    refine wp_abs (fun W => Only w W g ∧ Blk W g 67 #[.slice (some ad) N c, .int .i64 ((at_ : Int) + 1)])
      ⟨(Only.of_ext hC g).trans (Only.set_ _ _ _ _), by have := (hB.ext hC).set_ 1 (.int .i64 ((at_ : Int) + 1)); simpa using this⟩ ?_
    rintro W ⟨hO, hB'⟩
    have hc' : W.cell? (ad.add at_) = some (.int .i64 (f at_)) := (hO.ext hE hg).cell hc
    have hadl' : ad.block < W.heap.size := by have := (hO.ext hE hg).size; omega
    clear hBc hBf hBl hCc hCf
    obtain ⟨hBc, hBf, hBl⟩ := hB'.rules
    have hwr : IntKind.i64.wrap (at_ : Int) = at_ := by rw [IntKind.wrap_i64]; omega
    have hat0 : (0 : Int) ≤ at_ := by omega
    refine Flow.wp_flow 14 [(0, true), (1, true), (2, true), (3, true), (4, true), (5, true), (6, true), (7, true), (8, true), (9, true), (10, true), (11, true), (12, true), (13, true)] (by kernel_rfl) (by kernel_rfl) ?_
    simp only [List.map_cons, List.map_nil, List.getD_cons_succ, List.getD_cons_zero]
    repeat (first
      | (refine Flow.WalkL.move rfl ?_
         simp only [Act.put, Act.eval, Array.getD_eq_getD_getElem?, List.getElem?_toArray, List.getElem?_cons_succ, List.getElem?_cons_zero, Option.getD_some, List.setIfInBounds_toArray, List.set_cons_zero, List.set_cons_succ])
      | (refine Flow.WalkL.assign rfl ?_
         simp only [Act.put, Act.eval, Array.getD_eq_getD_getElem?, List.getElem?_toArray, List.getElem?_cons_succ, List.getElem?_cons_zero, Option.getD_some, List.setIfInBounds_toArray, List.set_cons_zero, List.set_cons_succ])
      | (refine Flow.WalkL.callf Try.func31 rfl (by kernel_rfl) rfl (fun w1 hC => keep (Mod_any _ _ hm hM _)) rfl rfl ?_
         simp only [Act.put, List.setIfInBounds_toArray, List.set_cons_zero, List.set_cons_succ])
      | (refine Flow.WalkL.run (v := ?_) rfl (fun w1 hC => ?_) ?_
         rotate_left
         · obtain ⟨hCc, hCf⟩ := hC.rules
           go_simp
           with_reducible rfl
         simp only [Act.put, List.setIfInBounds_toArray, List.set_cons_zero, List.set_cons_succ]))
    refine Flow.WalkL.nil ?_
    simp only [List.drop]
    intro w2 hC2
    go_wp2_with fail
    go_ret
    exact ⟨ret_int hv.out.symm, by rw [ht.out]; exact hB'.ext hC2, hO.trans (Only.of_ext hC2 g)⟩
  · have hge : (N : Int) ≤ at_ := by omega
    have hv : dval N f at_ m = 0 := by simp [dval, hlt]
    have ht : dat N at_ = at_ := by simp [dat, hlt]
    replace hv := Lib.hid hv
    replace ht := Lib.hid ht
    go_enter Try.func30, Try.ntmps30
    go_wp2_with fail
    refine Flow.wp_flow 10 [(0, true), (1, true), (2, true), (3, true), (4, true), (5, true), (6, true), (7, true), (8, true), (9, true)] (by kernel_rfl) (by kernel_rfl) ?_
    simp only [List.map_cons, List.map_nil, List.getD_cons_succ, List.getD_cons_zero]
    repeat (first
      | (refine Flow.WalkL.move rfl ?_
         simp only [Act.put, Act.eval, Array.getD_eq_getD_getElem?, List.getElem?_toArray, List.getElem?_cons_succ, List.getElem?_cons_zero, Option.getD_some, List.setIfInBounds_toArray, List.set_cons_zero, List.set_cons_succ])
      | (refine Flow.WalkL.assign rfl ?_
         simp only [Act.put, Act.eval, Array.getD_eq_getD_getElem?, List.getElem?_toArray, List.getElem?_cons_succ, List.getElem?_cons_zero, Option.getD_some, List.setIfInBounds_toArray, List.set_cons_zero, List.set_cons_succ])
      | (refine Flow.WalkL.run (v := ?_) rfl (fun w1 hC => ?_) ?_
         rotate_left
         · obtain ⟨hCc, hCf⟩ := hC.rules
           go_simp
           with_reducible rfl
         simp only [Act.put, List.setIfInBounds_toArray, List.set_cons_zero, List.set_cons_succ]))
    refine Flow.WalkL.nil ?_
    simp only [List.drop]
    intro w1 hC
    obtain ⟨hCc, hCf⟩ := hC.rules
    go_wp2_with fail
    go_ret
    exact ⟨ret_int hv.out.symm, by rw [ht.out]; exact hB.ext hC, Only.of_ext hC g⟩
end Go.Proofs.Ytcdnpnbjloaihaa
end
