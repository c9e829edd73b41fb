/- Parts of the proof: Base, App, AMem3, AMem9, AMemA, AMemB, AMemC, Img, ImgPutP, Same, ImgPut, AOld, ASet. -/
import Derived.Test.YtekkldgmjdllbaaG01
import Derived.StillTail
import Derived.Below
import Derived.Deep.Draws
import Derived.WalkKit
import Derived.KernelRfl
import Derived.Maps.AppendAt
import Derived.OwnWalk
import Derived.Test.YtekkldgmjdllbaaG06
import Derived.Test.YtekkldgmjdllbaaG05
import Derived.Great.BuildSlice
import Derived.Test.YtekkldgmjdllbaaG04
import Derived.Test.YtekkldgmjdllbaaG03
import Derived.RangeFuncLeaves
import Derived.RangeFuncRecord
import Derived.Test.YtekkldgmjdllbaaG02
import Derived.Deep.AppendLies
import Derived.OrdersIn
import Derived.TacticsIn
import Derived.RangeFuncCalls
import Derived.Test.YtekkldgmjdllbaaG08
import Derived.Laws.StructEq
import Derived.Test.YtekkldgmjdllbaaG07
import Derived.Laws.Cover3
import Derived.Test.YtekkldgmjdllbaaG11
import Derived.Test.YtekkldgmjdllbaaProg
import Derived.Lib.Hide
import Derived.Deep.QuietTactic
import Derived.BigQuiet
import Derived.Deep.DrawnRows
import Derived.Test.YtekkldgmjdllbaaG10
set_option linter.unusedSimpArgs false
set_option linter.unusedVariables false
section
namespace Go.Flow
open Go Go.RowKit
section
variable {w w' W : World} {g : Nat} {t : TypeId} {cs : Array Value}
end
abbrev Ints (w : World) (A : Option Addr) (n : Nat) (f : Nat → Int) : Prop := Arr w A n fun k => .int .i64 (f k)
section
variable {w w' : World} {g : Nat} {t : TypeId} {n : Nat} {F G : Nat → Value}
end
section
variable {P : Program} {w w' : World} {base : Nat} {e : TypeId} {size : Nat} {v : Value} {n : Nat} {xs : List Value}
theorem grown_none {w w' : World} (h : Ext w w') (row : Option Nat) : w.grownBy w' row := ⟨h.os, h.tape, h.output, h.size, fun i hi _ => Below.block h i hi⟩
theorem own_ext (h : w.ownsRow base e size v n xs) (hE : Ext w w') : w'.ownsRow base e size v n xs := h.kept (grown_none hE none) (by cases hv : v.ownBlock <;> simp)
theorem own_set_ {p : Addr} (h : w.ownsRow base e size v n xs) (hp : p.block < base) (u : Value) : (w.setCell p u).ownsRow base e size v n xs := ownsRow_setCell_below h hp u
theorem wpList_app1 {ops : Array Oper} {rest : List Oper} {o : Oper} {a : Act} {Q : Exit → Act → World → Prop} (hgd : o.guard = none) (s x : Operand) (t : TypeId)
 (ho : o.op = .call { callee := .builtin .append, args := #[s, x], argTypes := #[t, t] })
 (i : TypeInfo) (z : Value) (bytes : Nat) (ht : P.underlying t = some (.slice e)) (hi : P.info? e = some i) (hz : i.zero = some z)
 (hsize : i.size = 1) (hby : i.bytes = bytes) (hzs : z.cells.size = 1)
 (hs : a.eval s = v) (hown : w.ownsRow base e 1 v n xs) (g : Nat) (u : Value) (cs : Array Value) (t' : TypeId) (hx : a.eval x = .slice (some ⟨g, 0, none⟩) 1 1) (hB : Blk w g t' cs) (hc : cs[0]? = some u)
 (h1 : u.oneCell' = true) (h63 : n + 1 ≤ 4611686018427387904) (hbytes : (n + 1) * bytes ≤ 140737488355328) (hbase : base ≤ w.heap.size)
 (h : ∀ v' w', w'.ownsRow base e 1 v' (n + 1) (xs ++ [u]) → w.grownBy w' v.ownBlock → (∀ W, W.heap.size ≤ base → Ext W w → Ext W w') → wpList P ops Q rest (a.put o.dst v') w') : wpList P ops Q (o :: rest) a w := by
 refine wpList_append_own w hgd s x t ho base e i z 1 bytes ht hi hz hsize hby hzs (by omega) v n xs hs hown ⟨g, 0, none⟩ 1 1 [u] hx rfl (fun j y hj => ?_) (by simpa using h1) (by simp only [maxLen]; omega) hbytes hbase
  fun v' w' h2 h3 _ => h v' w' h2 h3 fun W hW hE => hE.grown h3 fun k hk => by have := (hown.lt k hk).1; omega
 cases j with
 | zero =>
   obtain rfl : u = y := by simpa using hj
   show w.cell? ⟨g, 0, none⟩ = _
   rw [hB.cell 0]
   exact hc
 | succ j => simp at hj
end
end Go.Flow
end
section
namespace Go.AV
open Go Go.RowKit Go.Flow
section
variable {P : Program} {tab : List (TypeId × TD)}
section ops
variable {ops : Array Oper} {rest : List Oper} {acc : List (List Nat × List Nat)} {S : St} {Q : List (List Nat × List Nat) → St → Prop} {dst : Option Tmp} {ty : TypeId} {pos : String} {after : Array Edge} {guard : Option (Nat × Bool)}
theorem AList.emptySl (T : tabOk P tab = true) {id : Nat} {t el : TypeId} {d e : TD} {parts : Array (Nat × Operand)} (hw : S.wants ops { dst := some id, op := .buildSlice t 0 parts, type := ty, pos, after, guard } = some true) (hd : dOk S.n (some id) = true) (hf : S.fr id = true)
 (ht : assoc tab t = some d) (hk : d.k = .sl el) (he : assoc tab el = some e) (hp : parts = #[])
 (hn : AList P ops rest (([id], [id, id]) :: acc) (S.eff (some id) ⟨.c (.ow id), [(id, some ⟨true, 0, e.size, el, zF e.zero⟩)], [id]⟩) Q) : AList P ops ({ dst := some id, op := .buildSlice t 0 parts, type := ty, pos, after, guard } :: rest) acc S Q :=
 AList.new (B := ⟨true, 0, e.size, el, zF e.zero⟩) [] hw hd hf (fun S1 h1 _ b0 σ a w R => by
  obtain ⟨inf, z, u, i1, i2, i3, i4, i5, i6, -⟩ := ty_info T he
  subst hp
  refine ⟨.slice (some ⟨w.heap.size, 0, none⟩) 0 0, 0, #[], ?_, .inl ⟨rfl, rfl, Nat.le_refl _, by simp [maxLen]⟩, by simp, fun k hk => absurd hk (Nat.not_lt_zero _), fun σ' O' w' h => rep_ow h⟩
  simp [execOp, Instr.buildSlice, run_underlying (ty_sl T ht hk), sizeOf, typeInfo, i1, Instr.fill, newRow]
  rw [show Array.map (fun _ => default) (Array.range 0) = (#[] : Array Value) from Array.ext' (by simp)]) hn

end ops
end
section
variable {P : Program}
section ops
variable {ops : Array Oper} {rest : List Oper} {acc : List (List Nat × List Nat)} {S : St} {Q : List (List Nat × List Nat) → St → Prop} {dst : Option Tmp} {ty xt yt : TypeId} {pos : String} {after : Array Edge} {guard : Option (Nat × Bool)} {x y : Operand} {tab : List (TypeId × TD)}
end ops
section rows
variable {α : Type} {c : α → List CV} {z : α} {sz : Nat}
end rows
end
/- Short forms of what is printed often: proofs by default. -/
theorem qr7eo {A0 A1 A2 A3 A4 A5 A6 A7 A8 N G : Prop} (f : A0 → A1 → A2 → A3 → A4 → A5 → A6 → A7 → A8 → N → G) (hn : N) (h0 : A0 := by exact rfl) (h1 : A1 := by exact rfl) (h2 : A2 := by exact rfl) (h3 : A3 := by exact rfl) (h4 : A4 := by exact rfl) (h5 : A5 := by exact rfl) (h6 : A6 := by exact rfl) (h7 : A7 := by first | rfl | omega) (h8 : A8 := by exact oM) : G := f h0 h1 h2 h3 h4 h5 h6 h7 h8 hn
theorem hoT {P : Prop} (h : P := by first | exact HeapOk.same rfl rfl rfl rfl | exact HeapOk.lent rfl rfl rfl rfl | exact HeapOk.nil rfl rfl | exact HeapOk.row rfl rfl (by first | rfl | omega) (fun i _ j _ => ⟨rfl, by first | rfl | exact rowN_imm (fun _ => rfl) _ i j | exact rowF_imm (fun _ => rfl) _ i j⟩) | exact HeapOk.box rfl rfl (by repeat (first | exact trivial | refine ⟨by first | exact LeC.refl _ rfl | exact LeC.ow _ _ rfl | exact LeC.nil _ rfl | exact LeC.nils _ _ | exact LeC.fz rfl rfl (by first | rfl | omega) (fun i _ j _ => ⟨rfl, by first | rfl | exact rowN_imm (fun _ => rfl) _ i j | exact rowF_imm (fun _ => rfl) _ i j⟩) | exact LeC.int (by omega), ?_⟩)) rfl) : P := h
section
variable {P : Program}
def FzV (S : St) (rd : List Nat) (x y : V1) : Prop :=
 (x = y ∧ immV x = true) ∨ ∃ (id n sz : Nat) (ty : TypeId) (F G : Nat → Nat → CV), x = .c (.ow id) ∧ y = .c (.ls n sz G) ∧ id ∈ rd ∧ S.h id = some ⟨true, n, sz, ty, F⟩ ∧ ∀ k, k < n → ∀ j, j < sz → F k j = G k j ∧ immC (F k j) = true
theorem fzV_rep {S S1 : St} {rd : List Nat} {b0 : Base} {σ : Nat → Option Value} {a : Act} {w : World} (R : Rel0 b0 σ S1 a w) (hr : ∀ id ∈ rd, S1.h id = S.h id) {x y : V1} {u : Value} (h : FzV S rd x y) (hu : RepV σ (out b0 σ S1.h) w x u) : RepV (fun _ => none) (fun _ => False) w y u := by
 rcases h with ⟨rfl, hi⟩ | ⟨id, n, sz, ty, F, G, rfl, rfl, hid, hh, hc⟩
 ·have h1 := strip0 hi hu
  exact h1.keep ⟨rfl, rfl, rfl, Nat.le_refl _, fun _ _ _ => rfl⟩ (fun b hb => hb.elim) fun _ _ h => h
 ·exact ⟨hu.1, RepI.ls_congr (fun k hk j hj => (hc k hk j hj).1) (frz_rep R.hp ((hr id hid).trans hh) (fun k hk j hj => (hc k hk j hj).2) (fun b hb => hb.elim) (fun v b _ _ h => h) hu.2.1)⟩
theorem fzL_rep {S S1 : St} {rd : List Nat} {b0 : Base} {σ : Nat → Option Value} {a : Act} {w : World} (R : Rel0 b0 σ S1 a w) (hr : ∀ id ∈ rd, S1.h id = S.h id) : ∀ {l m : List V1} {us : List Value}, LeL (FzV S rd) l m → RepL (RepV σ (out b0 σ S1.h) w) l us → RepL (RepV (fun _ => none) (fun _ => False) w) m us
 | [], [], [], _, _ => trivial
 | x :: l, y :: m, u :: us, h, hu => ⟨fzV_rep R hr h.1 hu.1, fzL_rep R hr h.2 hu.2⟩
 | [], _ :: _, _, h, _ => h.elim
 | _ :: _, [], _, h, _ => h.elim
 | [], [], _ :: _, _, h => h.elim
 | _ :: _, _ :: _, [], _, h => h.elim
section ops
variable {ops : Array Oper} {rest : List Oper} {acc : List (List Nat × List Nat)} {S : St} {Q : List (List Nat × List Nat) → St → Prop} {dst : Option Tmp} {ty : TypeId} {pos : String} {after : Array Edge} {guard : Option (Nat × Bool)}
section
variable {tab : List (TypeId × TD)}
end
end ops
end
section
variable {P : Program}
section ops
variable {ops : Array Oper} {rest : List Oper} {acc : List (List Nat × List Nat)} {S : St} {Q : List (List Nat × List Nat) → St → Prop} {dst : Option Tmp} {ty xt yt : TypeId} {pos : String} {after : Array Edge} {guard : Option (Nat × Bool)} {x y : Operand}
theorem run_nilF {t e : TypeId} {w : World} {ad : Addr} {n c : Nat} (h : P.underlying t = some (.slice e)) : (Go.binOp .eql t (.slice (some ad) n c) (.slice none 0 0)).run P w = .ok (.bool false) w := by
 simp [binOp, run_equal_slice_nil w t e (some ad) n c h]
theorem AList.nilLs {n sz : Nat} {F : Nat → Nat → CV} {e : TypeId} (hw : S.wants ops { dst, op := .binOp .eql xt x (.const (.slice none 0 0)) yt, type := ty, pos, after, guard } = some true) (hd : dOk S.n dst = true) (hx : S.opd x = some (.c (.ls n sz F))) (ht : P.underlying xt = some (.slice e)) (h0 : 0 < n) (h1 : 0 < sz)
 (hn : AList P ops rest (([], []) :: acc) (S.eff dst ⟨.c (.p (.bool false)), [], []⟩) Q) : AList P ops ({ dst, op := .binOp .eql xt x (.const (.slice none 0 0)) yt, type := ty, pos, after, guard } :: rest) acc S Q :=
 AList.val [] _ hw hd (fun S1 g1 _ b0 σ a w R => by
  obtain ⟨_, A, c, e1, _, hc⟩ := opd_rep R ((g1 x (by simp [Op.operands])).trans hx)
  obtain ⟨ad, v, rfl, _⟩ := hc 0 h0 0 h1
  refine ⟨.bool false, ?_, rep_p rfl⟩
  have hr := run_nilF (P := P) (w := w) (ad := ad) (n := n) (c := c) ht
  have e2 : a.eval (.const (.slice none 0 0)) = .slice none 0 0 := rfl
  have hgd : (eqGuard .eql xt x (.const (.slice none 0 0)) (.slice (some ad) n c) (.slice none 0 0)).run P w = .ok () w := by unfold eqGuard; rfl
  simp only [execOp, e1, e2, Sem.run_bind, hgd, hr, Result.andThen_ok, Sem.run_pure]) hn
end ops
end
section
variable {P : Program}
def OwRes1 (S : St) (rs : List ResultVar) (B : AB) : Prop :=
 ∃ c id, rs = [.tmp c] ∧ S.t c = some (.c (.ow id)) ∧ S.h id = some B ∧ B.row = true ∧ ∀ k, k < B.n → ∀ j, j < B.sz → immC (B.F k j) = true
def RetOw1 (rs : List ResultVar) (B : AB) : Exit → St → Prop
 | .ret, S => ∃ S', Wk S S' ∧ OwRes1 S' rs B
 | .normal, S => ∃ S', Wk S S' ∧ OwRes1 S' rs B
 | _, _ => False
theorem otcalls_at {f : FuncId} {fn : Func} {c : Code} {rs : List ResultVar} {args : List V1} {B : AB} {n : Nat} (hf : P.funcs[f]? = some fn) (hb : fn.body = some c) (hr : fn.results = rs.toArray) (hn : fn.ntmps = n) (hl : Nat.ble args.length n = true)
 (h : AWp P c (RetOw1 rs B) (entry n args)) : OTCalls P f args (fun id => .c (.ow id)) B := fun O w vals hO hv => by
 subst hn
 let b0 : Base := ⟨w, O, fun _ => False, fun _ => none, hO, fun b hb => hb.elim, fun b _ h => h, fun i v h => (by cases h), fun _ _ => False, fun _ _ _ => True, none, fun _ _ h => h.elim, fun _ _ _ _ _ _ _ _ => trivial⟩
 have hl' := hv.length
 have hO' : ∀ b, out b0 (fun _ => none) (assoc []) b → O b := fun b hb => hb.elim (fun ⟨i, v, h1, _⟩ => absurd rfl h1) fun h => h
 refine calls_of_awp (b0 := b0) hf hb rfl h ⟨fun _ => none, trivial, ?_, ⟨rfl, rfl, rfl, Nat.le_refl _, fun _ _ _ => rfl⟩, ⟨fun id B hB => (by cases hB), fun i j v1 v2 b hi => absurd rfl hi, fun b ⟨i, v, hi, _⟩ => absurd rfl hi, fun i v hi => (by cases hi), fun _ _ _ => rfl⟩, fun t x hx => ?_, fun id hid => ⟨rfl, Nat.blt_eq.mp hid⟩, fun i v hi => (by cases hi), rfl, trivial⟩ (fun e S hQ => by cases e <;> first | exact .inl rfl | exact .inr rfl | exact hQ.elim) fun e a w' S0 hR0 hQ0 hd0 => ?_
 ·have := Nat.ble_eq.mp hl
  simp [entryL, hl']; omega
 ·obtain ⟨y, e1, rfl⟩ : ∃ y, args[t]? = some y ∧ y.av = x := by simpa [entryL, Option.map_eq_some_iff] using hx
  obtain ⟨v, e2, e3⟩ := hv.get e1
  have ht : (vals.toArray ++ Array.replicate (fn.ntmps - vals.toArray.size) undef).getD t undef = v := by
   have hlt := (List.getElem?_eq_some_iff.1 e2).1
   have := (List.getElem?_eq_some_iff.1 e2).2
   simp [Array.getD_eq_getD_getElem?, Array.getElem?_append, hlt, this]
  rw [ht]
  exact (e3.keep ⟨rfl, rfl, rfl, Nat.le_refl _, fun _ _ _ => rfl⟩ (fun b hb => .inl (hO' b hb)) fun _ _ h => h).av
 ·have fin : ∀ S, Rel b0 S a w' → (∃ S', Wk S S' ∧ OwRes1 S' rs B) → ∃ v, (results fn a.tmps).run P w' = .ok v w' ∧ ∃ v' rv, Ending.returned v = .returned v' ∧ OFresh w.heap.size O w' rv B ∧ (∀ (σ : Nat → Option Value) (O' : Nat → Prop) (w'' : World) (id : Nat), σ id = some rv → RepA σ O' w'' (.c (.ow id)) v') ∧ Ext w w' := fun S hR ⟨S', hw, c', id, hrs, hc, hid, hrow, him⟩ => by
   obtain ⟨σ, R⟩ := hw b0 a w' hR
   have hs := R.sl c' _ hc
   obtain ⟨rv, k1, k2⟩ := R.hp.blk id B hid
   have hsub : ∀ b, O b → out b0 σ S'.h b := fun b hb => .inr hb
   have e0 : rv = a.tmps.getD c' undef := by
    have := hs.2.1
    rw [k1] at this
    exact Option.some.inj this
   subst e0
   refine ⟨a.tmps.getD c' undef, ?_, _, _, rfl, ⟨hrow, ?_⟩, fun σ' O' w'' id' hs' => ⟨hs.1, hs', hs.2.2⟩, ?_⟩
   ·rw [results_eq, hr, hrs]
    simp [resV]
   ·rcases k2.row hrow with ⟨_, m1, m2⟩ | ⟨b', cap', cs', m1, m2, m3, m4⟩
    ·exact .inl ⟨m1, m2⟩
    ·refine .inr ⟨b', cap', cs', m1, ?_, m2, m3, fun k hk j hj => ?_⟩
     ·rcases R.hp.new b' ⟨id, _, by rw [hid]; simp, k1, m1.blk⟩ with h | h
      ·exact h
      ·exact h.elim
     ·obtain ⟨u, n1, n2⟩ := m4 k hk j hj
      exact ⟨u, n1, repC_imm (him k hk j hj) n2.1 ((repI_imm (him k hk j hj) n2).less hsub)⟩
   ·exact ⟨R.ext.os, R.ext.tape, R.ext.output, R.ext.size, fun k hk => R.ext.block k hk fun h => h.elim (fun h => h) fun h => h⟩
  cases e with
  | ret => exact fin S0 hR0 hQ0
  | normal => exact fin S0 hR0 hQ0
  | _ => exact hQ0.elim
section ops
variable {ops : Array Oper} {rest : List Oper} {acc : List (List Nat × List Nat)} {S : St} {Q : List (List Nat × List Nat) → St → Prop} {ty : TypeId} {pos : String} {after : Array Edge} {guard : Option (Nat × Bool)}
theorem AList.callTP {f : FuncId} {fn : Func} {id : Nat} {xs : Array Operand} {ats : Array TypeId} {args args1 : List V1} {r : Nat → AV} {B : AB} (rd : List Nat) (hw : S.wants ops { dst := some id, op := .call { callee := .value (.func f), args := xs, argTypes := ats }, type := ty, pos, after, guard } = some true) (hd : dOk S.n (some id) = true) (hfr : S.fr id = true)
 (ha : S.opds xs.toList = some args) (hf : P.funcs[f]? = some fn) (hb : fn.body.isNone = false) (hnm : (fn.name == "runtime.NumGoroutine") = false) (hc : OTCalls P f args1 r B) (hz : LeL (FzV S rd) args args1) (hpc : ∀ k, k < B.n → ∀ j, j < B.sz → isP (B.F k j) = true)
 (hn : AList P ops rest ((rd ++ [id], [id, id]) :: acc) (S.eff (some id) ⟨r id, [(id, some B)], [id]⟩) Q) : AList P ops ({ dst := some id, op := .call { callee := .value (.func f), args := xs, argTypes := ats }, type := ty, pos, after, guard } :: rest) acc S Q :=
 AList.cons rd ⟨r id, [(id, some B)], [id]⟩ (LStep.of hw fun S1 hA hr hal b0 σ a w R => by
  have h2 : S1.opds xs.toList = some args := (opds_congr fun x hx => hA.op x (by simp only [Op.operands, Call.operands]; simp; exact .inr (by simpa using hx))).trans ha
  have := hc (fun _ => False) w (xs.toList.map a.eval) (fun b hb => hb.elim) (fzL_rep R hr hz (opds_rep R h2))
  rw [run_callf f fn hf hb hnm #[] #[] rfl w]
  simp only [Goes]
  rw [show (#[] ++ xs.map a.eval ++ #[] : Array Value) = (xs.toList.map a.eval).toArray from Array.ext' (by simp)]
  refine this.mono fun e w' ⟨v, rv, g1, g2, g3, g4⟩ => ⟨v, g1, R.adoptR (by rw [hA.n]; exact hd) ((hal id (by simp)).trans hfr) g4 ⟨g2.1, ?_⟩ g3 hpc⟩
  rcases g2.2 with h | ⟨b, cap, cs, k1, k2, k3, k4, k5⟩
  ·exact .inl h
  ·refine .inr ⟨b, cap, cs, k1, k2, k3, k4, fun k hk j hj => ?_⟩
   obtain ⟨u, m1, m2⟩ := k5 k hk j hj
   exact ⟨u, m1, isP_rep (hpc k hk j hj) m2⟩) hn
end ops
end
end Go.AV
end
section
namespace Go.Proofs.Ytekkldgmjdllbaa
open Go.RowKit Go.Flow
open Go.Proofs
attribute [local go_sem] block_add
attribute [local go_sem ↓] Go.wp_at_zero Go.wp_at_succ

abbrev img (W H : Int) (A : Option Addr) (n c : Nat) : Value := .agg #[.int .i64 W, .int .i64 H, .slice A n c]
theorem chkI_ok {W H : Int} {n : Nat} {f : Nat → Int} : chkI W H n f = 0 ↔ shI W H n ∧ pxOk n f := by
 unfold chkI
 split
 ·rename_i h
  split <;> simp_all
 ·simp_all
theorem chkI_bad {W H : Int} {n : Nat} {f : Nat → Int} (h : ¬ shI W H n) : chkI W H n f = 50 := by unfold chkI; rw [if_neg h]
theorem areaI {W H : Int} (hW : 0 ≤ W ∧ W ≤ 100) (hH : 0 ≤ H ∧ H ≤ 100) : 0 ≤ W * H ∧ W * H ≤ 10000 :=
 ⟨Int.mul_nonneg hW.1 hH.1, by have := Int.mul_le_mul hW.2 hH.2 hH.1 (by omega : (0 : Int) ≤ 100); omega⟩

def badB (p : Int) : Bool := decide (p < 0 ∨ 2 < p)
theorem bad_any (p : Int) (w : World) : Calls Try.prog 141 #[.int .i64 p] w fun e w' => e = .returned (.bool (badB p)) ∧ w = w' := by
 by_cases h1 : p < 0
 ·go_enter Try.func141, Try.ntmps141
  go_wp2
  go_ret
  exact ⟨ret_bool (by simp [badB, h1]), rfl⟩
 ·by_cases h2 : 2 < p
  ·go_enter Try.func141, Try.ntmps141
   go_wp2
   go_ret
   exact ⟨ret_bool (by simp [badB, h2]), rfl⟩
  ·go_enter Try.func141, Try.ntmps141
   go_wp2
   go_ret
   exact ⟨ret_bool (by simp [badB]; omega), rfl⟩

theorem index_any (A : Option Addr) (n c : Nat) (f : Nat → Int) (w : World) (hn : n ≤ 4611686018427387904) (hA : Ints w A n f) :
 Calls Try.prog 136 #[.slice A n c, .func (.func 141) #[] #[]] w fun e w' => (∃ i : Int, e = .returned (.int .i64 i) ∧ ((pxOk n f ∧ i = -1) ∨ (¬ pxOk n f ∧ 0 ≤ i))) ∧ w = w' := by
 go_enter Try.func136, Try.ntmps136
 go_wp2
 go_loop [8] (fun i => ∃ k : Nat, k ≤ n ∧ i = .int .i64 k ∧ Hid (∀ j, j < k → 0 ≤ f j ∧ f j ≤ 2)) (fun i => n - (intOf i).toNat)
 case atStart => exact ⟨0, Nat.zero_le _, rfl, Lib.hid fun j hj => absurd hj (by omega)⟩
 case round =>
  obtain ⟨k, hk, rfl, heq⟩ := hrel
  by_cases hlt : k < n
  ·have hlt' : (k : Int) < n := by omega
   obtain ⟨ad, rfl, hc⟩ := hA k hlt
   have hb := lt_of_cell hc
   obtain ⟨p, hp⟩ : ∃ p, f k = p := ⟨_, rfl⟩
   simp only [hp] at hc
   replace hp := Lib.hid hp
   by_cases h : badB p = true
   ·have hno : ¬ pxOk n f := fun h' => by
     have := h' k hlt
     rw [hp.out] at this
     simp [badB] at h
     omega
    replace hno := Lib.hid hno
    go_wp2_with (go_at_call 141; refine (bad_any _ _).mono ?_; rintro e w' ⟨rfl, rfl⟩)
    go_ret
    exact ⟨⟨_, rfl, .inr ⟨hno.out, by omega⟩⟩, rfl⟩
   ·replace h : badB p = false := by simpa using h
    go_wp2_with (go_at_call 141; refine (bad_any _ _).mono ?_; rintro e w' ⟨rfl, rfl⟩)
    go_round
    case rel => exact ⟨k + 1, by omega, by go_num, Lib.hid fun j hj => by
     rcases Nat.lt_or_ge j k with h1 | h1
     ·exact heq.out j h1
     ·rw [show j = k by omega, hp.out]
      simp [badB] at h
      omega⟩
    case measure => simp [intOf]; omega
  ·obtain rfl : k = n := by omega
   go_wp2
   go_ret
   exact ⟨⟨_, rfl, .inl ⟨fun j hj => heq.out j hj, rfl⟩⟩, rfl⟩

theorem contains_any (A : Option Addr) (n c : Nat) (f : Nat → Int) (w : World) (hn : n ≤ 4611686018427387904) (hA : Ints w A n f) :
 Calls Try.prog 103 #[.slice A n c, .func (.func 141) #[] #[]] w fun e w' => e = .returned (.bool (!decide (pxOk n f))) ∧ w = w' := by
 obtain ⟨b, hb⟩ : ∃ b, decide (pxOk n f) = b := ⟨_, rfl⟩
 rw [hb]
 replace hb := Lib.hid hb
 go_enter Try.func103, Try.ntmps103
 go_wp2_with fail
 refine (index_any A n c f w hn hA).mono ?_
 rintro e w' ⟨⟨i, rfl, h⟩, rfl⟩
 rcases h with ⟨hp, rfl⟩ | ⟨hp, hi⟩
 ·obtain rfl : b = true := by rw [← hb.out]; simpa using hp
  clear hp hb
  go_wp2
  go_ret
  exact ⟨rfl, rfl⟩
 ·obtain rfl : b = false := by rw [← hb.out]; simpa using hp
  clear hp hb
  go_wp2
  go_ret
  exact ⟨rfl, rfl⟩


set_option maxRecDepth 100000 in
theorem ICheck_any (W H : Int) (A : Option Addr) (n c : Nat) (f : Nat → Int) (w : World) (hn : n ≤ 4611686018427387904) (hA : Ints w A n f) :
 Calls Try.prog 125 #[img W H A n c] w fun e w' => e = .returned (.int .i64 (chkI W H n f)) ∧ Ext w w' := by
 have hE := Lib.hid ((Ext.refl w).alloc (.cells #[.int .i64 W, .int .i64 H, .slice A n c] 75))
 by_cases h1 : W < 0
 ·have hne : chkI W H n f = 50 := chkI_bad (by unfold shI; omega)
  rw [hne]
  clear hne
  go_enter Try.func125, Try.ntmps125
  go_wp2_with fail
  go_ret
  exact ⟨rfl, hE.out⟩
 ·by_cases h2 : 100 < W
  ·have hne : chkI W H n f = 50 := chkI_bad (by unfold shI; omega)
   rw [hne]
   clear hne
   go_enter Try.func125, Try.ntmps125
   go_wp2_with fail
   go_ret
   exact ⟨rfl, hE.out⟩
  ·by_cases h3 : H < 0
   ·have hne : chkI W H n f = 50 := chkI_bad (by unfold shI; omega)
    rw [hne]
    clear hne
    go_enter Try.func125, Try.ntmps125
    go_wp2_with fail
    go_ret
    exact ⟨rfl, hE.out⟩
   ·by_cases h4 : 100 < H
    ·have hne : chkI W H n f = 50 := chkI_bad (by unfold shI; omega)
     rw [hne]
     clear hne
     go_enter Try.func125, Try.ntmps125
     go_wp2_with fail
     go_ret
     exact ⟨rfl, hE.out⟩
    ·have hbd := areaI (W := W) (H := H) ⟨by omega, by omega⟩ ⟨by omega, by omega⟩
     have hwr : IntKind.i64.wrap (W * H) = W * H := by rw [IntKind.wrap_i64]; omega
     by_cases h5 : (n : Int) = W * H
     ·have hs : shI W H n := ⟨by omega, by omega, by omega, by omega, h5⟩
      have h6 : ((n : Int) != W * H) = false := by simp [h5]
      have hc : chkI W H n f = if pxOk n f then 0 else 50 := by unfold chkI; rw [if_pos hs]
      rw [hc]
      obtain ⟨v, hv⟩ : ∃ v : Int, (if pxOk n f then (0 : Int) else 50) = v := ⟨_, rfl⟩
      rw [hv]
      replace hv := Lib.hid hv
      clear hc hs
      replace h5 := Lib.hid h5
      have hA' := Lib.hid (hA.ext hE.out)
      clear hbd
      go_enter Try.func125, Try.ntmps125
      go_wp2_with fail
      refine (contains_any A n c f _ hn hA'.out).mono ?_
      rintro e w' ⟨rfl, rfl⟩
      cases hd : decide (pxOk n f)
      ·obtain rfl : v = 50 := by rw [← hv.out, if_neg (by simpa using hd)]
       clear hd hv
       go_wp2_with fail
       go_ret
       exact ⟨rfl, hE.out⟩
      ·obtain rfl : v = 0 := by rw [← hv.out, if_pos (by simpa using hd)]
       clear hd hv
       go_wp2_with fail
       go_ret
       exact ⟨rfl, hE.out⟩
     ·have h6 : ((n : Int) != W * H) = true := by simp [h5]
      have hne : chkI W H n f = 50 := chkI_bad (by unfold shI; omega)
      rw [hne]
      clear hne hbd
      replace h5 := Lib.hid h5
      go_enter Try.func125, Try.ntmps125
      go_wp2_with fail
      go_ret
      exact ⟨rfl, hE.out⟩
end Go.Proofs.Ytekkldgmjdllbaa
end
section
namespace Go.Proofs.Ytekkldgmjdllbaa
open Go.RowKit Go.Flow
theorem shiftB_iff {dx dy : Int} : shiftB dx dy = true ↔ -2 ≤ dx ∧ dx ≤ 2 ∧ -2 ≤ dy ∧ dy ≤ 2 := by simp [shiftB]
def putF (W H : Int) (dot : Nat → Bool) (dx dy : Int) (k : Nat) : Int := if hasB W H dot ((k : Int) % (W + 4) - 2 - dx) ((k : Int) / (W + 4) - 2 - dy) then 1 else 0
theorem putF_bd (W H : Int) (dot : Nat → Bool) (dx dy : Int) (k : Nat) : 0 ≤ putF W H dot dx dy k ∧ putF W H dot dx dy k ≤ 1 := by unfold putF; split <;> omega
def below (k : Nat) (dot : Nat → Bool) (i : Nat) : Bool := decide (i < k) && dot i
theorem below_all {n k : Nat} {dot : Nat → Bool} (h : n ≤ k) (i : Nat) (hi : i < n) : below k dot i = dot i := by simp [below, show i < k by omega]
theorem hasB_congr {W H : Int} {dot dot' : Nat → Bool} {n : Nat} (hn : (n : Int) = W * H) (h : ∀ i, i < n → dot i = dot' i) (x y : Int) : hasB W H dot x y = hasB W H dot' x y := by
 unfold hasB
 split
 ·rename_i hh
  refine h _ ?_
  have h1 : (y + 1) * W ≤ H * W := Int.mul_le_mul_of_nonneg_right (by omega) (by omega)
  rw [Int.add_mul, Int.mul_comm H W] at h1
  have h2 : 0 ≤ y * W := Int.mul_nonneg (by omega) (by omega)
  omega
 ·rfl
theorem putF_congr {W H : Int} {dot dot' : Nat → Bool} {n : Nat} (hn : (n : Int) = W * H) (h : ∀ i, i < n → dot i = dot' i) (dx dy : Int) (k : Nat) : putF W H dot dx dy k = putF W H dot' dx dy k := by
 unfold putF
 rw [hasB_congr hn h]
theorem putF_none (W H : Int) (dot : Nat → Bool) (dx dy : Int) (k : Nat) : putF W H (below 0 dot) dx dy k = 0 := by
 unfold putF hasB
 have : ∀ i, below 0 dot i = false := fun i => by simp [below]
 simp [this]
theorem putF_skip {W H : Int} {dot : Nat → Bool} {k : Nat} (h : dot k = false) (dx dy : Int) (j : Nat) : putF W H (below (k + 1) dot) dx dy j = putF W H (below k dot) dx dy j := by
 have : below (k + 1) dot = below k dot := by
  funext i
  unfold below
  by_cases e : i = k
  ·subst e; simp [h]
  ·by_cases h1 : i < k
   ·simp [h1, show i < k + 1 by omega]
   ·simp [h1, show ¬ i < k + 1 by omega]
 rw [this]
def tgt (W dx dy : Int) (k : Nat) : Int := ((k : Int) / W + 2 + dy) * (W + 4) + (k : Int) % W + 2 + dx
theorem tgt_bd {Wn Hn n : Nat} (hn : (n : Int) = (Wn : Int) * Hn) {dx dy : Int} (hs : shiftB dx dy = true) {k : Nat} (hk : k < n) : 0 ≤ tgt Wn dx dy k ∧ tgt Wn dx dy k < ((Wn : Int) + 4) * (Hn + 4) ∧
 0 ≤ (k : Int) % Wn ∧ (k : Int) % Wn < Wn ∧ 0 ≤ (k : Int) / Wn ∧ (k : Int) / Wn < Hn ∧ 0 < Wn := by
 have hs' := shiftB_iff.1 hs
 have hW : 0 < Wn := by
  rcases Nat.eq_zero_or_pos Wn with h | h
  ·rw [h] at hn; simp at hn; omega
  ·exact h
 have h1 := Int.emod_nonneg (k : Int) (show (Wn : Int) ≠ 0 by omega)
 have h2 := Int.emod_lt_of_pos (k : Int) (show (0 : Int) < Wn by omega)
 have h3 : 0 ≤ (k : Int) / Wn := Int.ediv_nonneg (by omega) (by omega)
 have h4 : (k : Int) / Wn < Hn := Int.ediv_lt_of_lt_mul (by omega) (by rw [Int.mul_comm, ← hn]; omega)
 have h5 : 0 ≤ ((k : Int) / Wn + 2 + dy) * ((Wn : Int) + 4) := Int.mul_nonneg (by omega) (by omega)
 have h6 : ((k : Int) / Wn + 2 + dy + 1) * ((Wn : Int) + 4) ≤ ((Hn : Int) + 4) * ((Wn : Int) + 4) := Int.mul_le_mul_of_nonneg_right (by omega) (by omega)
 rw [Int.add_mul _ 1, Int.mul_comm ((Hn : Int) + 4)] at h6
 unfold tgt
 refine ⟨by omega, by omega, h1, h2, h3, h4, hW⟩
theorem putF_set {Wn Hn n : Nat} (hn : (n : Int) = (Wn : Int) * Hn) {dot : Nat → Bool} {k : Nat} (hk : k < n) (h : dot k = true) {dx dy : Int} (hs : shiftB dx dy = true) (j : Nat) :
 putF Wn Hn (below (k + 1) dot) dx dy j = if (j : Int) = tgt Wn dx dy k then 1 else putF Wn Hn (below k dot) dx dy j := by
 have hs' := shiftB_iff.1 hs
 obtain ⟨-, -, h1, h2, h3, h4, hW⟩ := tgt_bd hn hs hk
 have hkd : (k : Int) / Wn * Wn + (k : Int) % Wn = k := by have := Int.mul_ediv_add_emod (k : Int) Wn; rw [Int.mul_comm] at this; exact this
 by_cases e : (j : Int) = tgt Wn dx dy k
 ·rw [if_pos e]
  have e1 : (j : Int) / ((Wn : Int) + 4) = (k : Int) / Wn + 2 + dy ∧ (j : Int) % ((Wn : Int) + 4) = (k : Int) % Wn + 2 + dx := by
   rw [e]
   unfold tgt
   rw [show ((k : Int) / Wn + 2 + dy) * ((Wn : Int) + 4) + (k : Int) % Wn + 2 + dx = ((k : Int) % Wn + 2 + dx) + ((k : Int) / Wn + 2 + dy) * ((Wn : Int) + 4) by omega,
    Int.add_mul_ediv_right _ _ (by omega), Int.add_mul_emod_self_right, Int.ediv_eq_zero_of_lt (by omega) (by omega), Int.emod_eq_of_lt (by omega) (by omega)]
   omega
  unfold putF
  rw [e1.1, e1.2, hasB_in (by omega) (by omega) (by omega) (by omega)]
  rw [show ((k : Int) / Wn + 2 + dy - 2 - dy) = (k : Int) / Wn by omega, show ((k : Int) % Wn + 2 + dx - 2 - dx) = (k : Int) % Wn by omega, hkd]
  simp [below, h]
 ·rw [if_neg e]
  unfold putF hasB
  split
  ·rename_i hh
   obtain ⟨x, hx⟩ : ∃ x, (j : Int) % ((Wn : Int) + 4) - 2 - dx = x := ⟨_, rfl⟩
   obtain ⟨y, hy⟩ : ∃ y, (j : Int) / ((Wn : Int) + 4) - 2 - dy = y := ⟨_, rfl⟩
   rw [hx, hy] at hh ⊢
   have hne : (y * (Wn : Int) + x).toNat ≠ k := by
    intro he
    have hy0 : 0 ≤ y * (Wn : Int) := Int.mul_nonneg (by omega) (by omega)
    have hk2 : (k : Int) = x + y * Wn := by omega
    have hq : (k : Int) / Wn = y := by rw [hk2, Int.add_mul_ediv_right _ _ (by omega), Int.ediv_eq_zero_of_lt (by omega) (by omega)]; omega
    have hr : (k : Int) % Wn = x := by rw [hk2, Int.add_mul_emod_self_right, Int.emod_eq_of_lt (by omega) (by omega)]
    apply e
    unfold tgt
    rw [hq, hr]
    have := Int.mul_ediv_add_emod (j : Int) ((Wn : Int) + 4)
    rw [Int.mul_comm] at this
    rw [show y + 2 + dy = (j : Int) / ((Wn : Int) + 4) by omega]
    omega
   generalize (y * (Wn : Int) + x).toNat = i at hne ⊢
   have hb : below (k + 1) dot i = below k dot i := by
    unfold below
    by_cases h1 : i < k
    ·simp [h1, show i < k + 1 by omega]
    ·simp [h1, show ¬ i < k + 1 by omega]
   rw [hb]
  ·rfl
theorem putF_at {Wn : Nat} {H : Int} {dot : Nat → Bool} {dx dy : Int} {x y : Nat} (hx : x < Wn + 4) : putF Wn H dot dx dy (y * (Wn + 4) + x) = if hasB Wn H dot ((x : Int) - 2 - dx) ((y : Int) - 2 - dy) then 1 else 0 := by
 unfold putF
 have e : ((y * (Wn + 4) + x : Nat) : Int) = (x : Int) + (y : Int) * ((Wn : Int) + 4) := by rw [Int.natCast_add, Int.natCast_mul, Int.natCast_add, Int.add_comm]; rfl
 rw [e, Int.add_mul_ediv_right _ _ (by omega), Int.add_mul_emod_self_right, Int.ediv_eq_zero_of_lt (by omega) (by omega), Int.emod_eq_of_lt (by omega) (by omega), Int.zero_add]
end Go.Proofs.Ytekkldgmjdllbaa
end
section
namespace Go.Proofs.Ytekkldgmjdllbaa
open Go.RowKit Go.Flow
open Go.Proofs
attribute [local go_sem] block_add
attribute [local go_sem ↓] Go.wp_at_zero Go.wp_at_succ

theorem info_int : (Try.prog.info? 3).map (fun i => (i.zero, i.size, i.bytes)) = some (some (.int .i64 0), 1, 8) := by kernel_rfl
end Go.Proofs.Ytekkldgmjdllbaa
end
section
namespace Go.Flow
open Go Go.RowKit
section
variable {w w' : World} {base n : Nat} {A : Option Addr} {t : TypeId} {F : Nat → Value}
theorem Mine.of_row {v : Value} {xs : List Value} (h : w.ownsRow base t 1 v n xs) (hF : ∀ k, k < n → xs[k]? = some (F k)) : ∃ A c, v = .slice A n c ∧ n ≤ c ∧ Mine w base A t n F := by
 rcases h.2 with ⟨rfl, rfl⟩ | ⟨g, cap, cur, rfl, hb, hg, hnc, _, _, htake⟩
 ·exact ⟨none, 0, rfl, Nat.le_refl _, fun h => absurd h (by omega)⟩
 ·exact ⟨_, cap, rfl, hnc, fun _ => ⟨g, rfl, hb, cur, hg, fun k hk => by
   have := hF k hk
   rw [← htake] at this
   rw [List.getElem?_take, if_pos (by omega)] at this
   rw [← Array.getElem?_toList]
   exact this⟩⟩
theorem row_succ {base : Nat} {e : TypeId} {size : Nat} {v : Value} {k : Nat} {xs : List Value} (h : w.ownsRow base e size v (k + 1) xs) : ∃ g cap, v = .slice (some ⟨g, 0, none⟩) (k + 1) cap := by
 rcases h.2 with ⟨_, h0⟩ | ⟨g, cap, _, rfl, _⟩
 ·omega
 ·exact ⟨g, cap, rfl⟩
theorem row_get {G : Nat → Value} {n k : Nat} (hk : k < n) : ((List.range n).map G)[k]? = some (G k) := by simp [List.getElem?_range hk]
end
end Go.Flow
namespace Go.Proofs.Ytekkldgmjdllbaa
open Go.RowKit Go.Flow
open Go.Proofs
attribute [local go_sem] block_add
attribute [local go_sem ↓] Go.wp_at_zero Go.wp_at_succ

def PutPost (W H : Int) (n : Nat) (dot : Nat → Bool) (dx dy : Int) (w : World) (e : Ending) (w' : World) : Prop :=
 (putE W H n dx dy ≠ 0 ∧ e = .returned (.tuple #[img 0 0 none 0 0, .int .i64 (putE W H n dx dy)]) ∧ Ext w w') ∨
 (putE W H n dx dy = 0 ∧ ∃ A c, ∃ m : Nat, e = .returned (.tuple #[img (W + 4) (H + 4) A m c, .int .i64 0]) ∧ (m ≤ c ∧ (m : Int) = (W + 4) * (H + 4)) ∧ Mine w' w.heap.size A 3 m (fun k => .int .i64 (putF W H dot dx dy k)) ∧ Ext w w')

theorem IPut_bad1 (W H : Int) (A : Option Addr) (n c : Nat) (dx dy : Int) (w : World) (hok : chk W H n ≠ 0) :
 Calls Try.prog 82 #[bmp W H A n c, .int .i64 dx, .int .i64 dy] w fun e w' => e = .returned (.tuple #[img 0 0 none 0 0, .int .i64 (chk W H n)]) ∧ Ext w w' := by
 have hne : (chk W H n != 0) = true := by simpa using hok
 replace hok := Lib.hid hok
 have hP := Lib.hid ((Ext.refl w).alloc (.cells #[.int .i64 W, .int .i64 H, .slice A n c] 31) |>.alloc (.cells #[.int .i64 0, .int .i64 0, .slice none 0 0] 75))
 have hR := Lib.hid (Blk.new' (g := w.heap.size + 1) (w := w.alloc (.cells #[.int .i64 W, .int .i64 H, .slice A n c] 31)) (by simp) 75 #[.int .i64 0, .int .i64 0, .slice none 0 0])
 go_enter Try.func82, Try.ntmps82
 go_wp2_with fail
 refine (Check2_any W H A n c _).mono ?_
 rintro e w1 ⟨rfl, hE1⟩
 obtain ⟨rc, rf, rl⟩ := (hR.out.ext hE1).rules
 replace hE1 := Lib.hid (hP.out.trans hE1)
 go_wp2_with fail
 refine bodyPost_ret (v := .tuple #[img 0 0 none 0 0, .int .i64 (chk W H n)]) (by simp [results, Try.results82, go_sem, *]) rfl ⟨rfl, ?_⟩
 exact ((hE1.out.setCell (by simp) _).setCell (by simp) _).setCell (by simp) _

theorem IPut_bad2 (W H : Int) (A : Option Addr) (n c : Nat) (dx dy : Int) (w : World) (hok : chk W H n = 0) (hs : shiftB dx dy = false) :
 Calls Try.prog 82 #[bmp W H A n c, .int .i64 dx, .int .i64 dy] w fun e w' => e = .returned (.tuple #[img 0 0 none 0 0, .int .i64 3]) ∧ Ext w w' := by
 have hne : (chk W H n != 0) = false := by simpa using hok
 replace hok := Lib.hid hok
 have hs' : ¬ (-2 ≤ dx ∧ dx ≤ 2 ∧ -2 ≤ dy ∧ dy ≤ 2) := fun h => by rw [shiftB_iff.2 h] at hs; cases hs
 replace hs := Lib.hid hs
 have hP := Lib.hid ((Ext.refl w).alloc (.cells #[.int .i64 W, .int .i64 H, .slice A n c] 31) |>.alloc (.cells #[.int .i64 0, .int .i64 0, .slice none 0 0] 75))
 have hR := Lib.hid (Blk.new' (g := w.heap.size + 1) (w := w.alloc (.cells #[.int .i64 W, .int .i64 H, .slice A n c] 31)) (by simp) 75 #[.int .i64 0, .int .i64 0, .slice none 0 0])
 obtain ⟨mx, hmx⟩ : ∃ mx, (if dx < dy then dy else dx) = mx := ⟨_, rfl⟩
 obtain ⟨mn, hmn⟩ : ∃ mn, (if dy < dx then dy else dx) = mn := ⟨_, rfl⟩
 by_cases hc : 2 < mx
 ·clear hs' hmn
  go_enter Try.func82, Try.ntmps82
  go_wp2_with fail
  refine (Check2_any W H A n c _).mono ?_
  rintro e w1 ⟨rfl, hE1⟩
  obtain ⟨rc, rf, rl⟩ := (hR.out.ext hE1).rules
  replace hE1 := Lib.hid (hP.out.trans hE1)
  go_wp2_with fail
  refine bodyPost_ret (v := .tuple #[img 0 0 none 0 0, .int .i64 3]) (by simp [results, Try.results82, go_sem, *]) rfl ⟨rfl, ?_⟩
  exact ((hE1.out.setCell (by simp) _).setCell (by simp) _).setCell (by simp) _
 ·have hc2 : mn < -2 := by
   rw [← hmx] at hc
   rw [← hmn]
   split at hc <;> split <;> omega
  clear hs'
  go_enter Try.func82, Try.ntmps82
  go_wp2_with fail
  refine (Check2_any W H A n c _).mono ?_
  rintro e w1 ⟨rfl, hE1⟩
  obtain ⟨rc, rf, rl⟩ := (hR.out.ext hE1).rules
  replace hE1 := Lib.hid (hP.out.trans hE1)
  go_wp2_with fail
  refine bodyPost_ret (v := .tuple #[img 0 0 none 0 0, .int .i64 3]) (by simp [results, Try.results82, go_sem, *]) rfl ⟨rfl, ?_⟩
  exact ((hE1.out.setCell (by simp) _).setCell (by simp) _).setCell (by simp) _

def PutOk (W H : Int) (dot : Nat → Bool) (dx dy : Int) (w : World) (e : Ending) (w' : World) : Prop :=
 ∃ A c, ∃ m : Nat, e = .returned (.tuple #[img (W + 4) (H + 4) A m c, .int .i64 0]) ∧ (m ≤ c ∧ (m : Int) = (W + 4) * (H + 4)) ∧ Mine w' w.heap.size A 3 m (fun k => .int .i64 (putF W H dot dx dy k)) ∧ Ext w w'

set_option maxHeartbeats 1000000 in
set_option maxRecDepth 100000 in
theorem IPut_ok (Wn Hn : Nat) (A : Option Addr) (n c : Nat) (dot : Nat → Bool) (dx dy : Int) (w : World) (hok : chk Wn Hn n = 0) (hs : shiftB dx dy = true) (hA : Bools w A n dot) :
 Calls Try.prog 82 #[bmp Wn Hn A n c, .int .i64 dx, .int .i64 dy] w (PutOk Wn Hn dot dx dy w) := by
 have hpost : ∀ e w', (∃ A c, ∃ m : Nat, e = .returned (.tuple #[img ((Wn : Int) + 4) ((Hn : Int) + 4) A m c, .int .i64 0]) ∧ (m ≤ c ∧ (m : Int) = ((Wn : Int) + 4) * ((Hn : Int) + 4)) ∧ Mine w' w.heap.size A 3 m (fun k => .int .i64 (putF Wn Hn dot dx dy k)) ∧ Ext w w') → PutOk Wn Hn dot dx dy w e w' := fun _ _ h => h
 replace hpost := Lib.hid hpost
 obtain ⟨i0, hi, hz0, hz1, hz2⟩ := info_parts info_int
 have hne : (chk Wn Hn n != 0) = false := by simpa using hok
 have hk := okB hok
 obtain ⟨-, hw2, -, hh2, hn⟩ := hk
 have hs' := shiftB_iff.1 hs
 obtain ⟨hx1, hx2, hy1, hy2⟩ := hs'
 replace hok := Lib.hid hok
 obtain ⟨mx, hmx, hmx2⟩ : ∃ mx, (if dx < dy then dy else dx) = mx ∧ mx ≤ 2 := ⟨_, rfl, by split <;> omega⟩
 obtain ⟨mn, hmn, hmn2⟩ : ∃ mn, (if dy < dx then dy else dx) = mn ∧ -2 ≤ mn := ⟨_, rfl, by split <;> omega⟩
 have har := areaI (W := (Wn : Int) + 4) (H := (Hn : Int) + 4) ⟨by omega, by omega⟩ ⟨by omega, by omega⟩
 obtain ⟨m, hm⟩ : ∃ m : Nat, ((Wn : Int) + 4) * ((Hn : Int) + 4) = m := ⟨(((Wn : Int) + 4) * ((Hn : Int) + 4)).toNat, by omega⟩
 have hm1 : m ≤ 10000 := by omega
 have hnb := (area_bd (W := (Wn : Int)) (H := (Hn : Int)) ⟨by omega, hw2⟩ ⟨by omega, hh2⟩)
 have hn1 : n ≤ 9216 := by omega
 have hwm : IntKind.i64.wrap (((Wn : Int) + 4) * ((Hn : Int) + 4)) = m := by rw [IntKind.wrap_i64]; omega
 have hd1 : decide (2 < mx) = false := by simpa using hmx2
 have hd2 : decide (mn < -2) = false := by simpa using hmn2
 clear hmx2 hmn2
 replace hn := Lib.hid hn
 replace hm := Lib.hid hm
 replace hs := Lib.hid hs
 clear har hnb
 have hE0 := Lib.hid (((Ext.refl w).alloc (.cells #[.int .i64 Wn, .int .i64 Hn, .slice A n c] 31)).alloc (.cells #[.int .i64 0, .int .i64 0, .slice none 0 0] 75))
 have hB0 := Lib.hid ((Blk.new w 31 #[.int .i64 Wn, .int .i64 Hn, .slice A n c]).alloc (.cells #[.int .i64 0, .int .i64 0, .slice none 0 0] 75))
 have hR0 := Lib.hid (Blk.new' (g := w.heap.size + 1) (w := w.alloc (.cells #[.int .i64 Wn, .int .i64 Hn, .slice A n c] 31)) (by simp) 75 #[.int .i64 0, .int .i64 0, .slice none 0 0])
 go_enter Try.func82, Try.ntmps82
 go_wp2_with fail
 refine (Check2_any Wn Hn A n c _).mono ?_
 rintro e w1 ⟨rfl, hE1⟩
 have hB1 := hB0.out.ext hE1
 have hR1 := hR0.out.ext hE1
 replace hE1 := Lib.hid (hE0.out.trans hE1)
 obtain ⟨bc, bf, bl⟩ := hB1.rules
 obtain ⟨rc, rf, rl⟩ := hR1.rules
 replace hB1 := Lib.hid hB1
 replace hR1 := Lib.hid hR1
 go_wp2_with (first
  | (at_make; refine wpList_make rfl (.tmp 40) (.tmp 40) 22 rfl 3 i0 (.int .i64 0) Try.underlying22 hi hz0 hz1 rfl _ _ _ _ m rfl rfl rfl rfl (by rw [hz2]; omega) (by omega) ?_))
 intro w2 hO hE2
 have hT2 := (Blk.new w1 75 #[.int .i64 ((Wn : Int) + 4), .int .i64 ((Hn : Int) + 4), .slice none 0 0]).ext hE2
 have hB2 := (hB1.out.alloc _).ext hE2
 have hR2 := (hR1.out.alloc _).ext hE2
 replace hE2 := Lib.hid ((hE1.out.alloc _).trans hE2)
 obtain ⟨tc, tf, tl⟩ := hT2.rules
 clear bc bf rc rf
 obtain ⟨bc, bf, -⟩ := hB2.rules
 go_wp2_with fail
 go_loopw [46] (fun i wr => ∃ k : Nat, k ≤ n ∧ i = .int .i64 k ∧ Blk wr w.heap.size 31 #[.int .i64 Wn, .int .i64 Hn, .slice A n c] ∧ Blk wr (w.heap.size + 1) 75 #[.int .i64 0, .int .i64 0, .slice none 0 0] ∧
  Blk wr w1.heap.size 75 #[.int .i64 ((Wn : Int) + 4), .int .i64 ((Hn : Int) + 4), .slice (some ⟨w1.heap.size + 1, 0, none⟩) m m] ∧ Flow.Own wr (w1.heap.size + 1) 3 m (fun j => .int .i64 (putF Wn Hn (below k dot) dx dy j)) ∧ Ext w wr) (fun i _ => n - (intOf i).toNat)
 case atStart =>
  refine ⟨0, by omega, rfl, hB2.far (by simp; omega) _, hR2.far (by simp; omega) _, ?_, ?_, hE2.out.setCell (by simp; omega) _⟩
  ·have := hT2.set_ 2 (.slice (some ⟨w1.heap.size + 1, 0, none⟩) m m); simpa using this
  ·refine (Flow.Own.far ?_ (by simp) _).congr (fun j _ => by rw [putF_none])
   simpa using hO
 case round =>
  clear hO hB2 hR2 hT2 bc bf tc tf tl hE2 hE1 hB1 hR1
  obtain ⟨k, hk, rfl, hB, hR, hT, hO, hE⟩ := hrel
  obtain ⟨bc, bf, bl'⟩ := hB.rules
  obtain ⟨tc, tf, tl⟩ := hT.rules
  by_cases hlt : k < n
  ·have hlt' : (k : Int) < n := by omega
   obtain ⟨ad, rfl, hc⟩ := hA.ext hE k hlt
   have hal := lt_of_cell hc
   cases hd : dot k
   ·simp only [hd] at hc
    have hsk := Lib.hid (putF_skip (W := Wn) (H := Hn) hd dx dy)
    replace hd := Lib.hid hd
    go_wp2_with fail
    exact ⟨⟨k + 1, by omega, by go_num, hB, hR, hT, hO.congr (fun j _ => by rw [hsk.out]), hE⟩, by simp only [intOf]; omega⟩
   ·simp only [hd] at hc
    have hst := Lib.hid (putF_set (Hn := Hn) hn.out hlt hd hs.out)
    obtain ⟨t1, t2, t3, t4, t5, t6, t7⟩ := tgt_bd hn.out hs.out hlt
    obtain ⟨t, ht⟩ : ∃ t : Nat, tgt Wn dx dy k = t := ⟨(tgt Wn dx dy k).toNat, by omega⟩
    have htm : t < m := by have := hm.out; omega
    have hwn : Wn ≠ 0 := by omega
    have htm' : (t : Int) < m := by omega
    have hmd : (k : Int).tmod Wn = (k : Int) % Wn := Int.tmod_eq_emod_of_nonneg (by omega)
    have hdv : (k : Int).tdiv Wn = (k : Int) / Wn := Int.tdiv_eq_ediv_of_nonneg (by omega)
    have hwq : IntKind.i64.wrap ((k : Int) / Wn) = (k : Int) / Wn := by rw [IntKind.wrap_i64]; omega
    have hw1 : IntKind.i64.wrap ((k : Int) / Wn + 2) = (k : Int) / Wn + 2 := by rw [IntKind.wrap_i64]; omega
    have hw2' : IntKind.i64.wrap ((k : Int) / Wn + 2 + dy) = (k : Int) / Wn + 2 + dy := by rw [IntKind.wrap_i64]; omega
    have hP := areaI (W := (k : Int) / Wn + 2 + dy) (H := (Wn : Int) + 4) ⟨by omega, by omega⟩ ⟨by omega, by omega⟩
    have hwp : IntKind.i64.wrap (((k : Int) / Wn + 2 + dy) * ((Wn : Int) + 4)) = ((k : Int) / Wn + 2 + dy) * ((Wn : Int) + 4) := by rw [IntKind.wrap_i64]; omega
    have hT1 : ((k : Int) / Wn + 2 + dy) * ((Wn : Int) + 4) + (k : Int) % Wn + 2 + dx = t := ht
    obtain ⟨hP1, hP2⟩ := hP
    have hw3 : IntKind.i64.wrap (((k : Int) / Wn + 2 + dy) * ((Wn : Int) + 4) + (k : Int) % Wn) = ((k : Int) / Wn + 2 + dy) * ((Wn : Int) + 4) + (k : Int) % Wn := by rw [IntKind.wrap_i64]; omega
    have hw4 : IntKind.i64.wrap (((k : Int) / Wn + 2 + dy) * ((Wn : Int) + 4) + (k : Int) % Wn + 2) = ((k : Int) / Wn + 2 + dy) * ((Wn : Int) + 4) + (k : Int) % Wn + 2 := by rw [IntKind.wrap_i64]; omega
    have hw5 : IntKind.i64.wrap (((k : Int) / Wn + 2 + dy) * ((Wn : Int) + 4) + (k : Int) % Wn + 2 + dx) = t := by rw [IntKind.wrap_i64]; omega
    have hw6 : IntKind.i64.wrap (t : Int) = t := by rw [IntKind.wrap_i64]; omega
    replace ht := Lib.hid ht
    have hd' := Lib.hid hd
    clear hd
    replace hE := Lib.hid hE
    have hol := hO.lt
    go_wp2_with fail
    refine Flow.wp_flow 21 [(0, true), (1, true), (2, true), (3, true), (4, true), (5, true), (6, true), (7, true), (8, true), (9, true), (10, true), (11, true), (12, true), (13, true), (14, true), (15, true), (16, true), (17, true), (18, true), (19, true), (20, true)] (by kernel_rfl) (by kernel_rfl) ?_
    simp only [List.map_cons, List.map_nil, List.getD_cons_succ, List.getD_cons_zero]
    repeat (first
     | (refine Flow.WalkL.move rfl ?_
        simp only [Act.put, Act.eval, Array.getD_eq_getD_getElem?, List.getElem?_toArray, List.getElem?_cons_succ, List.getElem?_cons_zero, Option.getD_some, List.setIfInBounds_toArray, List.set_cons_zero, List.set_cons_succ])
     | (refine Flow.WalkL.assign rfl ?_
        simp only [Act.put, Act.eval, Array.getD_eq_getD_getElem?, List.getElem?_toArray, List.getElem?_cons_succ, List.getElem?_cons_zero, Option.getD_some, List.setIfInBounds_toArray, List.set_cons_zero, List.set_cons_succ])
     | (refine Flow.WalkL.run (v := ?_) rfl (fun w1 hC => ?_) ?_
        rotate_left
        ·obtain ⟨hCc, hCf⟩ := hC.rules
         go_simp
         with_reducible rfl
        simp only [Act.put, List.setIfInBounds_toArray, List.set_cons_zero, List.set_cons_succ]))
    refine Flow.WalkL.nil ?_
    simp only [List.drop]
    intro v1 hv1
    have hO1 := hO.ext hv1
    have hgc1 := hO1.cell htm
    have hgf1 := hO1.frozen t
    have hgl1 := hO1.lt
    replace hE := Lib.hid (hE.out.trans hv1)
    have hB1 := Lib.hid (hB.ext hv1)
    have hR1 := Lib.hid (hR.ext hv1)
    have hT1' := Lib.hid (hT.ext hv1)
    clear bc bf tc tf tl hc hal hmd hdv hwq hwp hw1 hw2' hw3 hw4 hw5 hw6 hT1 hP1 hP2 t1 t2 t3 t4 t5 t6 t7
    go_wp2_with fail
    exact ⟨⟨k + 1, by omega, by go_num, hB1.out.far (by simp; omega) _, hR1.out.far (by simp; omega) _, hT1'.out.far (by simp) _,
     (hO1.set_ t _).congr (fun j hj => by
       simp only [upd]
       rw [hst.out, ht.out]
       by_cases e : j = t
       ·rw [if_pos e, if_pos (by omega)]
       ·rw [if_neg e, if_neg (by omega)]),
     hE.out.setCell (by simp; omega) _⟩, by simp only [intOf]; omega⟩
  ·obtain rfl : k = n := by omega
   have hfin := hpost.out (.returned (.tuple #[img ((Wn : Int) + 4) ((Hn : Int) + 4) (some ⟨w1.heap.size + 1, 0, none⟩) m m, .int .i64 0])) (((wr.setCell ⟨w.heap.size + 1, 0, none⟩ (.int .i64 ((Wn : Int) + 4))).setCell ⟨w.heap.size + 1, 1, none⟩ (.int .i64 ((Hn : Int) + 4))).setCell ⟨w.heap.size + 1, 2, none⟩ (.slice (some ⟨w1.heap.size + 1, 0, none⟩) m m))
    ⟨_, m, m, rfl, ⟨Nat.le_refl _, hm.out.symm⟩, Mine.of_own ((((hO.congr (fun j hj => by rw [putF_congr hn.out (fun i hi => below_all (Nat.le_refl _) i hi)])).far (p := ⟨w.heap.size + 1, 0, none⟩) (by simp; omega) _).far (p := ⟨w.heap.size + 1, 1, none⟩) (by simp; omega) _).far (p := ⟨w.heap.size + 1, 2, none⟩) (by simp; omega) _) (by omega),
      ((hE.setCell (by simp) _).setCell (by simp) _).setCell (by simp) _⟩
   replace hfin := Lib.hid hfin
   obtain ⟨rc, rf, rl'⟩ := hR.rules
   clear hpost hE hO
   go_wp2_with fail
   exact bodyPost_ret (v := .tuple #[img ((Wn : Int) + 4) ((Hn : Int) + 4) (some ⟨w1.heap.size + 1, 0, none⟩) m m, .int .i64 0]) (by simp [results, Try.results82, go_sem, *]) rfl hfin.out
end Go.Proofs.Ytekkldgmjdllbaa
end
section
namespace Go.AV
open Go Go.RowKit Go.Flow
section
variable {P : Program}
variable {σ : Nat → Option Value} {O : Nat → Prop} {w : World} {u : Value} {n : Nat}
theorem rep_ints {f : Nat → Int} (h : RepC σ O w (.ls n 1 (iF f)) u) : ∃ A c, u = .slice A n c ∧ n ≤ c ∧ Ints w A n f := rep_arr (fun _ => rfl) h
end
end Go.AV
namespace Go.Proofs.Ytekkldgmjdllbaa
open Go.RowKit Go.Flow Go.AV
abbrev imgV (W H : Int) (n : Nat) (f : Nat → Int) : List CV := [iC W, iC H, .ls n 1 (iF f)]
theorem rep_img {σ : Nat → Option Value} {O : Nat → Prop} {w : World} {u : Value} {W H : Int} {n : Nat} {f : Nat → Int} (h : RepV σ O w (.ag (imgV W H n f)) u) : ∃ A c, u = img W H A n c ∧ n ≤ c ∧ Ints w A n f := by
 obtain ⟨v, rfl, hv⟩ := rep3 h
 obtain ⟨A, c, rfl, h1, h2⟩ := rep_ints hv
 exact ⟨A, c, rfl, h1, h2⟩
theorem img_rep {σ : Nat → Option Value} {O : Nat → Prop} {w : World} {W H : Int} {n c base : Nat} {A : Option Addr} {f : Nat → Int} (hb : ∀ b, O b → b < base) (hc : n ≤ c) (h : Mine w base A 3 n (fun k => .int .i64 (f k))) : RepV σ O w (.ag (imgV W H n f)) (img W H A n c) :=
 ⟨[_, _, _], rfl, ⟨rfl, rfl⟩, ⟨rfl, rfl⟩, mine_rep (fun _ => rfl) (fun _ _ => rfl) hb hc h, trivial⟩
theorem args3 {R : V1 → Value → Prop} {a b c : V1} {vals : List Value} (h : RepL R [a, b, c] vals) : ∃ x y z, vals = [x, y, z] ∧ R a x ∧ R b y ∧ R c z := by
 match vals, h with
 | [x, y, z], ⟨h1, h2, h3, _⟩ => exact ⟨x, y, z, rfl, h1, h2, h3⟩
theorem args4 {R : V1 → Value → Prop} {a b c d : V1} {vals : List Value} (h : RepL R [a, b, c, d] vals) : ∃ x y z t, vals = [x, y, z, t] ∧ R a x ∧ R b y ∧ R c z ∧ R d t := by
 match vals, h with
 | [x, y, z, t], ⟨h1, h2, h3, h4, _⟩ => exact ⟨x, y, z, t, rfl, h1, h2, h3, h4⟩
end Go.Proofs.Ytekkldgmjdllbaa
end
section
namespace Go.AV
open Go Go.RowKit Go.Flow
theorem set_one {n k : Nat} {f : Nat → Int} {e : Int} (g : Nat → Int) (h1 : g k = e) (h2 : ∀ i, ¬i = k → g i = f i) : ∀ i, i < n → ∀ j, j < 1 → setF (iF f) k 0 1 [iC e] i j = iF g i j ∧ immC (setF (iF f) k 0 1 [iC e] i j) = true := fun i hi => cell1 (by
 have : setF (iF f) k 0 1 [iC e] i 0 = iF g i 0 := by
  unfold setF
  by_cases h : i = k
  ·subst h
   rw [Nat.beq_refl]
   exact congrArg iC h1.symm
  ·rw [show Nat.beq i k = false from Bool.eq_false_iff.2 fun h' => h (Nat.eq_of_beq_eq_true h')]
   exact congrArg iC (h2 i h).symm
 exact ⟨this, by rw [this]; rfl⟩)
end Go.AV
end
