/- Parts of the proof: AMem3, AMem9, AMemA. -/
import Derived.Test.YtekkldgmjdllbaaG06
import Derived.Test.YtekkldgmjdllbaaG05
import Derived.Great.BuildSlice
import Derived.Test.YtekkldgmjdllbaaG04
import Derived.Test.YtekkldgmjdllbaaG03
import Derived.RangeFuncLeaves
import Derived.RangeFuncRecord
import Derived.Test.YtekkldgmjdllbaaG02
import Derived.Test.YtekkldgmjdllbaaG01
import Derived.Deep.AppendLies
import Derived.OrdersIn
import Derived.TacticsIn
import Derived.RangeFuncCalls
import Derived.Maps.AppendAt
import Derived.OwnWalk
import Derived.StillTail
import Derived.Below
import Derived.Deep.Draws
import Derived.WalkKit
import Derived.KernelRfl
import Derived.Test.YtekkldgmjdllbaaG08
import Derived.Laws.StructEq
import Derived.Test.YtekkldgmjdllbaaG07
set_option linter.unusedSimpArgs false
set_option linter.unusedVariables false
section
namespace Go.AV
open Go Go.RowKit Go.Flow
section
variable {P : Program} {tab : List (TypeId × TD)}
section ops
variable {ops : Array Oper} {rest : List Oper} {acc : List (List Nat × List Nat)} {S : St} {Q : List (List Nat × List Nat) → St → Prop} {dst : Option Tmp} {ty : TypeId} {pos : String} {after : Array Edge} {guard : Option (Nat × Bool)}
theorem AList.emptySl (T : tabOk P tab = true) {id : Nat} {t el : TypeId} {d e : TD} {parts : Array (Nat × Operand)} (hw : S.wants ops { dst := some id, op := .buildSlice t 0 parts, type := ty, pos, after, guard } = some true) (hd : dOk S.n (some id) = true) (hf : S.fr id = true)
 (ht : assoc tab t = some d) (hk : d.k = .sl el) (he : assoc tab el = some e) (hp : parts = #[])
 (hn : AList P ops rest (([id], [id, id]) :: acc) (S.eff (some id) ⟨.c (.ow id), [(id, some ⟨true, 0, e.size, el, zF e.zero⟩)], [id]⟩) Q) : AList P ops ({ dst := some id, op := .buildSlice t 0 parts, type := ty, pos, after, guard } :: rest) acc S Q :=
 AList.new (B := ⟨true, 0, e.size, el, zF e.zero⟩) [] hw hd hf (fun S1 h1 _ b0 σ a w R => by
  obtain ⟨inf, z, u, i1, i2, i3, i4, i5, i6, -⟩ := ty_info T he
  subst hp
  refine ⟨.slice (some ⟨w.heap.size, 0, none⟩) 0 0, 0, #[], ?_, .inl ⟨rfl, rfl, Nat.le_refl _, by simp [maxLen]⟩, by simp, fun k hk => absurd hk (Nat.not_lt_zero _), fun σ' O' w' h => rep_ow h⟩
  simp [execOp, Instr.buildSlice, run_underlying (ty_sl T ht hk), sizeOf, typeInfo, i1, Instr.fill, newRow]
  rw [show Array.map (fun _ => default) (Array.range 0) = (#[] : Array Value) from Array.ext' (by simp)]) hn

end ops
end
section
variable {P : Program}
section ops
variable {ops : Array Oper} {rest : List Oper} {acc : List (List Nat × List Nat)} {S : St} {Q : List (List Nat × List Nat) → St → Prop} {dst : Option Tmp} {ty xt yt : TypeId} {pos : String} {after : Array Edge} {guard : Option (Nat × Bool)} {x y : Operand} {tab : List (TypeId × TD)}
theorem AList.eqB {p q : Bool} (hw : S.wants ops { dst, op := .binOp .eql xt x y yt, type := ty, pos, after, guard } = some true) (hd : dOk S.n dst = true) (hx : S.opd x = some (.c (.p (.bool p)))) (hy : S.opd y = some (.c (.p (.bool q)))) (hu : P.underlying xt = some .bool)
 (hn : AList P ops rest (([], []) :: acc) (S.eff dst ⟨.c (.p (.bool (p == q))), [], []⟩) Q) : AList P ops ({ dst, op := .binOp .eql xt x y yt, type := ty, pos, after, guard } :: rest) acc S Q :=
 AList.bin hw hd hx hy rfl (fun w => by simp [binOp, run_equal_bool w xt p q hu]) rfl hn
theorem AList.loadAE (T : tabOk P tab = true) {t : TypeId} {id sz k j : Nat} {B : AB} {d : TD} {l : List CV} (hl : cellsFrom (B.F k) j d.size = l) (hw : S.wants ops { dst, op := .load t x, type := ty, pos, after, guard } = some true) (hd : dOk S.n dst = true)
 (hx : S.opd x = some (.c (.pt id sz k j))) (hh : S.h id = some B) (hs : B.sz = sz) (ht : assoc tab t = some d) (hk : isAg d.k = true) (hkn : k < B.n) (hj : j + d.size ≤ B.sz)
 (hn : AList P ops rest (([id], []) :: acc) (S.eff dst ⟨.ag l, [], []⟩) Q) : AList P ops ({ dst, op := .load t x, type := ty, pos, after, guard } :: rest) acc S Q := by
 subst hl
 exact AList.loadA T hw hd hx hh hs ht hk hkn hj hn
end ops
section rows
variable {α : Type} {c : α → List CV} {z : α} {sz : Nat}
end rows
end
/- Short forms of what is printed often: proofs by default. -/
theorem qr4k {A0 A1 A2 A3 A4 N G : Prop} (f : A0 → A1 → A2 → A3 → A4 → N → G) (hn : N) (h0 : A0 := by exact rfl) (h1 : A1 := by exact rfl) (h2 : A2 := by exact rfl) (h3 : A3 := by exact rfl) (h4 : A4 := by kernel_rfl) : G := f h0 h1 h2 h3 h4 hn
theorem hoT {P : Prop} (h : P := by first | exact HeapOk.same rfl rfl rfl rfl | exact HeapOk.lent rfl rfl rfl rfl | exact HeapOk.nil rfl rfl | exact HeapOk.row rfl rfl (by first | rfl | omega) (fun i _ j _ => ⟨rfl, by first | rfl | exact rowN_imm (fun _ => rfl) _ i j | exact rowF_imm (fun _ => rfl) _ i j⟩) | exact HeapOk.box rfl rfl (by repeat (first | exact trivial | refine ⟨by first | exact LeC.refl _ rfl | exact LeC.ow _ _ rfl | exact LeC.nil _ rfl | exact LeC.nils _ _ | exact LeC.fz rfl rfl (by first | rfl | omega) (fun i _ j _ => ⟨rfl, by first | rfl | exact rowN_imm (fun _ => rfl) _ i j | exact rowF_imm (fun _ => rfl) _ i j⟩) | exact LeC.int (by omega), ?_⟩)) rfl) : P := h
section
variable {P : Program}
def FzV (S : St) (rd : List Nat) (x y : V1) : Prop :=
 (x = y ∧ immV x = true) ∨ ∃ (id n sz : Nat) (ty : TypeId) (F G : Nat → Nat → CV), x = .c (.ow id) ∧ y = .c (.ls n sz G) ∧ id ∈ rd ∧ S.h id = some ⟨true, n, sz, ty, F⟩ ∧ ∀ k, k < n → ∀ j, j < sz → F k j = G k j ∧ immC (F k j) = true
theorem fzV_rep {S S1 : St} {rd : List Nat} {b0 : Base} {σ : Nat → Option Value} {a : Act} {w : World} (R : Rel0 b0 σ S1 a w) (hr : ∀ id ∈ rd, S1.h id = S.h id) {x y : V1} {u : Value} (h : FzV S rd x y) (hu : RepV σ (out b0 σ S1.h) w x u) : RepV (fun _ => none) (fun _ => False) w y u := by
 rcases h with ⟨rfl, hi⟩ | ⟨id, n, sz, ty, F, G, rfl, rfl, hid, hh, hc⟩
 ·have h1 := strip0 hi hu
  exact h1.keep ⟨rfl, rfl, rfl, Nat.le_refl _, fun _ _ _ => rfl⟩ (fun b hb => hb.elim) fun _ _ h => h
 ·exact ⟨hu.1, RepI.ls_congr (fun k hk j hj => (hc k hk j hj).1) (frz_rep R.hp ((hr id hid).trans hh) (fun k hk j hj => (hc k hk j hj).2) (fun b hb => hb.elim) (fun v b _ _ h => h) hu.2.1)⟩
theorem fzL_rep {S S1 : St} {rd : List Nat} {b0 : Base} {σ : Nat → Option Value} {a : Act} {w : World} (R : Rel0 b0 σ S1 a w) (hr : ∀ id ∈ rd, S1.h id = S.h id) : ∀ {l m : List V1} {us : List Value}, LeL (FzV S rd) l m → RepL (RepV σ (out b0 σ S1.h) w) l us → RepL (RepV (fun _ => none) (fun _ => False) w) m us
 | [], [], [], _, _ => trivial
 | x :: l, y :: m, u :: us, h, hu => ⟨fzV_rep R hr h.1 hu.1, fzL_rep R hr h.2 hu.2⟩
 | [], _ :: _, _, h, _ => h.elim
 | _ :: _, [], _, h, _ => h.elim
 | [], [], _ :: _, _, h => h.elim
 | _ :: _, _ :: _, [], _, h => h.elim
section ops
variable {ops : Array Oper} {rest : List Oper} {acc : List (List Nat × List Nat)} {S : St} {Q : List (List Nat × List Nat) → St → Prop} {dst : Option Tmp} {ty : TypeId} {pos : String} {after : Array Edge} {guard : Option (Nat × Bool)}
section
variable {tab : List (TypeId × TD)}
end
theorem AList.callP {f : FuncId} {fn : Func} {xs : Array Operand} {ats : Array TypeId} {args args1 : List V1} {v : Value} (rd : List Nat) (hw : S.wants ops { dst, op := .call { callee := .value (.func f), args := xs, argTypes := ats }, type := ty, pos, after, guard } = some true) (hd : dOk S.n dst = true)
 (ha : S.opds xs.toList = some args) (hf : P.funcs[f]? = some fn) (hb : fn.body.isNone = false) (hnm : (fn.name == "runtime.NumGoroutine") = false) (hc : ACalls P f args1 (.c (.p v))) (hz : LeL (FzV S rd) args args1)
 (hn : AList P ops rest ((rd ++ [], []) :: acc) (S.eff dst ⟨.c (.p v), [], []⟩) Q) : AList P ops ({ dst, op := .call { callee := .value (.func f), args := xs, argTypes := ats }, type := ty, pos, after, guard } :: rest) acc S Q :=
 AList.ext rd _ hw hd (fun S1 h1 hr b0 σ a w R => by
  have h2 : S1.opds xs.toList = some args := (opds_congr fun x hx => h1 x (by simp only [Op.operands, Call.operands]; simp; exact .inr (by simpa using hx))).trans ha
  have := (ECalls.of hc) (fun _ => False) w _ (fun b hb => hb.elim) (fzL_rep R hr hz (opds_rep R h2))
  rw [run_callf f fn hf hb hnm #[] #[] rfl w]
  simp only [Goes]
  rw [show (#[] ++ xs.map a.eval ++ #[] : Array Value) = (xs.toList.map a.eval).toArray from Array.ext' (by simp)]
  exact this.mono fun e w' ⟨u, r, g1, g2, g3, g4⟩ => by
   subst g2
   exact ⟨u, g1, ⟨g3.1, g3.2⟩, g4⟩) hn
theorem AList.loadAF {tab : List (TypeId × TD)} (T : tabOk P tab = true) {t : TypeId} {x : Operand} {id sz k j : Nat} {B : AB} {d : TD} {l : List CV} (hw : S.wants ops { dst, op := .load t x, type := ty, pos, after, guard } = some true) (hd : dOk S.n dst = true)
 (hx : S.opd x = some (.c (.pt id sz k j))) (hh : S.h id = some B) (hs : B.sz = sz) (ht : assoc tab t = some d) (hk : isAg d.k = true) (hkn : k < B.n) (hj : j + d.size ≤ B.sz) (hl : cellsFrom (B.F k) j d.size = l)
 (hn : AList P ops rest (([id], []) :: acc) (S.eff dst ⟨.ag l, [], []⟩) Q) : AList P ops ({ dst, op := .load t x, type := ty, pos, after, guard } :: rest) acc S Q := AList.loadAE T hl hw hd hx hh hs ht hk hkn hj hn
end ops
end
end Go.AV
end
