/- Parts of the proof: AMem9, ARange3. -/
import Derived.Test.YtijaioiojclooaaG08
import Derived.Test.YtijaioiojclooaaG07
import Derived.Laws.StructEq
import Derived.Test.YtijaioiojclooaaG06
import Derived.Test.YtijaioiojclooaaG05
import Derived.Great.BuildSlice
import Derived.Test.YtijaioiojclooaaG04
import Derived.Test.YtijaioiojclooaaG03
import Derived.RangeFuncLeaves
import Derived.RangeFuncRecord
import Derived.Test.YtijaioiojclooaaG02
import Derived.Test.YtijaioiojclooaaG01
import Derived.Deep.AppendLies
import Derived.OrdersIn
import Derived.TacticsIn
import Derived.RangeFuncCalls
import Derived.Maps.AppendAt
import Derived.OwnWalk
import Derived.StillTail
import Derived.Below
import Derived.Deep.Draws
import Derived.WalkKit
import Derived.KernelRfl
import Derived.Test.YtijaioiojclooaaG09
import Derived.Shelf.Abstract
import Derived.RangeFuncNested
import Derived.Laws.Cover3
set_option linter.unusedSimpArgs false
set_option linter.unusedVariables false
section
namespace Go.AV
open Go Go.RowKit Go.Flow
section
variable {P : Program}
def RetE (P : Program) (rs : List ResultVar) (R : AV → Prop) (e : Exit) (S : St) : Prop := ∃ r, R r ∧ RetOk P rs r [] e S
theorem ecalls_at {f : FuncId} {fn : Func} {c : Code} {rs : List ResultVar} {args : List V1} {R : AV → Prop} {n : Nat} (hf : P.funcs[f]? = some fn) (hb : fn.body = some c) (hr : fn.results = rs.toArray) (hn : fn.ntmps = n) (hl : Nat.ble args.length n = true)
    (h : AWp P c (RetE P rs R) (entry n args)) : ECalls P f args R := fun O w vals hO hv => by
  subst hn
  let b0 : Base := ⟨w, O, fun _ => False, fun _ => none, hO, fun b hb => hb.elim, fun b _ h => h, fun i v h => (by cases h), fun _ _ => False, fun _ _ _ => True, none, fun _ _ h => h.elim, fun _ _ _ _ _ _ _ _ => trivial⟩
  have hl' := hv.length
  have hO' : ∀ b, out b0 (fun _ => none) (assoc []) b → O b := fun b hb => hb.elim (fun ⟨i, v, h1, _⟩ => absurd rfl h1) fun h => h
  refine calls_of_awp (b0 := b0) hf hb rfl h ⟨fun _ => none, trivial, ?_, ⟨rfl, rfl, rfl, Nat.le_refl _, fun _ _ _ => rfl⟩, ⟨fun id B hB => (by cases hB), fun i j v1 v2 b hi => absurd rfl hi, fun b ⟨i, v, hi, _⟩ => absurd rfl hi, fun i v hi => (by cases hi), fun _ _ _ => rfl⟩, fun t x hx => ?_, fun id hid => ⟨rfl, Nat.blt_eq.mp hid⟩, fun i v hi => (by cases hi), rfl, trivial⟩ (fun e S hQ => by cases e <;> first | exact .inl rfl | exact .inr rfl | (obtain ⟨_, _, hQ⟩ := hQ; exact hQ.elim)) fun e a w' S0 hR0 hQ0 hd0 => ?_
  · have := Nat.ble_eq.mp hl
    simp [entryL, hl']; omega
  · obtain ⟨y, e1, rfl⟩ : ∃ y, args[t]? = some y ∧ y.av = x := by simpa [entryL, Option.map_eq_some_iff] using hx
    obtain ⟨v, e2, e3⟩ := hv.get e1
    have ht : (vals.toArray ++ Array.replicate (fn.ntmps - vals.toArray.size) undef).getD t undef = v := by
      have hlt := (List.getElem?_eq_some_iff.1 e2).1
      have := (List.getElem?_eq_some_iff.1 e2).2
      simp [Array.getD_eq_getD_getElem?, Array.getElem?_append, hlt, this]
    rw [ht]
    exact (e3.keep ⟨rfl, rfl, rfl, Nat.le_refl _, fun _ _ _ => rfl⟩ (fun b hb => .inl (hO' b hb)) fun _ _ h => h).av
  · have fin : ∀ S r, R r → Rel b0 S a w' → (∃ S' loc, Wk S S' ∧ S'.h = assoc (loc ++ []) ∧ loc.all (fun p => Nat.blt p.1 1000) = true ∧ ARets P S' rs r) → ∃ v, (results fn a.tmps).run P w' = .ok v w' ∧ ∃ v' r, Ending.returned v = .returned v' ∧ R r ∧ RepA (fun _ => none) O w' r v' ∧ Ext w w' := fun S r hr1 hR ⟨S', loc, hw, hS', hlc, hS⟩ => by
      obtain ⟨σ, Rr⟩ := hw b0 a w' hR
      obtain ⟨v, h1, h2⟩ := hS.run hr Rr
      have hH0 := Rr.hp
      rw [hS'] at hH0 h2
      obtain ⟨hH', hsub⟩ := hH0.lent hlc rfl
      replace h2 := h2.keep (σ' := fun _ => none) ⟨rfl, rfl, rfl, Nat.le_refl _, fun _ _ _ => rfl⟩ (fun b (hb : O b) => .inl (.inr hb)) fun _ _ h => h
      exact ⟨v, h1, v, r, rfl, hr1, h2, Rr.ext.os, Rr.ext.tape, Rr.ext.output, Rr.ext.size, fun k hk => Rr.ext.block k hk fun h => h.elim (fun h => h) fun h => h⟩
    obtain ⟨r, hr1, hQ⟩ := hQ0
    cases e with
    | ret => exact fin S0 r hr1 hR0 hQ
    | normal => exact fin S0 r hr1 hR0 hQ
    | _ => exact hQ.elim
section ops
variable {ops : Array Oper} {rest : List Oper} {acc : List (List Nat × List Nat)} {S : St} {Q : List (List Nat × List Nat) → St → Prop} {dst : Option Tmp} {ty xt yt : TypeId} {pos : String} {after : Array Edge} {guard : Option (Nat × Bool)} {x y : Operand} {tab : List (TypeId × TD)}
end ops
section rows
variable {α : Type} {c : α → List CV} {z : α} {sz : Nat}
end rows
end
end Go.AV
end

section
namespace Go.AV
open Go Go.RowKit Go.Flow
section
variable {P : Program}
section ops
variable {ops : Array Oper} {rest : List Oper} {acc : List (List Nat × List Nat)} {S : St} {Q : List (List Nat × List Nat) → St → Prop} {dst : Option Tmp} {ty : TypeId} {pos : String} {after : Array Edge} {guard : Option (Nat × Bool)}
end ops
section
variable {ops : Array Oper} {rest : List Oper} {acc : List (List Nat × List Nat)} {S : St} {Q : List (List Nat × List Nat) → St → Prop} {dst : Option Tmp} {ty xt yt : TypeId} {pos : String} {after : Array Edge} {guard : Option (Nat × Bool)} {x y : Operand} {i j : Int} {k : IntKind}
theorem AList.remK (hw : S.wants ops { dst, op := .binOp .rem xt x y yt, type := ty, pos, after, guard } = some true) (hd : dOk S.n dst = true) (hx : S.opd x = some (.c (.p (.int k i)))) (hy : S.opd y = some (.c (.p (.int k j)))) (h1 : 0 ≤ i) (h3 : 0 < j)
    (hn : AList P ops rest (([], []) :: acc) (S.eff dst ⟨.c (.p (.int k (i % j))), [], []⟩) Q) : AList P ops ({ dst, op := .binOp .rem xt x y yt, type := ty, pos, after, guard } :: rest) acc S Q :=
  AList.bin hw hd hx hy rfl (fun w => by
    have e1 : i.tmod j = i % j := Int.tmod_eq_emod_of_nonneg h1
    have e3 : ¬ j = 0 := by omega
    simp [binOp, Op.intDiv, e1, e3]) rfl hn
end
end
end Go.AV
end
