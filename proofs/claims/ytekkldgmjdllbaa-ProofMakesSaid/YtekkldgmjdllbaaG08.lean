/- Parts of the proof: ARange3. -/
import Derived.Test.YtekkldgmjdllbaaG07
import Derived.Shelf.Abstract
set_option linter.unusedSimpArgs false
set_option linter.unusedVariables false
section
namespace Go.AV
open Go Go.RowKit Go.Flow
section
variable {P : Program}
def noFn : CV → Bool
 | .fn .. => false
 | _ => true
section ops
variable {ops : Array Oper} {rest : List Oper} {acc : List (List Nat × List Nat)} {S : St} {Q : List (List Nat × List Nat) → St → Prop} {dst : Option Tmp} {ty : TypeId} {pos : String} {after : Array Edge} {guard : Option (Nat × Bool)}
end ops
theorem ARes.fn {S : St} {t : Tmp} {f : FuncId} {m : Nat} {C : Nat → CV} (ht : S.t t = some (.c (.fn f m C))) (hi : ∀ i, i < m → immC (C i) = true) : ARes P S (.tmp t) (.c (.fn f m C)) := fun b0 σ a w R => by
 obtain ⟨h0, vs, h1, h2, h3⟩ := R.sl t _ ht
 refine ⟨_, rfl, h0, vs, h1, h2, fun i hm => ?_⟩
 obtain ⟨v, e1, e2, e3⟩ := h3 i hm
 refine ⟨v, e1, e2, ?_⟩
 have := hi i hm
 cases hC : C i <;> rw [hC] at this e3 <;> first | exact e3 | cases this
theorem PlainB.box {sz : Nat} {ty : TypeId} {l : List CV} (vs : List Value) (h : l = vs.map .p) (hl : Nat.beq vs.length sz = true) : PlainB ⟨false, 1, sz, ty, lF l⟩ := ⟨rfl, fun k _ j hj => by
 subst h
 have := Nat.eq_of_beq_eq_true hl
 refine ⟨vs[j]'(by show j < vs.length; rw [this]; exact hj), ?_⟩
 show (vs.map CV.p).getD j .any = _
 rw [List.getD_eq_getElem?_getD, List.getElem?_map, List.getElem?_eq_getElem (by rw [this]; exact hj)]
 rfl⟩
section
variable {ops : Array Oper} {rest : List Oper} {acc : List (List Nat × List Nat)} {S : St} {Q : List (List Nat × List Nat) → St → Prop} {dst : Option Tmp} {ty xt yt : TypeId} {pos : String} {after : Array Edge} {guard : Option (Nat × Bool)} {x y : Operand} {i j : Int} {k : IntKind}
theorem AList.field1 {tab : List (TypeId × TD)} (T : tabOk P tab = true) {f : Nat} {fs : Array Field} {fld : Field} {d : TD} {l : List CV} {c : CV} (hw : S.wants ops { dst, op := .field xt x f, type := ty, pos, after, guard } = some true) (hd : dOk S.n dst = true) (hx : S.opd x = some (.ag l))
 (hu : P.underlying xt = some (.struct fs)) (hf : fs[f]? = some fld) (he : assoc tab fld.type = some d) (hk : isOne d.k = true) (hl : l[fld.offset]? = some c)
 (hn : AList P ops rest (([], []) :: acc) (S.eff dst ⟨.c c, [], []⟩) Q) : AList P ops ({ dst, op := .field xt x f, type := ty, pos, after, guard } :: rest) acc S Q :=
 AList.val [] _ hw hd (fun S1 h1 _ b0 σ a w R => by
  obtain ⟨vs, e1, e2⟩ := opd_rep R ((h1 x (by simp [Op.operands])).trans hx)
  obtain ⟨ud, g2, g3⟩ := ty_na T he hk
  have hag : ∀ w, (isAgg fld.type).run P w = .ok false w := fun w => by
   simp only [isAgg, Sem.run_bind, run_underlying g2, Result.andThen_ok]
   cases ud <;> first | rfl | cases g3
  obtain ⟨v, k1, k2⟩ := e2.get hl
  refine ⟨v, ?_, k2⟩
  simp only [execOp, e1, Instr.field, run_underlying hu, Sem.run_bind, Sem.run_pure, Result.andThen_ok]
  simp [hf, asAgg, part, hag, k1]) hn
end
end
end Go.AV
end
