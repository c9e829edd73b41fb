/- Parts of the proof: ACutS. -/
import Derived.Test.YtekkldgmjdllbaaG36
import Derived.Test.YtekkldgmjdllbaaHA25byr03
import Derived.Test.YtekkldgmjdllbaaG31
import Derived.Laws.Pointers
import Derived.Test.YtekkldgmjdllbaaG23
import Derived.Lib.Builder
import Derived.Lib.UnsafeStr
import Derived.Laws.Externs
import Derived.Lib.BufferRead
import Derived.Test.YtekkldgmjdllbaaG28
import Derived.WideKeyMaps
import Derived.MapKept
import Derived.Carry
import Derived.Test.YtekkldgmjdllbaaG30
import Derived.Test.YtekkldgmjdllbaaG07
import Derived.Test.YtekkldgmjdllbaaHA25byr01
import Derived.Test.YtekkldgmjdllbaaG20
import Derived.Test.YtekkldgmjdllbaaG06
import Derived.Test.YtekkldgmjdllbaaG08
import Derived.Test.YtekkldgmjdllbaaG09
import Derived.Test.YtekkldgmjdllbaaG29
import Derived.Shelf.Abstract
import Derived.Test.YtekkldgmjdllbaaG05
import Derived.Great.BuildSlice
import Derived.Laws.Cover3
import Derived.RangeFuncNested
import Derived.Laws.StructEq
import Derived.Test.YtekkldgmjdllbaaG04
import Derived.Test.YtekkldgmjdllbaaG03
import Derived.RangeFuncLeaves
import Derived.RangeFuncRecord
import Derived.Test.YtekkldgmjdllbaaG02
import Derived.Test.YtekkldgmjdllbaaG01
import Derived.Deep.AppendLies
import Derived.OrdersIn
import Derived.TacticsIn
import Derived.RangeFuncCalls
import Derived.Maps.AppendAt
import Derived.OwnWalk
import Derived.StillTail
import Derived.Below
import Derived.Deep.Draws
import Derived.WalkKit
import Derived.KernelRfl
set_option linter.unusedSimpArgs false
set_option linter.unusedVariables false
section
namespace Go.AV
open Go Go.RowKit Go.Flow
theorem ext_by (l : List UInt8) (a b : Nat) : (⟨l.toArray⟩ : ByteArray).extract a b = ⟨((l.take b).drop a).toArray⟩ := by
 apply ByteArray.ext
 simp [List.extract_eq_take_drop, List.drop_take]
section
variable {P : Program} {ops : Array Oper} {rest : List Oper} {acc : List (List Nat × List Nat)} {S : St} {Q : List (List Nat × List Nat) → St → Prop} {dst : Option Tmp} {ty : TypeId} {pos : String} {after : Array Edge} {guard : Option (Nat × Bool)}
theorem AList.cutStr {t : TypeId} {x : Operand} {lo hi : Option Operand} {l h : Nat} {s : List UInt8} (hu : P.underlying t = some .string) (hw : S.wants ops { dst, op := .slice t x lo hi none, type := ty, pos, after, guard } = some true) (hd : dOk S.n dst = true) (hx : S.opd x = some (.c (byV s)))
 (hlo : match lo with | none => l = 0 | some y => ∃ k i, S.opd y = some (.c (.p (.int k i))) ∧ i = (l : Int)) (hhi : match hi with | none => h = s.length | some y => ∃ k i, S.opd y = some (.c (.p (.int k i))) ∧ i = (h : Int)) (h1 : l ≤ h) (h2 : h ≤ s.length)
 (hn : AList P ops rest (([], []) :: acc) (S.eff dst ⟨.c (byV ((s.take h).drop l)), [], []⟩) Q) : AList P ops ({ dst, op := .slice t x lo hi none, type := ty, pos, after, guard } :: rest) acc S Q :=
 AList.val [] _ hw hd (fun S1 g1 _ b0 σ a w R => by
  have e1 := rep_int (opd_rep R ((g1 x (by simp [Op.operands])).trans hx))
  refine ⟨.string ⟨((s.take h).drop l).toArray⟩, ?_, rep_p rfl⟩
  have hsz : (⟨s.toArray⟩ : ByteArray).size = s.length := rfl
  have elo : ∀ y, lo = some y → ∃ k, a.eval y = .int k l := fun y hy => by
   subst hy
   obtain ⟨k, i, f1, f2⟩ := hlo
   exact ⟨k, by rw [← f2]; exact rep_int (opd_rep R ((g1 y (by simp [Op.operands])).trans f1))⟩
  have ehi : ∀ y, hi = some y → ∃ k, a.eval y = .int k h := fun y hy => by
   subst hy
   obtain ⟨k, i, f1, f2⟩ := hhi
   exact ⟨k, by rw [← f2]; exact rep_int (opd_rep R ((g1 y (by simp [Op.operands])).trans f1))⟩
  have c1 : (h : Int) ≤ s.length := by omega
  have c2 : (l : Int) ≤ h := by omega
  have c4 : ¬ s.length < h := by omega
  have c5 : ¬ h < l := by omega
  cases lo with
  | none =>
    have hl0 : l = 0 := hlo
    subst hl0
    cases hi with
    | none =>
      have hh : h = s.length := hhi
      subst hh
      simp [execOp, Instr.sliceAt, Instr.slice, run_underlying hu, e1, Instr.sliceBounds, hsz, ext_by]
    | some y =>
      obtain ⟨k, f⟩ := ehi y rfl
      simp [execOp, Instr.sliceAt, Instr.slice, run_underlying hu, e1, Instr.sliceBounds, Instr.sliceBound, asIntOf, f, hsz, ext_by, c1, c4, h2]
  | some yl =>
    obtain ⟨kl, fl⟩ := elo yl rfl
    cases hi with
    | none =>
      have hh : h = s.length := hhi
      subst hh
      simp [execOp, Instr.sliceAt, Instr.slice, run_underlying hu, e1, Instr.sliceBounds, Instr.sliceBound, asIntOf, fl, hsz, ext_by, c2, c5, h1]
    | some y =>
      obtain ⟨k, f⟩ := ehi y rfl
      simp [execOp, Instr.sliceAt, Instr.slice, run_underlying hu, e1, Instr.sliceBounds, Instr.sliceBound, asIntOf, fl, f, hsz, ext_by, c1, c2, c4, c5, h1, h2]) hn
theorem AList.ptNeNil {xt yt : TypeId} {x : Operand} {id sz k j : Nat} (ht : P.underlying xt = some (.pointer (P.pointee xt))) (hw : S.wants ops { dst, op := .binOp .neq xt x (.const (.pointer none)) yt, type := ty, pos, after, guard } = some true) (hd : dOk S.n dst = true) (hx : S.opd x = some (.c (.pt id sz k j)))
 (hn : AList P ops rest (([], []) :: acc) (S.eff dst ⟨.c (.p (.bool true)), [], []⟩) Q) : AList P ops ({ dst, op := .binOp .neq xt x (.const (.pointer none)) yt, type := ty, pos, after, guard } :: rest) acc S Q :=
 AList.val [] _ hw hd (fun S1 g1 _ b0 σ a w R => by
  obtain ⟨-, v, b, e1, e2, e3⟩ := opd_rep R ((g1 x (by simp [Op.operands])).trans hx)
  refine ⟨.bool true, ?_, rep_p rfl⟩
  have e4 : a.eval (.const (.pointer none)) = .pointer none := rfl
  have hgd : (eqGuard .neq xt x (.const (.pointer none)) (.pointer (some ⟨b, k * sz + j, none⟩)) (.pointer none)).run P w = .ok () w := by unfold eqGuard; rfl
  have hr : (Go.binOp .neq xt (.pointer (some ⟨b, k * sz + j, none⟩)) (.pointer none)).run P w = .ok (.bool true) w := by
   simp [binOp, run_equal_pointer_nil w xt _ ht]
  simp only [execOp, e3, e4, Sem.run_bind, hgd, hr, Result.andThen_ok, Sem.run_pure]) hn
end
end Go.AV
end
