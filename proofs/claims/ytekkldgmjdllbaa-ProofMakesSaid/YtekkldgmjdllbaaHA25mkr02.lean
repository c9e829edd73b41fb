/- Parts of the proof: ARange3. -/
import Derived.Test.YtekkldgmjdllbaaG08
import Derived.Test.YtekkldgmjdllbaaG07
import Derived.Shelf.Abstract
import Derived.Test.YtekkldgmjdllbaaHA25mkr01
import Derived.RangeFuncNested
import Derived.Laws.Cover3
import Derived.Test.YtekkldgmjdllbaaG06
import Derived.Laws.StructEq
import Derived.Test.YtekkldgmjdllbaaG05
import Derived.Test.YtekkldgmjdllbaaG04
import Derived.Great.BuildSlice
import Derived.Test.YtekkldgmjdllbaaG03
import Derived.Test.YtekkldgmjdllbaaG02
import Derived.RangeFuncLeaves
import Derived.RangeFuncRecord
import Derived.Test.YtekkldgmjdllbaaG01
import Derived.Deep.AppendLies
import Derived.OrdersIn
import Derived.TacticsIn
import Derived.RangeFuncCalls
import Derived.Maps.AppendAt
import Derived.OwnWalk
import Derived.StillTail
import Derived.Below
import Derived.Deep.Draws
import Derived.WalkKit
import Derived.KernelRfl
set_option linter.unusedSimpArgs false
set_option linter.unusedVariables false
section
namespace Go.AV
open Go Go.RowKit Go.Flow
section
variable {P : Program}
def cellsV : List V1 → Option (List CV)
 | [] => some []
 | .c x :: l => bif noFn x then (cellsV l).map (x :: ·) else none
 | _ => none
theorem cellsV_rep {σ : Nat → Option Value} {O : Nat → Prop} {w : World} : ∀ {l : List V1} {m : List CV} {us : List Value}, cellsV l = some m → RepL (RepV σ O w) l us → us.length = m.length ∧ ∀ (i : Nat), i < m.length → ∃ v, us[i]? = some v ∧ v.oneCell' = true ∧ RepB σ O w (m.getD i .any) v
 | [], _, [], h, _ => by cases h; exact ⟨rfl, fun i hi => absurd hi (Nat.not_lt_zero _)⟩
 | .c x :: l, m, u :: us, h, hr => by
   unfold cellsV at h
   cases hx : noFn x with
   | false => rw [hx] at h; cases h
   | true =>
     rw [hx] at h
     obtain ⟨m', h1, rfl⟩ := Option.map_eq_some_iff.1 h
     obtain ⟨e1, e2⟩ := cellsV_rep h1 hr.2
     refine ⟨by simp [e1], fun i hi => ?_⟩
     cases i with
     | zero =>
       refine ⟨u, rfl, hr.1.1, ?_⟩
       have h2 := hr.1.2
       cases x <;> first | exact h2 | cases hx
     | succ i => simpa using e2 i (by simpa using hi)
 | .c _ :: _, _, [], _, hr => hr.elim
 | .ag _ :: _, _, _, h, _ => by cases h
 | [], _, _ :: _, _, hr => hr.elim
section ops
variable {ops : Array Oper} {rest : List Oper} {acc : List (List Nat × List Nat)} {S : St} {Q : List (List Nat × List Nat) → St → Prop} {dst : Option Tmp} {ty : TypeId} {pos : String} {after : Array Edge} {guard : Option (Nat × Bool)}
theorem AList.makeFn {f : FuncId} {cs : Array Operand} {args : List V1} {m : List CV} (hw : S.wants ops { dst, op := .makeFunc (.func f) #[] cs, type := ty, pos, after, guard } = some true) (hd : dOk S.n dst = true)
 (ha : S.opds cs.toList = some args) (hc : cellsV args = some m) (hm : Nat.beq m.length m.length = true)
 (hn : AList P ops rest (([], []) :: acc) (S.eff dst ⟨.c (.fn f m.length fun i => m.getD i .any), [], []⟩) Q) : AList P ops ({ dst, op := .makeFunc (.func f) #[] cs, type := ty, pos, after, guard } :: rest) acc S Q :=
 AList.val [] _ hw hd (fun S1 h1 _ b0 σ a w R => by
  have h2 : S1.opds cs.toList = some args := (opds_congr fun x hx => h1 x (by simp only [Op.operands]; simp; exact by simpa using hx)).trans ha
  obtain ⟨e1, e2⟩ := cellsV_rep hc (opds_rep R h2)
  refine ⟨.func (.func f) #[] (cs.map a.eval), by simp [execOp, Instr.makeFunc], rfl, cs.toList.map a.eval, ?_, by simpa using e1, fun i hi => e2 i hi⟩
  rw [show (cs.toList.map a.eval).toArray = cs.map a.eval from Array.ext' (by simp)]) hn
end ops
theorem lendBox_eq {F : Nat → Nat → CV} {l : List CV} {sz : Nat} (hc : cellsFrom (F 0) 0 sz = l) (k : Nat) (hk : k < 1) (j : Nat) (hj : j < sz) : F k j = lF l k j := by
 obtain rfl : k = 0 := by omega
 have h1 := cellsFrom_get (F 0) sz 0 j hj
 rw [Nat.zero_add, hc] at h1
 show F 0 j = lF l 0 j
 unfold lF
 rw [List.getD, h1]
 rfl
theorem ViewC.roBox {S : St} {ids : List Nat} {id sz : Nat} {ty : TypeId} {F : Nat → Nat → CV} {l : List CV} (hr : posOf ids id = none) (hh : S.h id = some ⟨false, 1, sz, ty, F⟩) (hc : cellsFrom (F 0) 0 sz = l) (hi : l.all immC = true) : ViewC S ids (.pt id sz 0 0) (.pl 1 sz (lF l) 0 0) :=
 ViewC.ro id 1 sz 0 0 false ty F (lF l) hr hh (by omega) (fun k hk j hj => by rw [lendBox_eq hc k hk j hj]; exact lF_imm hi k j) fun k hk j hj => lendBox_eq hc k hk j hj
theorem ARes.box1 {tab : List (TypeId × TD)} (T : tabOk P tab = true) {S : St} {c : Tmp} {t : TypeId} {id : Nat} {bt : TypeId} {F : Nat → Nat → CV} {d : TD} {x : CV} (hc : S.t c = some (.c (.pt id 1 0 0))) (hh : S.h id = some ⟨false, 1, 1, bt, F⟩) (ht : assoc tab t = some d) (hk : isOne d.k = true)
 (hl : F 0 0 = x) (hi : immC x = true) : ARes P S (.cell c t) (.c x) := fun b0 σ a w R => by
 obtain ⟨b, cap, cs, -, e1, -, e2, -, -, e3⟩ := at_pt R (R.sl c _ hc) hh rfl (by simp : 0 < 1)
 obtain ⟨u, f1, f2⟩ := e3 0 (by simp) 0 (by simp)
 obtain ⟨ud, g1, g2⟩ := ty_na T ht hk
 subst hl
 refine ⟨u, ?_, strip (x := .c _) hi f2⟩
 have hcl : w.cell? ⟨b, 0 * 1 + 0, none⟩ = some u := (cell_of_row w b _ cs bt (0, 0) e2).trans f1
 simp only [resV, e1, asAddr, Sem.run_bind, Sem.run_pure, Result.andThen_ok, run_one g1 g2 hcl]
section
variable {ops : Array Oper} {rest : List Oper} {acc : List (List Nat × List Nat)} {S : St} {Q : List (List Nat × List Nat) → St → Prop} {dst : Option Tmp} {ty xt yt : TypeId} {pos : String} {after : Array Edge} {guard : Option (Nat × Bool)} {x y : Operand} {i j : Int} {k : IntKind}
theorem AList.shr1 (hw : S.wants ops { dst, op := .binOp .shr xt x y yt, type := ty, pos, after, guard } = some true) (hd : dOk S.n dst = true) (hx : S.opd x = some (.c (.p (.int .u64 i)))) (hy : S.opd y = some (.c (.p (.int .u64 1))))
 (hn : AList P ops rest (([], []) :: acc) (S.eff dst ⟨.c (.p (.int .u64 (i / 2))), [], []⟩) Q) : AList P ops ({ dst, op := .binOp .shr xt x y yt, type := ty, pos, after, guard } :: rest) acc S Q :=
 AList.bin hw hd hx hy rfl (fun w => by
  have e : i.fdiv 2 = i / 2 := Int.fdiv_eq_ediv_of_nonneg i (by omega)
  simp [binOp, Op.shift, IntKind.bits, e]) rfl hn
end
end
end Go.AV
end
