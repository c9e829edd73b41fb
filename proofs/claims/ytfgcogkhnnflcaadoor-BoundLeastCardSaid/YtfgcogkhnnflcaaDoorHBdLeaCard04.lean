/- Parts of the proof: BdLaid. -/
import Derived.Test.YtfgcogkhnnflcaaDoorRows
import Derived.Test.YtfgcogkhnnflcaaDoorG02
import Derived.Test.YtfgcogkhnnflcaaDoorHBdLeaCard02
import Derived.OpenShut
import Derived.LaidMore
import Derived.Deep.Strs
import Derived.Test.YtfgcogkhnnflcaaDoorProg
import Derived.Test.YtfgcogkhnnflcaaDoorG01
import Derived.Test.YtfgcogkhnnflcaaDoorHBdLeaCard01
import Derived.WalkKit
import Derived.Lib.Hide
import Derived.Deep.QuietTactic
import Derived.BigQuiet
import Derived.Deep.DrawnRows
import Derived.StillTail
import Derived.Below
import Derived.Deep.Draws
import Derived.KernelRfl
set_option linter.unusedSimpArgs false
set_option linter.unusedVariables false
section
namespace Go.Proofs.YtfgcogkhnnflcaaDoor
open Go.RowKit Go.Flow Go.Deep
open Go.Proofs

theorem gSides : Tryd.prog.globalNamed "indelible/bound.sides" = some 0 := by kernel_rfl
theorem tSides : (Tryd.prog.globals[0]?).map (·.type) = some 69 := by kernel_rfl
theorem cellsSides : Tryd.prog.cellsOf 69 = 6 := by kernel_rfl
theorem cellsSide : Tryd.prog.cellsOf 68 = 3 := by kernel_rfl
theorem cellsF1 : Tryd.prog.cellsOf 47 = 1 := by kernel_rfl
theorem cellsF2 : Tryd.prog.cellsOf 66 = 1 := by kernel_rfl
theorem cellsF3 : Tryd.prog.cellsOf 4 = 1 := by kernel_rfl

theorem side_open {W : World} {fuel : Nat} {c0 c1 c2 : Value} {q : List MemPlace} {b : UInt8} {r : List UInt8} {b' : UInt8} {r' : List UInt8} {v : Bool} {f0 f1 : FuncId}
    (h0 : ((List.range Tryd.prog.funcs.size).filter fun f => (Tryd.prog.funcs[f]?).any (·.name.toUTF8.data.toList == b :: r)) = [f0])
    (h1 : ((List.range Tryd.prog.funcs.size).filter fun f => (Tryd.prog.funcs[f]?).any (·.name.toUTF8.data.toList == b' :: r')) = [f1])
    (h : DataW.trod (funcToken Tryd.prog) Tryd.prog W 0 (fun _ => true) true fuel 68 [c0, c1, c2] = some (.agg [.held (b :: r), .held (b' :: r'), .lit (.bool v)], q)) :
    c0 = .func (.func f0) #[] #[] ∧ c1 = .func (.func f1) #[] #[] ∧ c2 = .bool v := by
  obtain ⟨y0, y1, y2, n, hx, _, g0, g1, g2⟩ := trod_struct3 Tryd.underlying68 h
  obtain ⟨d0, p0⟩ := y0
  obtain ⟨d1, p1⟩ := y1
  obtain ⟨d2, p2⟩ := y2
  simp only [Prod.mk.injEq, DataW.agg.injEq, List.cons.injEq, and_true] at hx
  obtain ⟨⟨rfl, rfl, rfl⟩, -⟩ := hx
  simp only [cellsF1, cellsF2, cellsF3] at g0 g1 g2
  refine ⟨func_of_trod Tryd.underlying47 h0 g0, func_of_trod Tryd.underlying66 h1 g1, ?_⟩
  cases n with
  | zero => simp [DataW.trod] at g2
  | succ n =>
    simp only [List.drop_succ_cons, List.drop_zero, List.take_succ_cons, List.take_zero] at g2
    cases c2 <;> simp [DataW.trod, Tryd.underlying4] at g2
    obtain ⟨rfl, -⟩ := g2
    rfl

theorem sides_of_laid {W : World} (h : laidMetH Tryd.prog [("indelible/bound.sides", Rows.laid_indelible_bound_sides)] W) : Sides W := by
  obtain ⟨g, t, cs, fuel, p, hg, ht, hv, hd⟩ := h.funcs (List.mem_singleton.2 rfl)
  obtain rfl := Option.some.inj (gSides.symm.trans hg)
  obtain rfl := Option.some.inj (tSides.symm.trans ht)
  obtain ⟨xs, m, _, hx, hl, hlen, hel⟩ := DataW.trod_array Tryd.underlying69 hd
  rw [cellsSides] at hl
  rw [cellsSide] at hel
  match xs, hlen with
  | [x0, x1], _ =>
    match hq : cs.toList, hl with
    | [c0, c1, c2, c3, c4, c5], _ =>
      rw [hq] at hel
      have e0 := hel 0 (by omega)
      have e1 := hel 1 (by omega)
      simp only [Nat.zero_mul, Nat.one_mul, List.drop_zero, List.drop_succ_cons, List.take_succ_cons, List.take_zero, List.getElem?_cons_zero, List.getElem?_cons_succ] at e0 e1
      obtain ⟨d0, p0⟩ := x0
      obtain ⟨d1, p1⟩ := x1
      have hx1 : DataW.agg [d0, d1] = _ := (Prod.mk.inj hx).1.symm
      have hd0 := (List.cons.inj (DataW.agg.inj hx1)).1
      have hd1 := (List.cons.inj (List.cons.inj (DataW.agg.inj hx1)).2).1
      subst hd0
      subst hd1
      obtain ⟨rfl, rfl, rfl⟩ := side_open (f0 := 83) (f1 := 84) (by kernel_rfl) (by kernel_rfl) e0
      obtain ⟨rfl, rfl, rfl⟩ := side_open (f0 := 85) (f1 := 86) (by kernel_rfl) (by kernel_rfl) e1
      refine ⟨fun i hi => ?_⟩
      have hcs : cs = sidesCells := by rw [← Array.toList_inj]; exact hq
      have := World.var?_cell hg hv i
      rw [hcs] at this
      exact this
end Go.Proofs.YtfgcogkhnnflcaaDoor
end
