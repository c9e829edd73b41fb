/- What a row's arguments are to a walk: arrays of numbers. No condition. -/
import Derived.Test.YtfgcogkhnnflcaaDoorProg
import Derived.Test.YtfgcogkhnnflcaaDoorArgs
namespace Go.Flow
open Go Go.RowKit Go.WideShapes Go.ChangeShapes
section
variable {P : Program} {W : World}
/-- Cells that are all numbers. -/
theorem row_ints {r : Reach} {base : Nat} {t u : TypeId} {n : Nat} {cs : Array Value} (hts : P.cellTypes P.depth t = some (List.replicate n u)) (hu : P.underlying u = some (.int .i64)) (hs : cs.size = n)
    (h : Row.okWide P W r base t cs) : ∃ f : Nat → Int, ∀ i, i < n → cs[i]? = some (.int .i64 (f i)) := by
  obtain ⟨ts, e, _, hel⟩ := h
  obtain rfl : ts = List.replicate n u := Option.some.inj (e.symm.trans hts)
  refine ⟨fun i => match cs[i]? with | some (.int _ k) => k | _ => 0, fun i hi => ?_⟩
  have hc : cs[i]? = some cs[i] := Array.getElem?_eq_getElem (by omega)
  obtain ⟨u', hu', hok⟩ := hel i _ hc
  rw [List.length_replicate, Nat.mod_eq_of_lt hi, List.getElem?_replicate, if_pos hi] at hu'
  obtain rfl := Option.some.inj hu'
  rw [hc]
  unfold Cell.okWide at hok
  rw [hu] at hok
  generalize cs[i] = v at *
  cases v <;> simp_all [Cell.ok]
theorem eight {cs : Array Value} {f : Nat → Int} (hs : cs.size = 8) (h : ∀ i, i < 8 → cs[i]? = some (.int .i64 (f i))) :
    cs = #[.int .i64 (f 0), .int .i64 (f 1), .int .i64 (f 2), .int .i64 (f 3), .int .i64 (f 4), .int .i64 (f 5), .int .i64 (f 6), .int .i64 (f 7)] := by
  refine Array.ext (by simpa using hs) fun i h1 h2 => ?_
  have hi : i < 8 := by omega
  have := h i hi
  rw [Array.getElem?_eq_getElem h1] at this
  rw [Option.some.inj this]
  match i, hi with
  | 0, _ => rfl
  | 1, _ => rfl
  | 2, _ => rfl
  | 3, _ => rfl
  | 4, _ => rfl
  | 5, _ => rfl
  | 6, _ => rfl
  | 7, _ => rfl
end
end Go.Flow
