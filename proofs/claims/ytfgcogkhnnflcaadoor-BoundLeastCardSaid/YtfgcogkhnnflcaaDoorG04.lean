/- Parts of the proof: App. -/
import Derived.Test.YtfgcogkhnnflcaaDoorG01
import Derived.Maps.AppendAt
import Derived.OwnWalk
set_option linter.unusedSimpArgs false
set_option linter.unusedVariables false
section
namespace Go.Flow
open Go Go.RowKit
section
variable {P : Program} {w w' : World} {base : Nat} {e : TypeId} {size : Nat} {v : Value} {n : Nat} {xs : List Value}
theorem grown_none {w w' : World} (h : Ext w w') (row : Option Nat) : w.grownBy w' row := ⟨h.os, h.tape, h.output, h.size, fun i hi _ => Below.block h i hi⟩
theorem own_ext (h : w.ownsRow base e size v n xs) (hE : Ext w w') : w'.ownsRow base e size v n xs := h.kept (grown_none hE none) (by cases hv : v.ownBlock <;> simp)
/-- What is owned reads as a function. -/
theorem own_arr (h : w.ownsRow base e 1 v n xs) {F : Nat → Value} (hF : ∀ k, k < n → xs[k]? = some (F k)) : ∃ A c, v = .slice A n c ∧ Arr w A n F := by
  rcases h.2 with ⟨rfl, rfl⟩ | ⟨g, cap, cur, rfl, _, hg, hnc, _, _, htake⟩
  · exact ⟨none, 0, rfl, Arr.zero _ _ _⟩
  · exact ⟨_, cap, rfl, fun k hk => ⟨_, rfl, h.cells (g := g) rfl k _ (hF k hk)⟩⟩
/-- 'append(s, x)', x one cell: behind buildSlice. -/
theorem wpList_app1 {ops : Array Oper} {rest : List Oper} {o : Oper} {a : Act} {Q : Exit → Act → World → Prop} (hgd : o.guard = none) (s x : Operand) (t : TypeId)
    (ho : o.op = .call { callee := .builtin .append, args := #[s, x], argTypes := #[t, t] })
    (i : TypeInfo) (z : Value) (bytes : Nat) (ht : P.underlying t = some (.slice e)) (hi : P.info? e = some i) (hz : i.zero = some z)
    (hsize : i.size = 1) (hby : i.bytes = bytes) (hzs : z.cells.size = 1)
    (hs : a.eval s = v) (hown : w.ownsRow base e 1 v n xs) (g : Nat) (u : Value) (cs : Array Value) (t' : TypeId) (hx : a.eval x = .slice (some ⟨g, 0, none⟩) 1 1) (hB : Blk w g t' cs) (hc : cs[0]? = some u)
    (h1 : u.oneCell' = true) (h63 : n + 1 ≤ 4611686018427387904) (hbytes : (n + 1) * bytes ≤ 140737488355328) (hbase : base ≤ w.heap.size)
    (h : ∀ v' w', w'.ownsRow base e 1 v' (n + 1) (xs ++ [u]) → w.grownBy w' v.ownBlock → (∀ W, W.heap.size ≤ base → Ext W w → Ext W w') → wpList P ops Q rest (a.put o.dst v') w') : wpList P ops Q (o :: rest) a w := by
  refine wpList_append_own w hgd s x t ho base e i z 1 bytes ht hi hz hsize hby hzs (by omega) v n xs hs hown ⟨g, 0, none⟩ 1 1 [u] hx rfl (fun j y hj => ?_) (by simpa using h1) (by simp only [maxLen]; omega) hbytes hbase
    fun v' w' h2 h3 _ => h v' w' h2 h3 fun W hW hE => hE.grown h3 fun k hk => by have := (hown.lt k hk).1; omega
  cases j with
  | zero =>
    obtain rfl : u = y := by simpa using hj
    show w.cell? ⟨g, 0, none⟩ = _
    rw [hB.cell 0]
    exact hc
  | succ j => simp at hj
end
end Go.Flow
end
