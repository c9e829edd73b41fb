/- Parts of the proof: Open. -/
import Derived.Test.YtcdnpnbjloaihaaG02
set_option linter.unusedSimpArgs false
set_option linter.unusedVariables false
section
/- Operations of a region that draws which make new memory. No condition. -/
namespace Go.Flow
open Go Go.RowKit
variable {P : Program} {ops : Array Oper} {Qn : Act → World → Prop} {s : List (Oper × Bool)} {a : Act} {w : World}
/-- An operation that makes new memory, when it alone may come up. -/
theorem WalkL.openrun {o : Oper} (u : World → Value) (f : World → World) (hg : Region.wanted o (yielded ops a.tmps) = true)
    (hr : ∀ w1, Ext w w1 → (execOp a.eval o).run P w1 = .ok (.value (u w1)) (f w1)) (hK : ∀ w1, Ext w w1 → Ext w1 (f w1) ∧ WalkL P ops Qn s (a.put o.dst (u w1)) (f w1)) : WalkL P ops Qn ((o, false) :: s) a w :=
  fun w1 h1 => .inl ⟨hg, by rw [hr w1 h1]; exact hK w1 h1⟩
/-- 'make([]T, n)', T of any number of cells. -/
theorem WalkL.openmakes {dst : Option Tmp} {l c : Operand} {t : TypeId} {ty : TypeId} {pos : String} {after : Array Edge} {guard : Option (Nat × Bool)}
    (e : TypeId) (i : TypeInfo) (z : Value) (h1 : P.underlying t = some (.slice e)) (h2 : P.info? e = some i) (h3 : i.zero = some z)
    (kl kc : IntKind) (L C : Int) (n : Nat) (hl : a.eval l = .int kl L) (hc : a.eval c = .int kc C) (hL : L = (n : Int)) (hC : C = (n : Int)) (b2 : i.bytes * n ≤ 281474976710656) (b3 : n ≤ 4611686018427387904)
    (hg : Region.wanted { dst, op := .makeSlice t l c, type := ty, pos, after, guard } (yielded ops a.tmps) = true)
    (hK : ∀ w1 w', Ext w w1 → Blk w' w1.heap.size e (madeCells z.cells (n * i.size)) → Ext w1 w' → WalkL P ops Qn s (a.put dst (.slice (some ⟨w1.heap.size, 0, none⟩) n n)) w') :
    WalkL P ops Qn (({ dst, op := .makeSlice t l c, type := ty, pos, after, guard }, false) :: s) a w := by
  intro w1 hE
  refine .inl ⟨hg, ?_⟩
  have hb' : (i.bytes : Int) * (n : Int) ≤ 281474976710656 := by
    have h : ((i.bytes * n : Nat) : Int) ≤ 281474976710656 := by omega
    rwa [Int.natCast_mul] at h
  have hrun := run_make (P := P) w1 t e i z h1 h2 h3 kl kc n n (by omega) (by omega) hb' (by omega)
  simp only [Int.toNat_natCast] at hrun
  subst hL
  subst hC
  simp only [execOp, hl, hc, Sem.run_bind, Sem.run_pure, hrun, Result.andThen_ok]
  exact ⟨(Ext.refl w1).alloc _, hK w1 _ hE (Blk.new _ _ _) ((Ext.refl w1).alloc _)⟩

/-- 'append([]T{}, s...)'. -/
theorem run_app_copy {g : Nat} {size : Nat} {e : TypeId} {w : World} (t ty : TypeId) (i : TypeInfo) (z : Value) (bytes : Nat) (ht : P.underlying t = some (.slice e)) (hi : P.info? e = some i) (hz : i.zero = some z)
    (hsize : i.size = size) (hby : i.bytes = bytes) (hzs : z.cells.size = size) (hsz : 0 < size) (hB : Blk w g e #[])
    (A : Option Addr) (m c : Nat) (ys : List Value) (hl : ys.length = m * size) (hr : Lst w A ys) (h63 : m ≤ 4611686018427387904) (hbytes : m * bytes ≤ 140737488355328) :
    ∃ v' w', (Builtin.append_ #[t, t] ty #[.slice (some ⟨g, 0, none⟩) 0 0, .slice A m c]).run P w = .ok v' w' ∧ w'.ownsRow g e size v' m ys ∧ Ext w w' := by
  subst hsize
  subst hby
  rcases Nat.eq_zero_or_pos m with hm | hm
  · subst hm
    have hn : ys = [] := List.eq_nil_of_length_eq_zero (by simpa using hl)
    subst hn
    refine ⟨.slice (some ⟨g, 0, none⟩) 0 0, w, ?_, ⟨by simp, .inr ⟨g, 0, #[], rfl, Nat.le_refl _, hB, Nat.le_refl _, by simp [maxLen], by simp, by simp⟩⟩, Ext.refl w⟩
    rcases A with _ | ad
    · exact run_append_nil_ (size := i.size) (v := .slice (some ⟨g, 0, none⟩) 0 0) (n := 0) (xs := []) (base := g) t ty i ht hi ⟨by simp, .inr ⟨g, 0, #[], rfl, Nat.le_refl _, hB, Nat.le_refl _, by simp [maxLen], by simp, by simp⟩⟩ c
    · simp [Builtin.append_, run_underlying ht, sizeOf, typeInfo, hi, Builtin.lenOf, Builtin.firstCells, loadCells, loadCellsFrom, storeCells]
  · rcases A with _ | ad
    · have : 0 < ys.length := by rw [hl]; exact Nat.mul_pos hm hsz
      obtain ⟨u, hu⟩ : ∃ u, ys[0]? = some u := ⟨ys[0], List.getElem?_eq_getElem this⟩
      obtain ⟨ad, h, _⟩ := hr 0 u hu
      cases h
    · have hr' := run_append_grow (P := P) w t ty e i z ht hi hz ⟨g, 0, none⟩ 0 0 [] (by simp) (fun j v hj => by simp at hj) ad m c ys hl
        (fun j u hj => by obtain ⟨ad', he, hc⟩ := hr j u hj; cases he; exact hc) (by omega) (by omega) (growslice_fits (by omega) (by simpa using hbytes))
      refine ⟨_, _, hr', ?_, (Ext.refl w).drew.alloc _⟩
      simp only [Nat.zero_add]
      have hge := grownCap_ge w m 0 e
      have hcm : grownCap w m 0 e ≤ maxLen := grownCap_le_maxLen w m 0 e (by simp only [maxLen]; omega)
      refine ⟨hl, .inr ⟨w.heap.size, _, _, rfl, Nat.le_of_lt hB.lt, heap_alloc_new w.drew _, hge, hcm, ?_, ?_⟩⟩
      · simp only [Array.size_append, List.size_toArray, size_zeroCells, hzs, hl, List.length_nil, Nat.zero_add, ← Nat.add_mul]
        congr 1
        omega
      · simp only [Array.toList_append]
        rw [List.nil_append, ← hl]
        exact List.take_left

/-- The same among the operations of a region that draws. -/
theorem WalkL.opencopy {g : Nat} {size : Nat} {e : TypeId} {dst : Option Tmp} {so x : Operand} {t ty : TypeId} {pos : String} {after : Array Edge} {guard : Option (Nat × Bool)}
    (i : TypeInfo) (z : Value) (bytes : Nat) (ht : P.underlying t = some (.slice e)) (hi : P.info? e = some i) (hz : i.zero = some z)
    (hsize : i.size = size) (hby : i.bytes = bytes) (hzs : z.cells.size = size) (hsz : 0 < size)
    (hs : a.eval so = .slice (some ⟨g, 0, none⟩) 0 0) (A : Option Addr) (m c : Nat) (hx : a.eval x = .slice A m c) (ys : List Value) (hl : ys.length = m * size)
    (h63 : m ≤ 4611686018427387904) (hbytes : m * bytes ≤ 140737488355328)
    (hg : Region.wanted { dst, op := .call { callee := .builtin .append, args := #[so, x], argTypes := #[t, t] }, type := ty, pos, after, guard } (yielded ops a.tmps) = true)
    (hB : Blk w g e #[]) (hr : Lst w A ys)
    (hK : ∀ w1 w' v', Ext w w1 → w'.ownsRow g e size v' m ys → Ext w1 w' → WalkL P ops Qn s (a.put dst v') w') :
    WalkL P ops Qn (({ dst, op := .call { callee := .builtin .append, args := #[so, x], argTypes := #[t, t] }, type := ty, pos, after, guard }, false) :: s) a w := by
  intro w1 hE
  refine .inl ⟨hg, ?_⟩
  obtain ⟨v', w', hrun, h2, h3⟩ := run_app_copy (P := P) (w := w1) t ty i z bytes ht hi hz hsize hby hzs hsz (hB.ext hE) A m c ys hl (hr.ext hE) h63 hbytes
  simp only [execOp, resolve, invoke, builtin, Sem.run_bind, Sem.run_pure, Result.andThen_ok, List.map_toArray, List.map_cons, List.map_nil, hs, hx, hrun]
  exact ⟨h3, hK w1 w' v' hE h2 h3⟩
end Go.Flow
end
