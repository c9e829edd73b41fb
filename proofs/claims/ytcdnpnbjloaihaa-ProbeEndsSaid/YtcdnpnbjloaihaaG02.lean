/- Parts of the proof: Base, App, App2, AV. -/
import Derived.Test.YtcdnpnbjloaihaaG01
import Derived.Maps.AppendAt
import Derived.OwnWalk
import Derived.Deep.AppendLies
set_option linter.unusedSimpArgs false
set_option linter.unusedVariables false
section
/- Words for memory: a block that is known whole, slices that read as functions, and how they stand under new memory. No condition. -/
namespace Go.Flow
open Go Go.RowKit

/-- Block g is the cells cs, of elements of type t; none is frozen. -/
def Blk (w : World) (g : Nat) (t : TypeId) (cs : Array Value) : Prop := w.heap[g]? = some (.cells cs t (0, 0))

section
variable {w w' W : World} {g : Nat} {t : TypeId} {cs : Array Value}
theorem Blk.lt (h : Blk w g t cs) : g < w.heap.size := (Array.getElem?_eq_some_iff.1 (show w.heap[g]? = some _ from h)).1
theorem Blk.cell (h : Blk w g t cs) (i : Nat) : w.cell? ⟨g, i, none⟩ = cs[i]? := cell_of_row w g i cs t (0, 0) h
theorem Blk.frozen (h : Blk w g t cs) (i : Nat) : w.frozen? ⟨g, i, none⟩ = false := by
  unfold Blk at h
  simp [World.frozen?, h]
theorem Blk.ext (h : Blk w g t cs) (hE : Ext w w') : Blk w' g t cs := Ext.block hE h
theorem Blk.new (w : World) (t : TypeId) (cs : Array Value) : Blk (w.alloc (.cells cs t)) w.heap.size t cs := heap_alloc_new w _
theorem Blk.new' {g : Nat} (hg : g = w.heap.size) (t : TypeId) (cs : Array Value) : Blk (w.alloc (.cells cs t)) g t cs := hg ▸ Blk.new w t cs
theorem Blk.drew (h : Blk w g t cs) : Blk w.drew g t cs := h
theorem Blk.drewN (h : Blk w g t cs) (n : Nat) : Blk (w.drewN n) g t cs := h
theorem Blk.alloc (h : Blk w g t cs) (o : Obj) : Blk (w.alloc o) g t cs := (Below.heap_alloc w o g h.lt).trans h
theorem Blk.set_ (h : Blk w g t cs) (i : Nat) (u : Value) : Blk (w.setCell ⟨g, i, none⟩ u) g t (cs.setIfInBounds i u) := by
  unfold Blk at h ⊢
  simp [World.setCell, Array.getElem?_modify, h]
theorem Blk.far (h : Blk w g t cs) {p : Addr} (hp : g ≠ p.block) (u : Value) : Blk (w.setCell p u) g t cs := (Below.heap_setCell w p u g hp).trans h

/-- Four cells of one block are written. -/
theorem Blk.set4 {a b c d a' b' c' d' : Value} (h : Blk w g t #[a, b, c, d]) : Blk ((((w.setCell ⟨g, 0, none⟩ a').setCell ⟨g, 1, none⟩ b').setCell ⟨g, 2, none⟩ c').setCell ⟨g, 3, none⟩ d') g t #[a', b', c', d'] := by
  have := (((h.set_ 0 a').set_ 1 b').set_ 2 c').set_ 3 d'
  simpa using this
theorem Blk.far4 {k : Nat} {a' b' c' d' : Value} (h : Blk w g t cs) (hne : g ≠ k) : Blk ((((w.setCell ⟨k, 0, none⟩ a').setCell ⟨k, 1, none⟩ b').setCell ⟨k, 2, none⟩ c').setCell ⟨k, 3, none⟩ d') g t cs :=
  (((h.far hne a').far hne b').far hne c').far hne d'
theorem Ext.set4 {k : Nat} {a' b' c' d' : Value} (h : Ext W w) (hk : W.heap.size ≤ k) : Ext W ((((w.setCell ⟨k, 0, none⟩ a').setCell ⟨k, 1, none⟩ b').setCell ⟨k, 2, none⟩ c').setCell ⟨k, 3, none⟩ d') :=
  (((h.setCell hk a').setCell hk b').setCell hk c').setCell hk d'

/-- Rules for the walk: what is known of an elder world is known of the world at hand. -/
theorem Blk.rules (h : Blk w g t cs) : (∀ i, w.cell? ⟨g, i, none⟩ = cs[i]?) ∧ (∀ i, w.frozen? ⟨g, i, none⟩ = false) ∧ g < w.heap.size := ⟨h.cell, h.frozen, h.lt⟩
end
theorem Ext.rules {W w : World} (h : Ext W w) : (∀ p : Addr, p.block < W.heap.size → w.cell? p = W.cell? p) ∧ (∀ p : Addr, p.block < W.heap.size → w.frozen? p = W.frozen? p) :=
  ⟨fun _ hp => Below.cell h hp, fun _ hp => Below.frozen h hp⟩
theorem block_add (a : Addr) (n : Nat) : (a.add n).block = a.block := by unfold Addr.add; split <;> rfl

theorem lt_of_cell {w : World} {a : Addr} {k : Nat} {v : Value} (h : w.cell? (a.add k) = some v) : a.block < w.heap.size := by
  have := World.block_lt_of_cell? w _ h; rwa [block_add] at this

/-- A slice's array, as a function of the index: n elements of one cell, that hold F. -/
def Arr (w : World) (A : Option Addr) (n : Nat) (F : Nat → Value) : Prop := ∀ k, k < n → ∃ ad, A = some ad ∧ w.cell? (ad.add k) = some (F k)
abbrev Ints (w : World) (A : Option Addr) (n : Nat) (f : Nat → Int) : Prop := Arr w A n fun k => .int .i64 (f k)
abbrev Bools (w : World) (A : Option Addr) (n : Nat) (f : Nat → Bool) : Prop := Arr w A n fun k => .bool (f k)
theorem Arr.ext {w w' : World} {A : Option Addr} {n : Nat} {F : Nat → Value} (h : Arr w A n F) (hE : Ext w w') : Arr w' A n F := fun k hk =>
  let ⟨ad, e, hc⟩ := h k hk
  ⟨ad, e, hE.cell hc⟩
theorem Arr.drewN {w : World} {A : Option Addr} {n : Nat} {F : Nat → Value} (h : Arr w A n F) (m : Nat) : Arr (w.drewN m) A n F := h
theorem Arr.congr {w : World} {A : Option Addr} {n : Nat} {F G : Nat → Value} (h : Arr w A n F) (hg : ∀ k, k < n → F k = G k) : Arr w A n G := fun k hk =>
  let ⟨ad, e, hc⟩ := h k hk
  ⟨ad, e, hg k hk ▸ hc⟩
theorem Arr.zero (w : World) (A : Option Addr) (F : Nat → Value) : Arr w A 0 F := fun k hk => absurd hk (by omega)
theorem Arr.take {w : World} {A : Option Addr} {n m : Nat} {F : Nat → Value} (h : Arr w A n F) (hm : m ≤ n) : Arr w A m F := fun k hk => h k (by omega)

/-- Block g is n cells of elements of type t that hold F. -/
def Own (w : World) (g : Nat) (t : TypeId) (n : Nat) (F : Nat → Value) : Prop := ∃ cs, Blk w g t cs ∧ cs.size = n ∧ ∀ k, k < n → cs[k]? = some (F k)
def upd (F : Nat → Value) (i : Nat) (v : Value) : Nat → Value := fun k => if k = i then v else F k
section
variable {w w' : World} {g : Nat} {t : TypeId} {n : Nat} {F G : Nat → Value}
theorem Own.lt (h : Own w g t n F) : g < w.heap.size := let ⟨_, hb, _⟩ := h; hb.lt
theorem Own.ext (h : Own w g t n F) (hE : Ext w w') : Own w' g t n F := let ⟨cs, hb, hr⟩ := h; ⟨cs, hb.ext hE, hr⟩
theorem Own.cell (h : Own w g t n F) {k : Nat} (hk : k < n) : w.cell? ⟨g, k, none⟩ = some (F k) := let ⟨_, hb, _, hc⟩ := h; (hb.cell k).trans (hc k hk)
theorem Own.frozen (h : Own w g t n F) (k : Nat) : w.frozen? ⟨g, k, none⟩ = false := let ⟨_, hb, _⟩ := h; hb.frozen k
theorem Own.congr (h : Own w g t n F) (hg : ∀ k, k < n → F k = G k) : Own w g t n G := let ⟨cs, hb, hs, hc⟩ := h; ⟨cs, hb, hs, fun k hk => by rw [hc k hk, hg k hk]⟩
theorem Own.drewN (h : Own w g t n F) (m : Nat) : Own (w.drewN m) g t n F := h
theorem Own.set_ (h : Own w g t n F) (i : Nat) (v : Value) : Own (w.setCell ⟨g, i, none⟩ v) g t n (upd F i v) := by
  obtain ⟨cs, hb, hs, hc⟩ := h
  refine ⟨_, hb.set_ i v, by simpa using hs, fun k hk => ?_⟩
  unfold upd
  by_cases e : k = i
  · subst e; simp [hs, hk]
  · rw [if_neg e, Array.getElem?_setIfInBounds_ne (Ne.symm e)]; exact hc k hk
theorem Own.far (h : Own w g t n F) {p : Addr} (hp : g ≠ p.block) (u : Value) : Own (w.setCell p u) g t n F := let ⟨cs, hb, hr⟩ := h; ⟨cs, hb.far hp u, hr⟩
theorem Own.arr (h : Own w g t n F) : Arr w (some ⟨g, 0, none⟩) n F := fun k hk => ⟨_, rfl, by
  rw [show (⟨g, 0, none⟩ : Addr).add k = ⟨g, k, none⟩ by unfold Addr.add; split <;> simp_all]; exact h.cell hk⟩
end

/-- Only block g of what was there may have changed. -/
abbrev Only (w w' : World) (g : Nat) : Prop := w.grownBy w' (some g)
theorem Only.refl (w : World) (g : Nat) : Only w w g := ⟨rfl, rfl, rfl, Nat.le_refl _, fun _ _ _ => rfl⟩
theorem Only.of_ext {w w' : World} (h : Ext w w') (g : Nat) : Only w w' g := ⟨h.os, h.tape, h.output, h.size, fun i hi _ => Below.block h i hi⟩
theorem Only.trans {a b c : World} {g : Nat} (h : Only a b g) (k : Only b c g) : Only a c g :=
  ⟨k.os.trans h.os, k.tape.trans h.tape, k.output.trans h.output, Nat.le_trans h.size k.size, fun i hi hne => (k.block i (Nat.lt_of_lt_of_le hi h.size) hne).trans (h.block i hi hne)⟩
theorem Only.set_ (w : World) (g i : Nat) (v : Value) : Only w (w.setCell ⟨g, i, none⟩ v) g :=
  ⟨rfl, rfl, rfl, by simp [World.setCell], fun k _ hne => Below.heap_setCell w ⟨g, i, none⟩ v k (fun e => hne (by rw [e]))⟩
theorem Only.ext {a w w' : World} {g : Nat} (h : Only w w' g) (hE : Ext a w) (hg : a.heap.size ≤ g) : Ext a w' :=
  hE.grown h (fun k hk => by injection hk with hk; omega)
theorem Only.own {w w' : World} {g k : Nat} {t : TypeId} {n : Nat} {F : Nat → Value} (h : Only w w' g) (hb : Own w k t n F) (hne : k ≠ g) : Own w' k t n F :=
  let ⟨cs, hb, hr⟩ := hb; ⟨cs, (h.block k hb.lt (fun e => hne (by injection e))).trans hb, hr⟩
theorem Only.blk {w w' : World} {g k : Nat} {t : TypeId} {cs : Array Value} (h : Only w w' g) (hb : Blk w k t cs) (hne : k ≠ g) : Blk w' k t cs :=
  (h.block k hb.lt (fun e => hne (by injection e))).trans hb

/-- 'make([]T, n)', T of one cell: n zero elements in a new block. -/
theorem wpList_make {P : Program} {w : World} {ops : Array Oper} {rest : List Oper} {o : Oper} {a : Act} {Q : Exit → Act → World → Prop}
    (hg : o.guard = none) (l c : Operand) (t : TypeId) (hop : o.op = Op.makeSlice t l c)
    (e : TypeId) (i : TypeInfo) (z : Value) (h1 : P.underlying t = some (.slice e)) (h2 : P.info? e = some i) (h3 : i.zero = some z) (h4 : i.size = 1) (hz : z.cells = #[z])
    (kl kc : IntKind) (L C : Int) (n : Nat) (hl : a.eval l = .int kl L) (hc : a.eval c = .int kc C) (hL : L = (n : Int)) (hC : C = (n : Int)) (b2 : i.bytes * n ≤ 281474976710656) (b3 : n ≤ 4611686018427387904)
    (hK : ∀ w', Own w' w.heap.size e n (fun _ => z) → Ext w w' → wpList P ops Q rest (a.put o.dst (.slice (some ⟨w.heap.size, 0, none⟩) n n)) w') :
    wpList P ops Q (o :: rest) a w := by
  refine wpList_plain hg fun K hK' => ?_
  have hb' : (i.bytes : Int) * (n : Int) ≤ 281474976710656 := by
    have h : ((i.bytes * n : Nat) : Int) ≤ 281474976710656 := by omega
    rwa [Int.natCast_mul] at h
  have hrun := run_make (P := P) w t e i z h1 h2 h3 kl kc n n (by omega) (by omega) hb' (by omega)
  simp only [Int.toNat_natCast, h4, Nat.mul_one] at hrun
  subst hL
  subst hC
  unfold Oper.wp
  simp [execOp, hop, hl, hc, hrun, Result.andThen]
  refine hK' _ _ (hK _ ⟨_, Blk.new _ _ _, size_madeCells _ _, fun k hk => ?_⟩ ((Ext.refl w).alloc _))
  simp [madeCells, hz, hk, Nat.mod_one]

/-- 'make([]T, n)' among the operations of a region that draws. -/
theorem WalkL.openmake {P : Program} {ops : Array Oper} {Qn : Act → World → Prop} {s : List (Oper × Bool)} {a : Act} {w : World} {dst : Option Tmp} {l c : Operand} {t : TypeId} {ty : TypeId} {pos : String} {after : Array Edge} {guard : Option (Nat × Bool)}
    (e : TypeId) (i : TypeInfo) (z : Value) (h1 : P.underlying t = some (.slice e)) (h2 : P.info? e = some i) (h3 : i.zero = some z) (h4 : i.size = 1) (hz : z.cells = #[z])
    (kl kc : IntKind) (L C : Int) (n : Nat) (hl : a.eval l = .int kl L) (hc : a.eval c = .int kc C) (hL : L = (n : Int)) (hC : C = (n : Int)) (b2 : i.bytes * n ≤ 281474976710656) (b3 : n ≤ 4611686018427387904)
    (hg : Region.wanted { dst, op := .makeSlice t l c, type := ty, pos, after, guard } (yielded ops a.tmps) = true)
    (hK : ∀ w1 w', Ext w w1 → Own w' w1.heap.size e n (fun _ => z) → Ext w1 w' → WalkL P ops Qn s (a.put dst (.slice (some ⟨w1.heap.size, 0, none⟩) n n)) w') :
    WalkL P ops Qn (({ dst, op := .makeSlice t l c, type := ty, pos, after, guard }, false) :: s) a w := by
  intro w1 hE
  refine .inl ⟨hg, ?_⟩
  have hb' : (i.bytes : Int) * (n : Int) ≤ 281474976710656 := by
    have h : ((i.bytes * n : Nat) : Int) ≤ 281474976710656 := by omega
    rwa [Int.natCast_mul] at h
  have hrun := run_make (P := P) w1 t e i z h1 h2 h3 kl kc n n (by omega) (by omega) hb' (by omega)
  simp only [Int.toNat_natCast, h4, Nat.mul_one] at hrun
  subst hL
  subst hC
  simp only [execOp, hl, hc, Sem.run_bind, Sem.run_pure, hrun, Result.andThen_ok]
  have hE' : Ext w1 (w1.alloc (.cells (madeCells z.cells n) e)) := (Ext.refl w1).alloc _
  refine ⟨hE', hK w1 _ hE ⟨_, Blk.new _ _ _, size_madeCells _ _, fun k hk => ?_⟩ hE'⟩
  simp [madeCells, hz, hk, Nat.mod_one]
end Go.Flow
end

section
/- Rows that the call itself appends to. No condition. -/
namespace Go.Flow
open Go Go.RowKit
section
variable {P : Program} {w w' : World} {base : Nat} {e : TypeId} {size : Nat} {v : Value} {n : Nat} {xs : List Value}
theorem grown_none {w w' : World} (h : Ext w w') (row : Option Nat) : w.grownBy w' row := ⟨h.os, h.tape, h.output, h.size, fun i hi _ => Below.block h i hi⟩
theorem own_ext (h : w.ownsRow base e size v n xs) (hE : Ext w w') : w'.ownsRow base e size v n xs := h.kept (grown_none hE none) (by cases hv : v.ownBlock <;> simp)
theorem own_only {g : Nat} (h : w.ownsRow base e size v n xs) (hO : Only w w' g) (hg : g < base) : w'.ownsRow base e size v n xs := by
  refine h.kept hO ?_
  cases hv : v.ownBlock with
  | none => exact .inl rfl
  | some k => right; intro h1; injection h1 with h1; have := (h.lt k hv).1; omega
theorem own_set_ {p : Addr} (h : w.ownsRow base e size v n xs) (hp : p.block < base) (u : Value) : (w.setCell p u).ownsRow base e size v n xs := ownsRow_setCell_below h hp u
/-- What is owned reads as a function. -/
theorem own_arr (h : w.ownsRow base e 1 v n xs) {F : Nat → Value} (hF : ∀ k, k < n → xs[k]? = some (F k)) : ∃ A c, v = .slice A n c ∧ Arr w A n F := by
  rcases h.2 with ⟨rfl, rfl⟩ | ⟨g, cap, cur, rfl, _, hg, hnc, _, _, htake⟩
  · exact ⟨none, 0, rfl, Arr.zero _ _ _⟩
  · exact ⟨_, cap, rfl, fun k hk => ⟨_, rfl, h.cells (g := g) rfl k _ (hF k hk)⟩⟩
/-- 'append(s, x)', x one cell: behind buildSlice. -/
theorem wpList_app1 {ops : Array Oper} {rest : List Oper} {o : Oper} {a : Act} {Q : Exit → Act → World → Prop} (hgd : o.guard = none) (s x : Operand) (t : TypeId)
    (ho : o.op = .call { callee := .builtin .append, args := #[s, x], argTypes := #[t, t] })
    (i : TypeInfo) (z : Value) (bytes : Nat) (ht : P.underlying t = some (.slice e)) (hi : P.info? e = some i) (hz : i.zero = some z)
    (hsize : i.size = 1) (hby : i.bytes = bytes) (hzs : z.cells.size = 1)
    (hs : a.eval s = v) (hown : w.ownsRow base e 1 v n xs) (g : Nat) (u : Value) (cs : Array Value) (t' : TypeId) (hx : a.eval x = .slice (some ⟨g, 0, none⟩) 1 1) (hB : Blk w g t' cs) (hc : cs[0]? = some u)
    (h1 : u.oneCell' = true) (h63 : n + 1 ≤ 4611686018427387904) (hbytes : (n + 1) * bytes ≤ 140737488355328) (hbase : base ≤ w.heap.size)
    (h : ∀ v' w', w'.ownsRow base e 1 v' (n + 1) (xs ++ [u]) → w.grownBy w' v.ownBlock → (∀ W, W.heap.size ≤ base → Ext W w → Ext W w') → wpList P ops Q rest (a.put o.dst v') w') : wpList P ops Q (o :: rest) a w := by
  refine wpList_append_own w hgd s x t ho base e i z 1 bytes ht hi hz hsize hby hzs (by omega) v n xs hs hown ⟨g, 0, none⟩ 1 1 [u] hx rfl (fun j y hj => ?_) (by simpa using h1) (by simp only [maxLen]; omega) hbytes hbase
    fun v' w' h2 h3 _ => h v' w' h2 h3 fun W hW hE => hE.grown h3 fun k hk => by have := (hown.lt k hk).1; omega
  cases j with
  | zero =>
    obtain rfl : u = y := by simpa using hj
    show w.cell? ⟨g, 0, none⟩ = _
    rw [hB.cell 0]
    exact hc
  | succ j => simp at hj
end
end Go.Flow
end

section
/- append of elements of several cells, and of whole slices. No condition. -/
namespace Go.Flow
open Go Go.RowKit
section
variable {P : Program} {w w' : World} {base : Nat} {e : TypeId} {size : Nat} {v : Value} {n : Nat} {xs : List Value}

/-- A slice's array, as a list of cells. -/
def Lst (w : World) (A : Option Addr) (ys : List Value) : Prop := ∀ (j : Nat) (u : Value), ys[j]? = some u → ∃ ad, A = some ad ∧ w.cell? (ad.add j) = some u
theorem Lst.ext {A : Option Addr} {ys : List Value} (h : Lst w A ys) (hE : Ext w w') : Lst w' A ys := fun j u hj =>
  let ⟨ad, e, hc⟩ := h j u hj
  ⟨ad, e, hE.cell hc⟩
theorem Lst.of_blk {g : Nat} {t : TypeId} {cs : Array Value} (h : Blk w g t cs) : Lst w (some ⟨g, 0, none⟩) cs.toList := fun j u hj => ⟨_, rfl, by
  rw [show (⟨g, 0, none⟩ : Addr).add j = ⟨g, j, none⟩ by unfold Addr.add; split <;> simp_all, h.cell, ← Array.getElem?_toList]
  exact hj⟩
theorem Lst.of_arr {A : Option Addr} {F : Nat → Value} (h : Arr w A n F) : Lst w A ((List.range n).map F) := fun j u hj => by
  rcases Nat.lt_or_ge j n with hlt | hge
  · obtain ⟨ad, e, hc⟩ := h j hlt
    refine ⟨ad, e, hc.trans ?_⟩
    simpa [List.getElem?_map, List.getElem?_range hlt] using hj
  · simp [hge] at hj

theorem run_append_nil_ (t ty : TypeId) (i : TypeInfo) (ht : P.underlying t = some (.slice e)) (hi : P.info? e = some i)
    (hown : w.ownsRow base e size v n xs) (c : Nat) : (Builtin.append_ #[t, t] ty #[v, .slice none 0 c]).run P w = .ok v w := by
  rcases hown.2 with ⟨rfl, rfl⟩ | ⟨g, cap, cur, rfl, _, _, hnc, _⟩
  · simp [Builtin.append_, run_underlying ht, sizeOf, typeInfo, hi, Builtin.lenOf, Builtin.firstCells]
  · simp [Builtin.append_, run_underlying ht, sizeOf, typeInfo, hi, Builtin.lenOf, Builtin.firstCells, hnc, storeCells]

/-- 'append(s, x...)': what it runs to, the source nil, empty or not. -/
theorem run_app (t ty : TypeId) (i : TypeInfo) (z : Value) (bytes : Nat) (ht : P.underlying t = some (.slice e)) (hi : P.info? e = some i) (hz : i.zero = some z)
    (hsize : i.size = size) (hby : i.bytes = bytes) (hzs : z.cells.size = size) (hsz : 0 < size) (hown : w.ownsRow base e size v n xs)
    (A : Option Addr) (m c : Nat) (ys : List Value) (hl : ys.length = m * size) (hr : Lst w A ys) (h1 : ∀ u ∈ ys, u.oneCell' = true)
    (h63 : n + m ≤ 4611686018427387904) (hbytes : (n + m) * bytes ≤ 140737488355328) (hbase : base ≤ w.heap.size) :
    ∃ v' w', (Builtin.append_ #[t, t] ty #[v, .slice A m c]).run P w = .ok v' w' ∧ w'.ownsRow base e size v' (n + m) (xs ++ ys) ∧ w.grownBy w' v.ownBlock ∧ (∀ W, W.heap.size ≤ base → Ext W w → Ext W w') := by
  have hgo : ∀ w', w.grownBy w' v.ownBlock → ∀ W : World, W.heap.size ≤ base → Ext W w → Ext W w' := fun w' hg W hW hE => hE.grown hg fun k hk => by have := (hown.lt k hk).1; omega
  rcases A with _ | ad
  · have hm : ys = [] := by
      rcases ys with _ | ⟨u, ys⟩
      · rfl
      · obtain ⟨ad, h, _⟩ := hr 0 u rfl
        cases h
    subst hm
    have hm0 : m = 0 := by
      rcases Nat.eq_zero_or_pos m with h0 | h0
      · exact h0
      · have := Nat.mul_pos h0 hsz
        simp at hl; omega
    subst hm0
    exact ⟨v, w, run_append_nil_ t ty i ht hi hown c, by simpa using hown, World.grownBy.refl w _, hgo w (World.grownBy.refl w _)⟩
  · obtain ⟨v', w', hrun, h2, h3, _⟩ := run_append_own (P := P) w base t ty e i z size bytes ht hi hz hsize hby hzs hsz v n xs hown ad m c ys hl
      (fun j u hj => by obtain ⟨ad', he, hc⟩ := hr j u hj; cases he; exact hc) h1 (by simp only [maxLen]; omega) hbytes hbase
    exact ⟨v', w', hrun, h2, h3, hgo w' h3⟩

theorem wpList_app {ops : Array Oper} {rest : List Oper} {o : Oper} {a : Act} {Q : Exit → Act → World → Prop} (hgd : o.guard = none) (s x : Operand) (t : TypeId)
    (ho : o.op = .call { callee := .builtin .append, args := #[s, x], argTypes := #[t, t] })
    (i : TypeInfo) (z : Value) (bytes : Nat) (ht : P.underlying t = some (.slice e)) (hi : P.info? e = some i) (hz : i.zero = some z)
    (hsize : i.size = size) (hby : i.bytes = bytes) (hzs : z.cells.size = size) (hsz : 0 < size)
    (hs : a.eval s = v) (hown : w.ownsRow base e size v n xs)
    (A : Option Addr) (m c : Nat) (hx : a.eval x = .slice A m c) (ys : List Value) (hl : ys.length = m * size) (hr : Lst w A ys) (h1 : ∀ u ∈ ys, u.oneCell' = true)
    (h63 : n + m ≤ 4611686018427387904) (hbytes : (n + m) * bytes ≤ 140737488355328) (hbase : base ≤ w.heap.size)
    (h : ∀ v' w', w'.ownsRow base e size v' (n + m) (xs ++ ys) → w.grownBy w' v.ownBlock → (∀ W, W.heap.size ≤ base → Ext W w → Ext W w') → wpList P ops Q rest (a.put o.dst v') w') : wpList P ops Q (o :: rest) a w := by
  obtain ⟨v', w', hrun, h2, h3, h4⟩ := run_app (P := P) (w := w) t o.type i z bytes ht hi hz hsize hby hzs hsz hown A m c ys hl hr h1 h63 hbytes hbase
  refine wpList_plain hgd fun K hK => ?_
  unfold Oper.wp execOp
  simp only [ho, resolve, invoke, builtin, Sem.run_bind, Sem.run_pure, Result.andThen_ok, List.map_toArray, List.map_cons, List.map_nil, hs, hx, hrun]
  exact hK _ _ (h v' w' h2 h3 h4)

/-- 'append' among the operations of a region that draws. -/
theorem WalkL.openapp {ops : Array Oper} {Qn : Act → World → Prop} {sq : List (Oper × Bool)} {a : Act} {dst : Option Tmp} {s x : Operand} {t ty : TypeId} {pos : String} {after : Array Edge} {guard : Option (Nat × Bool)}
    (i : TypeInfo) (z : Value) (bytes : Nat) (ht : P.underlying t = some (.slice e)) (hi : P.info? e = some i) (hz : i.zero = some z)
    (hsize : i.size = size) (hby : i.bytes = bytes) (hzs : z.cells.size = size) (hsz : 0 < size)
    (hs : a.eval s = v) (A : Option Addr) (m c : Nat) (hx : a.eval x = .slice A m c) (ys : List Value) (hl : ys.length = m * size) (h1 : ∀ u ∈ ys, u.oneCell' = true)
    (h63 : n + m ≤ 4611686018427387904) (hbytes : (n + m) * bytes ≤ 140737488355328)
    (hg : Region.wanted { dst, op := .call { callee := .builtin .append, args := #[s, x], argTypes := #[t, t] }, type := ty, pos, after, guard } (yielded ops a.tmps) = true)
    (hown : ∀ w1, Ext w w1 → w1.ownsRow w1.heap.size e size v n xs ∧ Lst w1 A ys)
    (hK : ∀ w1 w' v', Ext w w1 → w'.ownsRow w1.heap.size e size v' (n + m) (xs ++ ys) → Ext w1 w' → WalkL P ops Qn sq (a.put dst v') w') :
    WalkL P ops Qn (({ dst, op := .call { callee := .builtin .append, args := #[s, x], argTypes := #[t, t] }, type := ty, pos, after, guard }, false) :: sq) a w := by
  intro w1 hE
  refine .inl ⟨hg, ?_⟩
  obtain ⟨ho, hr⟩ := hown w1 hE
  obtain ⟨v', w', hrun, h2, h3, h4⟩ := run_app (P := P) (w := w1) t ty i z bytes ht hi hz hsize hby hzs hsz ho A m c ys hl hr h1 h63 hbytes (Nat.le_refl _)
  have hE' := h4 w1 (Nat.le_refl _) (Ext.refl w1)
  simp only [execOp, resolve, invoke, builtin, Sem.run_bind, Sem.run_pure, Result.andThen_ok, List.map_toArray, List.map_cons, List.map_nil, hs, hx, hrun]
  exact ⟨hE', hK w1 w' v' hE h2 hE'⟩
end
end Go.Flow
end

section
/- Values without addresses: what a frame's slots and the call's own blocks hold, as plain terms; how they stand for Go's values in a world. No condition. -/
namespace Go.AV
open Go Go.RowKit Go.Flow

/-- What one cell holds: p: a plain value; ls: a slice that nobody writes to any more; pl: a pointer into it; pt: a pointer into an own block; ow: an own slice, whole; fn: a function with what it has captured. -/
inductive CV where
  | p (v : Value)
  | ls (n sz : Nat) (F : Nat → Nat → CV)
  | pl (n sz : Nat) (F : Nat → Nat → CV) (k j : Nat)
  | pt (id sz k j : Nat)
  | ow (id : Nat)
  | fn (f : FuncId) (cs : Nat) (C : Nat → CV)
  | any

def RepI (O : Nat → Prop) (w : World) : CV → Value → Prop
  | .p v, u => u = v
  | .ls n sz F, u => ∃ A cap, u = .slice A n cap ∧ n ≤ cap ∧ ∀ k, k < n → ∀ j, j < sz → ∃ (ad : Addr) (v : Value), A = some ad ∧ ¬ O ad.block ∧ w.cell? (ad.add (k * sz + j)) = some v ∧ v.oneCell' = true ∧ RepI O w (F k j) v
  | .pl n sz F k j, u => ∃ ad : Addr, u = .pointer (some (ad.add (k * sz + j))) ∧ k < n ∧ ∀ k, k < n → ∀ j, j < sz → ∃ v, ¬ O ad.block ∧ w.cell? (ad.add (k * sz + j)) = some v ∧ v.oneCell' = true ∧ RepI O w (F k j) v
  | .any, _ => True
  | _, _ => False

/-- Other blocks than those of O are as they were. -/
structure Keep (O : Nat → Prop) (w w' : World) : Prop where
  os : w'.os = w.os
  tape : w'.tape = w.tape
  output : w'.output = w.output
  size : w.heap.size ≤ w'.heap.size
  block : ∀ k, k < w.heap.size → ¬ O k → w'.heap[k]? = w.heap[k]?
theorem Keep.of_ext {O : Nat → Prop} {w w' : World} (h : Ext w w') : Keep O w w' := ⟨h.os, h.tape, h.output, h.size, fun k hk _ => Below.block h k hk⟩
theorem Keep.trans {O O' : Nat → Prop} {a b c : World} (h : Keep O a b) (k : Keep O' b c) (hO : ∀ i, O' i → a.heap.size ≤ i ∨ O i) : Keep O a c :=
  ⟨k.os.trans h.os, k.tape.trans h.tape, k.output.trans h.output, Nat.le_trans h.size k.size, fun i hi hno => (k.block i (Nat.lt_of_lt_of_le hi h.size) fun ho => (hO i ho).elim (fun h => by omega) hno).trans (h.block i hi hno)⟩
theorem Keep.ext {O : Nat → Prop} {w0 w w' : World} (h : Keep O w w') (hE : Ext w0 w) (hO : ∀ b, O b → w0.heap.size ≤ b) : Ext w0 w' :=
  ⟨h.os.trans hE.os, h.tape.trans hE.tape, h.output.trans hE.output, Nat.le_trans hE.size h.size, fun k hk => (h.block k (Nat.lt_of_lt_of_le hk hE.size) (fun ho => by have := hO k ho; omega)).trans (Below.block hE k hk)⟩
theorem Keep.cell {O : Nat → Prop} {w w' : World} (h : Keep O w w') {a : Addr} {v : Value} (hc : w.cell? a = some v) (hO : ¬ O a.block) : w'.cell? a = some v :=
  (World.cell?_of_block (h.block _ (World.block_lt_of_cell? w a hc) hO)).trans hc

theorem RepI.keep {O O' : Nat → Prop} {w w' : World} (h : Keep O w w') (hO : ∀ b, O' b → O b ∨ w.heap.size ≤ b) : ∀ {x : CV} {u : Value}, RepI O w x u → RepI O' w' x u := by
  intro x
  induction x with
  | p v => exact fun h => h
  | ls n sz F ih =>
    rintro u ⟨A, cap, rfl, hcap, hc⟩
    refine ⟨A, cap, rfl, hcap, fun k hk j hj => ?_⟩
    obtain ⟨ad, v, e1, e2, e3, e4, e5⟩ := hc k hk j hj
    have hb := World.block_lt_of_cell? w _ e3
    rw [block_add] at hb
    exact ⟨ad, v, e1, fun ho => (hO _ ho).elim e2 (fun h => by omega), h.cell e3 (by rw [block_add]; exact e2), e4, ih k j e5⟩
  | pl n sz F k j ih =>
    rintro u ⟨ad, rfl, hkn, hc⟩
    refine ⟨ad, rfl, hkn, fun k hk j hj => ?_⟩
    obtain ⟨v, e2, e3, e4, e5⟩ := hc k hk j hj
    have hb := World.block_lt_of_cell? w _ e3
    rw [block_add] at hb
    exact ⟨v, fun ho => (hO _ ho).elim e2 (fun h => by omega), h.cell e3 (by rw [block_add]; exact e2), e4, ih k j e5⟩
  | pt => exact fun h => h.elim
  | ow => exact fun h => h.elim
  | fn => exact fun h => h.elim
  | any => exact fun _ => trivial
theorem RepI.less {O O' : Nat → Prop} {w : World} (hO : ∀ b, O' b → O b) {x : CV} {u : Value} (h : RepI O w x u) : RepI O' w x u :=
  h.keep ⟨rfl, rfl, rfl, Nat.le_refl _, fun _ _ _ => rfl⟩ fun b hb => .inl (hO b hb)

/-- The block of an own block's value. -/
def baseBlk : Value → Option Nat
  | .pointer (some a) => some a.block
  | .slice (some a) _ _ => some a.block
  | _ => none
/-- One cell, function values aside. -/
def RepB (σ : Nat → Option Value) (O : Nat → Prop) (w : World) : CV → Value → Prop
  | .pt id sz k j, u => ∃ v b, σ id = some v ∧ baseBlk v = some b ∧ u = .pointer (some ⟨b, k * sz + j, none⟩)
  | .ow id, u => σ id = some u ∧ ∃ A n c, u = .slice A n c
  | x, u => RepI O w x u
def RepC (σ : Nat → Option Value) (O : Nat → Prop) (w : World) (x : CV) (u : Value) : Prop :=
  u.oneCell' = true ∧ match x with
    | .fn f m C => ∃ vs : List Value, u = .func (.func f) #[] vs.toArray ∧ vs.length = m ∧ ∀ i, i < m → ∃ v, vs[i]? = some v ∧ v.oneCell' = true ∧ RepB σ O w (C i) v
    | x => RepB σ O w x u
theorem RepB.keep {σ σ' : Nat → Option Value} {O O' : Nat → Prop} {w w' : World} (h : Keep O w w') (hO : ∀ b, O' b → O b ∨ w.heap.size ≤ b) (hs : ∀ i v, σ i = some v → σ' i = some v) {x : CV} {u : Value} (hx : RepB σ O w x u) : RepB σ' O' w' x u := by
  cases x with
  | pt id sz k j => obtain ⟨v, b, h1, h2, h3⟩ := hx; exact ⟨v, b, hs _ _ h1, h2, h3⟩
  | ow id => obtain ⟨h1, h2⟩ := hx; exact ⟨hs _ _ h1, h2⟩
  | _ => exact RepI.keep h hO hx
theorem RepC.keep {σ σ' : Nat → Option Value} {O O' : Nat → Prop} {w w' : World} (h : Keep O w w') (hO : ∀ b, O' b → O b ∨ w.heap.size ≤ b) (hs : ∀ i v, σ i = some v → σ' i = some v) {x : CV} {u : Value} (hx : RepC σ O w x u) : RepC σ' O' w' x u := by
  refine ⟨hx.1, ?_⟩
  have h2 := hx.2
  cases x with
  | fn f m C =>
    obtain ⟨vs, e1, e2, e3⟩ := h2
    exact ⟨vs, e1, e2, fun i hi => let ⟨v, a, b, c⟩ := e3 i hi; ⟨v, a, b, c.keep h hO hs⟩⟩
  | _ => exact RepB.keep h hO hs h2

def RepL {α : Type} (R : α → Value → Prop) : List α → List Value → Prop
  | [], [] => True
  | x :: l, v :: vs => R x v ∧ RepL R l vs
  | _, _ => False
theorem RepL.mono {α : Type} {R R' : α → Value → Prop} (hR : ∀ x v, R x v → R' x v) : ∀ {l : List α} {vs : List Value}, RepL R l vs → RepL R' l vs
  | [], [], _ => trivial
  | _ :: _, _ :: _, h => ⟨hR _ _ h.1, RepL.mono hR h.2⟩
  | [], _ :: _, h => h.elim
  | _ :: _, [], h => h.elim
theorem RepL.length {α : Type} {R : α → Value → Prop} : ∀ {l : List α} {vs : List Value}, RepL R l vs → vs.length = l.length
  | [], [], _ => rfl
  | _ :: _, _ :: _, h => by simp [RepL.length h.2]
  | [], _ :: _, h => h.elim
  | _ :: _, [], h => h.elim
theorem RepL.get {α : Type} {R : α → Value → Prop} : ∀ {l : List α} {vs : List Value} {i : Nat} {x : α}, RepL R l vs → l[i]? = some x → ∃ v, vs[i]? = some v ∧ R x v
  | _ :: _, _ :: _, 0, _, h, hx => ⟨_, rfl, by simp at hx; exact hx ▸ h.1⟩
  | _ :: l, _ :: vs, i + 1, _, h, hx => by simpa using RepL.get (l := l) (vs := vs) (i := i) h.2 (by simpa using hx)
  | [], [], _, _, _, hx => by simp at hx
  | [], _ :: _, _, _, h, _ => h.elim
  | _ :: _, [], _, _, h, _ => h.elim
theorem RepL.of_get {α : Type} {R : α → Value → Prop} : ∀ {l : List α} {vs : List Value}, vs.length = l.length → (∀ (i : Nat) (x : α) (v : Value), l[i]? = some x → vs[i]? = some v → R x v) → RepL R l vs
  | [], [], _, _ => trivial
  | x :: l, v :: vs, hl, h => ⟨h 0 x v rfl rfl, RepL.of_get (by simpa using hl) fun i x v h1 h2 => h (i + 1) x v (by simpa using h1) (by simpa using h2)⟩
  | [], _ :: _, hl, _ => by simp at hl
  | _ :: _, [], hl, _ => by simp at hl

inductive V1 where
  | c (x : CV)
  | ag (l : List CV)
inductive AV where
  | c (x : CV)
  | ag (l : List CV)
  | tu (l : List V1)
def V1.av : V1 → AV
  | .c x => .c x
  | .ag l => .ag l
def RepV (σ : Nat → Option Value) (O : Nat → Prop) (w : World) : V1 → Value → Prop
  | .c x, u => RepC σ O w x u
  | .ag l, u => ∃ vs : List Value, u = .agg vs.toArray ∧ RepL (RepC σ O w) l vs
def RepA (σ : Nat → Option Value) (O : Nat → Prop) (w : World) : AV → Value → Prop
  | .c x, u => RepC σ O w x u
  | .ag l, u => ∃ vs : List Value, u = .agg vs.toArray ∧ RepL (RepC σ O w) l vs
  | .tu l, u => ∃ vs : List Value, u = .tuple vs.toArray ∧ RepL (RepV σ O w) l vs
theorem RepV.av {σ : Nat → Option Value} {O : Nat → Prop} {w : World} {x : V1} {u : Value} (h : RepV σ O w x u) : RepA σ O w x.av u := by cases x <;> exact h
theorem RepV.of_av {σ : Nat → Option Value} {O : Nat → Prop} {w : World} {x : V1} {u : Value} (h : RepA σ O w x.av u) : RepV σ O w x u := by cases x <;> exact h
theorem RepV.keep {σ σ' : Nat → Option Value} {O O' : Nat → Prop} {w w' : World} (h : Keep O w w') (hO : ∀ b, O' b → O b ∨ w.heap.size ≤ b) (hs : ∀ i v, σ i = some v → σ' i = some v) {x : V1} {u : Value} (hx : RepV σ O w x u) : RepV σ' O' w' x u := by
  cases x with
  | c x => exact RepC.keep h hO hs hx
  | ag l => obtain ⟨vs, e, hl⟩ := hx; exact ⟨vs, e, hl.mono fun _ _ h1 => h1.keep h hO hs⟩
theorem RepA.keep {σ σ' : Nat → Option Value} {O O' : Nat → Prop} {w w' : World} (h : Keep O w w') (hO : ∀ b, O' b → O b ∨ w.heap.size ≤ b) (hs : ∀ i v, σ i = some v → σ' i = some v) {x : AV} {u : Value} (hx : RepA σ O w x u) : RepA σ' O' w' x u := by
  cases x with
  | c x => exact RepC.keep h hO hs hx
  | ag l => obtain ⟨vs, e, hl⟩ := hx; exact ⟨vs, e, hl.mono fun _ _ h1 => h1.keep h hO hs⟩
  | tu l => obtain ⟨vs, e, hl⟩ := hx; exact ⟨vs, e, hl.mono fun _ _ h1 => h1.keep h hO hs⟩

/-- An own block: n elements of sz cells. -/
structure AB where
  row : Bool
  n : Nat
  sz : Nat
  ty : TypeId
  F : Nat → Nat → CV
/-- v is the block's pointer, or its slice. -/
def OBase (B : AB) (v : Value) (b cap : Nat) : Prop :=
  (B.row = true ∧ v = .slice (some ⟨b, 0, none⟩) B.n cap ∧ B.n ≤ cap ∧ cap ≤ maxLen) ∨ (B.row = false ∧ v = .pointer (some ⟨b, 0, none⟩) ∧ cap = B.n)
theorem OBase.blk {B : AB} {v : Value} {b cap : Nat} (h : OBase B v b cap) : baseBlk v = some b := by
  rcases h with ⟨_, rfl, _⟩ | ⟨_, rfl, _⟩ <;> rfl
theorem OBase.le {B : AB} {v : Value} {b cap : Nat} (h : OBase B v b cap) : B.n ≤ cap := by
  rcases h with ⟨_, _, h, _⟩ | ⟨_, _, h⟩ <;> omega
def OBk (σ : Nat → Option Value) (O : Nat → Prop) (w : World) (v : Value) (B : AB) : Prop :=
  (B.row = true ∧ v = .slice none 0 0 ∧ B.n = 0) ∨
  ∃ b cap cs, OBase B v b cap ∧ w.heap[b]? = some (.cells cs B.ty (0, 0)) ∧ cs.size = cap * B.sz ∧ ∀ k, k < B.n → ∀ j, j < B.sz → ∃ u, cs[k * B.sz + j]? = some u ∧ RepC σ O w (B.F k j) u
theorem OBk.keep {σ σ' : Nat → Option Value} {O O' : Nat → Prop} {w w' : World} {v : Value} {B : AB} (hB : OBk σ O w v B) (h : Keep O w w') (hO : ∀ b, O' b → O b ∨ w.heap.size ≤ b) (hs : ∀ i v, σ i = some v → σ' i = some v)
    (hb : ∀ b, baseBlk v = some b → w'.heap[b]? = w.heap[b]?) : OBk σ' O' w' v B := by
  rcases hB with h0 | ⟨b, cap, cs, h1, h2, h3, h4⟩
  · exact .inl h0
  · exact .inr ⟨b, cap, cs, h1, (hb b h1.blk).trans h2, h3, fun k hk j hj => let ⟨u, e1, e2⟩ := h4 k hk j hj; ⟨u, e1, e2.keep h hO hs⟩⟩

/-- The blocks of the own ids. -/
def own (σ : Nat → Option Value) (h : Nat → Option AB) (b : Nat) : Prop := ∃ id v, h id ≠ none ∧ σ id = some v ∧ baseBlk v = some b

/-- The world in which the call began, and blocks (of the caller's own) that it never points to. -/
structure Base where
  w : World
  X : Nat → Prop
  Y : Nat → Prop
  fix : Nat → Option Value
  lt : ∀ b, X b → b < w.heap.size
  ylt : ∀ b, Y b → b < w.heap.size
  dis : ∀ b, X b → ¬ Y b
  one : ∀ i v, fix i = some v → 1000 ≤ i ∧ ∃ b, v = .pointer (some ⟨b, 0, none⟩)
/-- Blocks that no slice lies in. -/
def out (b0 : Base) (σ : Nat → Option Value) (h : Nat → Option AB) (b : Nat) : Prop := own σ h b ∨ b0.X b
theorem Keep.out {b0 : Base} {σ : Nat → Option Value} {h : Nat → Option AB} {w w' : World} (hK : Keep (own σ h) w w') : Keep (out b0 σ h) w w' :=
  ⟨hK.os, hK.tape, hK.output, hK.size, fun k hk ho => hK.block k hk fun h => ho (.inl h)⟩

structure HRel (b0 : Base) (σ : Nat → Option Value) (h : Nat → Option AB) (w : World) : Prop where
  blk : ∀ id B, h id = some B → ∃ v, σ id = some v ∧ OBk σ (out b0 σ h) w v B
  inj : ∀ i j v1 v2 b, h i ≠ none → h j ≠ none → σ i = some v1 → σ j = some v2 → baseBlk v1 = some b → baseBlk v2 = some b → i = j
  new : ∀ b, own σ h b → b0.w.heap.size ≤ b ∨ b0.Y b
  fx : ∀ i v, b0.fix i = some v → σ i = some v ∧ h i ≠ none
  big : ∀ i, 1000 ≤ i → b0.fix i = none → σ i = none

theorem HRel.lt {b0 : Base} {σ : Nat → Option Value} {h : Nat → Option AB} {w : World} (H : HRel b0 σ h w) {b : Nat} (hb : own σ h b) : b < w.heap.size := by
  obtain ⟨i, v, h1, h2, h3⟩ := hb
  cases hB : h i with
  | none => exact absurd hB h1
  | some B =>
    obtain ⟨v', e1, e2⟩ := H.blk i B hB
    rw [h2] at e1
    cases e1
    rcases e2 with ⟨_, rfl, _⟩ | ⟨b', cap, cs, g1, g2, _⟩
    · cases h3
    · rw [g1.blk] at h3
      cases h3
      exact (Array.getElem?_eq_some_iff.1 g2).1
theorem HRel.put {b0 : Base} {σ σ' : Nat → Option Value} {h h' : Nat → Option AB} {w w' : World} {id : Nat} {B' : AB} {v' : Value} (H : HRel b0 σ h w)
    (hs : ∀ i v, σ i = some v → σ' i = some v) (hid : h' id = some B') (hv : σ' id = some v') (hh : ∀ i, i ≠ id → h' i = none ∨ h' i = h i) (hK : Keep (own σ h) w w')
    (hfx : ∀ i v, b0.fix i = some v → h' i ≠ none) (hbig : ∀ i, 1000 ≤ i → σ' i = σ i)
    (hsame : ∀ i v b, i ≠ id → h' i ≠ none → σ i = some v → baseBlk v = some b → w'.heap[b]? = w.heap[b]?)
    (hB : OBk σ' (out b0 σ' h') w' v' B')
    (hnew : ∀ b, baseBlk v' = some b → (b0.w.heap.size ≤ b ∨ b0.Y b) ∧ (own σ h b ∨ w.heap.size ≤ b) ∧ ∀ i v, i ≠ id → h' i ≠ none → σ i = some v → baseBlk v ≠ some b) :
    HRel b0 σ' h' w' ∧ (∀ b, own σ' h' b → own σ h b ∨ w.heap.size ≤ b) ∧ ∀ b, out b0 σ' h' b → out b0 σ h b ∨ w.heap.size ≤ b := by
  have back : ∀ i v, i ≠ id → h' i ≠ none → σ' i = some v → σ i = some v ∧ h i ≠ none := fun i v hi hn hv => by
    rcases hh i hi with h0 | h0
    · exact absurd h0 hn
    · rw [h0] at hn
      cases hb : h i with
      | none => exact absurd hb hn
      | some B =>
        obtain ⟨v0, e, _⟩ := H.blk i B hb
        have := hs i v0 e
        rw [hv] at this
        cases this
        exact ⟨e, by simp⟩
  have hown : ∀ b, own σ' h' b → own σ h b ∨ w.heap.size ≤ b := fun b ⟨i, v, h1, h2, h3⟩ => by
    by_cases hi : i = id
    · subst hi
      rw [hv] at h2
      cases h2
      exact (hnew b h3).2.1
    · obtain ⟨e1, e2⟩ := back i v hi h1 h2
      exact .inl ⟨i, v, e2, e1, h3⟩
  have hout : ∀ b, out b0 σ' h' b → out b0 σ h b ∨ w.heap.size ≤ b := fun b hb => hb.elim (fun h => (hown b h).imp .inl fun h => h) fun h => .inl (.inr h)
  refine ⟨⟨fun i B hi => ?_, fun i j v1 v2 b hi hj h1 h2 e1 e2 => ?_, fun b hb => ?_, fun i v hi => ⟨hs i v (H.fx i v hi).1, hfx i v hi⟩, fun i hi hn => (hbig i hi).trans (H.big i hi hn)⟩, hown, hout⟩
  · by_cases hne : i = id
    · subst hne
      rw [hid] at hi
      cases hi
      exact ⟨v', hv, hB⟩
    · rcases hh i hne with h0 | h0
      · rw [h0] at hi; cases hi
      · have hn : h' i ≠ none := by rw [hi]; simp
        rw [h0] at hi
        obtain ⟨v, e1, e2⟩ := H.blk i B hi
        exact ⟨v, hs _ _ e1, e2.keep hK.out hout hs fun b hb => hsame i v b hne hn e1 hb⟩
  · by_cases c1 : i = id
    · by_cases c2 : j = id
      · exact c1.trans c2.symm
      · subst c1
        rw [hv] at h1
        cases h1
        exact absurd e2 ((hnew b e1).2.2 j v2 c2 hj (back j v2 c2 hj h2).1)
    · by_cases c2 : j = id
      · subst c2
        rw [hv] at h2
        cases h2
        exact absurd e1 ((hnew b e2).2.2 i v1 c1 hi (back i v1 c1 hi h1).1)
      · obtain ⟨a1, a2⟩ := back i v1 c1 hi h1
        obtain ⟨b1, b2⟩ := back j v2 c2 hj h2
        exact H.inj i j v1 v2 b a2 b2 a1 b1 e1 e2
  · obtain ⟨i, v, h1, h2, h3⟩ := hb
    by_cases hi : i = id
    · subst hi
      rw [hv] at h2
      cases h2
      exact (hnew b h3).1
    · obtain ⟨e1, e2⟩ := back i v hi h1 h2
      exact H.new b ⟨i, v, e2, e1, h3⟩
/-- New memory alone. -/
theorem HRel.keep {b0 : Base} {σ : Nat → Option Value} {h : Nat → Option AB} {w w' : World} (H : HRel b0 σ h w) (hE : Ext w w') : HRel b0 σ h w' := by
  refine ⟨fun i B hi => ?_, H.inj, H.new, H.fx, H.big⟩
  obtain ⟨v, e1, e2⟩ := H.blk i B hi
  refine ⟨v, e1, ?_⟩
  rcases e2 with h0 | ⟨b, cap, cs, h1, h2, h3, h4⟩
  · exact .inl h0
  · exact .inr ⟨b, cap, cs, h1, Ext.block hE h2, h3, fun k hk j hj => let ⟨u, a1, a2⟩ := h4 k hk j hj; ⟨u, a1, a2.keep (Keep.of_ext hE) (fun b hb => .inl hb) fun _ _ h => h⟩⟩

/-- What is known of a frame: slots, own blocks, ids not used yet. -/
structure St where
  n : Nat
  ln : Nat
  t : Nat → Option AV
  h : Nat → Option AB
  fr : Nat → Bool
def put {α : Type} (f : Nat → Option α) (i : Nat) (v : Option α) : Nat → Option α := fun k => cond (Nat.beq k i) v (f k)
theorem put_same {α : Type} (f : Nat → Option α) (i : Nat) (v : Option α) : put f i v i = v := by
  unfold put; rw [show Nat.beq i i = true from Nat.beq_refl i]; rfl
theorem put_ne {α : Type} (f : Nat → Option α) {i k : Nat} (v : Option α) (h : k ≠ i) : put f i v k = f k := by
  unfold put
  cases hb : Nat.beq k i with
  | false => rfl
  | true => exact absurd (Nat.eq_of_beq_eq_true hb) h

structure Rel0 (w0 : Base) (σ : Nat → Option Value) (S : St) (a : Act) (w : World) : Prop where
  df : a.defers = []
  sz : a.tmps.size = S.n
  ext : Keep w0.Y w0.w w
  hp : HRel w0 σ S.h w
  sl : ∀ t x, S.t t = some x → RepA σ (out w0 σ S.h) w x (a.tmps.getD t undef)
  fr : ∀ id, S.fr id = true → σ id = none ∧ id < 1000
  le : ∀ i v, w0.fix i = some v → i < 1000 + S.ln
def Rel (w0 : Base) (S : St) (a : Act) (w : World) : Prop := ∃ σ, Rel0 w0 σ S a w

/-- What an operation does: the value of its slot, own blocks that it writes, ids that it takes. -/
structure Eff where
  x : AV
  hs : List (Nat × Option AB)
  al : List Nat
def look (hs : List (Nat × Option AB)) (h : Nat → Option AB) : Nat → Option AB := hs.foldr (fun p f => put f p.1 p.2) h
def St.eff (S : St) (d : Option Tmp) (e : Eff) : St :=
  { n := S.n, ln := S.ln, t := match d with | some d => put S.t d (some e.x) | none => S.t, h := look e.hs S.h, fr := fun id => S.fr id && !(e.al.any (Nat.beq id)) }
def dOk (n : Nat) : Option Tmp → Bool
  | some d => Nat.blt d n
  | none => true

theorem getD_put {a : Act} {d t : Nat} {u : Value} (h : d < a.tmps.size) : (a.put (some d) u).tmps.getD t undef = if t = d then u else a.tmps.getD t undef := by
  simp only [Act.put, Array.getD_eq_getD_getElem?]
  by_cases e : t = d
  · subst e; simp [h]
  · rw [if_neg e, Array.getElem?_setIfInBounds_ne (Ne.symm e)]
theorem size_put {a : Act} {d : Option Tmp} {u : Value} : (a.put d u).tmps.size = a.tmps.size := by cases d <;> simp [Act.put]
theorem defers_put {a : Act} {d : Option Tmp} {u : Value} : (a.put d u).defers = a.defers := by cases d <;> rfl

/-- The state behind an operation. -/
theorem Rel0.step {w0 : Base} {σ σ' : Nat → Option Value} {S : St} {a : Act} {w w' : World} {d : Option Tmp} {e : Eff} {u : Value} (R : Rel0 w0 σ S a w) (hd : dOk S.n d = true)
    (hs : ∀ i v, σ i = some v → σ' i = some v) (hK : Keep (own σ S.h) w w') (hH : HRel w0 σ' (look e.hs S.h) w') (hO : ∀ b, out w0 σ' (look e.hs S.h) b → out w0 σ S.h b ∨ w.heap.size ≤ b)
    (hx : d ≠ none → RepA σ' (out w0 σ' (look e.hs S.h)) w' e.x u) (hf : ∀ id, σ' id ≠ none → σ id ≠ none ∨ id ∈ e.al) : Rel0 w0 σ' (S.eff d e) (a.put d u) w' := by
  refine ⟨defers_put.trans R.df, size_put.trans R.sz, R.ext.trans hK (R.hp.new), hH, fun t x ht => ?_, fun id hid => ?_, R.le⟩
  · cases d with
    | none => exact (R.sl t x ht).keep hK.out hO hs
    | some d =>
      have hlt : d < a.tmps.size := by rw [R.sz]; exact Nat.blt_eq.mp hd
      rw [getD_put hlt]
      simp only [St.eff] at ht
      by_cases e : t = d
      · subst e
        rw [put_same] at ht
        cases ht
        rw [if_pos rfl]
        exact hx (by simp)
      · rw [put_ne _ _ e] at ht
        rw [if_neg e]
        exact (R.sl t x ht).keep hK.out hO hs
  · simp only [St.eff, Bool.and_eq_true, Bool.not_eq_true'] at hid
    refine ⟨?_, (R.fr id hid.1).2⟩
    cases hc : σ' id with
    | none => rfl
    | some v =>
      rcases hf id (by simp [hc]) with h1 | h1
      · exact absurd (R.fr id hid.1).1 h1
      · have h2 : e.al.any (Nat.beq id) = true := List.any_eq_true.2 ⟨id, h1, Nat.beq_refl id⟩
        rw [h2] at hid
        cases hid.2
/-- An operation that yields a value, and leaves the world or makes new memory. -/
theorem Rel0.val {w0 : Base} {σ : Nat → Option Value} {S : St} {a : Act} {w w' : World} {d : Option Tmp} {x : AV} {u : Value} (R : Rel0 w0 σ S a w) (hd : dOk S.n d = true) (hE : Ext w w')
    (hx : d ≠ none → RepA σ (out w0 σ S.h) w' x u) : Rel0 w0 σ (S.eff d ⟨x, [], []⟩) (a.put d u) w' := by
  have h1 := R.hp.keep hE
  exact R.step (e := ⟨x, [], []⟩) hd (fun _ _ h => h) (Keep.of_ext hE) h1 (fun b hb => .inl hb) hx (fun id h => .inl h)
theorem Rel0.drew {w0 : Base} {σ : Nat → Option Value} {S : St} {a : Act} {w w' : World} (R : Rel0 w0 σ S a w) (hE : Ext w w') : Rel0 w0 σ S a w' := by
  have h1 := R.hp.keep hE
  exact ⟨R.df, R.sz, R.ext.trans (Keep.of_ext (O := own σ S.h) hE) R.hp.new, h1, fun t x ht => (R.sl t x ht).keep (Keep.of_ext hE) (fun b hb => .inl hb) fun _ _ h => h, R.fr, R.le⟩
end Go.AV
end
