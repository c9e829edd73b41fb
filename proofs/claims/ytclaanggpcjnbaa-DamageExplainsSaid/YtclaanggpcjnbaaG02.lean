/- Parts of the proof: Base, App, App2. -/
import Derived.Test.YtclaanggpcjnbaaG01
import Derived.Maps.AppendAt
import Derived.OwnWalk
import Derived.Deep.AppendLies
set_option linter.unusedSimpArgs false
set_option linter.unusedVariables false
section
/- Words for memory: a block that is known whole, slices that read as functions, and how they stand under new memory. No condition. -/
namespace Go.Flow
open Go Go.RowKit

/-- Block g is the cells cs, of elements of type t; none is frozen. -/
def Blk (w : World) (g : Nat) (t : TypeId) (cs : Array Value) : Prop := w.heap[g]? = some (.cells cs t (0, 0))

section
variable {w w' W : World} {g : Nat} {t : TypeId} {cs : Array Value}
theorem Blk.lt (h : Blk w g t cs) : g < w.heap.size := (Array.getElem?_eq_some_iff.1 (show w.heap[g]? = some _ from h)).1
theorem Blk.cell (h : Blk w g t cs) (i : Nat) : w.cell? ⟨g, i, none⟩ = cs[i]? := cell_of_row w g i cs t (0, 0) h
theorem Blk.frozen (h : Blk w g t cs) (i : Nat) : w.frozen? ⟨g, i, none⟩ = false := by
  unfold Blk at h
  simp [World.frozen?, h]
theorem Blk.ext (h : Blk w g t cs) (hE : Ext w w') : Blk w' g t cs := Ext.block hE h
theorem Blk.new (w : World) (t : TypeId) (cs : Array Value) : Blk (w.alloc (.cells cs t)) w.heap.size t cs := heap_alloc_new w _
theorem Blk.new' {g : Nat} (hg : g = w.heap.size) (t : TypeId) (cs : Array Value) : Blk (w.alloc (.cells cs t)) g t cs := hg ▸ Blk.new w t cs
theorem Blk.drew (h : Blk w g t cs) : Blk w.drew g t cs := h
theorem Blk.drewN (h : Blk w g t cs) (n : Nat) : Blk (w.drewN n) g t cs := h
theorem Blk.alloc (h : Blk w g t cs) (o : Obj) : Blk (w.alloc o) g t cs := (Below.heap_alloc w o g h.lt).trans h
theorem Blk.set_ (h : Blk w g t cs) (i : Nat) (u : Value) : Blk (w.setCell ⟨g, i, none⟩ u) g t (cs.setIfInBounds i u) := by
  unfold Blk at h ⊢
  simp [World.setCell, Array.getElem?_modify, h]
theorem Blk.far (h : Blk w g t cs) {p : Addr} (hp : g ≠ p.block) (u : Value) : Blk (w.setCell p u) g t cs := (Below.heap_setCell w p u g hp).trans h

/-- Four cells of one block are written. -/
theorem Blk.set4 {a b c d a' b' c' d' : Value} (h : Blk w g t #[a, b, c, d]) : Blk ((((w.setCell ⟨g, 0, none⟩ a').setCell ⟨g, 1, none⟩ b').setCell ⟨g, 2, none⟩ c').setCell ⟨g, 3, none⟩ d') g t #[a', b', c', d'] := by
  have := (((h.set_ 0 a').set_ 1 b').set_ 2 c').set_ 3 d'
  simpa using this
theorem Blk.far4 {k : Nat} {a' b' c' d' : Value} (h : Blk w g t cs) (hne : g ≠ k) : Blk ((((w.setCell ⟨k, 0, none⟩ a').setCell ⟨k, 1, none⟩ b').setCell ⟨k, 2, none⟩ c').setCell ⟨k, 3, none⟩ d') g t cs :=
  (((h.far hne a').far hne b').far hne c').far hne d'
theorem Ext.set4 {k : Nat} {a' b' c' d' : Value} (h : Ext W w) (hk : W.heap.size ≤ k) : Ext W ((((w.setCell ⟨k, 0, none⟩ a').setCell ⟨k, 1, none⟩ b').setCell ⟨k, 2, none⟩ c').setCell ⟨k, 3, none⟩ d') :=
  (((h.setCell hk a').setCell hk b').setCell hk c').setCell hk d'

/-- Rules for the walk: what is known of an elder world is known of the world at hand. -/
theorem Blk.rules (h : Blk w g t cs) : (∀ i, w.cell? ⟨g, i, none⟩ = cs[i]?) ∧ (∀ i, w.frozen? ⟨g, i, none⟩ = false) ∧ g < w.heap.size := ⟨h.cell, h.frozen, h.lt⟩
end
theorem Ext.rules {W w : World} (h : Ext W w) : (∀ p : Addr, p.block < W.heap.size → w.cell? p = W.cell? p) ∧ (∀ p : Addr, p.block < W.heap.size → w.frozen? p = W.frozen? p) :=
  ⟨fun _ hp => Below.cell h hp, fun _ hp => Below.frozen h hp⟩
theorem block_add (a : Addr) (n : Nat) : (a.add n).block = a.block := by unfold Addr.add; split <;> rfl

theorem lt_of_cell {w : World} {a : Addr} {k : Nat} {v : Value} (h : w.cell? (a.add k) = some v) : a.block < w.heap.size := by
  have := World.block_lt_of_cell? w _ h; rwa [block_add] at this

/-- A slice's array, as a function of the index: n elements of one cell, that hold F. -/
def Arr (w : World) (A : Option Addr) (n : Nat) (F : Nat → Value) : Prop := ∀ k, k < n → ∃ ad, A = some ad ∧ w.cell? (ad.add k) = some (F k)
abbrev Ints (w : World) (A : Option Addr) (n : Nat) (f : Nat → Int) : Prop := Arr w A n fun k => .int .i64 (f k)
abbrev Bools (w : World) (A : Option Addr) (n : Nat) (f : Nat → Bool) : Prop := Arr w A n fun k => .bool (f k)
theorem Arr.ext {w w' : World} {A : Option Addr} {n : Nat} {F : Nat → Value} (h : Arr w A n F) (hE : Ext w w') : Arr w' A n F := fun k hk =>
  let ⟨ad, e, hc⟩ := h k hk
  ⟨ad, e, hE.cell hc⟩
theorem Arr.drewN {w : World} {A : Option Addr} {n : Nat} {F : Nat → Value} (h : Arr w A n F) (m : Nat) : Arr (w.drewN m) A n F := h
theorem Arr.congr {w : World} {A : Option Addr} {n : Nat} {F G : Nat → Value} (h : Arr w A n F) (hg : ∀ k, k < n → F k = G k) : Arr w A n G := fun k hk =>
  let ⟨ad, e, hc⟩ := h k hk
  ⟨ad, e, hg k hk ▸ hc⟩
theorem Arr.zero (w : World) (A : Option Addr) (F : Nat → Value) : Arr w A 0 F := fun k hk => absurd hk (by omega)
theorem Arr.take {w : World} {A : Option Addr} {n m : Nat} {F : Nat → Value} (h : Arr w A n F) (hm : m ≤ n) : Arr w A m F := fun k hk => h k (by omega)

/-- Block g is n cells of elements of type t that hold F. -/
def Own (w : World) (g : Nat) (t : TypeId) (n : Nat) (F : Nat → Value) : Prop := ∃ cs, Blk w g t cs ∧ cs.size = n ∧ ∀ k, k < n → cs[k]? = some (F k)
def upd (F : Nat → Value) (i : Nat) (v : Value) : Nat → Value := fun k => if k = i then v else F k
section
variable {w w' : World} {g : Nat} {t : TypeId} {n : Nat} {F G : Nat → Value}
theorem Own.lt (h : Own w g t n F) : g < w.heap.size := let ⟨_, hb, _⟩ := h; hb.lt
theorem Own.ext (h : Own w g t n F) (hE : Ext w w') : Own w' g t n F := let ⟨cs, hb, hr⟩ := h; ⟨cs, hb.ext hE, hr⟩
theorem Own.cell (h : Own w g t n F) {k : Nat} (hk : k < n) : w.cell? ⟨g, k, none⟩ = some (F k) := let ⟨_, hb, _, hc⟩ := h; (hb.cell k).trans (hc k hk)
theorem Own.frozen (h : Own w g t n F) (k : Nat) : w.frozen? ⟨g, k, none⟩ = false := let ⟨_, hb, _⟩ := h; hb.frozen k
theorem Own.congr (h : Own w g t n F) (hg : ∀ k, k < n → F k = G k) : Own w g t n G := let ⟨cs, hb, hs, hc⟩ := h; ⟨cs, hb, hs, fun k hk => by rw [hc k hk, hg k hk]⟩
theorem Own.drewN (h : Own w g t n F) (m : Nat) : Own (w.drewN m) g t n F := h
theorem Own.set_ (h : Own w g t n F) (i : Nat) (v : Value) : Own (w.setCell ⟨g, i, none⟩ v) g t n (upd F i v) := by
  obtain ⟨cs, hb, hs, hc⟩ := h
  refine ⟨_, hb.set_ i v, by simpa using hs, fun k hk => ?_⟩
  unfold upd
  by_cases e : k = i
  · subst e; simp [hs, hk]
  · rw [if_neg e, Array.getElem?_setIfInBounds_ne (Ne.symm e)]; exact hc k hk
theorem Own.far (h : Own w g t n F) {p : Addr} (hp : g ≠ p.block) (u : Value) : Own (w.setCell p u) g t n F := let ⟨cs, hb, hr⟩ := h; ⟨cs, hb.far hp u, hr⟩
theorem Own.arr (h : Own w g t n F) : Arr w (some ⟨g, 0, none⟩) n F := fun k hk => ⟨_, rfl, by
  rw [show (⟨g, 0, none⟩ : Addr).add k = ⟨g, k, none⟩ by unfold Addr.add; split <;> simp_all]; exact h.cell hk⟩
end

/-- Only block g of what was there may have changed. -/
abbrev Only (w w' : World) (g : Nat) : Prop := w.grownBy w' (some g)
theorem Only.refl (w : World) (g : Nat) : Only w w g := ⟨rfl, rfl, rfl, Nat.le_refl _, fun _ _ _ => rfl⟩
theorem Only.of_ext {w w' : World} (h : Ext w w') (g : Nat) : Only w w' g := ⟨h.os, h.tape, h.output, h.size, fun i hi _ => Below.block h i hi⟩
theorem Only.trans {a b c : World} {g : Nat} (h : Only a b g) (k : Only b c g) : Only a c g :=
  ⟨k.os.trans h.os, k.tape.trans h.tape, k.output.trans h.output, Nat.le_trans h.size k.size, fun i hi hne => (k.block i (Nat.lt_of_lt_of_le hi h.size) hne).trans (h.block i hi hne)⟩
theorem Only.set_ (w : World) (g i : Nat) (v : Value) : Only w (w.setCell ⟨g, i, none⟩ v) g :=
  ⟨rfl, rfl, rfl, by simp [World.setCell], fun k _ hne => Below.heap_setCell w ⟨g, i, none⟩ v k (fun e => hne (by rw [e]))⟩
theorem Only.ext {a w w' : World} {g : Nat} (h : Only w w' g) (hE : Ext a w) (hg : a.heap.size ≤ g) : Ext a w' :=
  hE.grown h (fun k hk => by injection hk with hk; omega)
theorem Only.own {w w' : World} {g k : Nat} {t : TypeId} {n : Nat} {F : Nat → Value} (h : Only w w' g) (hb : Own w k t n F) (hne : k ≠ g) : Own w' k t n F :=
  let ⟨cs, hb, hr⟩ := hb; ⟨cs, (h.block k hb.lt (fun e => hne (by injection e))).trans hb, hr⟩
theorem Only.blk {w w' : World} {g k : Nat} {t : TypeId} {cs : Array Value} (h : Only w w' g) (hb : Blk w k t cs) (hne : k ≠ g) : Blk w' k t cs :=
  (h.block k hb.lt (fun e => hne (by injection e))).trans hb

/-- 'make([]T, n)', T of one cell: n zero elements in a new block. -/
theorem wpList_make {P : Program} {w : World} {ops : Array Oper} {rest : List Oper} {o : Oper} {a : Act} {Q : Exit → Act → World → Prop}
    (hg : o.guard = none) (l c : Operand) (t : TypeId) (hop : o.op = Op.makeSlice t l c)
    (e : TypeId) (i : TypeInfo) (z : Value) (h1 : P.underlying t = some (.slice e)) (h2 : P.info? e = some i) (h3 : i.zero = some z) (h4 : i.size = 1) (hz : z.cells = #[z])
    (kl kc : IntKind) (L C : Int) (n : Nat) (hl : a.eval l = .int kl L) (hc : a.eval c = .int kc C) (hL : L = (n : Int)) (hC : C = (n : Int)) (b2 : i.bytes * n ≤ 281474976710656) (b3 : n ≤ 4611686018427387904)
    (hK : ∀ w', Own w' w.heap.size e n (fun _ => z) → Ext w w' → wpList P ops Q rest (a.put o.dst (.slice (some ⟨w.heap.size, 0, none⟩) n n)) w') :
    wpList P ops Q (o :: rest) a w := by
  refine wpList_plain hg fun K hK' => ?_
  have hb' : (i.bytes : Int) * (n : Int) ≤ 281474976710656 := by
    have h : ((i.bytes * n : Nat) : Int) ≤ 281474976710656 := by omega
    rwa [Int.natCast_mul] at h
  have hrun := run_make (P := P) w t e i z h1 h2 h3 kl kc n n (by omega) (by omega) hb' (by omega)
  simp only [Int.toNat_natCast, h4, Nat.mul_one] at hrun
  subst hL
  subst hC
  unfold Oper.wp
  simp [execOp, hop, hl, hc, hrun, Result.andThen]
  refine hK' _ _ (hK _ ⟨_, Blk.new _ _ _, size_madeCells _ _, fun k hk => ?_⟩ ((Ext.refl w).alloc _))
  simp [madeCells, hz, hk, Nat.mod_one]

/-- 'make([]T, n)' among the operations of a region that draws. -/
theorem WalkL.openmake {P : Program} {ops : Array Oper} {Qn : Act → World → Prop} {s : List (Oper × Bool)} {a : Act} {w : World} {dst : Option Tmp} {l c : Operand} {t : TypeId} {ty : TypeId} {pos : String} {after : Array Edge} {guard : Option (Nat × Bool)}
    (e : TypeId) (i : TypeInfo) (z : Value) (h1 : P.underlying t = some (.slice e)) (h2 : P.info? e = some i) (h3 : i.zero = some z) (h4 : i.size = 1) (hz : z.cells = #[z])
    (kl kc : IntKind) (L C : Int) (n : Nat) (hl : a.eval l = .int kl L) (hc : a.eval c = .int kc C) (hL : L = (n : Int)) (hC : C = (n : Int)) (b2 : i.bytes * n ≤ 281474976710656) (b3 : n ≤ 4611686018427387904)
    (hg : Region.wanted { dst, op := .makeSlice t l c, type := ty, pos, after, guard } (yielded ops a.tmps) = true)
    (hK : ∀ w1 w', Ext w w1 → Own w' w1.heap.size e n (fun _ => z) → Ext w1 w' → WalkL P ops Qn s (a.put dst (.slice (some ⟨w1.heap.size, 0, none⟩) n n)) w') :
    WalkL P ops Qn (({ dst, op := .makeSlice t l c, type := ty, pos, after, guard }, false) :: s) a w := by
  intro w1 hE
  refine .inl ⟨hg, ?_⟩
  have hb' : (i.bytes : Int) * (n : Int) ≤ 281474976710656 := by
    have h : ((i.bytes * n : Nat) : Int) ≤ 281474976710656 := by omega
    rwa [Int.natCast_mul] at h
  have hrun := run_make (P := P) w1 t e i z h1 h2 h3 kl kc n n (by omega) (by omega) hb' (by omega)
  simp only [Int.toNat_natCast, h4, Nat.mul_one] at hrun
  subst hL
  subst hC
  simp only [execOp, hl, hc, Sem.run_bind, Sem.run_pure, hrun, Result.andThen_ok]
  have hE' : Ext w1 (w1.alloc (.cells (madeCells z.cells n) e)) := (Ext.refl w1).alloc _
  refine ⟨hE', hK w1 _ hE ⟨_, Blk.new _ _ _, size_madeCells _ _, fun k hk => ?_⟩ hE'⟩
  simp [madeCells, hz, hk, Nat.mod_one]
end Go.Flow
end

section
/- Rows that the call itself appends to. No condition. -/
namespace Go.Flow
open Go Go.RowKit
section
variable {P : Program} {w w' : World} {base : Nat} {e : TypeId} {size : Nat} {v : Value} {n : Nat} {xs : List Value}
theorem grown_none {w w' : World} (h : Ext w w') (row : Option Nat) : w.grownBy w' row := ⟨h.os, h.tape, h.output, h.size, fun i hi _ => Below.block h i hi⟩
theorem own_ext (h : w.ownsRow base e size v n xs) (hE : Ext w w') : w'.ownsRow base e size v n xs := h.kept (grown_none hE none) (by cases hv : v.ownBlock <;> simp)
theorem own_only {g : Nat} (h : w.ownsRow base e size v n xs) (hO : Only w w' g) (hg : g < base) : w'.ownsRow base e size v n xs := by
  refine h.kept hO ?_
  cases hv : v.ownBlock with
  | none => exact .inl rfl
  | some k => right; intro h1; injection h1 with h1; have := (h.lt k hv).1; omega
theorem own_set_ {p : Addr} (h : w.ownsRow base e size v n xs) (hp : p.block < base) (u : Value) : (w.setCell p u).ownsRow base e size v n xs := ownsRow_setCell_below h hp u
/-- What is owned reads as a function. -/
theorem own_arr (h : w.ownsRow base e 1 v n xs) {F : Nat → Value} (hF : ∀ k, k < n → xs[k]? = some (F k)) : ∃ A c, v = .slice A n c ∧ Arr w A n F := by
  rcases h.2 with ⟨rfl, rfl⟩ | ⟨g, cap, cur, rfl, _, hg, hnc, _, _, htake⟩
  · exact ⟨none, 0, rfl, Arr.zero _ _ _⟩
  · exact ⟨_, cap, rfl, fun k hk => ⟨_, rfl, h.cells (g := g) rfl k _ (hF k hk)⟩⟩
/-- 'append(s, x)', x one cell: behind buildSlice. -/
theorem wpList_app1 {ops : Array Oper} {rest : List Oper} {o : Oper} {a : Act} {Q : Exit → Act → World → Prop} (hgd : o.guard = none) (s x : Operand) (t : TypeId)
    (ho : o.op = .call { callee := .builtin .append, args := #[s, x], argTypes := #[t, t] })
    (i : TypeInfo) (z : Value) (bytes : Nat) (ht : P.underlying t = some (.slice e)) (hi : P.info? e = some i) (hz : i.zero = some z)
    (hsize : i.size = 1) (hby : i.bytes = bytes) (hzs : z.cells.size = 1)
    (hs : a.eval s = v) (hown : w.ownsRow base e 1 v n xs) (g : Nat) (u : Value) (cs : Array Value) (t' : TypeId) (hx : a.eval x = .slice (some ⟨g, 0, none⟩) 1 1) (hB : Blk w g t' cs) (hc : cs[0]? = some u)
    (h1 : u.oneCell' = true) (h63 : n + 1 ≤ 4611686018427387904) (hbytes : (n + 1) * bytes ≤ 140737488355328) (hbase : base ≤ w.heap.size)
    (h : ∀ v' w', w'.ownsRow base e 1 v' (n + 1) (xs ++ [u]) → w.grownBy w' v.ownBlock → (∀ W, W.heap.size ≤ base → Ext W w → Ext W w') → wpList P ops Q rest (a.put o.dst v') w') : wpList P ops Q (o :: rest) a w := by
  refine wpList_append_own w hgd s x t ho base e i z 1 bytes ht hi hz hsize hby hzs (by omega) v n xs hs hown ⟨g, 0, none⟩ 1 1 [u] hx rfl (fun j y hj => ?_) (by simpa using h1) (by simp only [maxLen]; omega) hbytes hbase
    fun v' w' h2 h3 _ => h v' w' h2 h3 fun W hW hE => hE.grown h3 fun k hk => by have := (hown.lt k hk).1; omega
  cases j with
  | zero =>
    obtain rfl : u = y := by simpa using hj
    show w.cell? ⟨g, 0, none⟩ = _
    rw [hB.cell 0]
    exact hc
  | succ j => simp at hj
end
end Go.Flow
end

section
/- append of elements of several cells, and of whole slices. No condition. -/
namespace Go.Flow
open Go Go.RowKit
section
variable {P : Program} {w w' : World} {base : Nat} {e : TypeId} {size : Nat} {v : Value} {n : Nat} {xs : List Value}

/-- A slice's array, as a list of cells. -/
def Lst (w : World) (A : Option Addr) (ys : List Value) : Prop := ∀ (j : Nat) (u : Value), ys[j]? = some u → ∃ ad, A = some ad ∧ w.cell? (ad.add j) = some u
theorem Lst.ext {A : Option Addr} {ys : List Value} (h : Lst w A ys) (hE : Ext w w') : Lst w' A ys := fun j u hj =>
  let ⟨ad, e, hc⟩ := h j u hj
  ⟨ad, e, hE.cell hc⟩
theorem Lst.of_blk {g : Nat} {t : TypeId} {cs : Array Value} (h : Blk w g t cs) : Lst w (some ⟨g, 0, none⟩) cs.toList := fun j u hj => ⟨_, rfl, by
  rw [show (⟨g, 0, none⟩ : Addr).add j = ⟨g, j, none⟩ by unfold Addr.add; split <;> simp_all, h.cell, ← Array.getElem?_toList]
  exact hj⟩
theorem Lst.of_arr {A : Option Addr} {F : Nat → Value} (h : Arr w A n F) : Lst w A ((List.range n).map F) := fun j u hj => by
  rcases Nat.lt_or_ge j n with hlt | hge
  · obtain ⟨ad, e, hc⟩ := h j hlt
    refine ⟨ad, e, hc.trans ?_⟩
    simpa [List.getElem?_map, List.getElem?_range hlt] using hj
  · simp [hge] at hj

theorem run_append_nil_ (t ty : TypeId) (i : TypeInfo) (ht : P.underlying t = some (.slice e)) (hi : P.info? e = some i)
    (hown : w.ownsRow base e size v n xs) (c : Nat) : (Builtin.append_ #[t, t] ty #[v, .slice none 0 c]).run P w = .ok v w := by
  rcases hown.2 with ⟨rfl, rfl⟩ | ⟨g, cap, cur, rfl, _, _, hnc, _⟩
  · simp [Builtin.append_, run_underlying ht, sizeOf, typeInfo, hi, Builtin.lenOf, Builtin.firstCells]
  · simp [Builtin.append_, run_underlying ht, sizeOf, typeInfo, hi, Builtin.lenOf, Builtin.firstCells, hnc, storeCells]

/-- 'append(s, x...)': what it runs to, the source nil, empty or not. -/
theorem run_app (t ty : TypeId) (i : TypeInfo) (z : Value) (bytes : Nat) (ht : P.underlying t = some (.slice e)) (hi : P.info? e = some i) (hz : i.zero = some z)
    (hsize : i.size = size) (hby : i.bytes = bytes) (hzs : z.cells.size = size) (hsz : 0 < size) (hown : w.ownsRow base e size v n xs)
    (A : Option Addr) (m c : Nat) (ys : List Value) (hl : ys.length = m * size) (hr : Lst w A ys) (h1 : ∀ u ∈ ys, u.oneCell' = true)
    (h63 : n + m ≤ 4611686018427387904) (hbytes : (n + m) * bytes ≤ 140737488355328) (hbase : base ≤ w.heap.size) :
    ∃ v' w', (Builtin.append_ #[t, t] ty #[v, .slice A m c]).run P w = .ok v' w' ∧ w'.ownsRow base e size v' (n + m) (xs ++ ys) ∧ w.grownBy w' v.ownBlock ∧ (∀ W, W.heap.size ≤ base → Ext W w → Ext W w') := by
  have hgo : ∀ w', w.grownBy w' v.ownBlock → ∀ W : World, W.heap.size ≤ base → Ext W w → Ext W w' := fun w' hg W hW hE => hE.grown hg fun k hk => by have := (hown.lt k hk).1; omega
  rcases A with _ | ad
  · have hm : ys = [] := by
      rcases ys with _ | ⟨u, ys⟩
      · rfl
      · obtain ⟨ad, h, _⟩ := hr 0 u rfl
        cases h
    subst hm
    have hm0 : m = 0 := by
      rcases Nat.eq_zero_or_pos m with h0 | h0
      · exact h0
      · have := Nat.mul_pos h0 hsz
        simp at hl; omega
    subst hm0
    exact ⟨v, w, run_append_nil_ t ty i ht hi hown c, by simpa using hown, World.grownBy.refl w _, hgo w (World.grownBy.refl w _)⟩
  · obtain ⟨v', w', hrun, h2, h3, _⟩ := run_append_own (P := P) w base t ty e i z size bytes ht hi hz hsize hby hzs hsz v n xs hown ad m c ys hl
      (fun j u hj => by obtain ⟨ad', he, hc⟩ := hr j u hj; cases he; exact hc) h1 (by simp only [maxLen]; omega) hbytes hbase
    exact ⟨v', w', hrun, h2, h3, hgo w' h3⟩

theorem wpList_app {ops : Array Oper} {rest : List Oper} {o : Oper} {a : Act} {Q : Exit → Act → World → Prop} (hgd : o.guard = none) (s x : Operand) (t : TypeId)
    (ho : o.op = .call { callee := .builtin .append, args := #[s, x], argTypes := #[t, t] })
    (i : TypeInfo) (z : Value) (bytes : Nat) (ht : P.underlying t = some (.slice e)) (hi : P.info? e = some i) (hz : i.zero = some z)
    (hsize : i.size = size) (hby : i.bytes = bytes) (hzs : z.cells.size = size) (hsz : 0 < size)
    (hs : a.eval s = v) (hown : w.ownsRow base e size v n xs)
    (A : Option Addr) (m c : Nat) (hx : a.eval x = .slice A m c) (ys : List Value) (hl : ys.length = m * size) (hr : Lst w A ys) (h1 : ∀ u ∈ ys, u.oneCell' = true)
    (h63 : n + m ≤ 4611686018427387904) (hbytes : (n + m) * bytes ≤ 140737488355328) (hbase : base ≤ w.heap.size)
    (h : ∀ v' w', w'.ownsRow base e size v' (n + m) (xs ++ ys) → w.grownBy w' v.ownBlock → (∀ W, W.heap.size ≤ base → Ext W w → Ext W w') → wpList P ops Q rest (a.put o.dst v') w') : wpList P ops Q (o :: rest) a w := by
  obtain ⟨v', w', hrun, h2, h3, h4⟩ := run_app (P := P) (w := w) t o.type i z bytes ht hi hz hsize hby hzs hsz hown A m c ys hl hr h1 h63 hbytes hbase
  refine wpList_plain hgd fun K hK => ?_
  unfold Oper.wp execOp
  simp only [ho, resolve, invoke, builtin, Sem.run_bind, Sem.run_pure, Result.andThen_ok, List.map_toArray, List.map_cons, List.map_nil, hs, hx, hrun]
  exact hK _ _ (h v' w' h2 h3 h4)

/-- 'append' among the operations of a region that draws. -/
theorem WalkL.openapp {ops : Array Oper} {Qn : Act → World → Prop} {sq : List (Oper × Bool)} {a : Act} {dst : Option Tmp} {s x : Operand} {t ty : TypeId} {pos : String} {after : Array Edge} {guard : Option (Nat × Bool)}
    (i : TypeInfo) (z : Value) (bytes : Nat) (ht : P.underlying t = some (.slice e)) (hi : P.info? e = some i) (hz : i.zero = some z)
    (hsize : i.size = size) (hby : i.bytes = bytes) (hzs : z.cells.size = size) (hsz : 0 < size)
    (hs : a.eval s = v) (A : Option Addr) (m c : Nat) (hx : a.eval x = .slice A m c) (ys : List Value) (hl : ys.length = m * size) (h1 : ∀ u ∈ ys, u.oneCell' = true)
    (h63 : n + m ≤ 4611686018427387904) (hbytes : (n + m) * bytes ≤ 140737488355328)
    (hg : Region.wanted { dst, op := .call { callee := .builtin .append, args := #[s, x], argTypes := #[t, t] }, type := ty, pos, after, guard } (yielded ops a.tmps) = true)
    (hown : ∀ w1, Ext w w1 → w1.ownsRow w1.heap.size e size v n xs ∧ Lst w1 A ys)
    (hK : ∀ w1 w' v', Ext w w1 → w'.ownsRow w1.heap.size e size v' (n + m) (xs ++ ys) → Ext w1 w' → WalkL P ops Qn sq (a.put dst v') w') :
    WalkL P ops Qn (({ dst, op := .call { callee := .builtin .append, args := #[s, x], argTypes := #[t, t] }, type := ty, pos, after, guard }, false) :: sq) a w := by
  intro w1 hE
  refine .inl ⟨hg, ?_⟩
  obtain ⟨ho, hr⟩ := hown w1 hE
  obtain ⟨v', w', hrun, h2, h3, h4⟩ := run_app (P := P) (w := w1) t ty i z bytes ht hi hz hsize hby hzs hsz ho A m c ys hl hr h1 h63 hbytes (Nat.le_refl _)
  have hE' := h4 w1 (Nat.le_refl _) (Ext.refl w1)
  simp only [execOp, resolve, invoke, builtin, Sem.run_bind, Sem.run_pure, Result.andThen_ok, List.map_toArray, List.map_cons, List.map_nil, hs, hx, hrun]
  exact ⟨hE', hK w1 w' v' hE h2 hE'⟩
end
end Go.Flow
end
