/- Parts of the proof: AMem4. -/
import Derived.Test.YtcdnpnbjloaihaaG05
set_option linter.unusedSimpArgs false
set_option linter.unusedVariables false
section
/- append over plain states. No condition. -/
namespace Go.AV
open Go Go.RowKit Go.Flow
section
variable {P : Program} {tab : List (TypeId × TD)}
/-- What append comes to: a nil slice, the old block, or a new one. -/
theorem app_run {w : World} (t ty e : TypeId) (i : TypeInfo) (z : Value) (size bytes : Nat) (ht : P.underlying t = some (.slice e)) (hi : P.info? e = some i) (hz : i.zero = some z)
    (hsize : i.size = size) (hby : i.bytes = bytes) (hzs : z.cells.size = size) (hsz : 0 < size) (v : Value) (n : Nat) (xs : List Value) (hxs : xs.length = n * size)
    (hv : (v = .slice none 0 0 ∧ n = 0) ∨ ∃ g cap cur, v = .slice (some ⟨g, 0, none⟩) n cap ∧ w.heap[g]? = some (.cells cur e (0, 0)) ∧ n ≤ cap ∧ cap ≤ maxLen ∧ cur.size = cap * size ∧ cur.toList.take (n * size) = xs)
    (A : Option Addr) (m c : Nat) (ys : List Value) (hl : ys.length = m * size) (hr : Lst w A ys) (h1 : ∀ u ∈ ys, u.oneCell' = true) (h63 : n + m ≤ maxLen) (hbytes : (n + m) * bytes ≤ 140737488355328) :
    ∃ v' w', (Builtin.append_ #[t, t] ty #[v, .slice A m c]).run P w = .ok v' w' ∧ w.grownBy w' v.ownBlock ∧
      ((v' = .slice none 0 0 ∧ n + m = 0) ∨ ∃ b' cap' cs', v' = .slice (some ⟨b', 0, none⟩) (n + m) cap' ∧ n + m ≤ cap' ∧ cap' ≤ maxLen ∧ w'.heap[b']? = some (.cells cs' e (0, 0)) ∧ cs'.size = cap' * size ∧ cs'.toList.take ((n + m) * size) = xs ++ ys ∧ (v.ownBlock = some b' ∨ b' = w.heap.size)) := by
  subst hsize hby
  have hlen : (xs ++ ys).length = (n + m) * i.size := by rw [List.length_append, hxs, hl, Nat.add_mul]
  have hown : w.ownsRow 0 e i.size v n xs := ⟨hxs, hv.imp (fun h => h) fun ⟨g, cap, cur, a1, a2, a3, a4, a5, a6⟩ => ⟨g, cap, cur, a1, Nat.zero_le _, a2, a3, a4, a5, a6⟩⟩
  have same : m = 0 → (Builtin.append_ #[t, t] ty #[v, .slice A m c]).run P w = .ok v w → ∃ v' w', (Builtin.append_ #[t, t] ty #[v, .slice A m c]).run P w = .ok v' w' ∧ w.grownBy w' v.ownBlock ∧
      ((v' = .slice none 0 0 ∧ n + m = 0) ∨ ∃ b' cap' cs', v' = .slice (some ⟨b', 0, none⟩) (n + m) cap' ∧ n + m ≤ cap' ∧ cap' ≤ maxLen ∧ w'.heap[b']? = some (.cells cs' e (0, 0)) ∧ cs'.size = cap' * i.size ∧ cs'.toList.take ((n + m) * i.size) = xs ++ ys ∧ (v.ownBlock = some b' ∨ b' = w.heap.size)) := fun hm hrun => by
    subst hm
    have hy : ys = [] := List.eq_nil_of_length_eq_zero (by simpa using hl)
    subst hy
    refine ⟨v, w, hrun, World.grownBy.refl w _, ?_⟩
    rcases hv with ⟨rfl, rfl⟩ | ⟨g, cap, cur, rfl, a2, a3, a4, a5, a6⟩
    · exact .inl ⟨rfl, rfl⟩
    · exact .inr ⟨g, cap, cur, rfl, a3, a4, a2, a5, by simpa using a6, .inl rfl⟩
  have grown : ∀ (old : Nat), old < n + m → ∃ cap' cs', n + m ≤ cap' ∧ cap' ≤ maxLen ∧ (w.drew.alloc (.cells (xs.toArray ++ ys.toArray ++ Builtin.zeroCells z.cells (grownCap w (n + m) old e - (n + m))) e)).heap[w.heap.size]? = some (.cells cs' e (0, 0)) ∧ cs'.size = cap' * i.size ∧ cs'.toList.take ((n + m) * i.size) = xs ++ ys ∧ cap' = grownCap w (n + m) old e := fun old ho => by
    have hge := grownCap_ge w (n + m) old e
    have hcm : grownCap w (n + m) old e ≤ maxLen := grownCap_le_maxLen w (n + m) old e h63
    refine ⟨_, _, hge, hcm, heap_alloc_new w.drew _, ?_, ?_, rfl⟩
    · simp only [Array.size_append, List.size_toArray, size_zeroCells, hzs, hxs, hl, ← Nat.add_mul]
      congr 1
      omega
    · simp only [Array.toList_append, List.append_assoc]
      rw [← List.append_assoc, ← hlen]
      exact List.take_left
  have gb : ∀ (o : Obj) (row : Option Nat), w.grownBy (w.drew.alloc o) row := fun o row => ⟨rfl, rfl, rfl, by simp, fun k hk _ => Below.block ((Ext.refl w.drew).alloc o) k hk⟩
  rcases A with _ | ad
  · have hm : m = 0 := by
      rcases Nat.eq_zero_or_pos m with h0 | h0
      · exact h0
      · have := Nat.mul_pos h0 hsz
        obtain ⟨u, hu⟩ : ∃ u, ys[0]? = some u := ⟨ys[0]'(by omega), List.getElem?_eq_getElem _⟩
        obtain ⟨ad, h, _⟩ := hr 0 u hu
        cases h
    subst hm
    exact same rfl (run_append_nil_ t ty i ht hi hown c)
  · have hcells : ∀ (j : Nat) (u : Value), ys[j]? = some u → w.cell? (ad.add j) = some u := fun j u hj => by obtain ⟨ad', he, hc⟩ := hr j u hj; cases he; exact hc
    rcases hv with ⟨rfl, rfl⟩ | ⟨g, cap, cur, rfl, hg, hnc, hcm, hcs, htake⟩
    · have hx : xs = [] := List.eq_nil_of_length_eq_zero (by simpa using hxs)
      subst hx
      by_cases hm : m = 0
      · refine same hm ?_
        subst hm
        have hn : ys = [] := List.eq_nil_of_length_eq_zero (by simpa using hl)
        subst hn
        simp [Builtin.append_, run_underlying ht, sizeOf, typeInfo, hi, Builtin.lenOf, Builtin.firstCells, loadCells, loadCellsFrom]
      · have hr := run_append_nil (P := P) w t ty e i z ht hi hz ad m c ys hl hcells (by omega) (by simp only [maxLen] at h63; omega) (by have hb := hbytes; simp only [Nat.zero_add] at hb; omega)
        obtain ⟨cap', cs', k1, k2, k3, k4, k5, k6⟩ := grown 0 (by omega)
        simp only [Nat.zero_add, List.nil_append, Array.empty_append] at k1 k2 k3 k4 k5 k6 ⊢
        refine ⟨_, _, hr, gb _ _, .inr ⟨w.heap.size, cap', cs', by rw [k6], k1, k2, k3, k4, k5, .inr rfl⟩⟩
    · by_cases hroom : n + m ≤ cap
      · have hfit : n * i.size + ys.length ≤ cur.size := by rw [hl, hcs, ← Nat.add_mul]; exact Nat.mul_le_mul_right _ hroom
        have hr := run_append_room (P := P) w t ty e i ht hi g n cap cur hg ad m c ys hl hcells h1 hroom hfit
        refine ⟨_, _, hr, ⟨rfl, rfl, rfl, by simp, fun k _ hk => setRow_other w g k _ (fun e => hk (by simp [Value.ownBlock, e]))⟩, .inr ⟨g, cap, _, rfl, hroom, hcm, setRow_heap w g cur _ e _ hg, ?_, ?_, .inl rfl⟩⟩
        · simp only [List.size_toArray, List.length_append, List.length_take, List.length_drop, Array.length_toList]
          omega
        · rw [htake, ← hlen]
          exact List.take_left
      · have holds : ∀ j u, xs[j]? = some u → w.cell? ((⟨g, 0, none⟩ : Addr).add j) = some u := hown.cells (g := g) rfl
        have hr := run_append_grow (P := P) w t ty e i z ht hi hz ⟨g, 0, none⟩ n cap xs hxs holds ad m c ys hl hcells (by omega) (by simp only [maxLen] at h63; omega) (growslice_fits (by omega) hbytes)
        obtain ⟨cap', cs', k1, k2, k3, k4, k5, k6⟩ := grown cap (by omega)
        exact ⟨_, _, hr, gb _ _, .inr ⟨w.heap.size, cap', cs', by rw [k6], k1, k2, k3, k4, k5, .inr rfl⟩⟩
def appHs (o : Option Nat) (id : Nat) (B : AB) : List (Nat × Option AB) :=
  match o with
  | some i => [(i, none), (id, some B)]
  | none => [(id, some B)]
def appF (F : Nat → Nat → CV) (n : Nat) (G : Nat → Nat → CV) (k j : Nat) : CV := bif Nat.blt k n then F k j else G (k - n) j
theorem cell_split {n sz p : Nat} (hp : p < n * sz) : p / sz < n ∧ p % sz < sz ∧ p / sz * sz + p % sz = p := by
  have hsz : 0 < sz := Nat.pos_of_ne_zero fun h => by rw [h, Nat.mul_zero] at hp; omega
  exact ⟨(Nat.div_lt_iff_lt_mul hsz).2 hp, Nat.mod_lt _ hsz, by rw [Nat.mul_comm]; exact Nat.div_add_mod p sz⟩
theorem cell_in {n sz k j : Nat} (hk : k < n) (hj : j < sz) : k * sz + j < n * sz := by
  have := Nat.mul_le_mul_right sz (show k + 1 ≤ n by omega)
  rw [Nat.succ_mul] at this
  omega
/-- What is appended, as a list of cells. -/
def Src (σ : Nat → Option Value) (O : Nat → Prop) (w : World) (u : Value) (m sz : Nat) (G : Nat → Nat → CV) : Prop :=
  ∃ A c ys, u = .slice A m c ∧ ys.length = m * sz ∧ Lst w A ys ∧ ∀ k, k < m → ∀ j, j < sz → ∃ v, ys[k * sz + j]? = some v ∧ RepC σ O w (G k j) v
theorem src_ls {σ : Nat → Option Value} {O : Nat → Prop} {w : World} {u : Value} {m sz : Nat} {G : Nat → Nat → CV} (h : RepA σ O w (.c (.ls m sz G)) u) : Src σ O w u m sz G := by
  obtain ⟨-, A, cap, rfl, hcap, hc⟩ := h
  let g : Nat → Value := fun p => match A with | some ad => (w.cell? (ad.add p)).getD undef | none => undef
  refine ⟨A, cap, (List.range (m * sz)).map g, rfl, by simp, fun p v hp => ?_, fun k hk j hj => ?_⟩
  · have hlt : p < m * sz := by have := (List.getElem?_eq_some_iff.1 hp).1; simpa using this
    obtain ⟨h1, h2, h3⟩ := cell_split hlt
    obtain ⟨ad, v', e1, e2, e3, e4, e5⟩ := hc _ h1 _ h2
    rw [h3] at e3
    subst e1
    refine ⟨ad, rfl, ?_⟩
    rw [List.getElem?_map, List.getElem?_range hlt] at hp
    cases hp
    simp only [g, e3]
    rfl
  · obtain ⟨ad, v', e1, e2, e3, e4, e5⟩ := hc k hk j hj
    subst e1
    refine ⟨v', ?_, ?_⟩
    · rw [List.getElem?_map, List.getElem?_range (cell_in hk hj)]
      simp only [g, e3, Option.map_some, Option.getD_some]
    · show RepC σ O w (G k j) v'
      cases hG : G k j <;> rw [hG] at e5 <;> first | exact ⟨e4, e5⟩ | exact e5.elim
theorem src_nil {σ : Nat → Option Value} {O : Nat → Prop} {w : World} {u : Value} {sz : Nat} {G : Nat → Nat → CV} (h : RepA σ O w (.c (.p (.slice none 0 0))) u) : Src σ O w u 0 sz G :=
  ⟨none, 0, [], h.2, by simp, fun p v hp => by simp at hp, fun k hk => absurd hk (Nat.not_lt_zero _)⟩
theorem src_ow {b0 : Base} {σ : Nat → Option Value} {S : St} {a : Act} {w : World} (R : Rel0 b0 σ S a w) {u : Value} {id : Nat} {B : AB} (h : RepA σ (out b0 σ S.h) w (.c (.ow id)) u) (hh : S.h id = some B) (hr : B.row = true) : Src σ (out b0 σ S.h) w u B.n B.sz B.F := by
  obtain ⟨v, f1, f2⟩ := R.hp.blk id B hh
  have e0 := h.2.1
  rw [e0] at f1
  cases f1
  rcases f2 with ⟨_, h1, h0⟩ | ⟨b, cap, cs, h1, h2, h3, h4⟩
  · exact ⟨none, 0, [], by rw [h1, h0], by rw [h0]; simp, fun p v hp => by simp at hp, fun k hk => by omega⟩
  · rcases h1 with ⟨_, h1, h5, h6⟩ | ⟨h1, _⟩
    · have hle : B.n * B.sz ≤ cs.size := by rw [h3]; exact Nat.mul_le_mul_right _ h5
      refine ⟨some ⟨b, 0, none⟩, cap, cs.toList.take (B.n * B.sz), h1, by simp; omega, fun p v hp => ⟨⟨b, 0, none⟩, rfl, ?_⟩, fun k hk j hj => ?_⟩
      · have hlt : p < B.n * B.sz := by have := (List.getElem?_eq_some_iff.1 hp).1; simp at this; omega
        rw [List.getElem?_take_of_lt hlt] at hp
        rw [add_off, Nat.zero_add]
        exact (cell_of_row w b _ cs B.ty (0, 0) h2).trans (by simpa using hp)
      · obtain ⟨v, g1, g2⟩ := h4 k hk j hj
        exact ⟨v, by rw [List.getElem?_take_of_lt (cell_in hk hj)]; simpa using g1, g2⟩
    · rw [hr] at h1; cases h1
section ops
variable {ops : Array Oper} {rest : List Oper} {acc : List (List Nat × List Nat)} {S : St} {Q : List (List Nat × List Nat) → St → Prop} {dst : Option Tmp} {ty : TypeId} {pos : String} {after : Array Edge} {guard : Option (Nat × Bool)}
/-- append; the first operand is an own slice (o = some id1) or nil. -/
theorem AList.app (T : tabOk P tab = true) {id : Nat} {s x : Operand} {t el : TypeId} {d e : TD} {vs : CV} {o : Option Nat} {n m : Nat} {F G : Nat → Nat → CV} {y : AV} (rd : List Nat)
    (hw : S.wants ops { dst := some id, op := .call { callee := .builtin .append, args := #[s, x], argTypes := #[t, t] }, type := ty, pos, after, guard } = some true) (hd : dOk S.n (some id) = true) (hf : S.fr id = true)
    (hs : S.opd s = some (.c vs)) (hx : S.opd x = some y) (ht : assoc tab t = some d) (hk : d.k = .sl el) (he : assoc tab el = some e) (hsz : 0 < e.size)
    (ho : (o = none ∧ vs = .p (.slice none 0 0) ∧ n = 0) ∨ ∃ id1, o = some id1 ∧ vs = .ow id1 ∧ S.h id1 = some ⟨true, n, e.size, el, F⟩)
    (hsrc : ∀ S1 : St, (∀ id ∈ rd, S1.h id = S.h id) → ∀ b0 σ a w, Rel0 b0 σ S1 a w → ∀ u, RepA σ (out b0 σ S1.h) w y u → Src σ (out b0 σ S1.h) w u m e.size G)
    (h63 : n + m ≤ 4611686018427387904) (hb : (n + m) * e.bytes ≤ 140737488355328)
    (hn : AList P ops rest (((o.toList ++ rd) ++ [id], (appHs o id ⟨true, n + m, e.size, el, appF F n G⟩).map (·.1) ++ [id]) :: acc)
      (S.eff (some id) ⟨.c (.ow id), appHs o id ⟨true, n + m, e.size, el, appF F n G⟩, [id]⟩) Q) :
    AList P ops ({ dst := some id, op := .call { callee := .builtin .append, args := #[s, x], argTypes := #[t, t] }, type := ty, pos, after, guard } :: rest) acc S Q :=
  AList.cons (o.toList ++ rd) ⟨.c (.ow id), appHs o id ⟨true, n + m, e.size, el, appF F n G⟩, [id]⟩ (LStep.of hw fun S1 hA hr1 hal b0 σ a w R => by
    obtain ⟨inf, z, u, i1, i2, i3, i4, i5, i6, -⟩ := ty_info T he
    have hzs : z.cells.size = e.size := by rw [i5]; simp [i6]
    obtain ⟨hfr, hidl⟩ := R.fr id ((hal id (by simp)).trans hf)
    have rs := opd_rep R ((hA.op s (by simp [Op.operands, Call.operands])).trans hs)
    obtain ⟨A, c, ys, y1, y2, y3, y4⟩ := hsrc S1 (fun i hi => hr1 i (List.mem_append_right _ hi)) b0 σ a w R _ (opd_rep R ((hA.op x (by simp [Op.operands, Call.operands])).trans hx))
    have yone : ∀ u ∈ ys, u.oneCell' = true := fun u hu => by
      obtain ⟨p, hp, rfl⟩ := List.getElem_of_mem hu
      obtain ⟨h1, h2, h3⟩ := cell_split (show p < m * e.size by omega)
      obtain ⟨v, g1, g2⟩ := y4 _ h1 _ h2
      rw [h3, List.getElem?_eq_getElem hp] at g1
      cases g1
      exact g2.1
    -- the first operand
    obtain ⟨xs, hxl, hv, hxc, hown⟩ : ∃ xs : List Value, xs.length = n * e.size ∧ ((a.eval s = .slice none 0 0 ∧ n = 0) ∨ ∃ g cap cur, a.eval s = .slice (some ⟨g, 0, none⟩) n cap ∧ w.heap[g]? = some (.cells cur el (0, 0)) ∧ n ≤ cap ∧ cap ≤ maxLen ∧ cur.size = cap * e.size ∧ cur.toList.take (n * e.size) = xs) ∧
        (∀ k, k < n → ∀ j, j < e.size → ∃ v, xs[k * e.size + j]? = some v ∧ RepC σ (out b0 σ S1.h) w (F k j) v) ∧ (∀ b, (a.eval s).ownBlock = some b → ∃ id1, o = some id1 ∧ S1.h id1 ≠ none ∧ σ id1 = some (a.eval s) ∧ baseBlk (a.eval s) = some b) := by
      rcases ho with ⟨rfl, rfl, rfl⟩ | ⟨id1, rfl, rfl, hB⟩
      · have e0 : a.eval s = .slice none 0 0 := rs.2
        exact ⟨[], by simp, .inl ⟨e0, rfl⟩, fun k hk => absurd hk (Nat.not_lt_zero _), fun b hb => by rw [e0] at hb; cases hb⟩
      · have hB1 := (hr1 id1 (by simp)).trans hB
        obtain ⟨v, f1, f2⟩ := R.hp.blk id1 _ hB1
        have e0 := rs.2.1
        rw [e0] at f1
        cases f1
        have hob : ∀ b, (a.eval s).ownBlock = some b → ∃ id, some id1 = some id ∧ S1.h id ≠ none ∧ σ id = some (a.eval s) ∧ baseBlk (a.eval s) = some b := fun b hb => ⟨id1, rfl, by rw [hB1]; simp, e0, by
          cases hc : a.eval s with
          | slice A n c => rw [hc] at hb; cases A <;> exact hb
          | _ => rw [hc] at hb; cases hb⟩
        rcases f2 with ⟨_, h1, h0⟩ | ⟨b, cap, cs, h1, h2, h3, h4⟩
        · obtain rfl : n = 0 := h0
          exact ⟨[], by simp, .inl ⟨h1, rfl⟩, fun k hk => absurd hk (Nat.not_lt_zero _), hob⟩
        · rcases h1 with ⟨_, h1, h5, h6⟩ | ⟨h1, _⟩
          · simp only at h1 h2 h3 h4 h5
            have hle : n * e.size ≤ cs.size := by rw [h3]; exact Nat.mul_le_mul_right _ h5
            refine ⟨cs.toList.take (n * e.size), by simp; omega, .inr ⟨b, cap, cs, h1, h2, h5, h6, h3, rfl⟩, fun k hk j hj => ?_, hob⟩
            obtain ⟨v, g1, g2⟩ := h4 k hk j hj
            exact ⟨v, by rw [List.getElem?_take_of_lt (cell_in hk hj)]; simpa using g1, g2⟩
          · cases h1
    obtain ⟨v', w', r1, r2, r3⟩ := app_run (P := P) (w := w) t ty el inf z e.size e.bytes (ty_sl T ht hk) i1 i4 i2 i3 hzs hsz (a.eval s) n xs hxl hv A m c ys y2 y3 yone (by simp only [maxLen]; omega) hb
    have hex : (execOp a.eval { dst := some id, op := .call { callee := .builtin .append, args := #[s, x], argTypes := #[t, t] }, type := ty, pos, after, guard }).run P w = .ok (.value v') w' := by
      simp only [execOp, resolve, invoke, builtin, Sem.run_bind, Sem.run_pure, Result.andThen_ok, List.map_toArray, List.map_cons, List.map_nil, y1, r1]
    rw [hex]
    have hK : Keep (own σ S1.h) w w' := ⟨r2.os, r2.tape, r2.output, r2.size, fun k hk hno => r2.block k hk fun e => by
      obtain ⟨id1, _, g1, g2, g3⟩ := hown k e.symm
      exact hno ⟨id1, _, g1, g2, g3⟩⟩
    have hsub : ∀ i u, σ i = some u → put σ id (some v') i = some u := fun i u h => by
      rw [put_ne _ _ (fun e => by rw [e, hfr] at h; cases h)]; exact h
    generalize hB' : (⟨true, n + m, e.size, el, appF F n G⟩ : AB) = B'
    have hlk : ∀ h : Nat → Option AB, look (appHs o id B') h = match o with | some i => put (put h id (some B')) i none | none => put h id (some B') := fun h => by cases o <;> rfl
    have hidne : ∀ id1, o = some id1 → id1 ≠ id := fun id1 h1 e => by
      rcases ho with ⟨h2, _⟩ | ⟨id2, h2, h3, h4⟩
      · rw [h1] at h2; cases h2
      · rw [h1] at h2
        cases h2
        subst h3
        have := rs.2.1
        rw [e, hfr] at this
        cases this
    have hid : look (appHs o id B') S1.h id = some B' := by
      rw [hlk]
      cases o with
      | none => exact put_same _ _ _
      | some i => exact (put_ne _ _ (Ne.symm (hidne i rfl))).trans (put_same _ _ _)
    have hoth : ∀ i, i ≠ id → look (appHs o id B') S1.h i = none ∨ (look (appHs o id B') S1.h i = S1.h i ∧ o ≠ some i) := fun i hi => by
      rw [hlk]
      cases o with
      | none => exact .inr ⟨put_ne _ _ hi, by simp⟩
      | some i1 =>
        by_cases h1 : i = i1
        · subst h1; exact .inl (put_same _ _ _)
        · exact .inr ⟨(put_ne _ _ h1).trans (put_ne _ _ hi), fun h => h1 (Option.some.inj h).symm⟩
    have holdblk : ∀ i u b, i ≠ id → look (appHs o id B') S1.h i ≠ none → σ i = some u → baseBlk u = some b → some b ≠ (a.eval s).ownBlock ∧ S1.h i ≠ none := fun i u b hi h1 h2 h3 => by
      rcases hoth i hi with h0 | ⟨h0, hoi⟩
      · exact absurd h0 h1
      · rw [h0] at h1
        refine ⟨fun e => ?_, h1⟩
        obtain ⟨id1, g0, g1, g2, g3⟩ := hown b e.symm
        have := R.hp.inj i id1 u _ b h1 g1 h2 g2 h3 g3
        subst this
        exact hoi g0
    have hv'b : ∀ b, baseBlk v' = some b → (a.eval s).ownBlock = some b ∨ b = w.heap.size := fun b hb => by
      rcases r3 with ⟨rfl, _⟩ | ⟨b', cap', cs', rfl, _, _, _, _, _, h⟩
      · cases hb
      · cases hb; exact h
    have hout : ∀ b, out b0 (put σ id (some v')) (look (appHs o id B') S1.h) b → out b0 σ S1.h b ∨ w.heap.size ≤ b := fun b hb => by
      rcases hb with ⟨i, u, h1, h2, h3⟩ | hb
      · by_cases hi : i = id
        · subst hi
          rw [put_same] at h2
          cases h2
          rcases hv'b b h3 with h | h
          · obtain ⟨id1, _, g1, g2, g3⟩ := hown b h
            exact .inl (.inl ⟨id1, _, g1, g2, g3⟩)
          · exact .inr (by omega)
        · rw [put_ne _ _ hi] at h2
          exact .inl (.inl ⟨i, u, (holdblk i u b hi h1 h2 h3).2, h2, h3⟩)
      · exact .inl (.inr hb)
    obtain ⟨H, _, hO⟩ := R.hp.put (id := id) (B' := B') (v' := v') (σ' := put σ id (some v')) (h' := look (appHs o id B') S1.h) (w' := w') hsub hid (put_same _ _ _)
      (fun i hi => (hoth i hi).imp (fun h => h) fun h => h.1) hK
      (fun i u hi => by
        obtain ⟨h1, b, h2⟩ := b0.one i u hi
        have h3 := R.hp.fx i u hi
        rcases hoth i (by omega) with h0 | h0
        · exfalso
          rw [hlk] at h0
          rcases ho with ⟨ho, _⟩ | ⟨id1, ho, hvs, _⟩
          · subst ho
            exact h3.2 ((put_ne _ _ (by omega)).symm.trans h0)
          · subst ho hvs
            by_cases h4 : i = id1
            · subst h4
              have h5 := rs.2.1
              obtain ⟨A, n, c, h6⟩ := rs.2.2
              rw [h3.1, h2, h6] at h5
              cases h5
            · exact h3.2 (((put_ne _ _ h4).trans (put_ne _ _ (by omega))).symm.trans h0)
        · rw [h0.1]; exact h3.2) (fun i hi => put_ne _ _ (by omega))
      (fun i u b hi h1 h2 h3 => by
        obtain ⟨g1, g2⟩ := holdblk i u b hi h1 h2 h3
        exact r2.block b (R.hp.lt ⟨i, u, g2, h2, h3⟩) g1)
      (by
        subst hB'
        rcases r3 with ⟨rfl, h0⟩ | ⟨b', cap', cs', rfl, k1, k2, k3, k4, k5, _⟩
        · exact .inl ⟨rfl, rfl, h0⟩
        · refine .inr ⟨b', cap', cs', .inl ⟨rfl, rfl, k1, k2⟩, k3, k4, fun k hk j hj => ?_⟩
          have hk' : k < n + m := hk
          have hj' : j < e.size := hj
          have hget : cs'[k * e.size + j]? = (xs ++ ys)[k * e.size + j]? := by
            rw [← k5, List.getElem?_take_of_lt (cell_in hk' hj')]; simp
          show ∃ u, cs'[k * e.size + j]? = some u ∧ RepC _ _ w' (appF F n G k j) u
          rw [hget]
          unfold appF
          by_cases hkn : k < n
          · rw [Nat.blt_eq.mpr hkn, List.getElem?_append_left (by rw [hxl]; exact cell_in hkn hj')]
            obtain ⟨v, g1, g2⟩ := hxc k hkn j hj'
            exact ⟨v, g1, g2.keep hK.out hout hsub⟩
          · rw [show Nat.blt k n = false from Bool.eq_false_iff.2 fun h => hkn (Nat.blt_eq.mp h)]
            have hge : n * e.size ≤ k * e.size := Nat.mul_le_mul_right _ (by omega)
            rw [List.getElem?_append_right (by rw [hxl]; omega), hxl]
            obtain ⟨v, g1, g2⟩ := y4 (k - n) (by omega) j hj'
            refine ⟨v, ?_, g2.keep hK.out hout hsub⟩
            rw [← g1, Nat.sub_mul]
            congr 1
            omega)
      (fun b hb => by
        refine ⟨?_, ?_, fun i u hi h1 h2 h3 => ?_⟩
        · rcases hv'b b hb with h | h
          · obtain ⟨id1, _, g1, g2, g3⟩ := hown b h
            exact R.hp.new b ⟨id1, _, g1, g2, g3⟩
          · rw [h]; exact .inl R.ext.size
        · rcases hv'b b hb with h | h
          · obtain ⟨id1, _, g1, g2, g3⟩ := hown b h
            exact .inl ⟨id1, _, g1, g2, g3⟩
          · exact .inr (by omega)
        · obtain ⟨g1, g2⟩ := holdblk i u b hi h1 h2 h3
          rcases hv'b b hb with h | h
          · exact g1 h.symm
          · have := R.hp.lt ⟨i, u, g2, h2, h3⟩
            omega)
    exact ⟨put σ id (some v'), R.step (e := ⟨.c (.ow id), appHs o id B', [id]⟩) (by rw [hA.n]; exact hd) hsub hK H hO (fun _ => by
      rcases r3 with ⟨rfl, _⟩ | ⟨b', cap', cs', rfl, _⟩
      · exact rep_ow (put_same _ _ _)
      · exact rep_ow (put_same _ _ _)) (fun i hi => by
      by_cases e : i = id
      · exact .inr (by simp [e])
      · rw [put_ne _ _ e] at hi; exact .inl hi)⟩) hn
end ops
end
end Go.AV
end
