/- Parts of the proof: AMem4, AMem5, AMem6, AMem8, AMem9, AMemA, ARange. -/
import Derived.Test.YtfgcogkhnnflcaaDoorG10
import Derived.Laws.StructEq
import Derived.RangeFuncNested
import Derived.Laws.Cover3
set_option linter.unusedSimpArgs false
set_option linter.unusedVariables false
section
namespace Go.AV
open Go Go.RowKit Go.Flow
section
variable {P : Program} {tab : List (TypeId × TD)}
/-- What append comes to: a nil slice, the old block, or a new one. -/
theorem app_run {w : World} (t ty e : TypeId) (i : TypeInfo) (z : Value) (size bytes : Nat) (ht : P.underlying t = some (.slice e)) (hi : P.info? e = some i) (hz : i.zero = some z)
    (hsize : i.size = size) (hby : i.bytes = bytes) (hzs : z.cells.size = size) (hsz : 0 < size) (v : Value) (n : Nat) (xs : List Value) (hxs : xs.length = n * size)
    (hv : (v = .slice none 0 0 ∧ n = 0) ∨ ∃ g cap cur, v = .slice (some ⟨g, 0, none⟩) n cap ∧ w.heap[g]? = some (.cells cur e (0, 0)) ∧ n ≤ cap ∧ cap ≤ maxLen ∧ cur.size = cap * size ∧ cur.toList.take (n * size) = xs)
    (A : Option Addr) (m c : Nat) (ys : List Value) (hl : ys.length = m * size) (hr : Lst w A ys) (h1 : ∀ u ∈ ys, u.oneCell' = true) (h63 : n + m ≤ maxLen) (hbytes : (n + m) * bytes ≤ 140737488355328) :
    ∃ v' w', (Builtin.append_ #[t, t] ty #[v, .slice A m c]).run P w = .ok v' w' ∧ w.grownBy w' v.ownBlock ∧
      ((v' = .slice none 0 0 ∧ n + m = 0) ∨ ∃ b' cap' cs', v' = .slice (some ⟨b', 0, none⟩) (n + m) cap' ∧ n + m ≤ cap' ∧ cap' ≤ maxLen ∧ w'.heap[b']? = some (.cells cs' e (0, 0)) ∧ cs'.size = cap' * size ∧ cs'.toList.take ((n + m) * size) = xs ++ ys ∧ (v.ownBlock = some b' ∨ b' = w.heap.size)) := by
  subst hsize hby
  have hlen : (xs ++ ys).length = (n + m) * i.size := by rw [List.length_append, hxs, hl, Nat.add_mul]
  have hown : w.ownsRow 0 e i.size v n xs := ⟨hxs, hv.imp (fun h => h) fun ⟨g, cap, cur, a1, a2, a3, a4, a5, a6⟩ => ⟨g, cap, cur, a1, Nat.zero_le _, a2, a3, a4, a5, a6⟩⟩
  have same : m = 0 → (Builtin.append_ #[t, t] ty #[v, .slice A m c]).run P w = .ok v w → ∃ v' w', (Builtin.append_ #[t, t] ty #[v, .slice A m c]).run P w = .ok v' w' ∧ w.grownBy w' v.ownBlock ∧
      ((v' = .slice none 0 0 ∧ n + m = 0) ∨ ∃ b' cap' cs', v' = .slice (some ⟨b', 0, none⟩) (n + m) cap' ∧ n + m ≤ cap' ∧ cap' ≤ maxLen ∧ w'.heap[b']? = some (.cells cs' e (0, 0)) ∧ cs'.size = cap' * i.size ∧ cs'.toList.take ((n + m) * i.size) = xs ++ ys ∧ (v.ownBlock = some b' ∨ b' = w.heap.size)) := fun hm hrun => by
    subst hm
    have hy : ys = [] := List.eq_nil_of_length_eq_zero (by simpa using hl)
    subst hy
    refine ⟨v, w, hrun, World.grownBy.refl w _, ?_⟩
    rcases hv with ⟨rfl, rfl⟩ | ⟨g, cap, cur, rfl, a2, a3, a4, a5, a6⟩
    · exact .inl ⟨rfl, rfl⟩
    · exact .inr ⟨g, cap, cur, rfl, a3, a4, a2, a5, by simpa using a6, .inl rfl⟩
  have grown : ∀ (old : Nat), old < n + m → ∃ cap' cs', n + m ≤ cap' ∧ cap' ≤ maxLen ∧ (w.drew.alloc (.cells (xs.toArray ++ ys.toArray ++ Builtin.zeroCells z.cells (grownCap w (n + m) old e - (n + m))) e)).heap[w.heap.size]? = some (.cells cs' e (0, 0)) ∧ cs'.size = cap' * i.size ∧ cs'.toList.take ((n + m) * i.size) = xs ++ ys ∧ cap' = grownCap w (n + m) old e := fun old ho => by
    have hge := grownCap_ge w (n + m) old e
    have hcm : grownCap w (n + m) old e ≤ maxLen := grownCap_le_maxLen w (n + m) old e h63
    refine ⟨_, _, hge, hcm, heap_alloc_new w.drew _, ?_, ?_, rfl⟩
    · simp only [Array.size_append, List.size_toArray, size_zeroCells, hzs, hxs, hl, ← Nat.add_mul]
      congr 1
      omega
    · simp only [Array.toList_append, List.append_assoc]
      rw [← List.append_assoc, ← hlen]
      exact List.take_left
  have gb : ∀ (o : Obj) (row : Option Nat), w.grownBy (w.drew.alloc o) row := fun o row => ⟨rfl, rfl, rfl, by simp, fun k hk _ => Below.block ((Ext.refl w.drew).alloc o) k hk⟩
  rcases A with _ | ad
  · have hm : m = 0 := by
      rcases Nat.eq_zero_or_pos m with h0 | h0
      · exact h0
      · have := Nat.mul_pos h0 hsz
        obtain ⟨u, hu⟩ : ∃ u, ys[0]? = some u := ⟨ys[0]'(by omega), List.getElem?_eq_getElem _⟩
        obtain ⟨ad, h, _⟩ := hr 0 u hu
        cases h
    subst hm
    exact same rfl (run_append_nil_ t ty i ht hi hown c)
  · have hcells : ∀ (j : Nat) (u : Value), ys[j]? = some u → w.cell? (ad.add j) = some u := fun j u hj => by obtain ⟨ad', he, hc⟩ := hr j u hj; cases he; exact hc
    rcases hv with ⟨rfl, rfl⟩ | ⟨g, cap, cur, rfl, hg, hnc, hcm, hcs, htake⟩
    · have hx : xs = [] := List.eq_nil_of_length_eq_zero (by simpa using hxs)
      subst hx
      by_cases hm : m = 0
      · refine same hm ?_
        subst hm
        have hn : ys = [] := List.eq_nil_of_length_eq_zero (by simpa using hl)
        subst hn
        simp [Builtin.append_, run_underlying ht, sizeOf, typeInfo, hi, Builtin.lenOf, Builtin.firstCells, loadCells, loadCellsFrom]
      · have hr := run_append_nil (P := P) w t ty e i z ht hi hz ad m c ys hl hcells (by omega) (by simp only [maxLen] at h63; omega) (by have hb := hbytes; simp only [Nat.zero_add] at hb; omega)
        obtain ⟨cap', cs', k1, k2, k3, k4, k5, k6⟩ := grown 0 (by omega)
        simp only [Nat.zero_add, List.nil_append, Array.empty_append] at k1 k2 k3 k4 k5 k6 ⊢
        refine ⟨_, _, hr, gb _ _, .inr ⟨w.heap.size, cap', cs', by rw [k6], k1, k2, k3, k4, k5, .inr rfl⟩⟩
    · by_cases hroom : n + m ≤ cap
      · have hfit : n * i.size + ys.length ≤ cur.size := by rw [hl, hcs, ← Nat.add_mul]; exact Nat.mul_le_mul_right _ hroom
        have hr := run_append_room (P := P) w t ty e i ht hi g n cap cur hg ad m c ys hl hcells h1 hroom hfit
        refine ⟨_, _, hr, ⟨rfl, rfl, rfl, by simp, fun k _ hk => setRow_other w g k _ (fun e => hk (by simp [Value.ownBlock, e]))⟩, .inr ⟨g, cap, _, rfl, hroom, hcm, setRow_heap w g cur _ e _ hg, ?_, ?_, .inl rfl⟩⟩
        · simp only [List.size_toArray, List.length_append, List.length_take, List.length_drop, Array.length_toList]
          omega
        · rw [htake, ← hlen]
          exact List.take_left
      · have holds : ∀ j u, xs[j]? = some u → w.cell? ((⟨g, 0, none⟩ : Addr).add j) = some u := hown.cells (g := g) rfl
        have hr := run_append_grow (P := P) w t ty e i z ht hi hz ⟨g, 0, none⟩ n cap xs hxs holds ad m c ys hl hcells (by omega) (by simp only [maxLen] at h63; omega) (growslice_fits (by omega) hbytes)
        obtain ⟨cap', cs', k1, k2, k3, k4, k5, k6⟩ := grown cap (by omega)
        exact ⟨_, _, hr, gb _ _, .inr ⟨w.heap.size, cap', cs', by rw [k6], k1, k2, k3, k4, k5, .inr rfl⟩⟩
def appHs (o : Option Nat) (id : Nat) (B : AB) : List (Nat × Option AB) :=
  match o with
  | some i => [(i, none), (id, some B)]
  | none => [(id, some B)]
def appF (F : Nat → Nat → CV) (n : Nat) (G : Nat → Nat → CV) (k j : Nat) : CV := bif Nat.blt k n then F k j else G (k - n) j
theorem cell_split {n sz p : Nat} (hp : p < n * sz) : p / sz < n ∧ p % sz < sz ∧ p / sz * sz + p % sz = p := by
  have hsz : 0 < sz := Nat.pos_of_ne_zero fun h => by rw [h, Nat.mul_zero] at hp; omega
  exact ⟨(Nat.div_lt_iff_lt_mul hsz).2 hp, Nat.mod_lt _ hsz, by rw [Nat.mul_comm]; exact Nat.div_add_mod p sz⟩
theorem cell_in {n sz k j : Nat} (hk : k < n) (hj : j < sz) : k * sz + j < n * sz := by
  have := Nat.mul_le_mul_right sz (show k + 1 ≤ n by omega)
  rw [Nat.succ_mul] at this
  omega
/-- What is appended, as a list of cells. -/
def Src (σ : Nat → Option Value) (O : Nat → Prop) (w : World) (u : Value) (m sz : Nat) (G : Nat → Nat → CV) : Prop :=
  ∃ A c ys, u = .slice A m c ∧ ys.length = m * sz ∧ Lst w A ys ∧ ∀ k, k < m → ∀ j, j < sz → ∃ v, ys[k * sz + j]? = some v ∧ RepC σ O w (G k j) v
section ops
variable {ops : Array Oper} {rest : List Oper} {acc : List (List Nat × List Nat)} {S : St} {Q : List (List Nat × List Nat) → St → Prop} {dst : Option Tmp} {ty : TypeId} {pos : String} {after : Array Edge} {guard : Option (Nat × Bool)}
/-- append; the first operand is an own slice (o = some id1) or nil. -/
theorem AList.app (T : tabOk P tab = true) {id : Nat} {s x : Operand} {t el : TypeId} {d e : TD} {vs : CV} {o : Option Nat} {n m : Nat} {F G : Nat → Nat → CV} {y : AV} (rd : List Nat)
    (hw : S.wants ops { dst := some id, op := .call { callee := .builtin .append, args := #[s, x], argTypes := #[t, t] }, type := ty, pos, after, guard } = some true) (hd : dOk S.n (some id) = true) (hf : S.fr id = true)
    (hs : S.opd s = some (.c vs)) (hx : S.opd x = some y) (ht : assoc tab t = some d) (hk : d.k = .sl el) (he : assoc tab el = some e) (hsz : 0 < e.size)
    (ho : (o = none ∧ vs = .p (.slice none 0 0) ∧ n = 0) ∨ ∃ id1, o = some id1 ∧ vs = .ow id1 ∧ S.h id1 = some ⟨true, n, e.size, el, F⟩ ∧ id1 < 1000)
    (hsrc : ∀ S1 : St, (∀ id ∈ rd, S1.h id = S.h id) → ∀ b0 σ a w, Rel0 b0 σ S1 a w → ∀ u, RepA σ (out b0 σ S1.h) w y u → Src σ (out b0 σ S1.h) w u m e.size G)
    (h63 : n + m ≤ 4611686018427387904) (hb : (n + m) * e.bytes ≤ 140737488355328)
    (hn : AList P ops rest (((o.toList ++ rd) ++ [id], (appHs o id ⟨true, n + m, e.size, el, appF F n G⟩).map (·.1) ++ [id]) :: acc)
      (S.eff (some id) ⟨.c (.ow id), appHs o id ⟨true, n + m, e.size, el, appF F n G⟩, [id]⟩) Q) :
    AList P ops ({ dst := some id, op := .call { callee := .builtin .append, args := #[s, x], argTypes := #[t, t] }, type := ty, pos, after, guard } :: rest) acc S Q :=
  AList.cons (o.toList ++ rd) ⟨.c (.ow id), appHs o id ⟨true, n + m, e.size, el, appF F n G⟩, [id]⟩ (LStep.of hw fun S1 hA hr1 hal b0 σ a w R => by
    obtain ⟨inf, z, u, i1, i2, i3, i4, i5, i6, -⟩ := ty_info T he
    have hzs : z.cells.size = e.size := by rw [i5]; simp [i6]
    obtain ⟨hfr, hidl⟩ := R.fr id ((hal id (by simp)).trans hf)
    have rs := opd_rep R ((hA.op s (by simp [Op.operands, Call.operands])).trans hs)
    obtain ⟨A, c, ys, y1, y2, y3, y4⟩ := hsrc S1 (fun i hi => hr1 i (List.mem_append_right _ hi)) b0 σ a w R _ (opd_rep R ((hA.op x (by simp [Op.operands, Call.operands])).trans hx))
    have yone : ∀ u ∈ ys, u.oneCell' = true := fun u hu => by
      obtain ⟨p, hp, rfl⟩ := List.getElem_of_mem hu
      obtain ⟨h1, h2, h3⟩ := cell_split (show p < m * e.size by omega)
      obtain ⟨v, g1, g2⟩ := y4 _ h1 _ h2
      rw [h3, List.getElem?_eq_getElem hp] at g1
      cases g1
      exact g2.1
    -- the first operand
    obtain ⟨xs, hxl, hv, hxc, hown⟩ : ∃ xs : List Value, xs.length = n * e.size ∧ ((a.eval s = .slice none 0 0 ∧ n = 0) ∨ ∃ g cap cur, a.eval s = .slice (some ⟨g, 0, none⟩) n cap ∧ w.heap[g]? = some (.cells cur el (0, 0)) ∧ n ≤ cap ∧ cap ≤ maxLen ∧ cur.size = cap * e.size ∧ cur.toList.take (n * e.size) = xs) ∧
        (∀ k, k < n → ∀ j, j < e.size → ∃ v, xs[k * e.size + j]? = some v ∧ RepC σ (out b0 σ S1.h) w (F k j) v) ∧ (∀ b, (a.eval s).ownBlock = some b → ∃ id1, o = some id1 ∧ S1.h id1 ≠ none ∧ σ id1 = some (a.eval s) ∧ baseBlk (a.eval s) = some b) := by
      rcases ho with ⟨rfl, rfl, rfl⟩ | ⟨id1, rfl, rfl, hB, -⟩
      · have e0 : a.eval s = .slice none 0 0 := rs.2
        exact ⟨[], by simp, .inl ⟨e0, rfl⟩, fun k hk => absurd hk (Nat.not_lt_zero _), fun b hb => by rw [e0] at hb; cases hb⟩
      · have hB1 := (hr1 id1 (by simp)).trans hB
        obtain ⟨v, f1, f2⟩ := R.hp.blk id1 _ hB1
        have e0 := rs.2.1
        rw [e0] at f1
        cases f1
        have hob : ∀ b, (a.eval s).ownBlock = some b → ∃ id, some id1 = some id ∧ S1.h id ≠ none ∧ σ id = some (a.eval s) ∧ baseBlk (a.eval s) = some b := fun b hb => ⟨id1, rfl, by rw [hB1]; simp, e0, by
          cases hc : a.eval s with
          | slice A n c => rw [hc] at hb; cases A <;> exact hb
          | _ => rw [hc] at hb; cases hb⟩
        rcases f2 with ⟨_, h1, h0⟩ | ⟨b, cap, cs, h1, h2, h3, h4⟩
        · obtain rfl : n = 0 := h0
          exact ⟨[], by simp, .inl ⟨h1, rfl⟩, fun k hk => absurd hk (Nat.not_lt_zero _), hob⟩
        · rcases h1 with ⟨_, h1, h5, h6⟩ | ⟨h1, _⟩
          · simp only at h1 h2 h3 h4 h5
            have hle : n * e.size ≤ cs.size := by rw [h3]; exact Nat.mul_le_mul_right _ h5
            refine ⟨cs.toList.take (n * e.size), by simp; omega, .inr ⟨b, cap, cs, h1, h2, h5, h6, h3, rfl⟩, fun k hk j hj => ?_, hob⟩
            obtain ⟨v, g1, g2⟩ := h4 k hk j hj
            exact ⟨v, by rw [List.getElem?_take_of_lt (cell_in hk hj)]; simpa using g1, g2⟩
          · cases h1
    obtain ⟨v', w', r1, r2, r3⟩ := app_run (P := P) (w := w) t ty el inf z e.size e.bytes (ty_sl T ht hk) i1 i4 i2 i3 hzs hsz (a.eval s) n xs hxl hv A m c ys y2 y3 yone (by simp only [maxLen]; omega) hb
    have hex : (execOp a.eval { dst := some id, op := .call { callee := .builtin .append, args := #[s, x], argTypes := #[t, t] }, type := ty, pos, after, guard }).run P w = .ok (.value v') w' := by
      simp only [execOp, resolve, invoke, builtin, Sem.run_bind, Sem.run_pure, Result.andThen_ok, List.map_toArray, List.map_cons, List.map_nil, y1, r1]
    rw [hex]
    have hK : Keep (own σ S1.h) w w' := ⟨r2.os, r2.tape, r2.output, r2.size, fun k hk hno => r2.block k hk fun e => by
      obtain ⟨id1, _, g1, g2, g3⟩ := hown k e.symm
      exact hno ⟨id1, _, g1, g2, g3⟩⟩
    have hsub : ∀ i u, σ i = some u → put σ id (some v') i = some u := fun i u h => by
      rw [put_ne _ _ (fun e => by rw [e, hfr] at h; cases h)]; exact h
    generalize hB' : (⟨true, n + m, e.size, el, appF F n G⟩ : AB) = B'
    have hlk : ∀ h : Nat → Option AB, look (appHs o id B') h = match o with | some i => put (put h id (some B')) i none | none => put h id (some B') := fun h => by cases o <;> rfl
    have hidne : ∀ id1, o = some id1 → id1 ≠ id := fun id1 h1 e => by
      rcases ho with ⟨h2, _⟩ | ⟨id2, h2, h3, h4⟩
      · rw [h1] at h2; cases h2
      · rw [h1] at h2
        cases h2
        subst h3
        have := rs.2.1
        rw [e, hfr] at this
        cases this
    have hid : look (appHs o id B') S1.h id = some B' := by
      rw [hlk]
      cases o with
      | none => exact put_same _ _ _
      | some i => exact (put_ne _ _ (Ne.symm (hidne i rfl))).trans (put_same _ _ _)
    have hoth : ∀ i, i ≠ id → look (appHs o id B') S1.h i = none ∨ (look (appHs o id B') S1.h i = S1.h i ∧ o ≠ some i) := fun i hi => by
      rw [hlk]
      cases o with
      | none => exact .inr ⟨put_ne _ _ hi, by simp⟩
      | some i1 =>
        by_cases h1 : i = i1
        · subst h1; exact .inl (put_same _ _ _)
        · exact .inr ⟨(put_ne _ _ h1).trans (put_ne _ _ hi), fun h => h1 (Option.some.inj h).symm⟩
    have holdblk : ∀ i u b, i ≠ id → look (appHs o id B') S1.h i ≠ none → σ i = some u → baseBlk u = some b → some b ≠ (a.eval s).ownBlock ∧ S1.h i ≠ none := fun i u b hi h1 h2 h3 => by
      rcases hoth i hi with h0 | ⟨h0, hoi⟩
      · exact absurd h0 h1
      · rw [h0] at h1
        refine ⟨fun e => ?_, h1⟩
        obtain ⟨id1, g0, g1, g2, g3⟩ := hown b e.symm
        have := R.hp.inj i id1 u _ b h1 g1 h2 g2 h3 g3
        subst this
        exact hoi g0
    have hv'b : ∀ b, baseBlk v' = some b → (a.eval s).ownBlock = some b ∨ b = w.heap.size := fun b hb => by
      rcases r3 with ⟨rfl, _⟩ | ⟨b', cap', cs', rfl, _, _, _, _, _, h⟩
      · cases hb
      · cases hb; exact h
    have hout : ∀ b, out b0 (put σ id (some v')) (look (appHs o id B') S1.h) b → out b0 σ S1.h b ∨ w.heap.size ≤ b := fun b hb => by
      rcases hb with ⟨i, u, h1, h2, h3⟩ | hb
      · by_cases hi : i = id
        · subst hi
          rw [put_same] at h2
          cases h2
          rcases hv'b b h3 with h | h
          · obtain ⟨id1, _, g1, g2, g3⟩ := hown b h
            exact .inl (.inl ⟨id1, _, g1, g2, g3⟩)
          · exact .inr (by omega)
        · rw [put_ne _ _ hi] at h2
          exact .inl (.inl ⟨i, u, (holdblk i u b hi h1 h2 h3).2, h2, h3⟩)
      · exact .inl (.inr hb)
    obtain ⟨H, _, hO⟩ := R.hp.put (id := id) (B' := B') (v' := v') (σ' := put σ id (some v')) (h' := look (appHs o id B') S1.h) (w' := w') hsub hid (put_same _ _ _)
      (fun i hi => (hoth i hi).imp (fun h => h) fun h => h.1) hK
      (fun i u hi => by
        obtain ⟨h1, -⟩ := b0.one i u hi
        have h3 := R.hp.fx i u hi
        rcases hoth i (by omega) with h0 | h0
        · exfalso
          rw [hlk] at h0
          rcases ho with ⟨ho, _⟩ | ⟨id1, ho, hvs, _, hlo⟩
          · subst ho
            exact h3.2 ((put_ne _ _ (by omega)).symm.trans h0)
          · subst ho hvs
            exact h3.2 (((put_ne _ _ (by omega)).trans (put_ne _ _ (by omega))).symm.trans h0)
        · rw [h0.1]; exact h3.2) (fun i hi => put_ne _ _ (by omega))
      (fun i u b hi h1 h2 h3 => by
        obtain ⟨g1, g2⟩ := holdblk i u b hi h1 h2 h3
        exact r2.block b (R.hp.lt ⟨i, u, g2, h2, h3⟩) g1)
      (by
        subst hB'
        rcases r3 with ⟨rfl, h0⟩ | ⟨b', cap', cs', rfl, k1, k2, k3, k4, k5, _⟩
        · exact .inl ⟨rfl, rfl, h0⟩
        · refine .inr ⟨b', cap', cs', .inl ⟨rfl, rfl, k1, k2⟩, k3, k4, fun k hk j hj => ?_⟩
          have hk' : k < n + m := hk
          have hj' : j < e.size := hj
          have hget : cs'[k * e.size + j]? = (xs ++ ys)[k * e.size + j]? := by
            rw [← k5, List.getElem?_take_of_lt (cell_in hk' hj')]; simp
          show ∃ u, cs'[k * e.size + j]? = some u ∧ RepC _ _ w' (appF F n G k j) u
          rw [hget]
          unfold appF
          by_cases hkn : k < n
          · rw [Nat.blt_eq.mpr hkn, List.getElem?_append_left (by rw [hxl]; exact cell_in hkn hj')]
            obtain ⟨v, g1, g2⟩ := hxc k hkn j hj'
            exact ⟨v, g1, g2.keep hK.out hout hsub⟩
          · rw [show Nat.blt k n = false from Bool.eq_false_iff.2 fun h => hkn (Nat.blt_eq.mp h)]
            have hge : n * e.size ≤ k * e.size := Nat.mul_le_mul_right _ (by omega)
            rw [List.getElem?_append_right (by rw [hxl]; omega), hxl]
            obtain ⟨v, g1, g2⟩ := y4 (k - n) (by omega) j hj'
            refine ⟨v, ?_, g2.keep hK.out hout hsub⟩
            rw [← g1, Nat.sub_mul]
            congr 1
            omega)
      (fun b hb => by
        refine ⟨?_, ?_, fun i u hi h1 h2 h3 => ?_⟩
        · rcases hv'b b hb with h | h
          · obtain ⟨id1, _, g1, g2, g3⟩ := hown b h
            exact R.hp.new b ⟨id1, _, g1, g2, g3⟩
          · rw [h]; exact .inl R.ext.size
        · rcases hv'b b hb with h | h
          · obtain ⟨id1, _, g1, g2, g3⟩ := hown b h
            exact .inl ⟨id1, _, g1, g2, g3⟩
          · exact .inr (by omega)
        · obtain ⟨g1, g2⟩ := holdblk i u b hi h1 h2 h3
          rcases hv'b b hb with h | h
          · exact g1 h.symm
          · have := R.hp.lt ⟨i, u, g2, h2, h3⟩
            omega)
    exact ⟨put σ id (some v'), R.step (e := ⟨.c (.ow id), appHs o id B', [id]⟩) (by rw [hA.n]; exact hd) hsub hK H hO (fun _ => by
      rcases r3 with ⟨rfl, _⟩ | ⟨b', cap', cs', rfl, _⟩
      · exact rep_ow (put_same _ _ _)
      · exact rep_ow (put_same _ _ _)) (fun i hi => by
      by_cases e : i = id
      · exact .inr (by simp [e])
      · rw [put_ne _ _ e] at hi; exact .inl hi)⟩) hn
end ops
end
end Go.AV
end

section
namespace Go.AV
open Go Go.RowKit Go.Flow
section
variable {P : Program} {tab : List (TypeId × TD)}
theorem RepV.some_ {σ : Nat → Option Value} {O : Nat → Prop} {w : World} {x : V1} {u : Value} (h : RepV (fun _ => none) O w x u) : RepV σ O w x u :=
  h.keep ⟨rfl, rfl, rfl, Nat.le_refl _, fun _ _ _ => rfl⟩ (fun b hb => .inl hb) fun i v h => (by cases h)
theorem RepA.some_ {σ : Nat → Option Value} {O : Nat → Prop} {w : World} {x : AV} {u : Value} (h : RepA (fun _ => none) O w x u) : RepA σ O w x u :=
  h.keep ⟨rfl, rfl, rfl, Nat.le_refl _, fun _ _ _ => rfl⟩ (fun b hb => .inl hb) fun i v h => (by cases h)
def St.opds (S : St) : List Operand → Option (List V1)
  | [] => some []
  | x :: r => match S.opd x with
    | some (.c y) => match St.opds S r with
      | some m => some (.c y :: m)
      | none => none
    | some (.ag l) => match St.opds S r with
      | some m => some (.ag l :: m)
      | none => none
    | _ => none
theorem opds_congr {S S1 : St} : ∀ {xs : List Operand}, (∀ x ∈ xs, S1.opd x = S.opd x) → S1.opds xs = S.opds xs
  | [], _ => rfl
  | x :: r, h => by unfold St.opds; rw [h x (by simp), opds_congr fun q hq => h q (by simp [hq])]
theorem opds_rep {b0 : Base} {σ : Nat → Option Value} {S1 : St} {a : Act} {w : World} (R : Rel0 b0 σ S1 a w) : ∀ {xs : List Operand} {l : List V1}, S1.opds xs = some l → RepL (RepV σ (out b0 σ S1.h) w) l (xs.map a.eval)
  | [], l, h => by cases h; trivial
  | x :: r, l, h => by
    unfold St.opds at h
    cases hy : S1.opd x with
    | none => rw [hy] at h; cases h
    | some y =>
      rw [hy] at h
      cases hm : S1.opds r with
      | none => cases y <;> simp only [hm] at h <;> cases h
      | some m =>
        cases y with
        | c y => simp only [hm] at h; cases h; exact ⟨opd_rep R hy, opds_rep R hm⟩
        | ag y => simp only [hm] at h; cases h; exact ⟨opd_rep R hy, opds_rep R hm⟩
        | tu y => cases h
theorem strip0 {σ : Nat → Option Value} {O : Nat → Prop} {w : World} {x : V1} {u : Value} (hi : immV x = true) (hx : RepV σ O w x u) : RepV (fun _ => none) O w x u := by
  have one : ∀ {x : CV} {u : Value}, immC x = true → RepC σ O w x u → RepC (fun _ => none) O w x u := fun hi hx => repC_imm hi hx.1 (repI_imm hi hx)
  cases x with
  | c x => exact one hi hx
  | ag l =>
    obtain ⟨vs, e, hl⟩ := hx
    refine ⟨vs, e, RepL.of_get hl.length fun i x v h1 h2 => ?_⟩
    obtain ⟨v', e1, e2⟩ := hl.get h1
    rw [h2] at e1
    cases e1
    exact one (List.all_eq_true.1 hi _ (List.mem_of_getElem? h1)) e2
/-- A call at these values, wherever they lie. -/
theorem ACalls.at {f : FuncId} {args : List V1} {r : AV} (h : ACalls P f args r) {b0 : Base} {σ : Nat → Option Value} {S : St} {a : Act} {w : World} (R : Rel0 b0 σ S a w) {vals : List Value} (hv : RepL (RepV σ (out b0 σ S.h) w) args vals) (hi : args.all immV = true) :
    Calls P f vals.toArray w fun e w' => ∃ v, e = .returned v ∧ RepA σ (out b0 σ S.h) w' r v ∧ Ext w w' := by
  have hO : ∀ b, out ⟨w, out b0 σ S.h, fun _ => False, fun _ => none, fun b hb => own_lt R hb, fun b hb => hb.elim, fun b _ h => h, fun i v h => (by cases h), fun _ _ => False, fun _ _ _ => True, none, fun _ _ h => h.elim, fun _ _ _ _ _ _ _ _ => trivial⟩ (fun _ => none) (assoc []) b ↔ out b0 σ S.h b := fun b => ⟨fun hb => hb.elim (fun ⟨i, v, h1, _⟩ => absurd rfl h1) fun h => h, fun hb => .inr hb⟩
  refine (h ⟨w, out b0 σ S.h, fun _ => False, fun _ => none, fun b hb => own_lt R hb, fun b hb => hb.elim, fun b _ h => h, fun i v h => (by cases h), fun _ _ => False, fun _ _ _ => True, none, fun _ _ h => h.elim, fun _ _ _ _ _ _ _ _ => trivial⟩ vals
    ⟨fun i B hB => (by cases hB), fun i j v1 v2 b hi => absurd rfl hi, fun b ⟨i, v, h1, _⟩ => absurd rfl h1, fun i v h => (by cases h), fun _ _ _ => rfl⟩ (fun i v h => by cases h) (fun b hb => hb.elim)
    (RepL.of_get hv.length fun i x v h1 h2 => by
      obtain ⟨v', e1, e2⟩ := hv.get h1
      rw [h2] at e1
      cases e1
      exact (strip0 (List.all_eq_true.1 hi _ (List.mem_of_getElem? h1)) e2).keep ⟨rfl, rfl, rfl, Nat.le_refl _, fun _ _ _ => rfl⟩ (fun b hb => .inl ((hO b).1 hb)) fun _ _ h => h)).mono fun e w' ⟨v, h1, h2, h3, h4⟩ => ⟨v, h1, ?_, ⟨h4.os, h4.tape, h4.output, h4.size, fun k hk => h4.block k hk fun h => h⟩⟩
  exact (h2.keep ⟨rfl, rfl, rfl, Nat.le_refl _, fun _ _ _ => rfl⟩ (fun b hb => .inl ((hO b).2 hb)) fun _ _ h => h).some_

section ops
variable {ops : Array Oper} {rest : List Oper} {acc : List (List Nat × List Nat)} {S : St} {Q : List (List Nat × List Nat) → St → Prop} {dst : Option Tmp} {ty : TypeId} {pos : String} {after : Array Edge} {guard : Option (Nat × Bool)}
theorem AList.call {f : FuncId} {fn : Func} {xs : Array Operand} {ats : Array TypeId} {args : List V1} {r : AV} (hw : S.wants ops { dst, op := .call { callee := .value (.func f), args := xs, argTypes := ats }, type := ty, pos, after, guard } = some true) (hd : dOk S.n dst = true)
    (ha : S.opds xs.toList = some args) (hi : args.all immV = true) (hf : P.funcs[f]? = some fn) (hb : fn.body.isNone = false) (hnm : (fn.name == "runtime.NumGoroutine") = false) (hc : ACalls P f args r)
    (hn : AList P ops rest (([], []) :: acc) (S.eff dst ⟨r, [], []⟩) Q) : AList P ops ({ dst, op := .call { callee := .value (.func f), args := xs, argTypes := ats }, type := ty, pos, after, guard } :: rest) acc S Q :=
  AList.ext [] _ hw hd (fun S1 h1 _ b0 σ a w R => by
    have h2 : S1.opds xs.toList = some args := (opds_congr fun x hx => h1 x (by simp only [Op.operands, Call.operands]; simp; exact .inr (by simpa using hx))).trans ha
    have := hc.at R (opds_rep R h2) hi
    rw [run_callf f fn hf hb hnm #[] #[] rfl w]
    simp only [Goes]
    rw [show (#[] ++ xs.map a.eval ++ #[] : Array Value) = (xs.toList.map a.eval).toArray from Array.ext' (by simp)]
    exact this.mono fun e w' ⟨v, g1, g2, g3⟩ => ⟨v, g1, g2, g3⟩) hn
variable {x y : Operand} {xt yt : TypeId} {i j : Int}
theorem AList.add (hw : S.wants ops { dst, op := .binOp .add xt x y yt, type := ty, pos, after, guard } = some true) (hd : dOk S.n dst = true) (hx : S.opd x = some (.c (.p (.int .i64 i)))) (hy : S.opd y = some (.c (.p (.int .i64 j)))) (h1 : -9223372036854775808 ≤ i + j) (h2 : i + j ≤ 9223372036854775807)
    (hn : AList P ops rest (([], []) :: acc) (S.eff dst ⟨.c (.p (.int .i64 (i + j))), [], []⟩) Q) : AList P ops ({ dst, op := .binOp .add xt x y yt, type := ty, pos, after, guard } :: rest) acc S Q :=
  AList.bin hw hd hx hy rfl (fun w => by rw [← show IntKind.i64.wrap (i + j) = i + j by rw [IntKind.wrap_i64]; omega]; rfl) rfl hn
theorem AList.nil (h : Q acc.reverse S) : AList P ops [] acc S Q := ⟨h⟩
end ops
section code
variable {next : St → Prop} {Q : Exit → St → Prop} {S : St} {id k : Nat}
/-- A loop: I tells the state, p what holds of its index. -/
theorem AWp.round {ι : Type} {c : Code} (I : ι → St) (p : ι → Prop) (μ : ι → Nat) (i0 : ι) (hp : p i0) (h0 : Wk S (I i0))
    (hr : ∀ i, p i → AWp P c (thenA (fun S' => ∃ j, p j ∧ Wk S' (I j) ∧ μ j < μ i) Q) (I i)) : AWp P (.loop c) Q S :=
  AWp.loop (ι := { i // p i }) (fun i => I i.1) (fun i => μ i.1) ⟨i0, hp⟩ h0 fun i => (hr i.1 i.2).mono fun e S' h => by
    cases e with
    | normal => obtain ⟨j, h1, h2, h3⟩ := h; exact ⟨⟨j, h1⟩, h2, h3⟩
    | _ => exact h
theorem LeA.int {h : Nat → Option AB} {ren : List (Nat × Option Nat)} {k : IntKind} {i j : Int} (e : i = j) : LeA h ren (.c (.p (.int k i))) (.c (.p (.int k j))) := e ▸ .c (.refl _ rfl)
theorem LeC.int {h : Nat → Option AB} {ren : List (Nat × Option Nat)} {k : IntKind} {i j : Int} (e : i = j) : LeC h ren (.p (.int k i)) (.p (.int k j)) := e ▸ .refl _ rfl
theorem LeC.eq {h : Nat → Option AB} {ren : List (Nat × Option Nat)} {x y : CV} (e : x = y) (hx : immC x = true) : LeC h ren x y := e ▸ .refl _ hx
theorem HeapOk.row {S : St} {ren : List (Nat × Option Nat)} {id o n n' sz : Nat} {ty : TypeId} {F G : Nat → Nat → CV} (hr : assoc ren id = some (some o)) (hh : S.h o = some ⟨true, n, sz, ty, F⟩) (hn : n' = n) (hc : ∀ k, k < n → ∀ j, j < sz → F k j = G k j ∧ immC (F k j) = true) :
    HeapOk S ren id ⟨true, n', sz, ty, G⟩ := .inr ⟨o, n, F, .inl hr, hn, hh, fun k hk j hj => LeC.eq (hc k hk j hj).1 (hc k hk j hj).2⟩
theorem cells_box {h : Nat → Option AB} {ren : List (Nat × Option Nat)} {sz : Nat} {F : Nat → Nat → CV} {l : List CV} (hc : cellsFrom (F 0) 0 sz = l) (hi : l.all immC = true) : ∀ k, k < 1 → ∀ j, j < sz → LeC h ren (F k j) (lF l k j) := fun k hk j hj => by
  obtain rfl : k = 0 := by omega
  have h1 := cellsFrom_get (F 0) sz 0 j hj
  rw [Nat.zero_add, hc] at h1
  have hlt := (List.getElem?_eq_some_iff.1 h1).1
  have h2 : lF l 0 j = F 0 j := by unfold lF; rw [List.getD, h1]; rfl
  rw [h2]
  exact .refl _ (List.all_eq_true.1 hi _ (List.mem_of_getElem? h1))
/-- A box of plain cells. -/
theorem HeapOk.same {S : St} {ren : List (Nat × Option Nat)} {id o sz : Nat} {ty : TypeId} {F : Nat → Nat → CV} {l : List CV} (hr : assoc ren id = some (some o)) (hh : S.h o = some ⟨false, 1, sz, ty, F⟩) (hc : cellsFrom (F 0) 0 sz = l) (hi : l.all immC = true) :
    HeapOk S ren id ⟨false, 1, sz, ty, lF l⟩ := .inr ⟨o, 1, F, .inl hr, rfl, hh, cells_box hc hi⟩
theorem HeapOk.nil {S : St} {ren : List (Nat × Option Nat)} {id n sz : Nat} {ty : TypeId} {F : Nat → Nat → CV} (hr : assoc ren id = some none) (hn : n = 0) : HeapOk S ren id ⟨true, n, sz, ty, F⟩ := .inl ⟨hr, rfl, hn⟩
end code
end
end Go.AV
end

section
namespace Go.AV
open Go Go.RowKit Go.Flow
section
variable {P : Program}
def posOf : List Nat → Nat → Option Nat
  | [], _ => none
  | a :: l, id => bif Nat.beq a id then some 0 else match posOf l id with
    | some i => some (i + 1)
    | none => none
theorem posOf_at : ∀ {l : List Nat} {id i : Nat}, posOf l id = some i → l[i]? = some id
  | a :: l, id, i, h => by
    unfold posOf at h
    cases hb : Nat.beq a id with
    | true =>
      rw [hb] at h
      cases h
      rw [Nat.eq_of_beq_eq_true hb]
      rfl
    | false =>
      rw [hb] at h
      simp only [cond_false] at h
      cases hp : posOf l id with
      | none => rw [hp] at h; cases h
      | some j =>
        rw [hp] at h
        cases h
        simpa using posOf_at hp
/-- The caller's ids, lent. -/
def lendB (ids : List Nat) : CV → CV
  | .pt id sz k j => match posOf ids id with
    | some i => .pt (1000 + i) sz k j
    | none => .any
  | .ow id => match posOf ids id with
    | some i => .ow (1000 + i)
    | none => .any
  | .fn .. => .any
  | x => x
def lendC (ids : List Nat) : CV → CV
  | .fn f m C => .fn f m fun i => lendB ids (C i)
  | x => lendB ids x
def lendV (ids : List Nat) : V1 → V1
  | .c x => .c (lendC ids x)
  | .ag l => .ag (l.map (lendC ids))
def lentL : Nat → List AB → List (Nat × AB)
  | _, [] => []
  | i, B :: bs => (1000 + i, B) :: lentL (i + 1) bs
theorem lentL_at : ∀ {bs : List AB} {n i : Nat}, assoc (lentL n bs) i = if 1000 + n ≤ i then bs[i - (1000 + n)]? else none
  | [], n, i => by simp [lentL, assoc]
  | B :: bs, n, i => by
    unfold lentL assoc
    cases hb : Nat.beq i (1000 + n) with
    | true =>
      have := Nat.eq_of_beq_eq_true hb
      subst this
      simp
    | false =>
      have hne : i ≠ 1000 + n := fun e => by rw [e, Nat.beq_refl] at hb; cases hb
      simp only [cond_false]
      rw [lentL_at]
      by_cases h : 1000 + (n + 1) ≤ i
      · rw [if_pos h, if_pos (by omega), show i - (1000 + n) = (i - (1000 + (n + 1))) + 1 by omega, List.getElem?_cons_succ]
      · rw [if_neg h, if_neg (by omega)]
theorem lentL_length : ∀ {bs : List AB} {n : Nat}, (lentL n bs).length = bs.length
  | [], _ => rfl
  | _ :: bs, n => by simp [lentL, lentL_length (bs := bs)]
def LendOk (S : St) : List Nat → List AB → Prop
  | [], [] => True
  | id :: ids, B :: bs => (∃ F, S.h id = some ⟨B.row, B.n, B.sz, B.ty, F⟩ ∧ (B.row = true → 0 < B.n) ∧ ∀ k, k < B.n → ∀ j, j < B.sz → F k j = B.F k j ∧ immC (B.F k j) = true) ∧ LendOk S ids bs
  | _, _ => False
theorem lendOk_at {S : St} : ∀ {ids : List Nat} {bs : List AB}, LendOk S ids bs → ids.length = bs.length ∧ ∀ (i id : Nat), ids[i]? = some id → ∃ B F, bs[i]? = some B ∧ S.h id = some ⟨B.row, B.n, B.sz, B.ty, F⟩ ∧ (B.row = true → 0 < B.n) ∧ ∀ k, k < B.n → ∀ j, j < B.sz → F k j = B.F k j ∧ immC (B.F k j) = true
  | [], [], _ => ⟨rfl, fun i id h => by simp at h⟩
  | id :: ids, B :: bs, h => by
    obtain ⟨h1, h2⟩ := lendOk_at h.2
    refine ⟨by simp [h1], fun i id' hi => ?_⟩
    cases i with
    | zero => cases hi; obtain ⟨F, hF⟩ := h.1; exact ⟨B, F, rfl, hF⟩
    | succ i => simpa using h2 i id' (by simpa using hi)
  | [], _ :: _, h => h.elim
  | _ :: _, [], h => h.elim
def LendImm : List AB → Prop
  | [] => True
  | B :: bs => (∀ k, k < B.n → ∀ j, j < B.sz → immC (B.F k j) = true) ∧ LendImm bs
theorem lendImm_at : ∀ {bs : List AB}, LendImm bs → ∀ (i : Nat) (B : AB), bs[i]? = some B → ∀ k, k < B.n → ∀ j, j < B.sz → immC (B.F k j) = true
  | B :: bs, h, 0, B', hi => by cases hi; exact h.1
  | B :: bs, h, i + 1, B', hi => lendImm_at h.2 i B' (by simpa using hi)
def nodupB : List Nat → Bool
  | [] => true
  | a :: l => !(l.any (Nat.beq a)) && nodupB l
theorem nodupB_inj : ∀ {l : List Nat}, nodupB l = true → ∀ {i j x : Nat}, l[i]? = some x → l[j]? = some x → i = j
  | a :: l, h, i, j, x, hi, hj => by
    unfold nodupB at h
    rw [Bool.and_eq_true, Bool.not_eq_true'] at h
    have no : ∀ k, l[k]? = some a → False := fun k hk => by
      have : l.any (Nat.beq a) = true := List.any_eq_true.2 ⟨a, List.mem_of_getElem? hk, Nat.beq_refl a⟩
      rw [this] at h
      cases h.1
    cases i with
    | zero =>
      cases j with
      | zero => rfl
      | succ j =>
        cases hi
        exact (no j (by simpa using hj)).elim
    | succ i =>
      cases j with
      | zero =>
        cases hj
        exact (no i (by simpa using hi)).elim
      | succ j => rw [nodupB_inj h.2 (by simpa using hi : l[i]? = some x) (by simpa using hj)]
def zipW : List Nat → List AB → List (Nat × Option AB)
  | id :: ids, B :: bs => (id, some B) :: zipW ids bs
  | _, _ => []
theorem zipW_in : ∀ {ids : List Nat} {bs : List AB}, ids.length = bs.length → nodupB ids = true → ∀ (i id : Nat) (B : AB) (h : Nat → Option AB), ids[i]? = some id → bs[i]? = some B → look (zipW ids bs) h id = some B
  | id :: ids, B :: bs, hl, hn, i, id', B', h, hi, hB => by
    show put (look (zipW ids bs) h) id (some B) id' = some B'
    cases i with
    | zero => cases hi; cases hB; exact put_same _ _ _
    | succ i =>
      have hne : id' ≠ id := fun e => by
        have := nodupB_inj hn (i := i + 1) (j := 0) (x := id') hi (by rw [e]; rfl)
        omega
      rw [put_ne _ _ hne]
      unfold nodupB at hn
      rw [Bool.and_eq_true] at hn
      exact zipW_in (by simpa using hl) hn.2 i id' B' h (by simpa using hi) (by simpa using hB)
theorem zipW_out : ∀ {ids : List Nat} {bs : List AB} (id : Nat) (h : Nat → Option AB), id ∉ ids → look (zipW ids bs) h id = h id
  | id' :: ids, B :: bs, id, h, hn => by
    show put (look (zipW ids bs) h) id' (some B) id = h id
    simp only [List.mem_cons, not_or] at hn
    rw [put_ne _ _ hn.1]
    exact zipW_out id h hn.2
  | [], _, _, _, _ => by cases ‹List AB› <;> rfl
  | _ :: _, [], _, _, _ => rfl

theorem HCalls.at {f : FuncId} {args : List V1} {ids : List Nat} {bs bs' : List AB} {r : AV} {b0 : Base} {σ : Nat → Option Value} {S : St} {a : Act} {w : World} {dst : Option Tmp} (h : HCalls P f (args.map (lendV ids)) (lentL 0 bs) r (lentL 0 bs')) (R : Rel0 b0 σ S a w) (hd : dOk S.n dst = true)
    {vals : List Value} (hv : RepL (RepV σ (out b0 σ S.h) w) args vals) (hL : LendOk S ids bs) (hnd : nodupB ids = true) (hlen : bs'.length = bs.length) (hI : LendImm bs') :
    Calls P f vals.toArray w fun e w' => ∃ v, e = .returned v ∧ Rel b0 (S.eff dst ⟨r, zipW ids bs', []⟩) (a.put dst v) w' := by
  obtain ⟨hl, hat⟩ := lendOk_at hL
  have hσ : ∀ (i id : Nat), ids[i]? = some id → ∃ v b, σ id = some v ∧ baseBlk v = some b := fun i id hi => by
    obtain ⟨B, F, _, h2, h3, _⟩ := hat i id hi
    obtain ⟨v, e1, e2⟩ := R.hp.blk id _ h2
    rcases e2 with ⟨g0, _, g⟩ | ⟨b, cap, cs, g1, _⟩
    · have := h3 g0
      have : B.n = 0 := g
      omega
    · exact ⟨v, b, e1, g1.blk⟩
  let fix : Nat → Option Value := fun i => if 1000 ≤ i then (ids[i - 1000]?).bind σ else none
  have hfix : ∀ {i : Nat} {v : Value}, fix i = some v → 1000 ≤ i ∧ ∃ id, ids[i - 1000]? = some id ∧ σ id = some v := fun {i v} h => by
    simp only [fix] at h
    split at h
    · rename_i h1
      obtain ⟨id, e1, e2⟩ := Option.bind_eq_some_iff.1 h
      exact ⟨h1, id, e1, e2⟩
    · cases h
  have fixi : ∀ {i id : Nat}, ids[i]? = some id → fix (1000 + i) = σ id := fun {i id} hi => by
    simp only [fix]
    rw [if_pos (by omega), show 1000 + i - 1000 = i by omega, hi]
    rfl
  let Y : Nat → Prop := fun b => ∃ i v, fix i = some v ∧ baseBlk v = some b
  have hYo : ∀ b, Y b → own σ S.h b := fun b ⟨i, v, h1, h2⟩ => by
    obtain ⟨_, id, e1, e2⟩ := hfix h1
    obtain ⟨B, F, _, h3, _⟩ := hat _ id e1
    exact ⟨id, v, by rw [h3]; simp, e2, h2⟩
  let b1 : Base := ⟨w, fun b => out b0 σ S.h b ∧ ¬ Y b, Y, fix, fun b hb => own_lt R hb.1, fun b hb => own_lt R (.inl (hYo b hb)), fun b hb => hb.2, fun i v hi => by
    obtain ⟨h1, id, e1, e2⟩ := hfix hi
    obtain ⟨v', b, e3, e4⟩ := hσ _ id e1
    rw [e2] at e3
    cases e3
    exact ⟨h1, b, e4⟩, fun _ _ => False, fun _ _ _ => True, none, fun _ _ h => h.elim, fun _ _ _ _ _ _ _ _ => trivial⟩
  have dom : ∀ {bs : List AB} {i : Nat}, bs.length = ids.length → assoc (lentL 0 bs) i ≠ none → ∃ k id, i = 1000 + k ∧ ids[k]? = some id ∧ bs[k]? = assoc (lentL 0 bs) i := fun {bs i} hbl hi => by
    rw [lentL_at] at hi ⊢
    by_cases h1 : 1000 + 0 ≤ i
    · rw [if_pos h1] at hi ⊢
      have hlt : i - (1000 + 0) < bs.length := Nat.lt_of_not_le fun hge => hi (List.getElem?_eq_none hge)
      exact ⟨i - (1000 + 0), ids[i - (1000 + 0)]'(by omega), by omega, List.getElem?_eq_getElem _, rfl⟩
    · rw [if_neg h1] at hi
      exact absurd rfl hi
  have ownY : ∀ {bs : List AB}, bs.length = ids.length → ∀ b, own fix (assoc (lentL 0 bs)) b ↔ Y b := fun {bs} hbl b => ⟨fun ⟨i, v, _, h2, h3⟩ => ⟨i, v, h2, h3⟩, fun ⟨i, v, h2, h3⟩ => by
    obtain ⟨h1, id, e1, e2⟩ := hfix h2
    refine ⟨i, v, ?_, h2, h3⟩
    rw [lentL_at, if_pos (by omega)]
    have := (List.getElem?_eq_some_iff.1 e1).1
    rw [List.getElem?_eq_getElem (by omega)]
    simp⟩
  have outs : ∀ {bs : List AB}, bs.length = ids.length → ∀ b, out b1 fix (assoc (lentL 0 bs)) b ↔ out b0 σ S.h b := fun {bs} hbl b => by
    constructor
    · rintro (h | h)
      · exact .inl (hYo b ((ownY hbl b).1 h))
      · exact h.1
    · intro h
      by_cases hy : Y b
      · exact .inl ((ownY hbl b).2 hy)
      · exact .inr ⟨h, hy⟩
  have toB : ∀ {x : CV} {u : Value}, RepB σ (out b0 σ S.h) w x u → RepB fix (out b1 fix (assoc (lentL 0 bs))) w (lendB ids x) u := fun {x u} hx => by
    cases x with
    | pt id sz k j =>
      obtain ⟨v, b, e1, e2, e3⟩ := hx
      simp only [lendB]
      cases hp : posOf ids id with
      | none => exact trivial
      | some i => exact ⟨v, b, (fixi (posOf_at hp)).trans e1, e2, e3⟩
    | ow id =>
      obtain ⟨e1, e2⟩ := hx
      simp only [lendB]
      cases hp : posOf ids id with
      | none => exact trivial
      | some i => exact ⟨(fixi (posOf_at hp)).trans e1, e2⟩
    | fn f m C => exact trivial
    | _ => exact RepI.less (fun b hb => (outs hl.symm b).1 hb) hx
  have toC : ∀ {x : CV} {u : Value}, RepC σ (out b0 σ S.h) w x u → RepC fix (out b1 fix (assoc (lentL 0 bs))) w (lendC ids x) u := fun {x u} hx => by
    cases x with
    | fn f m C =>
      obtain ⟨g0, vs, g1, g2, g3⟩ := hx
      refine ⟨g0, vs, g1, g2, fun i hi => ?_⟩
      obtain ⟨v, k1, k2, k3⟩ := g3 i hi
      exact ⟨v, k1, k2, toB k3⟩
    | pt id sz k j =>
      have h2 := toB hx.2
      refine ⟨hx.1, ?_⟩
      show match lendB ids (.pt id sz k j) with | .fn f m C => _ | x => RepB fix _ w x u
      simp only [lendB] at h2 ⊢
      cases hp : posOf ids id <;> rw [hp] at h2 <;> exact h2
    | ow id =>
      have h2 := toB hx.2
      refine ⟨hx.1, ?_⟩
      show match lendB ids (.ow id) with | .fn f m C => _ | x => RepB fix _ w x u
      simp only [lendB] at h2 ⊢
      cases hp : posOf ids id <;> rw [hp] at h2 <;> exact h2
    | _ => exact ⟨hx.1, toB hx.2⟩
  have H1 : HRel b1 fix (assoc (lentL 0 bs)) w := by
    refine ⟨fun i B hB => ?_, fun i j v1 v2 b hi hj h1 h2 e1 e2 => ?_, fun b hb => .inr ((ownY hl.symm b).1 hb), fun i v hi => ⟨hi, ?_⟩, fun i _ hi => hi⟩
    · obtain ⟨k, id, rfl, e1, e2⟩ := dom hl.symm (by rw [hB]; simp : assoc (lentL 0 bs) i ≠ none)
      obtain ⟨B', F, g1, g2, g3, g4⟩ := hat k id e1
      rw [hB, g1] at e2
      cases e2
      obtain ⟨v, k1, k2⟩ := R.hp.blk id _ g2
      refine ⟨v, (fixi e1).trans k1, ?_⟩
      rcases k2 with ⟨h0, _, h5⟩ | ⟨b, cap, cs, m1, m2, m3, m4⟩
      · have := g3 h0
        have : B.n = 0 := h5
        omega
      · refine .inr ⟨b, cap, cs, m1, m2, m3, fun k' hk' j hj => ?_⟩
        · obtain ⟨u, n1, n2⟩ := m4 k' hk' j hj
          obtain ⟨hFe, him⟩ := g4 k' hk' j hj
          simp only [hFe] at n2
          exact ⟨u, n1, repC_imm him n2.1 ((repI_imm him n2).less fun b hb => (outs hl.symm b).1 hb)⟩
    · obtain ⟨h1', id1, a1, a2⟩ := hfix h1
      obtain ⟨h2', id2, c1, c2⟩ := hfix h2
      obtain ⟨B1, F1, _, d1, _⟩ := hat _ id1 a1
      obtain ⟨B2, F2, _, d2, _⟩ := hat _ id2 c1
      have := R.hp.inj id1 id2 v1 v2 b (by rw [d1]; simp) (by rw [d2]; simp) a2 c2 e1 e2
      subst this
      have := nodupB_inj hnd a1 c1
      omega
    · obtain ⟨h1', id1, a1, a2⟩ := hfix hi
      rw [lentL_at, if_pos (by omega)]
      have := (List.getElem?_eq_some_iff.1 a1).1
      rw [List.getElem?_eq_getElem (by omega)]
      simp
  refine (h b1 vals H1 (fun i v hi => by
      obtain ⟨h1', id1, a1, a2⟩ := hfix hi
      have := (List.getElem?_eq_some_iff.1 a1).1
      rw [lentL_length]
      omega) (fun b hb => (ownY hl.symm b).2 hb) ?_).mono fun e w' ⟨v, g1, g2, g3, g4⟩ => ⟨v, g1, ?_⟩
  · refine RepL.of_get (by rw [List.length_map, hv.length]) fun i x u e1 e2 => ?_
    rw [List.getElem?_map, Option.map_eq_some_iff] at e1
    obtain ⟨y, e3, rfl⟩ := e1
    obtain ⟨u', e4, e5⟩ := hv.get e3
    rw [e2] at e4
    cases e4
    cases y with
    | c y => exact toC e5
    | ag l =>
      obtain ⟨vs, rfl, hvs⟩ := e5
      refine ⟨vs, rfl, RepL.of_get (by rw [List.length_map, hvs.length]) fun i x u e1 e2 => ?_⟩
      rw [List.getElem?_map, Option.map_eq_some_iff] at e1
      obtain ⟨y, e3, rfl⟩ := e1
      obtain ⟨u', e4, e5⟩ := hvs.get e3
      rw [e2] at e4
      cases e4
      exact toC e5
  · have hbl' : bs'.length = ids.length := hlen.trans hl.symm
    have hK : Keep (own σ S.h) w w' := ⟨g4.os, g4.tape, g4.output, g4.size, fun k hk hno => g4.block k hk fun hy => hno (hYo k hy)⟩
    have hlook : ∀ i, (∃ k id B, ids[k]? = some id ∧ bs'[k]? = some B ∧ i = id ∧ look (zipW ids bs') S.h i = some B) ∨ (i ∉ ids ∧ look (zipW ids bs') S.h i = S.h i) := fun i => by
      by_cases hm : i ∈ ids
      · obtain ⟨k, hk, rfl⟩ := List.getElem_of_mem hm
        have e1 : ids[k]? = some ids[k] := List.getElem?_eq_getElem hk
        have e2 : bs'[k]? = some (bs'[k]'(by omega)) := List.getElem?_eq_getElem _
        exact .inl ⟨k, _, _, e1, e2, rfl, zipW_in hbl'.symm hnd k _ _ S.h e1 e2⟩
      · exact .inr ⟨hm, zipW_out i S.h hm⟩
    have hne : ∀ i, look (zipW ids bs') S.h i ≠ none ↔ S.h i ≠ none := fun i => by
      rcases hlook i with ⟨k, id, B, e1, e2, rfl, e3⟩ | ⟨_, e⟩
      · obtain ⟨B', F', _, d1, _⟩ := hat k i e1
        rw [e3, d1]
        simp
      · rw [e]
    have hown : ∀ b, own σ (look (zipW ids bs') S.h) b ↔ own σ S.h b := fun b => ⟨fun ⟨i, v, h1, h2, h3⟩ => ⟨i, v, (hne i).1 h1, h2, h3⟩, fun ⟨i, v, h1, h2, h3⟩ => ⟨i, v, (hne i).2 h1, h2, h3⟩⟩
    have hout : ∀ b, out b0 σ (look (zipW ids bs') S.h) b ↔ out b0 σ S.h b := fun b => or_congr (hown b) Iff.rfl
    have H' : HRel b0 σ (look (zipW ids bs') S.h) w' := by
      refine ⟨fun i B hB => ?_, fun i j v1 v2 b hi hj => R.hp.inj i j v1 v2 b ((hne i).1 hi) ((hne j).1 hj), fun b hb => R.hp.new b ((hown b).1 hb), fun i v hi => ⟨(R.hp.fx i v hi).1, (hne i).2 (R.hp.fx i v hi).2⟩, R.hp.big⟩
      rcases hlook i with ⟨k, id, B', e1, e2, rfl, e3⟩ | ⟨hni, e⟩
      · rw [e3] at hB
        cases hB
        have hB1 : assoc (lentL 0 bs') (1000 + k) = some B := by rw [lentL_at, if_pos (by omega), show 1000 + k - (1000 + 0) = k by omega]; exact e2
        obtain ⟨v, k1, k2⟩ := g3.blk (1000 + k) B hB1
        refine ⟨v, (fixi e1).symm.trans k1, ?_⟩
        rcases k2 with h0 | ⟨b, cap, cs, m1, m2, m3, m4⟩
        · exact .inl h0
        · refine .inr ⟨b, cap, cs, m1, m2, m3, fun k' hk' j hj => ?_⟩
          obtain ⟨u, n1, n2⟩ := m4 k' hk' j hj
          have him := lendImm_at hI k B e2 k' hk' j hj
          exact ⟨u, n1, repC_imm him n2.1 ((repI_imm him n2).less fun b hb => (outs hbl' b).2 ((hout b).1 hb))⟩
      · rw [e] at hB
        obtain ⟨v, k1, k2⟩ := R.hp.blk i B hB
        refine ⟨v, k1, k2.keep hK.out (fun b hb => .inl ((hout b).1 hb)) (fun _ _ h => h) fun b hb => ?_⟩
        have hbo : own σ S.h b := ⟨i, v, by rw [hB]; simp, k1, hb⟩
        exact g4.block b (R.hp.lt hbo) fun ⟨j, u, h1, h2⟩ => by
          obtain ⟨_, id, a1, a2⟩ := hfix h1
          obtain ⟨B2, F2, _, d2, _⟩ := hat _ id a1
          have := R.hp.inj i id v u b (by rw [hB]; simp) (by rw [d2]; simp) k1 a2 hb h2
          subst this
          exact hni (List.mem_of_getElem? a1)
    exact ⟨σ, R.step (e := ⟨r, zipW ids bs', []⟩) hd (fun _ _ h => h) hK H' (fun b hb => .inl ((hout b).1 hb)) (fun _ => (g2.keep ⟨rfl, rfl, rfl, Nat.le_refl _, fun _ _ _ => rfl⟩ (fun b hb => .inl ((outs hl.symm b).2 ((hout b).1 hb))) fun _ _ h => h).some_) fun i h => .inl h⟩
theorem LendOk.row {S : St} {id n sz : Nat} {ty : TypeId} {F G : Nat → Nat → CV} {ids : List Nat} {bs : List AB} (hh : S.h id = some ⟨true, n, sz, ty, F⟩) (hn : 0 < n) (hc : ∀ k, k < n → ∀ j, j < sz → F k j = G k j ∧ immC (G k j) = true) (hr : LendOk S ids bs) : LendOk S (id :: ids) (⟨true, n, sz, ty, G⟩ :: bs) :=
  ⟨⟨F, hh, fun _ => hn, hc⟩, hr⟩
theorem LendImm.row {n sz : Nat} {ty : TypeId} {G : Nat → Nat → CV} {bs : List AB} (hc : ∀ k, k < n → ∀ j, j < sz → immC (G k j) = true) (hr : LendImm bs) : LendImm (⟨true, n, sz, ty, G⟩ :: bs) := ⟨hc, hr⟩
section ops
variable {ops : Array Oper} {rest : List Oper} {acc : List (List Nat × List Nat)} {S : St} {Q : List (List Nat × List Nat) → St → Prop} {dst : Option Tmp} {ty : TypeId} {pos : String} {after : Array Edge} {guard : Option (Nat × Bool)}
end ops
end
end Go.AV
end

section
namespace Go.AV
open Go Go.RowKit Go.Flow
section
variable {P : Program}
/-- Some value that R tells of is returned. -/
def ECalls (P : Program) (f : FuncId) (args : List V1) (R : AV → Prop) : Prop :=
  ∀ (O : Nat → Prop) (w : World) (vals : List Value), (∀ b, O b → b < w.heap.size) → RepL (RepV (fun _ => none) O w) args vals → Calls P f vals.toArray w fun e w' => ∃ v r, e = .returned v ∧ R r ∧ RepA (fun _ => none) O w' r v ∧ Ext w w'
structure AText (P : Program) (ops : Array Oper) (l : List Oper) (S : St) (Q : St → Prop) : Prop where
  get : ∀ rd b0 a w (K : Exit → Act → World → Prop), Rel b0 S a w → (∀ S a w, Rel b0 S a w → Q S → K .normal a w) → wpListIn (fnc rd) 0 P ops K l a w
theorem AText.all {ops : Array Oper} {l : List Oper} {S : St} {Q : St → Prop} (h : AList P ops l [] S (fun _ S1 => Q S1)) : AText P ops l S Q := ⟨fun rd b0 a w K hR hK => wpList_of_alist (QS := fun _ S1 => Q S1) l [] S a w h.get hR fun _ S a w h1 h2 => hK S a w h2 h1⟩
section ops
variable {ops : Array Oper} {rest : List Oper} {S : St} {Q : St → Prop} {dst : Option Tmp} {ty : TypeId} {pos : String} {after : Array Edge} {guard : Option (Nat × Bool)}
end ops
end
end Go.AV
end

section
namespace Go.AV
open Go Go.RowKit Go.Flow
section
variable {P : Program}
theorem ECalls.of {f : FuncId} {args : List V1} {r : AV} (h : ACalls P f args r) : ECalls P f args (fun x => x = r) := fun O w vals hO hv => by
  let b0 : Base := ⟨w, O, fun _ => False, fun _ => none, hO, fun b hb => hb.elim, fun b _ h => h, fun i v h => (by cases h), fun _ _ => False, fun _ _ _ => True, none, fun _ _ h => h.elim, fun _ _ _ _ _ _ _ _ => trivial⟩
  have hO' : ∀ b, O b → out b0 (fun _ => none) (assoc []) b := fun b hb => .inr hb
  have hO2 : ∀ b, out b0 (fun _ => none) (assoc []) b → O b := fun b hb => hb.elim (fun ⟨i, v, h1, _⟩ => absurd rfl h1) fun h => h
  have he : out b0 (fun _ => none) (assoc []) = O := funext fun b => propext ⟨hO2 b, hO' b⟩
  refine (h b0 vals ⟨fun i B hB => (by cases hB), fun i j v1 v2 b hi => absurd rfl hi, fun b ⟨i, v, h1, _⟩ => absurd rfl h1, fun i v hi => (by cases hi), fun _ _ _ => rfl⟩ (fun i v h => by cases h) (fun b h => h.elim) (by rw [he]; exact hv)).mono fun e w' ⟨v, g1, g2, _, g4⟩ => ⟨v, r, g1, rfl, by rw [he] at g2; exact g2, g4.os, g4.tape, g4.output, g4.size, fun k hk => g4.block k hk fun h => h⟩
section ops
variable {ops : Array Oper} {rest : List Oper} {acc : List (List Nat × List Nat)} {S : St} {Q : List (List Nat × List Nat) → St → Prop} {dst : Option Tmp} {ty xt yt : TypeId} {pos : String} {after : Array Edge} {guard : Option (Nat × Bool)} {x y : Operand} {tab : List (TypeId × TD)}
/-- An element of an array of structs. -/
theorem AList.index (T : tabOk P tab = true) {t : TypeId} {i N : Nat} {d e : TD} {el : TypeId} {ki : IntKind} {n : Int} {l m : List CV} (hm : (l.drop (i * e.size)).take e.size = m) (hw : S.wants ops { dst, op := .index t x y, type := ty, pos, after, guard } = some true) (hd : dOk S.n dst = true)
    (hx : S.opd x = some (.ag l)) (hy : S.opd y = some (.c (.p (.int ki n)))) (ht : assoc tab t = some d) (hk : d.k = .arr N el) (he : assoc tab el = some e) (ha : isAg e.k = true) (hi : n = (i : Int)) (hlt : i < N)
    (hn : AList P ops rest (([], []) :: acc) (S.eff dst ⟨.ag m, [], []⟩) Q) : AList P ops ({ dst, op := .index t x y, type := ty, pos, after, guard } :: rest) acc S Q := by
  subst hm
  exact AList.val [] _ hw hd (fun S1 h1 _ b0 σ a w R => by
    obtain ⟨vs, e1, e2⟩ := opd_rep R ((h1 x (by simp [Op.operands])).trans hx)
    have e4 := rep_int (opd_rep R ((h1 y (by simp [Op.operands])).trans hy))
    have g1 := ty_arr T ht hk
    obtain ⟨ud, g2, g3⟩ := ty_ag T he ha
    obtain ⟨inf, z, u, i1, i2, i3, -⟩ := ty_info T he
    subst hi
    have hlt' : (i : Int) < N := by omega
    have hag : ∀ w, (isAgg el).run P w = .ok true w := fun w => by
      simp only [isAgg, Sem.run_bind, run_underlying g2, Result.andThen_ok]
      cases ud <;> first | rfl | cases g3
    refine ⟨.agg ((vs.drop (i * e.size)).take e.size).toArray, ?_, _, rfl, RepL.of_get (by simp [e2.length]) fun j x v hj hv => ?_⟩
    · simp only [execOp, e1, e4, Instr.index, asIntOf, run_underlying g1, Sem.run_bind, Sem.run_pure, Result.andThen_ok]
      simp [hlt', part, hag, sizeOf, typeInfo, i1, i2]
    · rw [List.getElem?_take] at hj hv
      split at hj
      · rename_i hlt2
        rw [if_pos hlt2] at hv
        rw [List.getElem?_drop] at hj hv
        obtain ⟨v', k1, k2⟩ := e2.get hj
        rw [k1] at hv
        cases hv
        exact k2
      · cases hj) hn
end ops
/-- Rows of structs. -/
def rowF {α : Type} (c : α → List CV) (z : α) (L : List α) (k j : Nat) : CV := (c (L.getD k z)).getD j .any
section rows
variable {α : Type} {c : α → List CV} {z : α} {sz : Nat}
end rows
end
end Go.AV
end

section
namespace Go.AV
open Go Go.RowKit Go.Flow
section
variable {P : Program}
section ops
variable {ops : Array Oper} {rest : List Oper} {acc : List (List Nat × List Nat)} {S : St} {Q : List (List Nat × List Nat) → St → Prop} {dst : Option Tmp} {ty : TypeId} {pos : String} {after : Array Edge} {guard : Option (Nat × Bool)}
section
variable {tab : List (TypeId × TD)}
end
end ops
/-- A contract, at arguments that say no less. -/
theorem ACalls.conv {f : FuncId} {args args' : List V1} {r : AV} (h : ACalls P f args r) (hc : ∀ (σ : Nat → Option Value) (O : Nat → Prop) (w : World) (vals : List Value), RepL (RepV σ O w) args' vals → RepL (RepV σ O w) args vals) : ACalls P f args' r := fun b0 vals h1 h2 h3 h4 => h b0 vals h1 h2 h3 (hc _ _ _ _ h4)
end
end Go.AV
end

section
namespace Go.AV
open Go Go.RowKit Go.Flow
section
variable {P : Program}
/-- yield of loop l. -/
abbrev yv (l : Nat) : Value := .func (.yield l) #[] #[]
/-- Round i lets the iterator go on. -/
def goesB (N : Nat) (stop : Bool) (i : Nat) : Bool := !(stop && Nat.beq (i + 1) N)
/-- What the rounds 0 .. N - 1 do, whose arguments are xs 0 ..; stop: the last one stops the iterator. -/
def YieldOk (P : Program) (b0 : Base) (l : Nat) (xs : Nat → List Value) (N : Nat) (stop : Bool) : Prop :=
  ∀ i, i < N → ∀ W, b0.J i false W → Keep (b0.V false) b0.w W → YieldAt Fence.wide 0 P l (xs i).toArray W fun e W' => e = .returned (.bool (goesB N stop i)) ∧ b0.J (i + 1) (!goesB N stop i) W' ∧ Keep (b0.V (!goesB N stop i)) W W'
def itG (P : Program) (l : Nat) (xs : Nat → List Value) (N : Nat) (stop : Bool) (b : Base) : Prop := b.rd = none ∧ (∀ k, ¬ b.Y k) ∧ (∀ k, b.V false k → b.V true k) ∧ YieldOk P b l xs N stop
def St.yielded (S : St) (dst : Option Tmp) (g : Bool) : St :=
  { S with t := match dst with | some d => put S.t d (some (.c (.p (.bool g)))) | none => S.t, gs := S.gs + 1, dd := !g }
theorem Marks.keep2 {n0 : Nat} {O : Nat → Prop} {w w' : World} (hK : Keep O w w') (hO : ∀ D, O D → D < n0) : ∀ {ds : List Deferred}, Marks n0 ds w → Marks n0 ds w'
  | [], _ => trivial
  | _ :: _, ⟨⟨D, e1, e2, e3, e4⟩, h⟩ => ⟨⟨D, e1, e2, (hK.block D (Array.getElem?_eq_some_iff.1 e3).1 fun ho => by have := hO D ho; omega).trans e3, e4⟩, h.keep2 hK hO⟩
theorem opds_p {b0 : Base} {σ : Nat → Option Value} {S : St} {a : Act} {w : World} (R : Rel0 b0 σ S a w) {xs : List Operand} {vs : List Value} (h : S.opds xs = some (vs.map fun v => .c (.p v))) : xs.map a.eval = vs := by
  have := opds_rep R h
  have key : ∀ (vs us : List Value), RepL (RepV σ (out b0 σ S.h) w) (vs.map fun v => V1.c (.p v)) us → us = vs := fun vs => by
    induction vs with
    | nil => intro us h; cases us with
      | nil => rfl
      | cons u us => exact h.elim
    | cons v vs ih => intro us h; cases us with
      | nil => exact h.elim
      | cons u us => rw [ih us h.2, show u = v from h.1.2]
  exact key _ _ this
/-- A round. -/
theorem Rel0.yield {b0 : Base} {σ : Nat → Option Value} {S : St} {a : Act} {w w' : World} {dst : Option Tmp} {g : Bool} (R : Rel0 b0 σ S a w) (hd : dOk S.n dst = true) (hdd : S.dd = false) (hY : ∀ k, ¬ b0.Y k) (hV : ∀ k, b0.V false k → b0.V true k)
    (hK : Keep (b0.V (!g)) w w') (hJ : b0.J (S.gs + 1) (!g) w') : Rel0 b0 σ (S.yielded dst g) (a.put dst (.bool g)) w' := by
  have hVlt : ∀ {d k}, b0.V d k → k < b0.w.heap.size := fun h => b0.lt _ (b0.vx _ _ h)
  have hKo : Keep (out b0 σ S.h) w w' := hK.less fun k hk => .inr (b0.vx _ _ hk)
  have hext := R.ext
  unfold wild at hext
  rw [hdd] at hext
  refine ⟨by rw [defers_put]; exact R.df.keep2 hK fun D h => hVlt h, size_put.trans R.sz, ?_, ⟨fun id B hB => ?_, R.hp.inj, R.hp.new, R.hp.fx, R.hp.big⟩, fun t x ht => ?_, R.fr, R.le, R.gd, hJ⟩
  · refine (hext.less fun b hb => ?_).trans hK fun i h => .inr (.inr h)
    rcases hb with hb | hb
    · exact .inl hb
    · refine .inr ?_
      show b0.V (!g) b
      cases g with
      | true => exact hb
      | false => exact hV b hb
  · obtain ⟨v, e1, e2⟩ := R.hp.blk id B hB
    refine ⟨v, e1, e2.keep hKo (fun b hb => .inl hb) (fun _ _ h => h) fun b hb => ?_⟩
    have ho : own σ S.h b := ⟨id, v, by rw [show S.h id = some B from hB]; simp, e1, hb⟩
    refine hK.block b (R.hp.lt ho) fun h => ?_
    rcases R.hp.new b ho with h1 | h1
    · have := hVlt h; omega
    · exact hY b h1
  · have keep : ∀ {t x}, S.t t = some x → RepA σ (out b0 σ S.h) w' x (a.tmps.getD t undef) := fun h => (R.sl _ _ h).keep hKo (fun b hb => .inl hb) fun _ _ h => h
    cases dst with
    | none => exact keep ht
    | some d =>
      have hlt : d < a.tmps.size := by rw [R.sz]; exact Nat.blt_eq.mp hd
      rw [getD_put hlt]
      simp only [St.yielded] at ht
      by_cases e : t = d
      · subst e
        rw [put_same] at ht
        cases ht
        rw [if_pos rfl]
        exact ⟨rfl, rfl⟩
      · rw [put_ne _ _ e] at ht
        rw [if_neg e]
        exact keep ht
section ops
variable {ops : Array Oper} {rest : List Oper} {S : St} {Q : St → Prop} {dst : Option Tmp} {ty : TypeId} {pos : String} {after : Array Edge} {guard : Option (Nat × Bool)}
theorem AText.yield {l N i : Nat} {stop : Bool} {xs : Nat → List Value} {vs : List Value} {z : Operand} {avs : Array Operand} {ats : Array TypeId} (g : Bool) (hw : S.wants ops { dst, op := .call { callee := .value z, args := avs, argTypes := ats }, type := ty, pos, after, guard } = some true) (hd : dOk S.n dst = true)
    (hz : S.opd z = some (.c (.p (yv l)))) (ha : S.opds avs.toList = some (vs.map fun v => .c (.p v))) (hG : ∀ b, S.G b → itG P l xs N stop b) (hgs : S.gs = i) (hdd : S.dd = false) (hi : i < N) (hx : xs i = vs) (hg : goesB N stop i = g)
    (hn : AText P ops rest (S.yielded dst g) Q) : AText P ops ({ dst, op := .call { callee := .value z, args := avs, argTypes := ats }, type := ty, pos, after, guard } :: rest) S Q := ⟨fun rd b0 a w K hR hK => by
  obtain ⟨σ, R0⟩ := hR
  obtain ⟨_, hY, hV, hYo⟩ := hG b0 R0.gd
  unfold wpListIn
  rw [if_pos (wants_rep R0 hw)]
  refine ⟨fun _ _ => trivial, ?_⟩
  have hzv : a.eval z = yv l := (opd_rep R0 hz).2
  have hav := opds_p R0 ha
  have hext := R0.ext
  unfold wild at hext
  rw [hdd] at hext
  have hgh := R0.gh
  rw [hgs, hdd] at hgh
  subst hx hg
  obtain ⟨fn, tmps, assign, body, e1, e2⟩ := hYo i hi w hgh (hext.less fun b hb => hb.elim (fun h => (hY b h).elim) fun h => h)
  rw [Oper.semAt_eq _ _ _ (fun c hc => by cases hc)]
  have hrun : (execOp a.eval { dst, op := .call { callee := .value z, args := avs, argTypes := ats }, type := ty, pos, after, guard }).run P w = .ok (.round l fn tmps assign body) w := by
    have hm : avs.map a.eval = (xs i).toArray := by rw [← hav]; exact Array.ext' (by simp)
    simp only [execOp, resolve, hzv, hm, Deferred.ofValue, Sem.run_bind, Sem.run_pure, Result.andThen_ok]
    simp [invoke, e1]
  rw [hrun, Oper.uponIn_round]
  refine ⟨fun hd => (by cases hd), RoundIn.mono (F := fnc rd) e2 fun e w' ⟨h1, h2, h3⟩ => ?_⟩
  subst h1
  exact hn.get rd b0 _ _ K ⟨σ, R0.yield hd hdd hY hV h3 (by rw [hgs]; exact h2)⟩ hK⟩
end ops

/-- An iterator: M rounds at most, whose arguments are xs 0, xs 1 ..; cs: what it has captured. -/
def ItCalls (P : Program) (gf : FuncId) (cs : List V1) (xs : Nat → List Value) (M : Nat) : Prop :=
  ∀ (b0 : Base) (l N : Nat) (stop : Bool) (vals : List Value), b0.fix = (fun _ => none) → (∀ k, ¬ b0.Y k) → b0.rd = none → (∀ k, b0.V false k → b0.V true k) → (stop = true → 0 < N ∧ N ≤ M) → (stop = false → N = M) →
    YieldOk P b0 l xs N stop → b0.J 0 false b0.w → RepL (RepV (fun _ => none) b0.X b0.w) cs vals →
    Calls P gf (yv l :: vals).toArray b0.w fun e w' => (∃ v, e = .returned v) ∧ b0.J N stop w' ∧ Keep (b0.V stop) b0.w w'
end
end Go.AV
end
