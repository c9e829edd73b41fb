/- Parts of the proof: ABld, AU64, A25o. -/
import Derived.Test.YtekkldgmjdllbaaG31
import Derived.Test.YtekkldgmjdllbaaG23
import Derived.Lib.Builder
import Derived.Lib.UnsafeStr
import Derived.Laws.Externs
import Derived.Lib.BufferRead
import Derived.Test.YtekkldgmjdllbaaG35
set_option linter.unusedSimpArgs false
set_option linter.unusedVariables false
section
namespace Go.AV
open Go Go.RowKit Go.Flow
open Go.Lib (strCells strCells_length run_firstCells_string run_append_room_string run_append_grow_string)
section
variable {P : Program} {tab : List (TypeId × TD)}
def strG (s : ByteArray) (k _ : Nat) : CV := .p (.int .u8 ((s.data.toList.getD k 0).toNat : Nat))
theorem strG_get {s : ByteArray} {k : Nat} (hk : k < s.size) : (strCells s)[k]? = some (.int .u8 ((s.data.toList.getD k 0).toNat : Nat)) := by
 have h : k < s.data.toList.length := by rw [Array.length_toList]; exact hk
 unfold strCells
 rw [List.getElem?_map, List.getElem?_eq_getElem h, List.getD_eq_getElem?_getD, List.getElem?_eq_getElem h]
 rfl
theorem strapp_run {w : World} (t u ty e : TypeId) (i : TypeInfo) (ht : P.underlying t = some (.slice e)) (hu : P.underlying u = some .string) (hi : P.info? e = some i) (hz : i.zero = some (.int .u8 0))
 (hsize : i.size = 1) (hby : i.bytes = 1) (v : Value) (n : Nat) (xs : List Value) (hxs : xs.length = n * 1)
 (hv : (v = .slice none 0 0 ∧ n = 0) ∨ ∃ g cap cur, v = .slice (some ⟨g, 0, none⟩) n cap ∧ w.heap[g]? = some (.cells cur e (0, 0)) ∧ n ≤ cap ∧ cap ≤ maxLen ∧ cur.size = cap * 1 ∧ cur.toList.take (n * 1) = xs)
 (s : ByteArray) (h47 : n + s.size ≤ 140737488355328) :
 ∃ v' w', (Builtin.append_ #[t, u] ty #[v, .string s]).run P w = .ok v' w' ∧ w.grownBy w' v.ownBlock ∧
   ((v' = .slice none 0 0 ∧ n + s.size = 0) ∨ ∃ b' cap' cs', v' = .slice (some ⟨b', 0, none⟩) (n + s.size) cap' ∧ n + s.size ≤ cap' ∧ cap' ≤ maxLen ∧ w'.heap[b']? = some (.cells cs' e (0, 0)) ∧ cs'.size = cap' * 1 ∧ cs'.toList.take ((n + s.size) * 1) = xs ++ strCells s ∧ ((v.ownBlock = some b' ∧ ∀ A0 n0 c0, v = .slice A0 n0 c0 → cap' = c0) ∨ (b' = w.heap.size ∧ w.grownBy w' none))) := by
 have h63 : n + s.size ≤ maxLen := by simp only [maxLen]; omega
 have hxl : xs.length = n := by omega
 have hlen : (xs ++ strCells s).length = (n + s.size) * 1 := by rw [List.length_append, hxl, strCells_length, Nat.mul_one]
 have hown : w.ownsRow 0 e 1 v n xs := ⟨hxs, hv.imp (fun h => h) fun ⟨g, cap, cur, a1, a2, a3, a4, a5, a6⟩ => ⟨g, cap, cur, a1, Nat.zero_le _, a2, a3, a4, a5, a6⟩⟩
 have grown : ∀ (old : Nat), old < n + s.size → ∃ cap' cs', n + s.size ≤ cap' ∧ cap' ≤ maxLen ∧ (w.drew.alloc (.cells (xs.toArray ++ (strCells s).toArray ++ Builtin.zeroCells (Value.int .u8 0).cells (grownCap w (n + s.size) old e - (n + s.size))) e)).heap[w.heap.size]? = some (.cells cs' e (0, 0)) ∧ cs'.size = cap' * 1 ∧ cs'.toList.take ((n + s.size) * 1) = xs ++ strCells s ∧ cap' = grownCap w (n + s.size) old e := fun old ho => by
  have hge := grownCap_ge w (n + s.size) old e
  have hcm : grownCap w (n + s.size) old e ≤ maxLen := grownCap_le_maxLen w (n + s.size) old e h63
  refine ⟨_, _, hge, hcm, heap_alloc_new w.drew _, ?_, ?_, rfl⟩
  ·have hz1 : (Value.int IntKind.u8 0).cells.size = 1 := rfl
   simp only [Array.size_append, List.size_toArray, size_zeroCells, hz1, hxl, strCells_length]
   omega
  ·simp only [Array.toList_append, List.append_assoc]
   rw [← List.append_assoc, ← hlen]
   exact List.take_left
 have gb : ∀ (o : Obj) (row : Option Nat), w.grownBy (w.drew.alloc o) row := fun o row => ⟨rfl, rfl, rfl, by simp, fun k hk _ => Below.block ((Ext.refl w.drew).alloc o) k hk⟩
 rcases hv with ⟨rfl, rfl⟩ | ⟨g, cap, cur, rfl, hg, hnc, hcm, hcs, htake⟩
 ·have hx : xs = [] := List.eq_nil_of_length_eq_zero hxl
  subst hx
  by_cases hm : s.size = 0
  ·refine ⟨.slice none 0 0, w, ?_, World.grownBy.refl w _, .inl ⟨rfl, by omega⟩⟩
   have hf := run_firstCells_string (P := P) w 1 s
   have hn : strCells s = [] := List.eq_nil_of_length_eq_zero (by rw [strCells_length]; exact hm)
   rw [hm] at hf
   simp [Builtin.append_, run_underlying ht, run_underlying hu, sizeOf, typeInfo, hi, hsize, Builtin.lenOf, hm, hf]
  ·have hr := run_append_nil_string (P := P) w t u ty e i (.int .u8 0) ht hu hi hz s (by omega) (by omega) (by rw [hby]; omega)
   have e1 : (s.data.map fun b => Value.int .u8 b.toNat) = (strCells s).toArray := by
    apply Array.ext'
    simp [strCells]
   rw [e1] at hr
   obtain ⟨cap', cs', k1, k2, k3, k4, k5, k6⟩ := grown 0 (by omega)
   simp only [Nat.zero_add, List.nil_append, Array.empty_append] at k1 k2 k3 k4 k5 k6 ⊢
   exact ⟨_, _, hr, gb _ _, .inr ⟨w.heap.size, cap', cs', by rw [k6], k1, k2, k3, k4, k5, .inr ⟨rfl, gb _ _⟩⟩⟩
 ·by_cases hroom : n + s.size ≤ cap
  ·have hcs' : cur.size = cap := by omega
   have hr := run_append_room_string (P := P) w t u ty e i ht hu hi hsize g n cap cur hg s hroom (by omega)
   refine ⟨_, _, hr, ⟨rfl, rfl, rfl, by simp, fun k _ hk => setRow_other w g k _ (fun e => hk (by simp [Value.ownBlock, e]))⟩, .inr ⟨g, cap, _, rfl, hroom, hcm, setRow_heap w g cur _ e _ hg, ?_, ?_, .inl ⟨rfl, fun _ _ _ h => by cases h; rfl⟩⟩⟩
   ·simp only [List.size_toArray, List.length_append, List.length_take, List.length_drop, Array.length_toList, strCells_length]
    omega
   ·have ht' : cur.toList.take n = xs := by simpa using htake
    rw [ht', ← hlen]
    exact List.take_left
  ·have holds : ∀ j u, xs[j]? = some u → w.cell? ((⟨g, 0, none⟩ : Addr).add j) = some u := hown.cells (g := g) rfl
   have hr := run_append_grow_string (P := P) w t u ty e i (.int .u8 0) ht hu hi hz ⟨g, 0, none⟩ n cap xs (by rw [hsize]; exact hxs) holds s (by omega) (by omega) (by rw [hby]; exact growslice_fits (by omega) (by omega))
   obtain ⟨cap', cs', k1, k2, k3, k4, k5, k6⟩ := grown cap (by omega)
   exact ⟨_, _, hr, gb _ _, .inr ⟨w.heap.size, cap', cs', by rw [k6], k1, k2, k3, k4, k5, .inr ⟨rfl, gb _ _⟩⟩⟩
section ops
variable {ops : Array Oper} {rest : List Oper} {acc : List (List Nat × List Nat)} {S : St} {Q : List (List Nat × List Nat) → St → Prop} {dst : Option Tmp} {ty : TypeId} {pos : String} {after : Array Edge} {guard : Option (Nat × Bool)}
theorem AList.appS (T : tabOk P tab = true) {id : Nat} {s x : Operand} {t el t2 : TypeId} {d e : TD} {vs : CV} {o : Option Nat} {n : Nat} {F : Nat → Nat → CV} {bs : ByteArray}
 (hw : S.wants ops { dst := some id, op := .call { callee := .builtin .append, args := #[s, x], argTypes := #[t, t2] }, type := ty, pos, after, guard } = some true) (hd : dOk S.n (some id) = true) (hf : S.fr id = true)
 (hs : S.opd s = some (.c vs)) (hx : S.opd x = some (.c (.p (.string bs)))) (ht : assoc tab t = some d) (hk : d.k = .sl el) (he : assoc tab el = some e) (hu2 : P.underlying t2 = some .string) (he1 : (Nat.beq e.size 1 && Nat.beq e.bytes 1) = true) (hez : (P.info? el).bind (·.zero) = some (.int .u8 0))
 (ho : (o = none ∧ vs = .p (.slice none 0 0) ∧ n = 0) ∨ ∃ id1, o = some id1 ∧ vs = .ow id1 ∧ S.h id1 = some ⟨true, n, e.size, el, F⟩ ∧ id1 < 1000)
 (h47 : n + bs.size ≤ 140737488355328)
 (hn : AList P ops rest ((o.toList ++ [id], (appHs o id ⟨true, n + bs.size, e.size, el, appF F n (strG bs)⟩).map (·.1) ++ [id]) :: acc)
   (S.eff (some id) ⟨.c (.ow id), appHs o id ⟨true, n + bs.size, e.size, el, appF F n (strG bs)⟩, [id]⟩) Q) :
 AList P ops ({ dst := some id, op := .call { callee := .builtin .append, args := #[s, x], argTypes := #[t, t2] }, type := ty, pos, after, guard } :: rest) acc S Q :=
 AList.cons o.toList ⟨.c (.ow id), appHs o id ⟨true, n + bs.size, e.size, el, appF F n (strG bs)⟩, [id]⟩ (LStep.of hw fun S1 hA hr1 hal b0 σ a w R => by
  obtain ⟨inf, z, u, i1, i2, i3, i4, i5, i6, -⟩ := ty_info T he
  have hzs : z.cells.size = e.size := by rw [i5]; simp [i6]
  obtain ⟨hfr, hidl⟩ := R.fr id ((hal id (by simp)).trans hf)
  have rs := opd_rep R ((hA.op s (by simp [Op.operands, Call.operands])).trans hs)
  rw [Bool.and_eq_true] at he1
  have es1 : e.size = 1 := Nat.eq_of_beq_eq_true he1.1
  have eb1 : e.bytes = 1 := Nat.eq_of_beq_eq_true he1.2
  have hsz : 0 < e.size := by omega
  have y1 : a.eval x = .string bs := rep_int (opd_rep R ((hA.op x (by simp [Op.operands, Call.operands])).trans hx))
  obtain ⟨ys, hys⟩ : ∃ ys, ys = strCells bs := ⟨_, rfl⟩
  have y4 : ∀ k, k < bs.size → ∀ j, j < e.size → ∃ v, ys[k * e.size + j]? = some v ∧ RepC σ (out b0 σ S1.h) w (strG bs k j) v := fun k hk j hj => by
   obtain rfl : j = 0 := by omega
   rw [hys, es1, Nat.mul_one, Nat.add_zero]
   exact ⟨_, strG_get hk, rfl, rfl⟩
  obtain ⟨xs, hxl, hv, hxc, hown⟩ : ∃ xs : List Value, xs.length = n * e.size ∧ ((a.eval s = .slice none 0 0 ∧ n = 0) ∨ ∃ g cap cur, a.eval s = .slice (some ⟨g, 0, none⟩) n cap ∧ w.heap[g]? = some (.cells cur el (0, 0)) ∧ n ≤ cap ∧ cap ≤ maxLen ∧ cur.size = cap * e.size ∧ cur.toList.take (n * e.size) = xs) ∧
   (∀ k, k < n → ∀ j, j < e.size → ∃ v, xs[k * e.size + j]? = some v ∧ RepC σ (out b0 σ S1.h) w (F k j) v) ∧ (∀ b, (a.eval s).ownBlock = some b → ∃ id1, o = some id1 ∧ S1.h id1 ≠ none ∧ σ id1 = some (a.eval s) ∧ baseBlk (a.eval s) = some b) := by
   rcases ho with ⟨rfl, rfl, rfl⟩ | ⟨id1, rfl, rfl, hB, -⟩
   ·have e0 : a.eval s = .slice none 0 0 := rs.2
    exact ⟨[], by simp, .inl ⟨e0, rfl⟩, fun k hk => absurd hk (Nat.not_lt_zero _), fun b hb => by rw [e0] at hb; cases hb⟩
   ·have hB1 := (hr1 id1 (by simp)).trans hB
    obtain ⟨v, f1, f2⟩ := R.hp.blk id1 _ hB1
    have e0 := rs.2.1
    rw [e0] at f1
    cases f1
    have hob : ∀ b, (a.eval s).ownBlock = some b → ∃ id, some id1 = some id ∧ S1.h id ≠ none ∧ σ id = some (a.eval s) ∧ baseBlk (a.eval s) = some b := fun b hb => ⟨id1, rfl, by rw [hB1]; simp, e0, by
     cases hc : a.eval s with
     | slice A n c => rw [hc] at hb; cases A <;> exact hb
     | _ => rw [hc] at hb; cases hb⟩
    rcases f2.row rfl with ⟨_, h1, h0⟩ | ⟨b, cap, cs, h1, h2, h3, h4⟩
    ·obtain rfl : n = 0 := h0
     exact ⟨[], by simp, .inl ⟨h1, rfl⟩, fun k hk => absurd hk (Nat.not_lt_zero _), hob⟩
    ·rcases h1 with ⟨_, h1, h5, h6⟩ | ⟨h1, _⟩
     ·simp only at h1 h2 h3 h4 h5
      have hle : n * e.size ≤ cs.size := by rw [h3]; exact Nat.mul_le_mul_right _ h5
      refine ⟨cs.toList.take (n * e.size), by simp; omega, .inr ⟨b, cap, cs, h1, h2, h5, h6, h3, rfl⟩, fun k hk j hj => ?_, hob⟩
      obtain ⟨v, g1, g2⟩ := h4 k hk j hj
      exact ⟨v, by rw [List.getElem?_take_of_lt (cell_in hk hj)]; simpa using g1, g2⟩
     ·cases h1
  have hz0 : inf.zero = some (.int .u8 0) := by rw [i1] at hez; exact hez
  obtain ⟨v', w', r1, r2, r3⟩ := strapp_run (P := P) (w := w) t t2 ty el inf (ty_sl T ht hk) hu2 i1 hz0 (i2.trans es1) (i3.trans eb1) (a.eval s) n xs (by rw [hxl, es1]) (by rw [es1] at hv; exact hv) bs h47
  rw [← hys] at r3
  rw [← es1] at r3
  have hex : (execOp a.eval { dst := some id, op := .call { callee := .builtin .append, args := #[s, x], argTypes := #[t, t2] }, type := ty, pos, after, guard }).run P w = .ok (.value v') w' := by
   simp only [execOp, resolve, invoke, builtin, Sem.run_bind, Sem.run_pure, Result.andThen_ok, List.map_toArray, List.map_cons, List.map_nil, y1, r1]
  rw [hex]
  have hK : Keep (own σ S1.h) w w' := ⟨r2.os, r2.tape, r2.output, r2.size, fun k hk hno => r2.block k hk fun e => by
   obtain ⟨id1, _, g1, g2, g3⟩ := hown k e.symm
   exact hno ⟨id1, _, g1, g2, g3⟩⟩
  have hsub : ∀ i u, σ i = some u → put σ id (some v') i = some u := fun i u h => by
   rw [put_ne _ _ (fun e => by rw [e, hfr] at h; cases h)]; exact h
  generalize hB' : (⟨true, n + bs.size, e.size, el, appF F n (strG bs)⟩ : AB) = B'
  have hlk : ∀ h : Nat → Option AB, look (appHs o id B') h = match o with | some i => put (put h id (some B')) i none | none => put h id (some B') := fun h => by cases o <;> rfl
  have hidne : ∀ id1, o = some id1 → id1 ≠ id := fun id1 h1 e => by
   rcases ho with ⟨h2, _⟩ | ⟨id2, h2, h3, h4⟩
   ·rw [h1] at h2; cases h2
   ·rw [h1] at h2
    cases h2
    subst h3
    have := rs.2.1
    rw [e, hfr] at this
    cases this
  have hid : look (appHs o id B') S1.h id = some B' := by
   rw [hlk]
   cases o with
   | none => exact put_same _ _ _
   | some i => exact (put_ne _ _ (Ne.symm (hidne i rfl))).trans (put_same _ _ _)
  have hoth : ∀ i, i ≠ id → look (appHs o id B') S1.h i = none ∨ (look (appHs o id B') S1.h i = S1.h i ∧ o ≠ some i) := fun i hi => by
   rw [hlk]
   cases o with
   | none => exact .inr ⟨put_ne _ _ hi, by simp⟩
   | some i1 =>
     by_cases h1 : i = i1
     ·subst h1; exact .inl (put_same _ _ _)
     ·exact .inr ⟨(put_ne _ _ h1).trans (put_ne _ _ hi), fun h => h1 (Option.some.inj h).symm⟩
  have holdblk : ∀ i u b, i ≠ id → look (appHs o id B') S1.h i ≠ none → σ i = some u → baseBlk u = some b → some b ≠ (a.eval s).ownBlock ∧ S1.h i ≠ none := fun i u b hi h1 h2 h3 => by
   rcases hoth i hi with h0 | ⟨h0, hoi⟩
   ·exact absurd h0 h1
   ·rw [h0] at h1
    refine ⟨fun e => ?_, h1⟩
    obtain ⟨id1, g0, g1, g2, g3⟩ := hown b e.symm
    have := R.hp.inj i id1 u _ b h1 g1 h2 g2 h3 g3
    subst this
    exact hoi g0
  have hv'b : ∀ b, baseBlk v' = some b → (a.eval s).ownBlock = some b ∨ b = w.heap.size := fun b hb => by
   rcases r3 with ⟨rfl, _⟩ | ⟨b', cap', cs', rfl, _, _, _, _, _, h⟩
   ·cases hb
   ·cases hb; exact h.imp (fun h => h.1) fun h => h.1
  have hout : ∀ b, out b0 (put σ id (some v')) (look (appHs o id B') S1.h) b → out b0 σ S1.h b ∨ w.heap.size ≤ b := fun b hb => by
   rcases hb with ⟨i, u, h1, h2, h3⟩ | hb
   ·by_cases hi : i = id
    ·subst hi
     rw [put_same] at h2
     cases h2
     rcases hv'b b h3 with h | h
     ·obtain ⟨id1, _, g1, g2, g3⟩ := hown b h
      exact .inl (.inl ⟨id1, _, g1, g2, g3⟩)
     ·exact .inr (by omega)
    ·rw [put_ne _ _ hi] at h2
     exact .inl (.inl ⟨i, u, (holdblk i u b hi h1 h2 h3).2, h2, h3⟩)
   ·exact .inl (.inr hb)
  obtain ⟨H, _, hO⟩ := R.hp.put (id := id) (B' := B') (v' := v') (σ' := put σ id (some v')) (h' := look (appHs o id B') S1.h) (w' := w') hsub hid (put_same _ _ _)
   (fun i hi => (hoth i hi).imp (fun h => h) fun h => h.1) hK
   (fun i u hi => by
     obtain ⟨h1, -⟩ := b0.one i u hi
     have h3 := R.hp.fx i u hi
     rcases hoth i (by omega) with h0 | h0
     ·exfalso
      rw [hlk] at h0
      rcases ho with ⟨ho, _⟩ | ⟨id1, ho, hvs, _, hlo⟩
      ·subst ho
       exact h3.2 ((put_ne _ _ (by omega)).symm.trans h0)
      ·subst ho hvs
       exact h3.2 (((put_ne _ _ (by omega)).trans (put_ne _ _ (by omega))).symm.trans h0)
     ·rw [h0.1]; exact h3.2) (fun i hi => put_ne _ _ (by omega))
   (fun i u b hi h1 h2 h3 => by
     obtain ⟨g1, g2⟩ := holdblk i u b hi h1 h2 h3
     exact r2.block b (R.hp.lt ⟨i, u, g2, h2, h3⟩) g1)
   (by
     subst hB'
     rcases r3 with ⟨rfl, h0⟩ | ⟨b', cap', cs', rfl, k1, k2, k3, k4, k5, _⟩
     ·exact .inl ⟨rfl, rfl, h0⟩
     ·refine .inr <| .inl ⟨b', cap', cs', .inl ⟨rfl, rfl, k1, k2⟩, k3, k4, fun k hk j hj => ?_⟩
      have hk' : k < n + bs.size := hk
      have hj' : j < e.size := hj
      have hget : cs'[k * e.size + j]? = (xs ++ ys)[k * e.size + j]? := by
       rw [← k5, List.getElem?_take_of_lt (cell_in hk' hj')]; simp
      show ∃ u, cs'[k * e.size + j]? = some u ∧ RepC _ _ w' (appF F n (strG bs) k j) u
      rw [hget]
      unfold appF
      by_cases hkn : k < n
      ·rw [Nat.blt_eq.mpr hkn, List.getElem?_append_left (by rw [hxl]; exact cell_in hkn hj')]
       obtain ⟨v, g1, g2⟩ := hxc k hkn j hj'
       exact ⟨v, g1, g2.keep hK.out hout hsub⟩
      ·rw [show Nat.blt k n = false from Bool.eq_false_iff.2 fun h => hkn (Nat.blt_eq.mp h)]
       have hge : n * e.size ≤ k * e.size := Nat.mul_le_mul_right _ (by omega)
       rw [List.getElem?_append_right (by rw [hxl]; omega), hxl]
       obtain ⟨v, g1, g2⟩ := y4 (k - n) (by omega) j hj'
       refine ⟨v, ?_, g2.keep hK.out hout hsub⟩
       rw [← g1, Nat.sub_mul]
       congr 1
       omega)
   (fun b hb => by
     refine ⟨?_, ?_, fun i u hi h1 h2 h3 => ?_⟩
     ·rcases hv'b b hb with h | h
      ·obtain ⟨id1, _, g1, g2, g3⟩ := hown b h
       exact R.hp.new b ⟨id1, _, g1, g2, g3⟩
      ·rw [h]; exact .inl R.ext.size
     ·rcases hv'b b hb with h | h
      ·obtain ⟨id1, _, g1, g2, g3⟩ := hown b h
       exact .inl ⟨id1, _, g1, g2, g3⟩
      ·exact .inr (by omega)
     ·obtain ⟨g1, g2⟩ := holdblk i u b hi h1 h2 h3
      rcases hv'b b hb with h | h
      ·exact g1 h.symm
      ·have := R.hp.lt ⟨i, u, g2, h2, h3⟩
       omega)
  exact ⟨put σ id (some v'), R.step (e := ⟨.c (.ow id), appHs o id B', [id]⟩) (by rw [hA.n]; exact hd) hsub hK H hO (fun _ => by
   rcases r3 with ⟨rfl, _⟩ | ⟨b', cap', cs', rfl, _⟩
   ·exact rep_ow (put_same _ _ _)
   ·exact rep_ow (put_same _ _ _)) (fun i hi => by
   by_cases e : i = id
   ·exact .inr (by simp [e])
   ·rw [put_ne _ _ e] at hi; exact .inl hi)⟩) hn
theorem own_ptr {b0 : Base} {σ : Nat → Option Value} {S : St} {a : Act} {w : World} (R : Rel0 b0 σ S a w) {id n sz : Nat} {t : TypeId} {F : Nat → Nat → CV} (hB : S.h id = some ⟨false, n, sz, t, F⟩) {u : Value} {b : Nat} (hu : σ id = some u) (hb : baseC u = some b) : ∃ cs, w.heap[b]? = some (.cells cs t (0, 0)) ∧ cs.size = n * sz := by
 obtain ⟨v, e1, e2⟩ := R.hp.blk id _ hB
 rw [hu] at e1
 cases e1
 obtain ⟨b', cap, cs, h1, h2, h3, -⟩ := e2.ofC hb
 have h4 := h1.blk
 rw [baseC_up hb] at h4
 cases h4
 rcases h1 with ⟨h, _⟩ | ⟨_, _, h⟩
 ·cases h
 ·exact ⟨cs, h2, by rw [h3, h]⟩
theorem AList.toUnsafe {src t u : TypeId} {x : Operand} {id n sz : Nat} {ty0 : TypeId} {F : Nat → Nat → CV} (T : tabOk P tab = true) {d : TD} (hs : P.underlying src = some (.pointer u)) (ht : P.underlying t = some .unsafePointer) (he : assoc tab u = some d) (hsz : (Nat.blt 0 d.size && Nat.blt 0 (n * sz)) = true)
 (hw : S.wants ops { dst, op := .convert src t x, type := ty, pos, after, guard } = some true) (hd : dOk S.n dst = true) (hx : S.opd x = some (.c (.pt id sz 0 0))) (hh : S.h id = some ⟨false, n, sz, ty0, F⟩)
 (hn : AList P ops rest (([id], []) :: acc) (S.eff dst ⟨.c (.pt id sz 0 0), [], []⟩) Q) : AList P ops ({ dst, op := .convert src t x, type := ty, pos, after, guard } :: rest) acc S Q :=
 AList.val [id] _ hw hd (fun S1 h1 hr b0 σ a w R => by
  have e1 := opd_rep R ((h1 x (by simp [Op.operands])).trans hx)
  obtain ⟨inf, z, _, i1, i2, -⟩ := ty_info T he
  rw [Bool.and_eq_true] at hsz
  have s1 := Nat.blt_eq.mp hsz.1
  have s2 := Nat.blt_eq.mp hsz.2
  refine ⟨a.eval x, ?_, e1⟩
  obtain ⟨_, v, b, g1, g2, g3⟩ := e1
  obtain ⟨cs, g4, g5⟩ := own_ptr R ((hr id (by simp)).trans hh) g1 g2
  have hsh : w.shape? b = some (ty0, cs.size) := by simp [World.shape?, g4]
  have := Lib.run_to_unsafe (P := P) w ⟨b, 0 * sz + 0, none⟩ hs ht i1 (by omega) hsh (by show 0 * sz + 0 < cs.size; omega)
  simp only [execOp, g3, Sem.run_bind, this, Result.andThen_ok, Sem.run_pure]) hn
theorem AList.ofUnsafe {src t u : TypeId} {x : Operand} {id n sz : Nat} {ty0 : TypeId} {F : Nat → Nat → CV} (T : tabOk P tab = true) {d : TD} (hs : P.underlying src = some .unsafePointer) (ht : P.underlying t = some (.pointer u)) (he : assoc tab u = some d) (hl : liesAt P P.depth ty0 (n * sz / P.cellsOf ty0) 0 u 1 = true)
 (hw : S.wants ops { dst, op := .convert src t x, type := ty, pos, after, guard } = some true) (hd : dOk S.n dst = true) (hx : S.opd x = some (.c (.pt id sz 0 0))) (hh : S.h id = some ⟨false, n, sz, ty0, F⟩)
 (hn : AList P ops rest (([id], []) :: acc) (S.eff dst ⟨.c (.pt id sz 0 0), [], []⟩) Q) : AList P ops ({ dst, op := .convert src t x, type := ty, pos, after, guard } :: rest) acc S Q :=
 AList.val [id] _ hw hd (fun S1 h1 hr b0 σ a w R => by
  have e1 := opd_rep R ((h1 x (by simp [Op.operands])).trans hx)
  obtain ⟨inf, z, _, i1, i2, -⟩ := ty_info T he
  refine ⟨a.eval x, ?_, e1⟩
  obtain ⟨_, v, b, g1, g2, g3⟩ := e1
  obtain ⟨cs, g4, g5⟩ := own_ptr R ((hr id (by simp)).trans hh) g1 g2
  have hsh : w.shape? b = some (ty0, cs.size) := by simp [World.shape?, g4]
  have := Lib.run_from_unsafe (P := P) w ⟨b, 0 * sz + 0, none⟩ hs ht i1 hsh (by rw [g5]; show liesAt P P.depth ty0 (n * sz / P.cellsOf ty0) (0 * sz + 0) u 1 = true; rw [Nat.zero_mul]; exact hl)
  simp only [execOp, g3, Sem.run_bind, this, Result.andThen_ok, Sem.run_pure]) hn
theorem AList.callSame {f : FuncId} {fn : Func} {x : Operand} {ats : Array TypeId} {y : AV} {e : Array Value → Sem Value} (hw : S.wants ops { dst, op := .call { callee := .value (.func f), args := #[x], argTypes := ats }, type := ty, pos, after, guard } = some true) (hd : dOk S.n dst = true)
 (hx : S.opd x = some y) (hf : P.funcs[f]? = some fn) (hname : (fn.name == "runtime.NumGoroutine") = false) (hb : fn.body.isNone = true) (hnx : Extern.findNext fn = none) (he : Extern.find fn = some e) (hs : ∀ v w, (e #[v]).run P w = .ok v w)
 (hn : AList P ops rest (([], []) :: acc) (S.eff dst ⟨y, [], []⟩) Q) : AList P ops ({ dst, op := .call { callee := .value (.func f), args := #[x], argTypes := ats }, type := ty, pos, after, guard } :: rest) acc S Q :=
 AList.val [] _ hw hd (fun S1 h1 _ b0 σ a w R => by
  have e1 := opd_rep R ((h1 x (by simp [Op.operands, Call.operands])).trans hx)
  refine ⟨a.eval x, ?_, e1⟩
  have hz : a.eval (.func f) = .func (.func f) #[] #[] := rfl
  have hr : execOp a.eval { dst, op := .call { callee := .value (.func f), args := #[x], argTypes := ats }, type := ty, pos, after, guard } = callFunc f (#[] ++ #[x].map a.eval ++ #[]) := by
   show (do let d ← (resolve a.eval { callee := .value (.func f), args := #[x], argTypes := ats } ty); invoke d.target d.args) = _
   simp only [resolve, hz, Deferred.ofValue]
   rfl
  rw [hr, show (#[] ++ #[x].map a.eval ++ #[] : Array Value) = #[a.eval x] by simp, run_callFunc_extern hf hname hb hnx he, hs]
  rfl) hn
theorem AList.ptNe {x y : Operand} {xt yt u : TypeId} {id sz : Nat} (T : tabOk P tab = true) {d : TD} (hp : P.underlying xt = some (.pointer u)) (he : assoc tab u = some d) (hw : S.wants ops { dst, op := .binOp .neq xt x y yt, type := ty, pos, after, guard } = some true) (hd : dOk S.n dst = true)
 (hx : S.opd x = some (.c (.pt id sz 0 0))) (hy : S.opd y = some (.c (.pt id sz 0 0)))
 (hn : AList P ops rest (([], []) :: acc) (S.eff dst ⟨.c (.p (.bool false)), [], []⟩) Q) : AList P ops ({ dst, op := .binOp .neq xt x y yt, type := ty, pos, after, guard } :: rest) acc S Q :=
 AList.val [] _ hw hd (fun S1 h1 _ b0 σ a w R => by
  obtain ⟨inf, z, _, i1, i2, -⟩ := ty_info T he
  obtain ⟨_, v, b, g1, g2, g3⟩ := opd_rep R ((h1 x (by simp [Op.operands])).trans hx)
  obtain ⟨_, v', b', k1, k2, k3⟩ := opd_rep R ((h1 y (by simp [Op.operands])).trans hy)
  rw [g1] at k1
  cases k1
  rw [g2] at k2
  cases k2
  refine ⟨.bool false, ?_, rep_p rfl⟩
  have := Lib.run_neq_ptr_same (P := P) w ⟨b, 0 * sz + 0, none⟩ hp i1
  have hgd : (eqGuard .neq xt x y (.pointer (some ⟨b, 0 * sz + 0, none⟩)) (.pointer (some ⟨b, 0 * sz + 0, none⟩))).run P w = .ok () w := rfl
  simp only [execOp, g3, k3, Sem.run_bind, hgd, this, Result.andThen_ok, Sem.run_pure]) hn
abbrev byF (l : List UInt8) : Nat → Nat → CV := fun k _ => .p (.int .u8 ((l.getD k 0).toNat : Nat))
abbrev byV (l : List UInt8) : CV := .p (.string ⟨l.toArray⟩)
theorem own_row {b0 : Base} {σ : Nat → Option Value} {S : St} {a : Act} {w : World} (R : Rel0 b0 σ S a w) {id n sz : Nat} {t : TypeId} {F : Nat → Nat → CV} (hB : S.h id = some ⟨true, n, sz, t, F⟩) {u : Value} (hu : σ id = some u) (h0 : 0 < n) : ∃ b cap cs, u = .slice (some ⟨b, 0, none⟩) n cap ∧ n ≤ cap ∧ cap ≤ maxLen ∧ w.heap[b]? = some (.cells cs t (0, 0)) ∧ cs.size = cap * sz ∧ ∀ k, k < n → ∀ j, j < sz → ∃ u, cs[k * sz + j]? = some u ∧ RepC σ (out b0 σ S.h) w (F k j) u := by
 obtain ⟨v, e1, e2⟩ := R.hp.blk id _ hB
 rw [hu] at e1
 cases e1
 rcases e2.row rfl with ⟨_, _, h⟩ | ⟨b, cap, cs, h1, h2, h3, h4⟩
 ·have h : n = 0 := h; omega
 ·rcases h1 with ⟨_, h1, h5, h6⟩ | ⟨h, _⟩
  ·exact ⟨b, cap, cs, h1, h5, h6, h2, h3, h4⟩
  ·cases h
theorem cell_at {w : World} {b k : Nat} {cs : Array Value} {t : TypeId} {u : Value} (hb : w.heap[b]? = some (.cells cs t (0, 0))) (hk : cs[k]? = some u) : w.cell? ((⟨b, 0, none⟩ : Addr).add k) = some u := by
 rw [add_off, Nat.zero_add]
 exact (cell_of_row w b _ cs t (0, 0) hb).trans hk
theorem AList.sliceData {x : Operand} {ats : Array TypeId} {id n : Nat} {t : TypeId} {F : Nat → Nat → CV} (hw : S.wants ops { dst, op := .call { callee := .builtin .unsafeSliceData, args := #[x], argTypes := ats }, type := ty, pos, after, guard } = some true) (hd : dOk S.n dst = true)
 (hx : S.opd x = some (.c (.ow id))) (hh : S.h id = some ⟨true, n, 1, t, F⟩) (h0 : 0 < n)
 (hn : AList P ops rest (([id], []) :: acc) (S.eff dst ⟨.c (.pt id 1 0 0), [], []⟩) Q) : AList P ops ({ dst, op := .call { callee := .builtin .unsafeSliceData, args := #[x], argTypes := ats }, type := ty, pos, after, guard } :: rest) acc S Q :=
 AList.val [id] _ hw hd (fun S1 h1 hr b0 σ a w R => by
  obtain ⟨_, e1, _⟩ := opd_rep R ((h1 x (by simp [Op.operands, Call.operands])).trans hx)
  obtain ⟨b, cap, cs, g1, g2, g3, g4, g5, -⟩ := own_row R ((hr id (by simp)).trans hh) e1 h0
  refine ⟨.pointer (some ⟨b, 0, none⟩), ?_, rfl, _, b, e1, by rw [g1]; rfl, by simp⟩
  simp only [execOp, resolve, invoke, builtin, Sem.run_bind, Sem.run_pure, Result.andThen_ok, List.map_toArray, List.map_cons, List.map_nil, g1, Lib.run_unsafeSliceData_row w _ _ _ _ _ (show cap ≠ 0 by omega)]) hn
theorem freeze_other {w : World} {b n k : Nat} (hk : k ≠ b) : (w.freeze ⟨b, 0, none⟩ n).heap[k]? = w.heap[k]? := by
 unfold World.freeze
 split
 ·rfl
 ·simp only [Array.getElem?_modify]
  rw [if_neg (fun e => hk e.symm)]
theorem keep_freeze {O : Nat → Prop} {w : World} {b n : Nat} (hb : O b) : Keep O w (w.freeze ⟨b, 0, none⟩ n) := by
 refine ⟨?_, ?_, ?_, ?_, fun k _ ho => freeze_other fun e => ho (by rw [e]; exact hb)⟩
 all_goals
  unfold World.freeze
  split <;> simp
theorem AList.unsafeStr {x y : Operand} {pt it e : TypeId} {id : Nat} {l : List UInt8} {F : Nat → Nat → CV} (hp : P.underlying pt = some (.pointer e)) (hc : P.cellsOf e = 1) (hw : S.wants ops { dst, op := .call { callee := .builtin .unsafeString, args := #[x, y], argTypes := #[pt, it] }, type := ty, pos, after, guard } = some true) (hd : dOk S.n dst = true)
 (hx : S.opd x = some (.c (.pt id 1 0 0))) (hy : S.opd y = some (.c (.p (.int .i64 l.length)))) (hh : S.h id = some ⟨true, l.length, 1, e, F⟩) (hF : ∀ k, k < l.length → F k 0 = .p (.int .u8 ((l.getD k 0).toNat : Nat))) (h0 : 0 < l.length) (hlo : Nat.blt id 1000 = true)
 (hn : AList P ops rest (([id], [id]) :: acc) (S.eff dst ⟨.c (byV l), [(id, none)], []⟩) Q) : AList P ops ({ dst, op := .call { callee := .builtin .unsafeString, args := #[x, y], argTypes := #[pt, it] }, type := ty, pos, after, guard } :: rest) acc S Q :=
 AList.cons [id] ⟨.c (byV l), [(id, none)], []⟩ (LStep.of hw fun S1 hA hr _ b0 σ a w R => by
  obtain ⟨_, v, b1, e1, e2, e3⟩ := opd_rep R ((hA.op x (by simp [Op.operands, Call.operands])).trans hx)
  have e4 := rep_int (opd_rep R ((hA.op y (by simp [Op.operands, Call.operands])).trans hy))
  have hh1 := (hr id (by simp)).trans hh
  obtain ⟨b, cap, cs, g1, g2, g3, g4, g5, g6⟩ := own_row R hh1 e1 h0
  rw [g1] at e2
  cases e2
  have hcell : ∀ j x, l[j]? = some x → w.cell? ((⟨b, 0, none⟩ : Addr).add j) = some (.int .u8 x.toNat) := fun j x hj => by
   have hj' := (List.getElem?_eq_some_iff.1 hj).1
   obtain ⟨u, k1, k2⟩ := g6 j hj' 0 (by omega)
   rw [Nat.mul_one, Nat.add_zero] at k1
   rw [cell_at g4 k1]
   rw [hF j hj', List.getD_eq_getElem?_getD, hj] at k2
   exact congrArg some k2.2
  have hsh : w.shape? b = some (e, cs.size) := by simp [World.shape?, g4]
  have h63 : l.length ≤ 9223372036854775807 := by simp only [maxLen] at g3; omega
  have hrun := Lib.run_unsafeString_row (P := P) w pt it ty e hp hc b cs.size hsh l (fun e => by rw [e] at h0; exact absurd h0 (Nat.lt_irrefl _)) (by omega) h63 hcell
  have hex : (execOp a.eval { dst, op := .call { callee := .builtin .unsafeString, args := #[x, y], argTypes := #[pt, it] }, type := ty, pos, after, guard }).run P w = .ok (.value (.string ⟨l.toArray⟩)) (w.freeze ⟨b, 0, none⟩ l.length) := by
   simp only [execOp, resolve, invoke, builtin, Sem.run_bind, Sem.run_pure, Result.andThen_ok, List.map_toArray, List.map_cons, List.map_nil, e3, e4, Nat.zero_mul, Nat.add_zero, hrun]
  rw [hex]
  have hown : own σ S1.h b := ⟨id, v, by rw [hh1]; simp, e1, by rw [g1]; rfl⟩
  have hK : Keep (own σ S1.h) w (w.freeze ⟨b, 0, none⟩ l.length) := keep_freeze hown
  have hlk : ∀ i, look [(id, none)] S1.h i = if i = id then none else S1.h i := fun i => by
   show put S1.h id none i = _
   by_cases h : i = id
   ·rw [if_pos h, h, put_same]
   ·rw [if_neg h, put_ne _ _ h]
  have hsub : ∀ i, look [(id, none)] S1.h i ≠ none → i ≠ id ∧ look [(id, none)] S1.h i = S1.h i := fun i hi => by
   rw [hlk] at hi ⊢
   by_cases h : i = id
   ·rw [if_pos h] at hi; exact absurd rfl hi
   ·rw [if_neg h]; exact ⟨h, rfl⟩
  have hown' : ∀ c, own σ (look [(id, none)] S1.h) c → own σ S1.h c := fun c ⟨i, u, h1, h2, h3⟩ => by
   have := (hsub i h1).2
   exact ⟨i, u, by rw [← this]; exact h1, h2, h3⟩
  have hO : ∀ c, out b0 σ (look [(id, none)] S1.h) c → out b0 σ S1.h c ∨ w.heap.size ≤ c := fun c hc => .inl (hc.imp (hown' c) fun h => h)
  have hne : ∀ i u c, i ≠ id → S1.h i ≠ none → σ i = some u → baseBlk u = some c → c ≠ b := fun i u c hi h1 h2 h3 e => by
   subst e
   exact hi (R.hp.inj i id u v c h1 (by rw [hh1]; simp) h2 e1 h3 (by rw [g1]; rfl))
  have H : HRel b0 σ (look [(id, none)] S1.h) (w.freeze ⟨b, 0, none⟩ l.length) := by
   refine ⟨fun i B hi => ?_, fun i j v1 v2 c hi hj h1 h2 h3 h4 => ?_, fun c hc => R.hp.new c (hown' c hc), fun i u hi => ?_, R.hp.big⟩
   ·obtain ⟨q1, q2⟩ := hsub i (by rw [hi]; simp)
    rw [q2] at hi
    obtain ⟨u, k1, k2⟩ := R.hp.blk i B hi
    exact ⟨u, k1, k2.keep hK.out hO (fun _ _ h => h) fun c hc => freeze_other (hne i u c q1 (by rw [hi]; simp) k1 hc)⟩
   ·have p1 := (hsub i hi).2
    have p2 := (hsub j hj).2
    exact R.hp.inj i j v1 v2 c (by rw [← p1]; exact hi) (by rw [← p2]; exact hj) h1 h2 h3 h4
   ·obtain ⟨k1, k2⟩ := R.hp.fx i u hi
    have h3 := (b0.one i u hi).1
    have h4 := Nat.blt_eq.mp hlo
    refine ⟨k1, ?_⟩
    rw [hlk, if_neg (by omega)]
    exact k2
  exact ⟨σ, R.step (e := ⟨.c (byV l), [(id, none)], []⟩) (by rw [hA.n]; exact hd) (fun _ _ h => h) hK H hO (fun _ => rep_p rfl) fun i hi => .inl hi⟩) hn
theorem AList.toStr {src t e : TypeId} {x : Operand} {id : Nat} {l : List UInt8} {F : Nat → Nat → CV} (hs : P.underlying src = some (.slice e)) (he : P.underlying e = some (.int .u8)) (ht : P.underlying t = some .string) (hw : S.wants ops { dst, op := .convert src t x, type := ty, pos, after, guard } = some true) (hd : dOk S.n dst = true)
 (hx : S.opd x = some (.c (.ow id))) (hh : S.h id = some ⟨true, l.length, 1, e, F⟩) (hF : ∀ k, k < l.length → F k 0 = .p (.int .u8 ((l.getD k 0).toNat : Nat))) (h0 : 0 < l.length)
 (hn : AList P ops rest (([id], []) :: acc) (S.eff dst ⟨.c (byV l), [], []⟩) Q) : AList P ops ({ dst, op := .convert src t x, type := ty, pos, after, guard } :: rest) acc S Q :=
 AList.val [id] _ hw hd (fun S1 h1 hr b0 σ a w R => by
  obtain ⟨_, e1, _⟩ := opd_rep R ((h1 x (by simp [Op.operands])).trans hx)
  obtain ⟨b, cap, cs, g1, g2, g3, g4, g5, g6⟩ := own_row R ((hr id (by simp)).trans hh) e1 h0
  refine ⟨.string ⟨l.toArray⟩, ?_, rep_p rfl⟩
  have := run_convert_bytes_back (P := P) w src t e ⟨b, 0, none⟩ cap l hs he ht (fun j hj => by
   obtain ⟨u, k1, k2⟩ := g6 j hj 0 (by omega)
   rw [Nat.mul_one, Nat.add_zero] at k1
   rw [cell_at g4 k1]
   rw [hF j hj, List.getD_eq_getElem?_getD, List.getElem?_eq_getElem hj] at k2
   exact congrArg some k2.2)
  simp only [execOp, g1, Sem.run_bind, this, Result.andThen_ok, Sem.run_pure]) hn
end ops
end
end Go.AV
end
section
namespace Go.AV
open Go Go.RowKit Go.Flow
section
variable {P : Program} {t : TypeId}
theorem shl_run {k ky : IntKind} {x : Int} {n : Nat} {c : Int} (hn : n ≤ k.bits) (h : k.wrap (x * 2 ^ n) = c) (w : World) : (Go.binOp .shl t (.int k x) (.int ky (n : Int))).run P w = .ok (.int k c) w := by
 have h0 : ¬ ((n : Int) < 0) := by omega
 have h1 : min n k.bits = n := Nat.min_eq_left hn
 simp [binOp, Op.shift, h1, h]
 intro hc
 exact absurd hc h0
theorem shr_run {k ky : IntKind} {x : Int} {n : Nat} {c : Int} (hn : n ≤ k.bits) (h : x / 2 ^ n = c) (w : World) : (Go.binOp .shr t (.int k x) (.int ky (n : Int))).run P w = .ok (.int k c) w := by
 have h0 : ¬ ((n : Int) < 0) := by omega
 have h1 : min n k.bits = n := Nat.min_eq_left hn
 have e : x.fdiv (2 ^ n) = x / 2 ^ n := Int.fdiv_eq_ediv_of_nonneg x (by exact Int.le_of_lt (Int.pow_pos (by decide)))
 simp [binOp, Op.shift, h1, e, h]
 intro hc
 exact absurd hc h0
theorem bv_nat {n a : Nat} (h : a < 2 ^ n) : (BitVec.ofInt n (a : Int)).toNat = a := by
 rw [BitVec.ofInt_natCast, BitVec.toNat_ofNat, Nat.mod_eq_of_lt h]
theorem wrap_u64n {a : Nat} (h : a < 18446744073709551616) : IntKind.u64.wrap (a : Int) = a := by
 rw [IntKind.wrap_u64]; omega
theorem wrap_u8n {a : Nat} (h : a < 256) : IntKind.u8.wrap (a : Int) = a := by
 rw [IntKind.wrap_u8]; omega
theorem and_run64 {a b c : Nat} (ha : a < 18446744073709551616) (hb : b < 18446744073709551616) (h : a &&& b = c) (w : World) : (Go.binOp .and t (.int .u64 (a : Int)) (.int .u64 (b : Int))).run P w = .ok (.int .u64 (c : Int)) w := by
 have h1 : (BitVec.ofInt 64 (a : Int) &&& BitVec.ofInt 64 (b : Int)).toNat = c := by rw [BitVec.toNat_and, bv_nat (by simpa using ha), bv_nat (by simpa using hb), h]
 have h2 : c ≤ a := by rw [← h]; exact Nat.and_le_left
 have h3 := wrap_u64n (a := c) (by omega)
 show Result.ok _ _ = _
 rw [show IntKind.bits .u64 = 64 from rfl, h1, h3]
theorem or_run8 {a b c : Nat} (ha : a < 256) (hb : b < 256) (h : a ||| b = c) (w : World) : (Go.binOp .or t (.int .u8 (a : Int)) (.int .u8 (b : Int))).run P w = .ok (.int .u8 (c : Int)) w := by
 have h1 : (BitVec.ofInt 8 (a : Int) ||| BitVec.ofInt 8 (b : Int)).toNat = c := by rw [BitVec.toNat_or, bv_nat (by simpa using ha), bv_nat (by simpa using hb), h]
 have h2 : c < 2 ^ 8 := by rw [← h]; exact Nat.or_lt_two_pow (by simpa using ha) (by simpa using hb)
 have h3 := wrap_u8n (a := c) (by simpa using h2)
 show Result.ok _ _ = _
 rw [show IntKind.bits .u8 = 8 from rfl, h1, h3]
theorem add_run8 {a b : Nat} (h : a + b < 256) (w : World) : (Go.binOp .add t (.int .u8 (a : Int)) (.int .u8 (b : Int))).run P w = .ok (.int .u8 ((a + b : Nat) : Int)) w := by
 have h3 := wrap_u8n h
 show Result.ok _ _ = _
 rw [show ((a : Int) + b) = ((a + b : Nat) : Int) by omega, h3]
theorem and127 (a : Nat) : a &&& 127 = a % 128 := Nat.and_two_pow_sub_one_eq_mod a 7
theorem or128 (a : Nat) : a % 256 ||| 128 = a % 128 + 128 := by
 have h : ∀ b, b < 256 → b ||| 128 = b % 128 + 128 := by decide +kernel
 rw [h (a % 256) (by omega)]
 omega
theorem not_run64 {a : Nat} (ha : a < 18446744073709551616) (w : World) : (Op.unary .xor (.int .u64 (a : Int))).run P w = .ok (.int .u64 ((18446744073709551615 - a : Nat) : Int)) w := by
 have h1 : (BitVec.ofInt 64 18446744073709551615 ^^^ BitVec.ofInt 64 (a : Int)).toNat = 18446744073709551615 - a := by
  have : BitVec.ofInt 64 18446744073709551615 = BitVec.allOnes 64 := by decide
  rw [this, BitVec.allOnes_xor, BitVec.toNat_not, bv_nat (by simpa using ha)]
 have h3 := wrap_u64n (a := 18446744073709551615 - a) (by omega)
 show Result.ok _ _ = _
 rw [show IntKind.bits .u64 = 64 from rfl, show (if IntKind.u64.signed = true then (-1 : Int) else IntKind.u64.max) = 18446744073709551615 from rfl, h1, h3]
def zz (n : Int) : Nat := if n < 0 then (-2 * n - 1).toNat else (2 * n).toNat
theorem zz_neg {n : Int} (h0 : -9223372036854775808 ≤ n) (h : n < 0) : zz n < 18446744073709551616 ∧ IntKind.u64.wrap (IntKind.u64.wrap n * 2 ^ 1) = ((18446744073709551615 - zz n : Nat) : Int) ∧ 18446744073709551615 - (18446744073709551615 - zz n) = zz n := by
 unfold zz
 rw [if_pos h, IntKind.wrap_u64, IntKind.wrap_u64]
 omega
theorem zz_nn {n : Int} (h0 : n ≤ 9223372036854775807) (h : ¬ n < 0) : zz n < 18446744073709551616 ∧ IntKind.u64.wrap (IntKind.u64.wrap n * 2 ^ 1) = (zz n : Int) := by
 unfold zz
 rw [if_neg h, IntKind.wrap_u64, IntKind.wrap_u64]
 omega
def vzF : Nat → Nat → List UInt8
 | 0, c => [UInt8.ofNat (c % 256)]
 | f + 1, c => if c < 128 then [UInt8.ofNat (c % 256)] else UInt8.ofNat (c % 128 + 128) :: vzF f (c / 128)
def vz (c : Nat) : List UInt8 := vzF 10 c
abbrev inB (n : Int) : List UInt8 := vz (zz n)
def insB (l : List Int) : List UInt8 := inB l.length ++ l.flatMap inB
theorem vzF_pos : ∀ f c, 0 < (vzF f c).length
 | 0, _ => Nat.one_pos
 | f + 1, c => by unfold vzF; split <;> simp
theorem vzF_le : ∀ f c, (vzF f c).length ≤ f + 1
 | 0, _ => Nat.le_refl _
 | f + 1, c => by unfold vzF; split <;> simp <;> exact vzF_le f _
def vzP (c : Nat) : Nat → List UInt8
 | 0 => []
 | i + 1 => vzP c i ++ [UInt8.ofNat (c / 128 ^ i % 128 + 128)]
theorem vzP_len (c : Nat) : ∀ i, (vzP c i).length = i
 | 0 => rfl
 | i + 1 => by unfold vzP; rw [List.length_append, vzP_len c i]; rfl
theorem vzP_cons (c : Nat) : ∀ i, vzP c (i + 1) = UInt8.ofNat (c % 128 + 128) :: vzP (c / 128) i
 | 0 => by unfold vzP vzP; rw [Nat.pow_zero, Nat.div_one]; rfl
 | i + 1 => by
   rw [show vzP c (i + 1 + 1) = vzP c (i + 1) ++ [UInt8.ofNat (c / 128 ^ (i + 1) % 128 + 128)] from rfl, vzP_cons c i, List.cons_append]
   rw [show vzP (c / 128) (i + 1) = vzP (c / 128) i ++ [UInt8.ofNat (c / 128 / 128 ^ i % 128 + 128)] from rfl, Nat.div_div_eq_div_mul, show 128 * 128 ^ i = 128 ^ (i + 1) by rw [Nat.pow_succ, Nat.mul_comm]]
theorem vzF_at : ∀ (f i c : Nat), i ≤ f → (∀ k, k < i → 128 ≤ c / 128 ^ k) → c / 128 ^ i < 128 → vzF f c = vzP c i ++ [UInt8.ofNat (c / 128 ^ i % 256)]
 | 0, i, c, hi, _, _ => by
   obtain rfl : i = 0 := by omega
   rw [Nat.pow_zero, Nat.div_one]
   rfl
 | f + 1, 0, c, _, _, hc => by
   rw [Nat.pow_zero, Nat.div_one] at hc ⊢
   unfold vzF
   rw [if_pos hc]
   rfl
 | f + 1, i + 1, c, hi, hl, hc => by
   have h0 := hl 0 (by omega)
   rw [Nat.pow_zero, Nat.div_one] at h0
   unfold vzF
   have e : ∀ k, c / 128 / 128 ^ k = c / 128 ^ (k + 1) := fun k => by rw [Nat.div_div_eq_div_mul, show 128 * 128 ^ k = 128 ^ (k + 1) by rw [Nat.pow_succ, Nat.mul_comm]]
   rw [if_neg (by omega), vzF_at f i (c / 128) (by omega) (fun k hk => by rw [e]; exact hl (k + 1) (by omega)) (by rw [e]; exact hc), vzP_cons, e]
   rfl
theorem vz_ex (c : Nat) (hc : c < 18446744073709551616) : ∃ i, i ≤ 9 ∧ (∀ k, k < i → 128 ≤ c / 128 ^ k) ∧ c / 128 ^ i < 128 := by
 have h9 : c / 128 ^ 9 < 128 := by
  rw [Nat.div_lt_iff_lt_mul (by decide)]
  omega
 have : ∀ m, m ≤ 9 → (∀ k, k < m → 128 ≤ c / 128 ^ k) → ∃ i, i ≤ 9 ∧ (∀ k, k < i → 128 ≤ c / 128 ^ k) ∧ c / 128 ^ i < 128 := fun m => by
  induction hn : 9 - m generalizing m with
  | zero => exact fun hm hk => ⟨9, Nat.le_refl _, by obtain rfl : m = 9 := by omega
                                                     exact hk, h9⟩
  | succ d ih =>
    intro hm hk
    by_cases h : c / 128 ^ m < 128
    ·exact ⟨m, hm, hk, h⟩
    ·refine ih (m + 1) (by omega) (by omega) fun k hk' => ?_
     rcases Nat.lt_or_eq_of_le (Nat.le_of_lt_succ hk') with h' | rfl
     ·exact hk k h'
     ·omega
 exact this 0 (by omega) fun k hk => absurd hk (Nat.not_lt_zero _)
theorem vz_at {c i : Nat} (hi : i ≤ 9) (hl : ∀ k, k < i → 128 ≤ c / 128 ^ k) (hc : c / 128 ^ i < 128) : vz c = vzP c i ++ [UInt8.ofNat (c / 128 ^ i % 256)] := vzF_at 10 i c (by omega) hl hc
theorem inB_pos (n : Int) : 0 < (inB n).length := vzF_pos _ _
theorem inB_le (n : Int) : (inB n).length ≤ 11 := vzF_le _ _
theorem flat_len (l : List Int) : (l.flatMap inB).length ≤ 11 * l.length := by
 induction l with
 | nil => simp
 | cons x l ih => rw [List.flatMap_cons, List.length_append, List.length_cons]; have := inB_le x; omega
theorem insB_le (l : List Int) : (insB l).length ≤ 11 + 11 * l.length := by
 unfold insB
 rw [List.length_append]
 have := inB_le (l.length : Int)
 have := flat_len l
 omega
end
end Go.AV
end
section
namespace Go.Proofs.Ytekkldgmjdllbaa
open Go.RowKit Go.Flow Go.AV Go.Plain
abbrev byB (l : List UInt8) : AB := ⟨true, l.length, 1, 5, byF l⟩
abbrev sbB (p b : CV) : AB := ⟨false, 1, 2, 127, lF [p, b]⟩
abbrev sbZ : AB := sbB (.p (.pointer none)) (.p (.slice none 0 0))
abbrev u8C (n : Nat) : CV := .p (.int .u8 (n : Nat))
theorem byF_get {l : List UInt8} {k : Nat} (hk : k < l.length) (m : List UInt8) : byF (l ++ m) k 0 = byF l k 0 := by
 show CV.p _ = CV.p _
 rw [List.getD_eq_getElem?_getD, List.getElem?_append_left hk, ← List.getD_eq_getElem?_getD]
theorem by_snoc (l : List UInt8) (c : Nat) (u : UInt8) (hu : u.toNat = c) : ∀ i, i < l.length + 1 → ∀ j, j < 1 → appF (byF l) l.length (sF [u8C c] 1) i j = byF (l ++ [u]) i j ∧ immC (appF (byF l) l.length (sF [u8C c] 1) i j) = true :=
 app_F (G := byF (l ++ [u])) (fun i hi j hj => by
  obtain rfl : j = 0 := Nat.lt_one_iff.mp hj
  exact (byF_get hi [u]).symm) (cell1 (by
  show u8C c = CV.p (.int .u8 (((l ++ [u]).getD l.length 0).toNat : Nat))
  rw [show (l ++ [u]).getD l.length 0 = u by simp, hu])) (fun _ _ _ _ => rfl)
theorem by_one (c : Nat) (u : UInt8) (hu : u.toNat = c) : ∀ i, i < 1 → ∀ j, j < 1 → sF [u8C c] 1 i j = byF [u] i j ∧ immC (sF [u8C c] 1 i j) = true := fun i hi => by
 obtain rfl : i = 0 := Nat.lt_one_iff.mp hi
 refine cell1 ⟨?_, rfl⟩
 show u8C c = CV.p (.int .u8 ((([u] : List UInt8).getD 0 0).toNat : Nat))
 rw [show ([u] : List UInt8).getD 0 0 = u from rfl, hu]
theorem by_app (l m : List UInt8) : ∀ i, i < l.length + m.length → ∀ j, j < 1 → appF (byF l) l.length (strG ⟨m.toArray⟩) i j = byF (l ++ m) i j ∧ immC (appF (byF l) l.length (strG ⟨m.toArray⟩) i j) = true := fun i hi j hj => by
 obtain rfl : j = 0 := Nat.lt_one_iff.mp hj
 unfold appF
 by_cases h : i < l.length
 ·rw [Nat.blt_eq.mpr h]
  exact ⟨(byF_get h m).symm, rfl⟩
 ·rw [show Nat.blt i l.length = false from Bool.eq_false_iff.2 fun e => h (Nat.blt_eq.mp e)]
  refine ⟨?_, rfl⟩
  show CV.p _ = CV.p _
  rw [List.getD_eq_getElem?_getD (l := l ++ m), List.getElem?_append_right (by omega), ← List.getD_eq_getElem?_getD]
set_option maxRecDepth 100000 in
theorem copy0_M : GMCalls Try.prog 117 [.c (.pt 1000 2 0 0)] [sbZ] [] (.tu []) [sbB (.pt 1000 2 0 0) (.p (.slice none 0 0))] [] := by
 refine gm_at Try.func117 rfl rfl Try.ntmps117 rfl ?_
 repeat (first
  | refine uA ?_
  | refine uB ?_
  | refine kT ?_
  | (refine rG 0 ?_
     refine kA ?_
     refine AList.nilPt rfl rfl rfl rfl ?_
     refine kD ?_
     refine kE ?_
     refine AList.ptNilT rfl rfl rfl (ptr_under Try.underlying125) ?_
     refine aB ?_)
  | (refine rG 1 ?_
     (iterate 2 refine kA ?_)
     refine AList.toUnsafe tyOk Try.underlying125 Try.underlying191 rfl (by kernel_rfl) rfl rfl rfl rfl ?_
     refine AList.callSame rfl rfl rfl Try.func139 (by kernel_rfl) (by kernel_rfl) (by kernel_rfl) (e := Extern.AbiNoEscape.same) (by kernel_rfl) (fun _ _ => rfl) ?_
     refine AList.ofUnsafe tyOk Try.underlying191 Try.underlying125 rfl (by kernel_rfl) rfl rfl rfl rfl ?_
     refine AList.nilPt rfl rfl rfl rfl ?_
     refine kD ?_
     refine kI ?_
     refine aB ?_))
 refine ⟨mkL 20 1 [] [(1000, sbB (.pt 1000 2 0 0) (.p (.slice none 0 0)))] [], [], _, _, [], ⟨rfl, rfl, rfl⟩, rfl, Wk.mkL [] rfl rfl rfl rfl rfl trivial ?_, rfl, rfl, GRets.no⟩
 exact ⟨HeapOk.lentC rfl rfl ⟨LeC.ptB _ _ _ _ rfl, LeC.refl _ rfl, trivial⟩ rfl, trivial⟩
set_option maxRecDepth 100000 in
theorem copy1_M (l : List UInt8) : GMCalls Try.prog 117 [.c (.pt 1000 2 0 0)] [sbB (.pt 1000 2 0 0) (.ow 1001), byB l] [] (.tu []) [sbB (.pt 1000 2 0 0) (.ow 1001), byB l] [] := by
 refine gm_at Try.func117 rfl rfl Try.ntmps117 rfl ?_
 repeat (first
  | refine uA ?_
  | refine uB ?_
  | refine uG ?_
  | refine kU ?_
  | (refine rG 0 ?_
     refine kA ?_
     refine AList.nilPt rfl rfl rfl rfl ?_
     refine kD ?_
     refine kE ?_
     refine AList.ptNilF rfl rfl rfl rfl (ptr_under Try.underlying125) ?_
     refine aB ?_)
  | (refine rG 2 ?_
     refine kA ?_
     refine AList.nilPt rfl rfl rfl rfl ?_
     refine kD ?_
     refine kE ?_
     refine kA ?_
     refine AList.ptNe tyOk Try.underlying125 rfl rfl rfl rfl rfl ?_
     refine aB ?_))
 refine ⟨mkL 20 2 [] [(1000, sbB (.pt 1000 2 0 0) (.ow 1001)), (1001, byB l)] [], [], _, _, [], ⟨rfl, rfl, rfl⟩, rfl, Wk.mkL [] rfl rfl rfl rfl rfl trivial ?_, rfl, rfl, GRets.no⟩
 exact ⟨HeapOk.lentC rfl rfl ⟨LeC.ptB _ _ _ _ rfl, LeC.owB _ rfl, trivial⟩ rfl, lrw, trivial⟩
theorem sb_lend {S : St} {ids mids l : List Nat} {bs : List AB} {p : Nat} {a b a' b' : CV} (hp : S.h p = some (sbB a b)) (ha : LentM ids mids a a') (hb : LentM ids mids b b') (h : LendOkM S ids mids l bs) : LendOkM S ids mids (p :: l) (sbB a' b' :: bs) :=
 ⟨⟨_, hp, (fun h => by cases h), fun k hk j hj => by
   obtain rfl : k = 0 := Nat.lt_one_iff.mp hk
   match j, hj with
   | 0, _ => exact ha
   | 1, _ => exact hb⟩, h⟩
theorem sb_back {ids ni : List Nat} {l bs : List AB} {a b a' b' : CV} (ha : BackM ids ni a' a) (hb : BackM ids ni b' b) (h : BackBM ids ni l bs) : BackBM ids ni (sbB a' b' :: l) (sbB a b :: bs) :=
 ⟨⟨_, rfl, fun k hk j hj => by
   obtain rfl : k = 0 := Nat.lt_one_iff.mp hk
   match j, hj with
   | 0, _ => exact ha
   | 1, _ => exact hb⟩, h⟩
theorem by_lend {S : St} {ids mids l : List Nat} {bs : List AB} {p : Nat} {m : List UInt8} (hp : S.h p = some (byB m)) (h0 : 0 < m.length) (h : LendOkM S ids mids l bs) : LendOkM S ids mids (p :: l) (byB m :: bs) :=
 ⟨⟨_, hp, fun _ => h0, fun _ _ _ _ => .b (.imm _ rfl)⟩, h⟩
theorem by_back {ids ni : List Nat} {l bs : List AB} {m : List UInt8} (h : BackBM ids ni l bs) : BackBM ids ni (byB m :: l) (byB m :: bs) := ⟨⟨_, rfl, fun _ _ _ _ => .b (.imm _ rfl)⟩, h⟩
theorem by_mov {S : St} {p : Nat} {m : List UInt8} (hp : S.h p = some (byB m)) : MovOk S [p] [byB m] := ⟨⟨_, hp, rfl, fun _ _ _ _ => ⟨rfl, rfl⟩⟩, trivial⟩
theorem by_new {ids ni : List Nat} {m : List UInt8} : BackB ids ni [byB m] [byB m] := ⟨⟨_, rfl, fun _ _ _ _ => .imm _ rfl⟩, trivial⟩
theorem sb_arg {ids mids : List Nat} {p : Nat} (h : posOf ids p = some 0 := by rfl) : LentV ids mids (.c (.pt p 2 0 0)) (.c (.pt 1000 2 0 0)) := .c (.b (.pt p 0 2 0 0 h))
theorem p_arg {ids mids : List Nat} {v : Value} : LentV ids mids (.c (.p v)) (.c (.p v)) := .c (.b (.imm _ rfl))
theorem tu2_back {ids ni : List Nat} {u v : Value} : BackA ids ni (.tu [.c (.p u), .c (.p v)]) (.tu [.c (.p u), .c (.p v)]) := .tu ⟨.c (.imm _ rfl), .c (.imm _ rfl), trivial⟩
set_option maxRecDepth 100000 in
theorem wbyte0_M (c : Nat) (u : UInt8) (hu : u.toNat = c) : GMCalls Try.prog 118 [.c (.pt 1000 2 0 0), .c (u8C c)] [sbZ] [] (.c (.p .nilIface)) [sbB (.pt 1000 2 0 0) (.ow 900)] [byB [u]] := by
 refine gm_at Try.func118 rfl rfl Try.ntmps118 rfl ?_
 repeat (first
  | refine uA ?_
  | refine uB ?_
  | refine AWp.ret ?_
  | (refine rG 0 ?_
     refine kC ?_
     refine aB ?_)
  | (refine rG 1 ?_
     refine kA ?_
     refine AList.callM [1000] [] [] [sbZ] [] [sbB (.pt 1000 2 0 0) (.p (.slice none 0 0))] [] [sbB (.pt 1000 2 0 0) (.p (.slice none 0 0))] [] rfl rfl FnV.func rfl Try.func117 rfl (by kernel_rfl) (sb_lend rfl (.b (.imm _ rfl)) (.b (.imm _ rfl)) trivial) (trivial) rfl (by exact ⟨sb_arg, trivial⟩) (.tu (l := []) (m := []) trivial) (sb_back (.b (.pt 0 1000 2 0 0 rfl)) (.b (.imm _ rfl)) trivial) (trivial) (copy0_M) ?_
     refine aB ?_)
  | (refine rG 2 ?_
     (iterate 2 refine kA ?_)
     refine AList.nilPt rfl rfl rfl rfl ?_
     refine kD ?_
     refine kE ?_
     refine kA ?_
     refine qr11 (AList.litSl tyOk) ?_
     refine AList.appN tyOk rfl rfl rfl rfl rfl rfl rfl rfl rfl oM oM ?_
     refine AList.nilPt rfl rfl rfl rfl ?_
     refine kD ?_
     refine kI ?_
     refine aB ?_)
  | (refine rG 3 ?_
     refine kC ?_
     refine aB ?_))
 refine ⟨mkL 17 1 [(4, .c (.p .nilIface))] [(900, byB ([u])), (1000, sbB (.pt 1000 2 0 0) (.ow 900))] [900], [], _, [sbB (.pt 1000 2 0 0) (.ow 900)], [byB ([u])], ⟨rfl, rfl, rfl⟩, rfl, Wk.mkL [(900, some 14)] rfl rfl rfl rfl rfl ?_ ?_, rfl, rfl, ?_⟩
 ·exact allT
 ·exact ⟨HeapOk.row rfl rfl rfl (by_one c u hu), HeapOk.lentC rfl rfl ⟨LeC.ptB _ _ _ _ rfl, LeC.ow _ _ rfl, trivial⟩ rfl, trivial⟩
 ·exact GRets.one (x := .c _) (GRes.tmp rfl)
set_option maxRecDepth 100000 in
theorem wbyte1_M (l : List UInt8) (c : Nat) (u : UInt8) (hu : u.toNat = c) (h0 : 0 < l.length) (h1 : l.length ≤ 1000000000) : GMCalls Try.prog 118 [.c (.pt 1000 2 0 0), .c (u8C c)] [sbB (.pt 1000 2 0 0) (.ow 800)] [byB l] (.c (.p .nilIface)) [sbB (.pt 1000 2 0 0) (.ow 900)] [byB (l ++ [u])] := by
 refine gm_at Try.func118 rfl rfl Try.ntmps118 rfl ?_
 repeat (first
  | refine uA ?_
  | refine uB ?_
  | refine AWp.ret ?_
  | (refine rG 0 ?_
     refine kC ?_
     refine aB ?_)
  | (refine rG 1 ?_
     refine kA ?_
     refine AList.callM [1000, 800] [] [] [sbB (.pt 1000 2 0 0) (.ow 1001), byB l] [] [sbB (.pt 1000 2 0 0) (.ow 1001), byB l] [] [sbB (.pt 1000 2 0 0) (.ow 800), byB l] [] rfl rfl FnV.func rfl Try.func117 rfl (by kernel_rfl) (sb_lend rfl (.b (.pt 1000 0 2 0 0 rfl)) (.b (.ow 800 1 rfl)) (by_lend rfl h0 trivial)) (trivial) rfl (by exact ⟨sb_arg, trivial⟩) (.tu (l := []) (m := []) trivial) (sb_back (.b (.pt 0 1000 2 0 0 rfl)) (.b (.ow 1 800 rfl)) (by_back trivial)) (trivial) (copy1_M l) ?_
     refine aB ?_)
  | (refine rG 2 ?_
     (iterate 2 refine kA ?_)
     refine AList.nilPt rfl rfl rfl rfl ?_
     refine kD ?_
     refine kE ?_
     refine kA ?_
     refine qr11 (AList.litSl tyOk) ?_
     refine AList.appL tyOk rfl rfl rfl rfl rfl rfl rfl rfl rfl rfl oM oM ?_
     refine AList.nilPt rfl rfl rfl rfl ?_
     refine kD ?_
     refine kI ?_
     refine aB ?_)
  | (refine rG 3 ?_
     refine kC ?_
     refine aB ?_))
 refine ⟨mkL 17 1 [(4, .c (.p .nilIface))] [(900, byB (l ++ [u])), (1000, sbB (.pt 1000 2 0 0) (.ow 900))] [900], [], _, [sbB (.pt 1000 2 0 0) (.ow 900)], [byB (l ++ [u])], ⟨rfl, rfl, rfl⟩, rfl, Wk.mkL [(900, some 14)] rfl rfl rfl rfl rfl ?_ ?_, rfl, rfl, ?_⟩
 ·exact allT
 ·exact ⟨HeapOk.row rfl rfl (by rw [List.length_append]; rfl) (by_snoc l c u hu), HeapOk.lentC rfl rfl ⟨LeC.ptB _ _ _ _ rfl, LeC.ow _ _ rfl, trivial⟩ rfl, trivial⟩
 ·exact GRets.one (x := .c _) (GRes.tmp rfl)
set_option maxRecDepth 100000 in
theorem wstr0_M (m : List UInt8) (h1 : m.length ≤ 140737488355328) : GMCalls Try.prog 66 [.c (.pt 1000 2 0 0), .c (byV m)] [sbZ] [] (.tu [.c (iC m.length), .c (.p .nilIface)]) [sbB (.pt 1000 2 0 0) (.ow 900)] [byB m] := by
 have hz : (⟨m.toArray⟩ : ByteArray).size = m.length := rfl
 refine gm_at Try.func66 rfl rfl Try.ntmps66 rfl ?_
 repeat (first
  | refine uA ?_
  | refine uB ?_
  | refine AWp.ret ?_
  | (refine rG 0 ?_
     (iterate 2 refine kC ?_)
     refine aB ?_)
  | (refine rG 1 ?_
     refine kA ?_
     refine AList.callM [1000] [] [] [sbZ] [] [sbB (.pt 1000 2 0 0) (.p (.slice none 0 0))] [] [sbB (.pt 1000 2 0 0) (.p (.slice none 0 0))] [] rfl rfl FnV.func rfl Try.func117 rfl (by kernel_rfl) (sb_lend rfl (.b (.imm _ rfl)) (.b (.imm _ rfl)) trivial) (trivial) rfl (by exact ⟨sb_arg, trivial⟩) (.tu (l := []) (m := []) trivial) (sb_back (.b (.pt 0 1000 2 0 0 rfl)) (.b (.imm _ rfl)) trivial) (trivial) (copy0_M) ?_
     refine aB ?_)
  | (refine rG 2 ?_
     (iterate 2 refine kA ?_)
     refine AList.nilPt rfl rfl rfl rfl ?_
     refine kD ?_
     refine kE ?_
     refine kA ?_
     refine AList.appS (F := byF []) tyOk rfl rfl rfl rfl rfl rfl rfl rfl Try.underlying9 rfl (by kernel_rfl) (.inl ⟨rfl, rfl, rfl⟩) (by omega) ?_
     refine AList.nilPt rfl rfl rfl rfl ?_
     refine kD ?_
     refine kI ?_
     refine aB ?_)
  | (refine rG 3 ?_
     refine kA ?_
     refine AList.lenStr (m.length) (by first | rfl | assumption) Try.underlying9 rfl rfl rfl ?_
     (iterate 2 refine kC ?_)
     refine aB ?_))
 refine ⟨mkL 19 1 [(4, .c (iC m.length)), (5, .c (.p .nilIface))] [(900, byB (m)), (1000, sbB (.pt 1000 2 0 0) (.ow 900))] [900], [], _, [sbB (.pt 1000 2 0 0) (.ow 900)], [byB (m)], ⟨rfl, rfl, rfl⟩, rfl, Wk.mkL [(900, some 14)] rfl rfl rfl rfl rfl ?_ ?_, rfl, rfl, ?_⟩
 ·exact allT
 ·exact ⟨HeapOk.row rfl rfl (by rw [hz, Nat.zero_add]) (fun i hi j hj => by have := by_app [] m i (by rw [hz, Nat.zero_add] at hi; simpa using hi) j hj; simpa using this), HeapOk.lentC rfl rfl ⟨LeC.ptB _ _ _ _ rfl, LeC.ow _ _ rfl, trivial⟩ rfl, trivial⟩
 ·exact GRets.two (x := .c _) (y := .c _) (GRes.tmp rfl) (GRes.tmp rfl)
set_option maxRecDepth 100000 in
theorem wstr1_M (l m : List UInt8) (h0 : 0 < l.length) (h1 : l.length + m.length ≤ 140737488355328) : GMCalls Try.prog 66 [.c (.pt 1000 2 0 0), .c (byV m)] [sbB (.pt 1000 2 0 0) (.ow 800)] [byB l] (.tu [.c (iC m.length), .c (.p .nilIface)]) [sbB (.pt 1000 2 0 0) (.ow 900)] [byB (l ++ m)] := by
 have hz : (⟨m.toArray⟩ : ByteArray).size = m.length := rfl
 refine gm_at Try.func66 rfl rfl Try.ntmps66 rfl ?_
 repeat (first
  | refine uA ?_
  | refine uB ?_
  | refine AWp.ret ?_
  | (refine rG 0 ?_
     (iterate 2 refine kC ?_)
     refine aB ?_)
  | (refine rG 1 ?_
     refine kA ?_
     refine AList.callM [1000, 800] [] [] [sbB (.pt 1000 2 0 0) (.ow 1001), byB l] [] [sbB (.pt 1000 2 0 0) (.ow 1001), byB l] [] [sbB (.pt 1000 2 0 0) (.ow 800), byB l] [] rfl rfl FnV.func rfl Try.func117 rfl (by kernel_rfl) (sb_lend rfl (.b (.pt 1000 0 2 0 0 rfl)) (.b (.ow 800 1 rfl)) (by_lend rfl h0 trivial)) (trivial) rfl (by exact ⟨sb_arg, trivial⟩) (.tu (l := []) (m := []) trivial) (sb_back (.b (.pt 0 1000 2 0 0 rfl)) (.b (.ow 1 800 rfl)) (by_back trivial)) (trivial) (copy1_M l) ?_
     refine aB ?_)
  | (refine rG 2 ?_
     (iterate 2 refine kA ?_)
     refine AList.nilPt rfl rfl rfl rfl ?_
     refine kD ?_
     refine kE ?_
     refine kA ?_
     refine AList.appS tyOk rfl rfl rfl rfl rfl rfl rfl rfl Try.underlying9 rfl (by kernel_rfl) (.inr ⟨_, rfl, rfl, rfl, by decide⟩) (by omega) ?_
     refine AList.nilPt rfl rfl rfl rfl ?_
     refine kD ?_
     refine kI ?_
     refine aB ?_)
  | (refine rG 3 ?_
     refine kA ?_
     refine AList.lenStr (m.length) (by first | rfl | assumption) Try.underlying9 rfl rfl rfl ?_
     (iterate 2 refine kC ?_)
     refine aB ?_))
 refine ⟨mkL 19 1 [(4, .c (iC m.length)), (5, .c (.p .nilIface))] [(900, byB (l ++ m)), (1000, sbB (.pt 1000 2 0 0) (.ow 900))] [900], [], _, [sbB (.pt 1000 2 0 0) (.ow 900)], [byB (l ++ m)], ⟨rfl, rfl, rfl⟩, rfl, Wk.mkL [(900, some 14)] rfl rfl rfl rfl rfl ?_ ?_, rfl, rfl, ?_⟩
 ·exact allT
 ·exact ⟨HeapOk.row rfl rfl (by rw [hz, List.length_append]) (by_app l m), HeapOk.lentC rfl rfl ⟨LeC.ptB _ _ _ _ rfl, LeC.ow _ _ rfl, trivial⟩ rfl, trivial⟩
 ·exact GRets.two (x := .c _) (y := .c _) (GRes.tmp rfl) (GRes.tmp rfl)
set_option maxRecDepth 100000 in
theorem sstr_M (l : List UInt8) (h0 : 0 < l.length) : GMCalls Try.prog 69 [.c (.pt 1000 2 0 0)] [sbB (.pt 1000 2 0 0) (.ow 800)] [byB l] (.c (byV l)) [sbB (.pt 1000 2 0 0) .any] [] := by
 refine gm_at Try.func69 rfl rfl Try.ntmps69 rfl ?_
 repeat (first
  | refine uA ?_
  | refine uB ?_
  | refine AWp.ret ?_
  | (refine rG 0 ?_
     refine kC ?_
     refine aB ?_)
  | (refine AWp.draw (id := 1) mixed ?_; refine kA ?_; refine AList.nilPt rfl rfl rfl rfl ?_; refine kD ?_; refine kE ?_; refine AList.sliceData rfl rfl rfl rfl (h0) ?_; refine kA ?_; refine AList.nilPt rfl rfl rfl rfl ?_; refine kD ?_; refine kE ?_; refine qr7 (AList.lenOw tyOk) ?_; refine AList.unsafeStr Try.underlying175 (by kernel_rfl) rfl rfl rfl rfl rfl (fun _ _ => rfl) (h0) rfl ?_; refine kC ?_; refine aB ⟨by kernel_rfl, ?_⟩))
 refine ⟨mkL 14 1 [(2, .c (byV l))] [(1000, sbB (.pt 1000 2 0 0) .any)] [], [], _, [sbB (.pt 1000 2 0 0) .any], [], ⟨rfl, rfl, rfl⟩, rfl, Wk.mkL [] rfl rfl rfl rfl rfl ?_ ?_, rfl, rfl, GRets.one (x := .c _) (GRes.tmp rfl)⟩
 ·exact allT
 ·exact ⟨HeapOk.lentC rfl rfl ⟨LeC.ptB _ _ _ _ rfl, LeC.any _, trivial⟩ rfl, trivial⟩
end Go.Proofs.Ytekkldgmjdllbaa
end
