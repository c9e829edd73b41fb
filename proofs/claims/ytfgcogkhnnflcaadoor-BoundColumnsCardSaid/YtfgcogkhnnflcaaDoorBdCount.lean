/- bound.sides, (*counts).get, (side).count. No condition but those that each states. -/
import Derived.Test.YtfgcogkhnnflcaaDoorProg
import Derived.Test.YtfgcogkhnnflcaaDoorSame
import Derived.Test.YtfgcogkhnnflcaaDoorSum
namespace Go.Proofs.YtfgcogkhnnflcaaDoor
open Go.RowKit Go.Flow Go.Plain
open Go.Proofs
attribute [local go_sem] block_add
attribute [local go_sem ↓] Go.wp_at_zero Go.wp_at_succ

/-- A 'counts' in memory: 96 numbers and how many there are. -/
def Cts (w : World) (g : Nat) (n : Nat) (f : Nat → Int) : Prop := Own w g 73 97 (fun k => if k < 96 then .int .i64 (if k < n then f k else 0) else .int .i64 n)
/-- A list of numbers, 0 outside. -/
def extB (n : Nat) (f : Nat → Int) (k : Int) : Int := if 0 ≤ k ∧ k < n then f k.toNat else 0

theorem Cts.many {w : World} {g n : Nat} {f : Nat → Int} (h : Cts w g n f) : w.cell? ⟨g, 96, none⟩ = some (.int .i64 n) := Own.cell h (k := 96) (by omega)
theorem Cts.at_ {w : World} {g n : Nat} {f : Nat → Int} (h : Cts w g n f) {k : Nat} (hk : k < n) (hn : n ≤ 96) : w.cell? ⟨g, k, none⟩ = some (.int .i64 (f k)) := by
  have := Own.cell h (k := k) (by omega)
  simpa [hk, show k < 96 by omega] using this

theorem Cts.set_ {w : World} {g m j : Nat} {f f' : Nat → Int} {v : Int} (h : Cts w g m f) (hj : j < m) (hm : m ≤ 96) (hf : ∀ i, i < m → f' i = if i = j then v else f i) :
    Cts (w.setCell ⟨g, j, none⟩ (.int .i64 v)) g m f' :=
  (Own.set_ h j _).congr fun i _ => by
    unfold upd
    by_cases e : i = j
    · subst e
      simp [hj, show i < 96 by omega, hf i hj]
    · rw [if_neg e]
      by_cases h1 : i < m
      · simp [h1, hf i h1, e]
      · simp [h1]

theorem get_any (g n : Nat) (f : Nat → Int) (k : Int) (w : World) (hn : n ≤ 96) (h : Cts w g n f) :
    Calls Tryd.prog 45 #[.pointer (some ⟨g, 0, none⟩), .int .i64 k] w fun e w' => e = .returned (.int .i64 (extB n f k)) ∧ w = w' := by
  have hm := h.many
  by_cases h0 : k < 0
  · go_enter Tryd.func45, Tryd.ntmps45
    go_wp2
    go_ret
    exact ⟨ret_int (by unfold extB; rw [if_neg (by omega)]), rfl⟩
  · by_cases h1 : k < n
    · obtain ⟨j, rfl⟩ := Int.eq_ofNat_of_zero_le (by omega : 0 ≤ k)
      have hc := h.at_ (k := j) (by omega) hn
      go_enter Tryd.func45, Tryd.ntmps45
      go_wp2
      go_ret
      exact ⟨ret_int (by unfold extB; rw [if_pos (by omega)]; simp), rfl⟩
    · have h1' : (n : Int) ≤ k := by omega
      go_enter Tryd.func45, Tryd.ntmps45
      go_wp2
      go_ret
      exact ⟨ret_int (by unfold extB; rw [if_neg (by omega)]), rfl⟩

theorem len1_any (W H : Int) (A : Option Addr) (n c : Nat) (w : World) :
    Calls Tryd.prog 83 #[bmp W H A n c] w fun e w' => e = .returned (.int .i64 W) ∧ Ext w w' := by
  go_enter Tryd.func83, Tryd.ntmps83
  go_wp2
  go_ret
  exact ⟨rfl, (Ext.refl w).alloc _⟩
theorem len2_any (W H : Int) (A : Option Addr) (n c : Nat) (w : World) :
    Calls Tryd.prog 85 #[bmp W H A n c] w fun e w' => e = .returned (.int .i64 H) ∧ Ext w w' := by
  go_enter Tryd.func85, Tryd.ntmps85
  go_wp2
  go_ret
  exact ⟨rfl, (Ext.refl w).alloc _⟩
theorem idx1_any (W H : Int) (A : Option Addr) (n c : Nat) (k : Nat) (hk : k ≤ 9216) (hW : 0 < W) (w : World) :
    Calls Tryd.prog 84 #[bmp W H A n c, .int .i64 k] w fun e w' => e = .returned (.int .i64 ((k : Int) % W)) ∧ Ext w w' := by
  go_enter Tryd.func84, Tryd.ntmps84
  go_wp2
  go_ret
  exact ⟨rfl, (Ext.refl w).alloc _⟩
theorem idx2_any (W H : Int) (A : Option Addr) (n c : Nat) (k : Nat) (hk : k ≤ 9216) (hW : 0 < W) (w : World) :
    Calls Tryd.prog 86 #[bmp W H A n c, .int .i64 k] w fun e w' => e = .returned (.int .i64 ((k : Int) / W)) ∧ Ext w w' := by
  have hq1 : 0 ≤ (k : Int) / W := Int.ediv_nonneg (by omega) (by omega)
  have hq2 : (k : Int) / W ≤ 9216 := by have := Int.ediv_le_self (a := (k : Int)) W (by omega); omega
  go_enter Tryd.func86, Tryd.ntmps86
  go_wp2
  go_ret
  exact ⟨rfl, (Ext.refl w).alloc _⟩

/-- How many dots lie in column k, in row k. -/
def colF (W : Int) (n : Nat) (dot : Nat → Bool) (k : Nat) : Int := cnt (fun j => dot j && decide ((j : Int) % W = k)) n
def rowF (W : Int) (n : Nat) (dot : Nat → Bool) (k : Nat) : Int := cnt (fun j => dot j && decide ((j : Int) / W = k)) n

/-- What count returns: a pointer to counts. -/
def CountPost (m : Nat) (f : Nat → Int) (w : World) (e : Ending) (w' : World) : Prop :=
  ∃ g, e = .returned (.pointer (some ⟨g, 0, none⟩)) ∧ Cts w' g m f ∧ w.heap.size ≤ g ∧ Ext w w'

theorem lit97 (W : Int) (hW : 0 ≤ W) (f : Nat → Int) (hf : ∀ k, f k = 0) (k : Nat) (hk : k < 97) :
    ((List.replicate 96 (Value.int .i64 0) ++ [Value.int .i64 W]).toArray : Array Value)[k]? = some (if k < 96 then .int .i64 (if k < W.toNat then f k else 0) else .int .i64 (W.toNat : Int)) := by
  rw [List.getElem?_toArray]
  by_cases h : k < 96
  · rw [List.getElem?_append_left (by simpa using h), List.getElem?_replicate, if_pos h, if_pos h, hf k]
    simp
  · obtain rfl : k = 96 := by omega
    rw [List.getElem?_append_right (by simp)]
    simp
    omega

theorem okB {W H : Int} {n : Nat} (h : chk W H n = 0) : 0 ≤ W ∧ W ≤ 96 ∧ 0 ≤ H ∧ H ≤ 96 ∧ (n : Int) = W * H := by
  unfold chk at h
  split at h
  · rename_i h1
    simp only [Bool.and_eq_true, sideB_iff] at h1
    split at h
    · exact ⟨h1.1.1, h1.1.2, h1.2.1, h1.2.2, ‹_›⟩
    · omega
  · omega

set_option maxHeartbeats 1000000 in
set_option maxRecDepth 100000 in
theorem count1_any (W H : Int) (A : Option Addr) (n c : Nat) (dot : Nat → Bool) (w : World) (hok : chk W H n = 0) (hA : Bools w A n dot) :
    Calls Tryd.prog 27 #[.agg #[.func (.func 83) #[] #[], .func (.func 84) #[] #[], .bool true], bmp W H A n c] w (CountPost W.toNat (colF W n dot) w) := by
  obtain ⟨hW0, hW1, hH0, hH1, hn⟩ := okB hok
  have hbd := area_bd ⟨hW0, hW1⟩ ⟨hH0, hH1⟩
  have hn1 : n ≤ 9216 := by omega
  replace hn := Lib.hid hn
  clear hok
  go_enter Tryd.func27, Tryd.ntmps27
  go_wp2_with fail
  refine (len1_any W H A n c _).mono ?_
  rintro e w1 ⟨rfl, hE1⟩
  have hbS := ((Blk.new w 68 #[.func (.func 83) #[] #[], .func (.func 84) #[] #[], .bool true]).alloc (.cells #[.int .i64 W, .int .i64 H, .slice A n c] 30)).ext hE1
  have hbB := (Blk.new' (w := w.alloc (.cells #[.func (.func 83) #[] #[], .func (.func 84) #[] #[], .bool true] 68)) (by simp : w.heap.size + 1 = _) 30 #[.int .i64 W, .int .i64 H, .slice A n c]).ext hE1
  have hE01 : Ext w w1 := (((Ext.refl w).alloc _).alloc _).trans hE1
  clear hE1
  obtain ⟨hbBc, hbBf, hbBl⟩ := hbB.rules
  go_wp2_with fail
  clear hbBc hbBf
  go_loopw [17] (fun i wr => ∃ k : Nat, k ≤ n ∧ i = .int .i64 k ∧ Blk wr w.heap.size 68 #[.func (.func 83) #[] #[], .func (.func 84) #[] #[], .bool true] ∧
      Blk wr (w.heap.size + 1) 30 #[.int .i64 W, .int .i64 H, .slice A n c] ∧ Cts wr w1.heap.size W.toNat (colF W k dot) ∧ Ext w wr) (fun i _ => n - (intOf i).toNat)
  case atStart =>
    refine ⟨0, by omega, rfl, hbS.alloc _, hbB.alloc _, ⟨_, Blk.new _ _ _, by simp, fun k hk => ?_⟩, hE01.alloc _⟩
    exact lit97 W (by omega) _ (fun _ => rfl) k hk
  case round =>
    clear hbS hbB hE01
    obtain ⟨k, hk, rfl, hbS, hbB, hC, hE⟩ := hrel
    by_cases hlt : k < n
    · have hlt' : (k : Int) < n := by omega
      obtain ⟨ad, rfl, hc⟩ := hA.ext hE k hlt
      have hadl := lt_of_cell hc
      obtain ⟨hbSc, hbSf, hbSl⟩ := hbS.rules
      obtain ⟨hbBc, hbBf, hbBl⟩ := hbB.rules
      cases hd : dot k
      · go_wp2_with fail
        exact ⟨⟨k + 1, by omega, by go_num, hbS, hbB, Own.congr hC (fun i _ => by simp only [colF, cnt_succ, hd]; simp), hE⟩, by simp only [intOf]; omega⟩
      · have hW : 0 < W := by
          rcases Int.lt_or_le 0 W with h1 | h1
          · exact h1
          · have h := hn.out; rw [show W = 0 by omega, Int.zero_mul] at h; omega
        obtain ⟨j, hj⟩ : ∃ j : Nat, (k : Int) % W = j := ⟨((k : Int) % W).toNat, by have := Int.emod_nonneg (k : Int) (show W ≠ 0 by omega); omega⟩
        have hjW : (j : Int) < W := by rw [← hj]; exact Int.emod_lt_of_pos _ hW
        have hcj := hC.at_ (k := j) (by omega) (by omega)
        have hfj := Own.frozen hC j
        have hgl := Own.lt hC
        have hv0 : 0 ≤ colF W k dot j := cnt_nonneg _ _
        have hv1 : colF W k dot j ≤ 9216 := by have := cnt_le (fun i => dot i && decide ((i : Int) % W = j)) k; unfold colF; omega
        go_wp2_with fail
        have hj0 : (0 : Int) ≤ j := by omega
        have hj96 : (j : Int) < 96 := by omega
        have hj' := Lib.hid hj
        have hsum : IntKind.i64.wrap (colF W k dot j + 1) = colF W k dot j + 1 := by rw [IntKind.wrap_i64]; omega
        refine Flow.wp_flow 14 [(0, true), (1, true), (2, true), (3, true), (4, true), (5, true), (6, true), (7, true), (8, true), (9, true), (10, true), (11, true), (12, true), (13, true)] (by kernel_rfl) (by kernel_rfl) ?_
        simp only [List.map_cons, List.map_nil, List.getD_cons_succ, List.getD_cons_zero]
        repeat (first
          | (refine Flow.WalkL.move rfl ?_
             simp only [Act.put, Act.eval, Array.getD_eq_getD_getElem?, List.getElem?_toArray, List.getElem?_cons_succ, List.getElem?_cons_zero, Option.getD_some, List.setIfInBounds_toArray, List.set_cons_zero, List.set_cons_succ])
          | (refine Flow.WalkL.assign rfl ?_
             simp only [Act.put, Act.eval, Array.getD_eq_getD_getElem?, List.getElem?_toArray, List.getElem?_cons_succ, List.getElem?_cons_zero, Option.getD_some, List.setIfInBounds_toArray, List.set_cons_zero, List.set_cons_succ])
          | (refine Flow.WalkL.callf Tryd.func84 rfl (by kernel_rfl) rfl (fun w1 hC => (idx1_any W H _ n c k (by omega) (by omega) _)) rfl rfl ?_
             simp only [Act.put, List.setIfInBounds_toArray, List.set_cons_zero, List.set_cons_succ])
          | (refine Flow.WalkL.run (v := ?_) rfl (fun w1 hC => ?_) ?_
             rotate_left
             · obtain ⟨hCc, hCf⟩ := hC.rules
               go_simp
               with_reducible rfl
             simp only [Act.put, List.setIfInBounds_toArray, List.set_cons_zero, List.set_cons_succ]))
        refine Flow.WalkL.nil ?_
        simp only [List.drop_succ_cons, List.drop_zero, List.drop_nil]
        intro w2 hC2
        obtain ⟨hCc, hCf⟩ := hC2.rules
        go_wp2_with fail
        exact ⟨⟨k + 1, by omega, by go_num, (hbS.ext hC2).far (by simp; omega) _, (hbB.ext hC2).far (by simp; omega) _,
          Cts.set_ (Own.ext hC hC2) (by omega) (by omega) (fun i _ => by simp only [colF, cnt_succ, hd, hj'.out]; by_cases e : i = j <;> simp [e]; omega),
          (hE.trans hC2).setCell (by simp; omega) _⟩, by simp only [intOf]; omega⟩
    · go_wp2_with fail
      go_ret
      exact ⟨w1.heap.size, rfl, by rw [show n = k by omega]; exact hC, by omega, hE⟩
set_option maxHeartbeats 1000000 in
set_option maxRecDepth 100000 in
theorem count2_any (W H : Int) (A : Option Addr) (n c : Nat) (dot : Nat → Bool) (w : World) (hok : chk W H n = 0) (hA : Bools w A n dot) :
    Calls Tryd.prog 27 #[.agg #[.func (.func 85) #[] #[], .func (.func 86) #[] #[], .bool false], bmp W H A n c] w (CountPost H.toNat (rowF W n dot) w) := by
  obtain ⟨hW0, hW1, hH0, hH1, hn⟩ := okB hok
  have hbd := area_bd ⟨hW0, hW1⟩ ⟨hH0, hH1⟩
  have hn1 : n ≤ 9216 := by omega
  replace hn := Lib.hid hn
  clear hok
  go_enter Tryd.func27, Tryd.ntmps27
  go_wp2_with fail
  refine (len2_any W H A n c _).mono ?_
  rintro e w1 ⟨rfl, hE1⟩
  have hbS := ((Blk.new w 68 #[.func (.func 85) #[] #[], .func (.func 86) #[] #[], .bool false]).alloc (.cells #[.int .i64 W, .int .i64 H, .slice A n c] 30)).ext hE1
  have hbB := (Blk.new' (w := w.alloc (.cells #[.func (.func 85) #[] #[], .func (.func 86) #[] #[], .bool false] 68)) (by simp : w.heap.size + 1 = _) 30 #[.int .i64 W, .int .i64 H, .slice A n c]).ext hE1
  have hE01 : Ext w w1 := (((Ext.refl w).alloc _).alloc _).trans hE1
  clear hE1
  obtain ⟨hbBc, hbBf, hbBl⟩ := hbB.rules
  go_wp2_with fail
  clear hbBc hbBf
  go_loopw [17] (fun i wr => ∃ k : Nat, k ≤ n ∧ i = .int .i64 k ∧ Blk wr w.heap.size 68 #[.func (.func 85) #[] #[], .func (.func 86) #[] #[], .bool false] ∧
      Blk wr (w.heap.size + 1) 30 #[.int .i64 W, .int .i64 H, .slice A n c] ∧ Cts wr w1.heap.size H.toNat (rowF W k dot) ∧ Ext w wr) (fun i _ => n - (intOf i).toNat)
  case atStart =>
    refine ⟨0, by omega, rfl, hbS.alloc _, hbB.alloc _, ⟨_, Blk.new _ _ _, by simp, fun k hk => ?_⟩, hE01.alloc _⟩
    exact lit97 H (by omega) _ (fun _ => rfl) k hk
  case round =>
    clear hbS hbB hE01
    obtain ⟨k, hk, rfl, hbS, hbB, hC, hE⟩ := hrel
    by_cases hlt : k < n
    · have hlt' : (k : Int) < n := by omega
      obtain ⟨ad, rfl, hc⟩ := hA.ext hE k hlt
      have hadl := lt_of_cell hc
      obtain ⟨hbSc, hbSf, hbSl⟩ := hbS.rules
      obtain ⟨hbBc, hbBf, hbBl⟩ := hbB.rules
      cases hd : dot k
      · go_wp2_with fail
        exact ⟨⟨k + 1, by omega, by go_num, hbS, hbB, Own.congr hC (fun i _ => by simp only [rowF, cnt_succ, hd]; simp), hE⟩, by simp only [intOf]; omega⟩
      · have hW : 0 < W := by
          rcases Int.lt_or_le 0 W with h1 | h1
          · exact h1
          · have h := hn.out; rw [show W = 0 by omega, Int.zero_mul] at h; omega
        obtain ⟨j, hj⟩ : ∃ j : Nat, (k : Int) / W = j := ⟨((k : Int) / W).toNat, by have := Int.ediv_nonneg (a := (k : Int)) (b := W) (by omega) (by omega); omega⟩
        have hjW : (j : Int) < H := by rw [← hj]; exact Int.ediv_lt_of_lt_mul hW (by have h := hn.out; rw [Int.mul_comm] at h; omega)
        have hcj := hC.at_ (k := j) (by omega) (by omega)
        have hfj := Own.frozen hC j
        have hgl := Own.lt hC
        have hv0 : 0 ≤ rowF W k dot j := cnt_nonneg _ _
        have hv1 : rowF W k dot j ≤ 9216 := by have := cnt_le (fun i => dot i && decide ((i : Int) / W = j)) k; unfold rowF; omega
        go_wp2_with fail
        have hj0 : (0 : Int) ≤ j := by omega
        have hj96 : (j : Int) < 96 := by omega
        have hj' := Lib.hid hj
        have hsum : IntKind.i64.wrap (rowF W k dot j + 1) = rowF W k dot j + 1 := by rw [IntKind.wrap_i64]; omega
        refine Flow.wp_flow 14 [(0, true), (1, true), (2, true), (3, true), (4, true), (5, true), (6, true), (7, true), (8, true), (9, true), (10, true), (11, true), (12, true), (13, true)] (by kernel_rfl) (by kernel_rfl) ?_
        simp only [List.map_cons, List.map_nil, List.getD_cons_succ, List.getD_cons_zero]
        repeat (first
          | (refine Flow.WalkL.move rfl ?_
             simp only [Act.put, Act.eval, Array.getD_eq_getD_getElem?, List.getElem?_toArray, List.getElem?_cons_succ, List.getElem?_cons_zero, Option.getD_some, List.setIfInBounds_toArray, List.set_cons_zero, List.set_cons_succ])
          | (refine Flow.WalkL.assign rfl ?_
             simp only [Act.put, Act.eval, Array.getD_eq_getD_getElem?, List.getElem?_toArray, List.getElem?_cons_succ, List.getElem?_cons_zero, Option.getD_some, List.setIfInBounds_toArray, List.set_cons_zero, List.set_cons_succ])
          | (refine Flow.WalkL.callf Tryd.func86 rfl (by kernel_rfl) rfl (fun w1 hC => (idx2_any W H _ n c k (by omega) (by omega) _)) rfl rfl ?_
             simp only [Act.put, List.setIfInBounds_toArray, List.set_cons_zero, List.set_cons_succ])
          | (refine Flow.WalkL.run (v := ?_) rfl (fun w1 hC => ?_) ?_
             rotate_left
             · obtain ⟨hCc, hCf⟩ := hC.rules
               go_simp
               with_reducible rfl
             simp only [Act.put, List.setIfInBounds_toArray, List.set_cons_zero, List.set_cons_succ]))
        refine Flow.WalkL.nil ?_
        simp only [List.drop_succ_cons, List.drop_zero, List.drop_nil]
        intro w2 hC2
        obtain ⟨hCc, hCf⟩ := hC2.rules
        go_wp2_with fail
        exact ⟨⟨k + 1, by omega, by go_num, (hbS.ext hC2).far (by simp; omega) _, (hbB.ext hC2).far (by simp; omega) _,
          Cts.set_ (Own.ext hC hC2) (by omega) (by omega) (fun i _ => by simp only [rowF, cnt_succ, hd, hj'.out]; by_cases e : i = j <;> simp [e]; omega),
          (hE.trans hC2).setCell (by simp; omega) _⟩, by simp only [intOf]; omega⟩
    · go_wp2_with fail
      go_ret
      exact ⟨w1.heap.size, rfl, by rw [show n = k by omega]; exact hC, by omega, hE⟩
end Go.Proofs.YtfgcogkhnnflcaaDoor
