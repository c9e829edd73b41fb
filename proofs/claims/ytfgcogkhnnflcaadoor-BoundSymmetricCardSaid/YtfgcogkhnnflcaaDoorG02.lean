/- Parts of the proof: Sum, BdCount, BdCols. -/
import Derived.WalkKit
import Derived.Test.YtfgcogkhnnflcaaDoorProg
import Derived.Test.YtfgcogkhnnflcaaDoorG01
set_option linter.unusedSimpArgs false
set_option linter.unusedVariables false
section
namespace Go.Plain

/-- f 0 + .. + f (n - 1). -/
def sumTo (f : Nat → Int) : Nat → Int
  | 0 => 0
  | n + 1 => sumTo f n + f n
/-- How many j < n there are with p j. -/
def cnt (p : Nat → Bool) (n : Nat) : Int := sumTo (fun j => if p j then 1 else 0) n

theorem sumTo_nonneg {f : Nat → Int} : ∀ {n : Nat}, (∀ k, k < n → 0 ≤ f k) → 0 ≤ sumTo f n
  | 0, _ => by simp [sumTo]
  | n + 1, h => by have := sumTo_nonneg (n := n) fun k hk => h k (by omega); have := h n (by omega); simp only [sumTo]; omega
theorem sumTo_le {f g : Nat → Int} : ∀ {n : Nat}, (∀ k, k < n → f k ≤ g k) → sumTo f n ≤ sumTo g n
  | 0, _ => by simp [sumTo]
  | n + 1, h => by have := sumTo_le (n := n) fun k hk => h k (by omega); have := h n (by omega); simp only [sumTo]; omega
theorem sumTo_const (c : Int) : ∀ n : Nat, sumTo (fun _ => c) n = n * c
  | 0 => by simp [sumTo]
  | n + 1 => by simp only [sumTo, sumTo_const c n]; rw [Int.natCast_succ, Int.add_mul]; omega
theorem cnt_nonneg (p : Nat → Bool) (n : Nat) : 0 ≤ cnt p n := sumTo_nonneg fun k _ => by split <;> omega
theorem cnt_le (p : Nat → Bool) (n : Nat) : cnt p n ≤ n := by
  have := sumTo_le (f := fun j => if p j then 1 else 0) (g := fun _ => 1) (n := n) fun k _ => by split <;> omega
  rw [sumTo_const] at this
  unfold cnt
  omega
theorem cnt_succ (p : Nat → Bool) (n : Nat) : cnt p (n + 1) = cnt p n + if p n then 1 else 0 := rfl
/-- v is the least of f on S. -/
def IsMin {α : Type} (S : α → Prop) (f : α → Int) (v : Int) : Prop := (∃ a, S a ∧ f a = v) ∧ ∀ a, S a → v ≤ f a
theorem IsMin.unique {α : Type} {S : α → Prop} {f : α → Int} {v v' : Int} (h : IsMin S f v) (h' : IsMin S f v') : v = v' := by
  obtain ⟨⟨a, ha, rfl⟩, h2⟩ := h
  obtain ⟨⟨b, hb, rfl⟩, h4⟩ := h'
  have := h2 b hb
  have := h4 a ha
  omega
end Go.Plain
end

section
namespace Go.Proofs.YtfgcogkhnnflcaaDoor
open Go.RowKit Go.Flow Go.Plain
open Go.Proofs
attribute [local go_sem] block_add
attribute [local go_sem ↓] Go.wp_at_zero Go.wp_at_succ

/-- A 'counts' in memory: 96 numbers and how many there are. -/
def Cts (w : World) (g : Nat) (n : Nat) (f : Nat → Int) : Prop := Flow.Own w g 73 97 (fun k => if k < 96 then .int .i64 (if k < n then f k else 0) else .int .i64 n)
/-- A list of numbers, 0 outside. -/
def extB (n : Nat) (f : Nat → Int) (k : Int) : Int := if 0 ≤ k ∧ k < n then f k.toNat else 0

theorem Cts.many {w : World} {g n : Nat} {f : Nat → Int} (h : Cts w g n f) : w.cell? ⟨g, 96, none⟩ = some (.int .i64 n) := Flow.Own.cell h (k := 96) (by omega)
theorem Cts.at_ {w : World} {g n : Nat} {f : Nat → Int} (h : Cts w g n f) {k : Nat} (hk : k < n) (hn : n ≤ 96) : w.cell? ⟨g, k, none⟩ = some (.int .i64 (f k)) := by
  have := Flow.Own.cell h (k := k) (by omega)
  simpa [hk, show k < 96 by omega] using this

theorem Cts.set_ {w : World} {g m j : Nat} {f f' : Nat → Int} {v : Int} (h : Cts w g m f) (hj : j < m) (hm : m ≤ 96) (hf : ∀ i, i < m → f' i = if i = j then v else f i) :
    Cts (w.setCell ⟨g, j, none⟩ (.int .i64 v)) g m f' :=
  (Flow.Own.set_ h j _).congr fun i _ => by
    unfold upd
    by_cases e : i = j
    · subst e
      simp [hj, show i < 96 by omega, hf i hj]
    · rw [if_neg e]
      by_cases h1 : i < m
      · simp [h1, hf i h1, e]
      · simp [h1]

theorem get_any (g n : Nat) (f : Nat → Int) (k : Int) (w : World) (hn : n ≤ 96) (h : Cts w g n f) :
    Calls Tryd.prog 45 #[.pointer (some ⟨g, 0, none⟩), .int .i64 k] w fun e w' => e = .returned (.int .i64 (extB n f k)) ∧ w = w' := by
  have hm := h.many
  by_cases h0 : k < 0
  · go_enter Tryd.func45, Tryd.ntmps45
    go_wp2
    go_ret
    exact ⟨ret_int (by unfold extB; rw [if_neg (by omega)]), rfl⟩
  · by_cases h1 : k < n
    · obtain ⟨j, rfl⟩ := Int.eq_ofNat_of_zero_le (by omega : 0 ≤ k)
      have hc := h.at_ (k := j) (by omega) hn
      go_enter Tryd.func45, Tryd.ntmps45
      go_wp2
      go_ret
      exact ⟨ret_int (by unfold extB; rw [if_pos (by omega)]; simp), rfl⟩
    · have h1' : (n : Int) ≤ k := by omega
      go_enter Tryd.func45, Tryd.ntmps45
      go_wp2
      go_ret
      exact ⟨ret_int (by unfold extB; rw [if_neg (by omega)]), rfl⟩

theorem len1_any (W H : Int) (A : Option Addr) (n c : Nat) (w : World) :
    Calls Tryd.prog 83 #[bmp W H A n c] w fun e w' => e = .returned (.int .i64 W) ∧ Ext w w' := by
  go_enter Tryd.func83, Tryd.ntmps83
  go_wp2
  go_ret
  exact ⟨rfl, (Ext.refl w).alloc _⟩
theorem len2_any (W H : Int) (A : Option Addr) (n c : Nat) (w : World) :
    Calls Tryd.prog 85 #[bmp W H A n c] w fun e w' => e = .returned (.int .i64 H) ∧ Ext w w' := by
  go_enter Tryd.func85, Tryd.ntmps85
  go_wp2
  go_ret
  exact ⟨rfl, (Ext.refl w).alloc _⟩
theorem idx1_any (W H : Int) (A : Option Addr) (n c : Nat) (k : Nat) (hk : k ≤ 9216) (hW : 0 < W) (w : World) :
    Calls Tryd.prog 84 #[bmp W H A n c, .int .i64 k] w fun e w' => e = .returned (.int .i64 ((k : Int) % W)) ∧ Ext w w' := by
  go_enter Tryd.func84, Tryd.ntmps84
  go_wp2
  go_ret
  exact ⟨rfl, (Ext.refl w).alloc _⟩
theorem idx2_any (W H : Int) (A : Option Addr) (n c : Nat) (k : Nat) (hk : k ≤ 9216) (hW : 0 < W) (w : World) :
    Calls Tryd.prog 86 #[bmp W H A n c, .int .i64 k] w fun e w' => e = .returned (.int .i64 ((k : Int) / W)) ∧ Ext w w' := by
  have hq1 : 0 ≤ (k : Int) / W := Int.ediv_nonneg (by omega) (by omega)
  have hq2 : (k : Int) / W ≤ 9216 := by have := Int.ediv_le_self (a := (k : Int)) W (by omega); omega
  go_enter Tryd.func86, Tryd.ntmps86
  go_wp2
  go_ret
  exact ⟨rfl, (Ext.refl w).alloc _⟩

/-- How many dots lie in column k, in row k. -/
def colF (W : Int) (n : Nat) (dot : Nat → Bool) (k : Nat) : Int := cnt (fun j => dot j && decide ((j : Int) % W = k)) n
def rowBd (W : Int) (n : Nat) (dot : Nat → Bool) (k : Nat) : Int := cnt (fun j => dot j && decide ((j : Int) / W = k)) n

/-- What count returns: a pointer to counts. -/
def CountPost (m : Nat) (f : Nat → Int) (w : World) (e : Ending) (w' : World) : Prop :=
  ∃ g, e = .returned (.pointer (some ⟨g, 0, none⟩)) ∧ Cts w' g m f ∧ w.heap.size ≤ g ∧ Ext w w'

theorem lit97 (W : Int) (hW : 0 ≤ W) (f : Nat → Int) (hf : ∀ k, f k = 0) (k : Nat) (hk : k < 97) :
    ((List.replicate 96 (Value.int .i64 0) ++ [Value.int .i64 W]).toArray : Array Value)[k]? = some (if k < 96 then .int .i64 (if k < W.toNat then f k else 0) else .int .i64 (W.toNat : Int)) := by
  rw [List.getElem?_toArray]
  by_cases h : k < 96
  · rw [List.getElem?_append_left (by simpa using h), List.getElem?_replicate, if_pos h, if_pos h, hf k]
    simp
  · obtain rfl : k = 96 := by omega
    rw [List.getElem?_append_right (by simp)]
    simp
    omega

set_option maxHeartbeats 1000000 in
set_option maxRecDepth 100000 in
theorem count1_any (W H : Int) (A : Option Addr) (n c : Nat) (dot : Nat → Bool) (w : World) (hok : chk W H n = 0) (hA : Bools w A n dot) :
    Calls Tryd.prog 27 #[.agg #[.func (.func 83) #[] #[], .func (.func 84) #[] #[], .bool true], bmp W H A n c] w (CountPost W.toNat (colF W n dot) w) := by
  obtain ⟨hW0, hW1, hH0, hH1, hn⟩ := okB hok
  have hbd := area_bd ⟨hW0, hW1⟩ ⟨hH0, hH1⟩
  have hn1 : n ≤ 9216 := by omega
  replace hn := Lib.hid hn
  clear hok
  go_enter Tryd.func27, Tryd.ntmps27
  go_wp2_with fail
  refine (len1_any W H A n c _).mono ?_
  rintro e w1 ⟨rfl, hE1⟩
  have hbS := ((Blk.new w 68 #[.func (.func 83) #[] #[], .func (.func 84) #[] #[], .bool true]).alloc (.cells #[.int .i64 W, .int .i64 H, .slice A n c] 30)).ext hE1
  have hbB := (Blk.new' (w := w.alloc (.cells #[.func (.func 83) #[] #[], .func (.func 84) #[] #[], .bool true] 68)) (by simp : w.heap.size + 1 = _) 30 #[.int .i64 W, .int .i64 H, .slice A n c]).ext hE1
  have hE01 : Ext w w1 := (((Ext.refl w).alloc _).alloc _).trans hE1
  clear hE1
  obtain ⟨hbBc, hbBf, hbBl⟩ := hbB.rules
  go_wp2_with fail
  clear hbBc hbBf
  go_loopw [17] (fun i wr => ∃ k : Nat, k ≤ n ∧ i = .int .i64 k ∧ Blk wr w.heap.size 68 #[.func (.func 83) #[] #[], .func (.func 84) #[] #[], .bool true] ∧
      Blk wr (w.heap.size + 1) 30 #[.int .i64 W, .int .i64 H, .slice A n c] ∧ Cts wr w1.heap.size W.toNat (colF W k dot) ∧ Ext w wr) (fun i _ => n - (intOf i).toNat)
  case atStart =>
    refine ⟨0, by omega, rfl, hbS.alloc _, hbB.alloc _, ⟨_, Blk.new _ _ _, by simp, fun k hk => ?_⟩, hE01.alloc _⟩
    exact lit97 W (by omega) _ (fun _ => rfl) k hk
  case round =>
    clear hbS hbB hE01
    obtain ⟨k, hk, rfl, hbS, hbB, hC, hE⟩ := hrel
    by_cases hlt : k < n
    · have hlt' : (k : Int) < n := by omega
      obtain ⟨ad, rfl, hc⟩ := hA.ext hE k hlt
      have hadl := lt_of_cell hc
      obtain ⟨hbSc, hbSf, hbSl⟩ := hbS.rules
      obtain ⟨hbBc, hbBf, hbBl⟩ := hbB.rules
      cases hd : dot k
      · go_wp2_with fail
        exact ⟨⟨k + 1, by omega, by go_num, hbS, hbB, Flow.Own.congr hC (fun i _ => by simp only [colF, cnt_succ, hd]; simp), hE⟩, by simp only [intOf]; omega⟩
      · have hW : 0 < W := by
          rcases Int.lt_or_le 0 W with h1 | h1
          · exact h1
          · have h := hn.out; rw [show W = 0 by omega, Int.zero_mul] at h; omega
        obtain ⟨j, hj⟩ : ∃ j : Nat, (k : Int) % W = j := ⟨((k : Int) % W).toNat, by have := Int.emod_nonneg (k : Int) (show W ≠ 0 by omega); omega⟩
        have hjW : (j : Int) < W := by rw [← hj]; exact Int.emod_lt_of_pos _ hW
        have hcj := hC.at_ (k := j) (by omega) (by omega)
        have hfj := Flow.Own.frozen hC j
        have hgl := Flow.Own.lt hC
        have hv0 : 0 ≤ colF W k dot j := cnt_nonneg _ _
        have hv1 : colF W k dot j ≤ 9216 := by have := cnt_le (fun i => dot i && decide ((i : Int) % W = j)) k; unfold colF; omega
        go_wp2_with fail
        have hj0 : (0 : Int) ≤ j := by omega
        have hj96 : (j : Int) < 96 := by omega
        have hj' := Lib.hid hj
        have hsum : IntKind.i64.wrap (colF W k dot j + 1) = colF W k dot j + 1 := by rw [IntKind.wrap_i64]; omega
        refine Flow.wp_flow 14 [(0, true), (1, true), (2, true), (3, true), (4, true), (5, true), (6, true), (7, true), (8, true), (9, true), (10, true), (11, true), (12, true), (13, true)] (by kernel_rfl) (by kernel_rfl) ?_
        simp only [List.map_cons, List.map_nil, List.getD_cons_succ, List.getD_cons_zero]
        repeat (first
          | (refine Flow.WalkL.move rfl ?_
             simp only [Act.put, Act.eval, Array.getD_eq_getD_getElem?, List.getElem?_toArray, List.getElem?_cons_succ, List.getElem?_cons_zero, Option.getD_some, List.setIfInBounds_toArray, List.set_cons_zero, List.set_cons_succ])
          | (refine Flow.WalkL.assign rfl ?_
             simp only [Act.put, Act.eval, Array.getD_eq_getD_getElem?, List.getElem?_toArray, List.getElem?_cons_succ, List.getElem?_cons_zero, Option.getD_some, List.setIfInBounds_toArray, List.set_cons_zero, List.set_cons_succ])
          | (refine Flow.WalkL.callf Tryd.func84 rfl (by kernel_rfl) rfl (fun w1 hC => (idx1_any W H _ n c k (by omega) (by omega) _)) rfl rfl ?_
             simp only [Act.put, List.setIfInBounds_toArray, List.set_cons_zero, List.set_cons_succ])
          | (refine Flow.WalkL.run (v := ?_) rfl (fun w1 hC => ?_) ?_
             rotate_left
             · obtain ⟨hCc, hCf⟩ := hC.rules
               go_simp
               with_reducible rfl
             simp only [Act.put, List.setIfInBounds_toArray, List.set_cons_zero, List.set_cons_succ]))
        refine Flow.WalkL.nil ?_
        simp only [List.drop]
        intro w2 hC2
        obtain ⟨hCc, hCf⟩ := hC2.rules
        go_wp2_with fail
        exact ⟨⟨k + 1, by omega, by go_num, (hbS.ext hC2).far (by simp; omega) _, (hbB.ext hC2).far (by simp; omega) _,
          Cts.set_ (Flow.Own.ext hC hC2) (by omega) (by omega) (fun i _ => by simp only [colF, cnt_succ, hd, hj'.out]; by_cases e : i = j <;> simp [e]; omega),
          (hE.trans hC2).setCell (by simp; omega) _⟩, by simp only [intOf]; omega⟩
    · go_wp2_with fail
      go_ret
      exact ⟨w1.heap.size, rfl, by rw [show n = k by omega]; exact hC, by omega, hE⟩
set_option maxHeartbeats 1000000 in
set_option maxRecDepth 100000 in
theorem count2_any (W H : Int) (A : Option Addr) (n c : Nat) (dot : Nat → Bool) (w : World) (hok : chk W H n = 0) (hA : Bools w A n dot) :
    Calls Tryd.prog 27 #[.agg #[.func (.func 85) #[] #[], .func (.func 86) #[] #[], .bool false], bmp W H A n c] w (CountPost H.toNat (rowBd W n dot) w) := by
  obtain ⟨hW0, hW1, hH0, hH1, hn⟩ := okB hok
  have hbd := area_bd ⟨hW0, hW1⟩ ⟨hH0, hH1⟩
  have hn1 : n ≤ 9216 := by omega
  replace hn := Lib.hid hn
  clear hok
  go_enter Tryd.func27, Tryd.ntmps27
  go_wp2_with fail
  refine (len2_any W H A n c _).mono ?_
  rintro e w1 ⟨rfl, hE1⟩
  have hbS := ((Blk.new w 68 #[.func (.func 85) #[] #[], .func (.func 86) #[] #[], .bool false]).alloc (.cells #[.int .i64 W, .int .i64 H, .slice A n c] 30)).ext hE1
  have hbB := (Blk.new' (w := w.alloc (.cells #[.func (.func 85) #[] #[], .func (.func 86) #[] #[], .bool false] 68)) (by simp : w.heap.size + 1 = _) 30 #[.int .i64 W, .int .i64 H, .slice A n c]).ext hE1
  have hE01 : Ext w w1 := (((Ext.refl w).alloc _).alloc _).trans hE1
  clear hE1
  obtain ⟨hbBc, hbBf, hbBl⟩ := hbB.rules
  go_wp2_with fail
  clear hbBc hbBf
  go_loopw [17] (fun i wr => ∃ k : Nat, k ≤ n ∧ i = .int .i64 k ∧ Blk wr w.heap.size 68 #[.func (.func 85) #[] #[], .func (.func 86) #[] #[], .bool false] ∧
      Blk wr (w.heap.size + 1) 30 #[.int .i64 W, .int .i64 H, .slice A n c] ∧ Cts wr w1.heap.size H.toNat (rowBd W k dot) ∧ Ext w wr) (fun i _ => n - (intOf i).toNat)
  case atStart =>
    refine ⟨0, by omega, rfl, hbS.alloc _, hbB.alloc _, ⟨_, Blk.new _ _ _, by simp, fun k hk => ?_⟩, hE01.alloc _⟩
    exact lit97 H (by omega) _ (fun _ => rfl) k hk
  case round =>
    clear hbS hbB hE01
    obtain ⟨k, hk, rfl, hbS, hbB, hC, hE⟩ := hrel
    by_cases hlt : k < n
    · have hlt' : (k : Int) < n := by omega
      obtain ⟨ad, rfl, hc⟩ := hA.ext hE k hlt
      have hadl := lt_of_cell hc
      obtain ⟨hbSc, hbSf, hbSl⟩ := hbS.rules
      obtain ⟨hbBc, hbBf, hbBl⟩ := hbB.rules
      cases hd : dot k
      · go_wp2_with fail
        exact ⟨⟨k + 1, by omega, by go_num, hbS, hbB, Flow.Own.congr hC (fun i _ => by simp only [rowBd, cnt_succ, hd]; simp), hE⟩, by simp only [intOf]; omega⟩
      · have hW : 0 < W := by
          rcases Int.lt_or_le 0 W with h1 | h1
          · exact h1
          · have h := hn.out; rw [show W = 0 by omega, Int.zero_mul] at h; omega
        obtain ⟨j, hj⟩ : ∃ j : Nat, (k : Int) / W = j := ⟨((k : Int) / W).toNat, by have := Int.ediv_nonneg (a := (k : Int)) (b := W) (by omega) (by omega); omega⟩
        have hjW : (j : Int) < H := by rw [← hj]; exact Int.ediv_lt_of_lt_mul hW (by have h := hn.out; rw [Int.mul_comm] at h; omega)
        have hcj := hC.at_ (k := j) (by omega) (by omega)
        have hfj := Flow.Own.frozen hC j
        have hgl := Flow.Own.lt hC
        have hv0 : 0 ≤ rowBd W k dot j := cnt_nonneg _ _
        have hv1 : rowBd W k dot j ≤ 9216 := by have := cnt_le (fun i => dot i && decide ((i : Int) / W = j)) k; unfold rowBd; omega
        go_wp2_with fail
        have hj0 : (0 : Int) ≤ j := by omega
        have hj96 : (j : Int) < 96 := by omega
        have hj' := Lib.hid hj
        have hsum : IntKind.i64.wrap (rowBd W k dot j + 1) = rowBd W k dot j + 1 := by rw [IntKind.wrap_i64]; omega
        refine Flow.wp_flow 14 [(0, true), (1, true), (2, true), (3, true), (4, true), (5, true), (6, true), (7, true), (8, true), (9, true), (10, true), (11, true), (12, true), (13, true)] (by kernel_rfl) (by kernel_rfl) ?_
        simp only [List.map_cons, List.map_nil, List.getD_cons_succ, List.getD_cons_zero]
        repeat (first
          | (refine Flow.WalkL.move rfl ?_
             simp only [Act.put, Act.eval, Array.getD_eq_getD_getElem?, List.getElem?_toArray, List.getElem?_cons_succ, List.getElem?_cons_zero, Option.getD_some, List.setIfInBounds_toArray, List.set_cons_zero, List.set_cons_succ])
          | (refine Flow.WalkL.assign rfl ?_
             simp only [Act.put, Act.eval, Array.getD_eq_getD_getElem?, List.getElem?_toArray, List.getElem?_cons_succ, List.getElem?_cons_zero, Option.getD_some, List.setIfInBounds_toArray, List.set_cons_zero, List.set_cons_succ])
          | (refine Flow.WalkL.callf Tryd.func86 rfl (by kernel_rfl) rfl (fun w1 hC => (idx2_any W H _ n c k (by omega) (by omega) _)) rfl rfl ?_
             simp only [Act.put, List.setIfInBounds_toArray, List.set_cons_zero, List.set_cons_succ])
          | (refine Flow.WalkL.run (v := ?_) rfl (fun w1 hC => ?_) ?_
             rotate_left
             · obtain ⟨hCc, hCf⟩ := hC.rules
               go_simp
               with_reducible rfl
             simp only [Act.put, List.setIfInBounds_toArray, List.set_cons_zero, List.set_cons_succ]))
        refine Flow.WalkL.nil ?_
        simp only [List.drop]
        intro w2 hC2
        obtain ⟨hCc, hCf⟩ := hC2.rules
        go_wp2_with fail
        exact ⟨⟨k + 1, by omega, by go_num, (hbS.ext hC2).far (by simp; omega) _, (hbB.ext hC2).far (by simp; omega) _,
          Cts.set_ (Flow.Own.ext hC hC2) (by omega) (by omega) (fun i _ => by simp only [rowBd, cnt_succ, hd, hj'.out]; by_cases e : i = j <;> simp [e]; omega),
          (hE.trans hC2).setCell (by simp; omega) _⟩, by simp only [intOf]; omega⟩
    · go_wp2_with fail
      go_ret
      exact ⟨w1.heap.size, rfl, by rw [show n = k by omega]; exact hC, by omega, hE⟩
end Go.Proofs.YtfgcogkhnnflcaaDoor
end

section
namespace Go.Proofs.YtfgcogkhnnflcaaDoor
open Go.RowKit Go.Flow Go.Plain
open Go.Proofs
attribute [local go_sem] block_add
attribute [local go_sem ↓] Go.wp_at_zero Go.wp_at_succ

theorem Cts.ints {w : World} {g n : Nat} {f : Nat → Int} (h : Cts w g n f) (hn : n ≤ 96) : Ints w (some ⟨g, 0, none⟩) n f := fun k hk => ⟨_, rfl, by
  rw [show (⟨g, 0, none⟩ : Addr).add k = ⟨g, k, none⟩ by unfold Addr.add; split <;> simp_all]; exact h.at_ hk hn⟩
/-- What the package variable bound.sides holds. -/
abbrev sidesCells : Array Value := #[.func (.func 83) #[] #[], .func (.func 84) #[] #[], .bool true, .func (.func 85) #[] #[], .func (.func 86) #[] #[], .bool false]
structure Sides (w : World) : Prop where
  cell : ∀ i, i < 6 → w.cell? ⟨0, i, none⟩ = sidesCells[i]?
theorem Sides.lt {w : World} (h : Sides w) : 0 < w.heap.size := World.block_lt_of_cell? w ⟨0, 0, none⟩ (u := .func (.func 83) #[] #[]) (h.cell 0 (by omega))
theorem Sides.ext {w w' : World} (h : Sides w) (hE : Ext w w') : Sides w' := ⟨fun i hi => (hE.rules.1 ⟨0, i, none⟩ h.lt).trans (h.cell i hi)⟩

def ColsPost (W H : Int) (n : Nat) (dot : Nat → Bool) (w : World) (e : Ending) (w' : World) : Prop :=
  ∃ A B c d, e = .returned (.tuple #[.slice A W.toNat c, .slice B H.toNat d]) ∧ Ints w' A W.toNat (colF W n dot) ∧ Ints w' B H.toNat (rowBd W n dot) ∧ Ext w w'

set_option maxHeartbeats 1000000 in
theorem Columns_ok (W H : Int) (A : Option Addr) (n c : Nat) (dot : Nat → Bool) (w : World) (hok : chk W H n = 0) (hA : Bools w A n dot) (hS : Sides w) :
    Calls Tryd.prog 12 #[bmp W H A n c] w (ColsPost W H n dot w) := by
  have hne : (chk W H n != 0) = false := by simpa using hok
  replace hok := Lib.hid hok
  go_enter Tryd.func12, Tryd.ntmps12
  go_wp2_with fail
  refine (Check2_any W H A n c _).mono ?_
  rintro e w1 ⟨rfl, hE1⟩
  go_wp2_with fail
  have hB := (Blk.new w 30 #[.int .i64 W, .int .i64 H, .slice A n c]).ext hE1
  have hE01 := ((Ext.refl w).alloc _).trans hE1
  obtain ⟨hBc, hBf, hBl⟩ := hB.rules
  have hS1 := (hS.ext hE01).cell
  have hS0 := (hS.ext hE01).lt
  replace hE01 := Lib.hid hE01
  clear hE1
  refine Flow.wp_flow 10 [(0, true), (1, true), (2, true), (4, true), (5, true), (6, true), (3, false), (7, false), (8, true), (9, true)] (by kernel_rfl) (by kernel_rfl) ?_
  simp only [List.map_cons, List.map_nil, List.getD_cons_succ, List.getD_cons_zero]
  repeat (first
    | (refine Flow.WalkL.move rfl ?_
       simp only [Act.put, Act.eval, Array.getD_eq_getD_getElem?, List.getElem?_toArray, List.getElem?_cons_succ, List.getElem?_cons_zero, Option.getD_some, List.setIfInBounds_toArray, List.set_cons_zero, List.set_cons_succ])
    | (refine Flow.WalkL.assign rfl ?_
       simp only [Act.put, Act.eval, Array.getD_eq_getD_getElem?, List.getElem?_toArray, List.getElem?_cons_succ, List.getElem?_cons_zero, Option.getD_some, List.setIfInBounds_toArray, List.set_cons_zero, List.set_cons_succ])
    | (refine Flow.WalkL.run (v := ?_) rfl (fun w1 hC => ?_) ?_
       rotate_left
       · obtain ⟨hCc, hCf⟩ := hC.rules
         go_simp
         with_reducible rfl
       simp only [Act.put, List.setIfInBounds_toArray, List.set_cons_zero, List.set_cons_succ]))
  refine Flow.WalkL.openf Tryd.func27 rfl (by kernel_rfl) rfl rfl rfl (fun w2 hE2 => ?_)
  refine (count1_any W H A n c dot w2 hok.out ((hA.ext hE01.out).ext hE2)).mono ?_
  rintro e w3 ⟨g1, rfl, hC1, hg1, hE3⟩
  refine ⟨_, rfl, hE3, ?_⟩
  simp only [Act.put, List.setIfInBounds_toArray, List.set_cons_zero, List.set_cons_succ]
  refine Flow.WalkL.openf Tryd.func27 rfl (by kernel_rfl) rfl rfl rfl (fun w4 hE4 => ?_)
  refine (count2_any W H A n c dot w4 hok.out ((hA.ext hE01.out).ext (hE2.trans (hE3.trans hE4)))).mono ?_
  rintro e w5 ⟨g2, rfl, hC2, hg2, hE5⟩
  refine ⟨_, rfl, hE5, ?_⟩
  simp only [Act.put, List.setIfInBounds_toArray, List.set_cons_zero, List.set_cons_succ]
  repeat (first
    | (refine Flow.WalkL.move rfl ?_
       simp only [Act.put, Act.eval, Array.getD_eq_getD_getElem?, List.getElem?_toArray, List.getElem?_cons_succ, List.getElem?_cons_zero, Option.getD_some, List.setIfInBounds_toArray, List.set_cons_zero, List.set_cons_succ])
    | (refine Flow.WalkL.assign rfl ?_
       simp only [Act.put, Act.eval, Array.getD_eq_getD_getElem?, List.getElem?_toArray, List.getElem?_cons_succ, List.getElem?_cons_zero, Option.getD_some, List.setIfInBounds_toArray, List.set_cons_zero, List.set_cons_succ])
    | (refine Flow.WalkL.run (v := ?_) rfl (fun w1 hC => ?_) ?_
       rotate_left
       · obtain ⟨hCc, hCf⟩ := hC.rules
         go_simp
         with_reducible rfl
       simp only [Act.put, List.setIfInBounds_toArray, List.set_cons_zero, List.set_cons_succ]))
  refine Flow.WalkL.nil ?_
  simp only [List.drop]
  intro w6 hE6
  have hk := okB hok.out
  have hC1' : Cts w6 g1 W.toNat (colF W n dot) := Own.ext hC1 (hE4.trans (hE5.trans hE6))
  have hC2' : Cts w6 g2 H.toNat (rowBd W n dot) := Own.ext hC2 hE6
  have hm1 := hC1'.many
  have hm2 := hC2'.many
  have hl1 := Own.lt hC1'
  have hl2 := Own.lt hC2'
  have hE06 := hE01.out.trans (hE2.trans (hE3.trans (hE4.trans (hE5.trans hE6))))
  clear hBc hBf hBl hS1 hS0 hC1 hC2 hE2 hE3 hE4 hE5 hE6 hB
  replace hE06 := Lib.hid hE06
  obtain ⟨Wn, rfl⟩ := Int.eq_ofNat_of_zero_le hk.1
  obtain ⟨Hn, rfl⟩ := Int.eq_ofNat_of_zero_le hk.2.2.1
  simp only [Int.toNat_natCast] at hC1' hC2' hm1 hm2
  have hW1 : Wn ≤ 96 := by omega
  have hH1 : Hn ≤ 96 := by omega
  go_wp2_with fail
  refine Flow.wp_flow 18 [(0, true), (1, true), (2, true), (3, true), (4, true), (5, true), (6, true), (7, true), (8, true), (9, true), (10, true), (11, true), (12, true), (13, true), (14, true), (15, true), (16, true), (17, true)] (by kernel_rfl) (by kernel_rfl) ?_
  simp only [List.map_cons, List.map_nil, List.getD_cons_succ, List.getD_cons_zero]
  repeat (first
    | (refine Flow.WalkL.move rfl ?_
       simp only [Act.put, Act.eval, Array.getD_eq_getD_getElem?, List.getElem?_toArray, List.getElem?_cons_succ, List.getElem?_cons_zero, Option.getD_some, List.setIfInBounds_toArray, List.set_cons_zero, List.set_cons_succ])
    | (refine Flow.WalkL.assign rfl ?_
       simp only [Act.put, Act.eval, Array.getD_eq_getD_getElem?, List.getElem?_toArray, List.getElem?_cons_succ, List.getElem?_cons_zero, Option.getD_some, List.setIfInBounds_toArray, List.set_cons_zero, List.set_cons_succ])
    | (refine Flow.WalkL.run (v := ?_) rfl (fun w1 hC => ?_) ?_
       rotate_left
       · obtain ⟨hCc, hCf⟩ := hC.rules
         go_simp
         with_reducible rfl
       simp only [Act.put, List.setIfInBounds_toArray, List.set_cons_zero, List.set_cons_succ]))
  refine Flow.WalkL.nil ?_
  simp only [List.drop]
  intro w7 hE7
  go_wp2_with fail
  go_ret2
  exact ⟨some ⟨g1, 0, none⟩, some ⟨g2, 0, none⟩, 96, 96, rfl, (hC1'.ints hW1).ext hE7, (hC2'.ints hH1).ext hE7, hE06.out.trans hE7⟩

/-- By how much the numbers of the first list exceed those of the second one, which is moved, outside of a strip. -/
def excT (f1 : Nat → Int) (m2 : Nat) (f2 : Nat → Int) (shift from_ till : Int) (k : Nat) : Int :=
  if (k : Int) < from_ ∨ till ≤ (k : Int) then max 0 (f1 k - extB m2 f2 ((k : Int) - shift)) else 0
def excS (m1 : Nat) (f1 : Nat → Int) (m2 : Nat) (f2 : Nat → Int) (shift from_ till : Int) : Int := sumTo (excT f1 m2 f2 shift from_ till) m1

theorem extB_bd {m : Nat} {f : Nat → Int} {M : Int} (h : ∀ k, 0 ≤ f k ∧ f k ≤ M) (hM : 0 ≤ M) (k : Int) : 0 ≤ extB m f k ∧ extB m f k ≤ M := by
  unfold extB
  split
  · exact h _
  · omega
theorem excT_bd {f1 : Nat → Int} {m2 : Nat} {f2 : Nat → Int} {shift from_ till M : Int} (h1 : ∀ k, 0 ≤ f1 k ∧ f1 k ≤ M) (h2 : ∀ k, 0 ≤ f2 k ∧ f2 k ≤ M) (k : Nat) : 0 ≤ excT f1 m2 f2 shift from_ till k ∧ excT f1 m2 f2 shift from_ till k ≤ M := by
  have := h1 k
  have := extB_bd (m := m2) h2 (by omega) ((k : Int) - shift)
  unfold excT
  split <;> omega
theorem excS_bd {m1 : Nat} {f1 : Nat → Int} {m2 : Nat} {f2 : Nat → Int} {shift from_ till M : Int} (h1 : ∀ k, 0 ≤ f1 k ∧ f1 k ≤ M) (h2 : ∀ k, 0 ≤ f2 k ∧ f2 k ≤ M) : 0 ≤ excS m1 f1 m2 f2 shift from_ till ∧ excS m1 f1 m2 f2 shift from_ till ≤ m1 * M := by
  refine ⟨sumTo_nonneg fun k _ => (excT_bd h1 h2 k).1, ?_⟩
  have := sumTo_le (f := excT f1 m2 f2 shift from_ till) (g := fun _ => M) (n := m1) fun k _ => (excT_bd h1 h2 k).2
  rwa [sumTo_const] at this

set_option maxHeartbeats 1000000 in
theorem excess_any (g1 g2 m1 m2 : Nat) (f1 f2 : Nat → Int) (shift from_ till : Int) (w : World) (hm1 : m1 ≤ 96) (hm2 : m2 ≤ 96) (hC1 : Cts w g1 m1 f1) (hC2 : Cts w g2 m2 f2)
    (h1 : ∀ k, 0 ≤ f1 k ∧ f1 k ≤ 9216) (h2 : ∀ k, 0 ≤ f2 k ∧ f2 k ≤ 9216) (hs : -1000 ≤ shift ∧ shift ≤ 1000) :
    Calls Tryd.prog 30 #[.pointer (some ⟨g1, 0, none⟩), .pointer (some ⟨g2, 0, none⟩), .int .i64 shift, .int .i64 from_, .int .i64 till] w fun e w' =>
      e = .returned (.int .i64 (excS m1 f1 m2 f2 shift from_ till)) ∧ Ext w w' := by
  have hmany := hC1.many
  obtain ⟨hs1, hs2⟩ := hs
  have hbd : ∀ k, k ≤ m1 → 0 ≤ sumTo (excT f1 m2 f2 shift from_ till) k ∧ sumTo (excT f1 m2 f2 shift from_ till) k ≤ 1000000 := fun k hk => by
    have := excS_bd (m1 := k) (m2 := m2) (shift := shift) (from_ := from_) (till := till) h1 h2
    unfold excS at this
    omega
  replace hbd := Lib.hid hbd
  go_enter Tryd.func30, Tryd.ntmps30
  go_wp2_with fail
  go_loopw [11, 17] (fun t i wr => ∃ k : Nat, k ≤ m1 ∧ i = .int .i64 k ∧ t = .int .i64 (sumTo (excT f1 m2 f2 shift from_ till) k) ∧ Ext w wr) (fun _ i _ => m1 - (intOf i).toNat)
  case atStart => exact ⟨0, by omega, rfl, rfl, Ext.refl w⟩
  case round =>
    obtain ⟨k, hk, rfl, rfl, hE⟩ := hrel
    by_cases hlt : k < m1
    · have hc := hE.cell (hC1.at_ hlt hm1)
      have hgl := Own.lt (Own.ext hC1 hE)
      have hb0 := (hbd.out k hk).1
      have hb1 := (hbd.out k hk).2
      have hf := h1 k
      have he := extB_bd (m := m2) h2 (by omega) ((k : Int) - shift)
      have hsk : IntKind.i64.wrap ((k : Int) - shift) = (k : Int) - shift := by rw [IntKind.wrap_i64]; omega
      have hss : sumTo (excT f1 m2 f2 shift from_ till) (k + 1) = sumTo (excT f1 m2 f2 shift from_ till) k + excT f1 m2 f2 shift from_ till k := rfl
      by_cases hin : (k : Int) < from_ ∨ till ≤ (k : Int)
      · have ht : excT f1 m2 f2 shift from_ till k = max 0 (f1 k - extB m2 f2 ((k : Int) - shift)) := by unfold excT; rw [if_pos hin]
        replace hss := Lib.hid hss
        replace ht := Lib.hid ht
        have hin' : (k : Int) < from_ ∨ (from_ ≤ (k : Int) ∧ till ≤ (k : Int)) := by omega
        clear hin
        obtain ⟨hf0, hf1⟩ := hf
        obtain ⟨he0, he1⟩ := he
        have hw1 : IntKind.i64.wrap (f1 k - extB m2 f2 ((k : Int) - shift)) = f1 k - extB m2 f2 ((k : Int) - shift) := by rw [IntKind.wrap_i64]; omega
        have hw2 : IntKind.i64.wrap (sumTo (excT f1 m2 f2 shift from_ till) k + max 0 (f1 k - extB m2 f2 ((k : Int) - shift))) = sumTo (excT f1 m2 f2 shift from_ till) k + max 0 (f1 k - extB m2 f2 ((k : Int) - shift)) := by rw [IntKind.wrap_i64]; omega
        have hk0 : (0 : Int) ≤ k := by omega
        have hk96 : (k : Int) < 96 := by omega
        rcases hin' with hin | ⟨hin1, hin2⟩
        · go_wp2_with fail
          refine Flow.wp_flow 16 [(0, true), (1, true), (2, true), (3, true), (4, true), (5, true), (6, true), (7, true), (8, true), (9, true), (10, true), (11, true), (12, true), (13, true), (14, true), (15, true)] (by kernel_rfl) (by kernel_rfl) ?_
          simp only [List.map_cons, List.map_nil, List.getD_cons_succ, List.getD_cons_zero]
          repeat (first
            | (refine Flow.WalkL.move rfl ?_
               simp only [Act.put, Act.eval, Array.getD_eq_getD_getElem?, List.getElem?_toArray, List.getElem?_cons_succ, List.getElem?_cons_zero, Option.getD_some, List.setIfInBounds_toArray, List.set_cons_zero, List.set_cons_succ])
            | (refine Flow.WalkL.assign rfl ?_
               simp only [Act.put, Act.eval, Array.getD_eq_getD_getElem?, List.getElem?_toArray, List.getElem?_cons_succ, List.getElem?_cons_zero, Option.getD_some, List.setIfInBounds_toArray, List.set_cons_zero, List.set_cons_succ])
            | (refine Flow.WalkL.callf Tryd.func45 rfl (by kernel_rfl) rfl (fun w1 hC => keep (get_any g2 m2 f2 _ _ hm2 (Own.ext hC2 (hE.trans hC)))) rfl rfl ?_
               simp only [Act.put, List.setIfInBounds_toArray, List.set_cons_zero, List.set_cons_succ])
            | (refine Flow.WalkL.run (v := ?_) rfl (fun w1 hC => ?_) ?_
               rotate_left
               · obtain ⟨hCc, hCf⟩ := hC.rules
                 go_simp
                 with_reducible rfl
               simp only [Act.put, List.setIfInBounds_toArray, List.set_cons_zero, List.set_cons_succ]))
          refine Flow.WalkL.nil ?_
          simp only [List.drop]
          intro w1 hE1
          go_wp2_with fail
          exact ⟨⟨k + 1, by omega, by go_num, by rw [hss.out, ht.out, IntKind.wrap_i64]; split <;> (apply congrArg; omega), hE.trans hE1⟩, by simp only [intOf]; omega⟩
        · go_wp2_with fail
          refine Flow.wp_flow 16 [(0, true), (1, true), (2, true), (3, true), (4, true), (5, true), (6, true), (7, true), (8, true), (9, true), (10, true), (11, true), (12, true), (13, true), (14, true), (15, true)] (by kernel_rfl) (by kernel_rfl) ?_
          simp only [List.map_cons, List.map_nil, List.getD_cons_succ, List.getD_cons_zero]
          repeat (first
            | (refine Flow.WalkL.move rfl ?_
               simp only [Act.put, Act.eval, Array.getD_eq_getD_getElem?, List.getElem?_toArray, List.getElem?_cons_succ, List.getElem?_cons_zero, Option.getD_some, List.setIfInBounds_toArray, List.set_cons_zero, List.set_cons_succ])
            | (refine Flow.WalkL.assign rfl ?_
               simp only [Act.put, Act.eval, Array.getD_eq_getD_getElem?, List.getElem?_toArray, List.getElem?_cons_succ, List.getElem?_cons_zero, Option.getD_some, List.setIfInBounds_toArray, List.set_cons_zero, List.set_cons_succ])
            | (refine Flow.WalkL.callf Tryd.func45 rfl (by kernel_rfl) rfl (fun w1 hC => keep (get_any g2 m2 f2 _ _ hm2 (Own.ext hC2 (hE.trans hC)))) rfl rfl ?_
               simp only [Act.put, List.setIfInBounds_toArray, List.set_cons_zero, List.set_cons_succ])
            | (refine Flow.WalkL.run (v := ?_) rfl (fun w1 hC => ?_) ?_
               rotate_left
               · obtain ⟨hCc, hCf⟩ := hC.rules
                 go_simp
                 with_reducible rfl
               simp only [Act.put, List.setIfInBounds_toArray, List.set_cons_zero, List.set_cons_succ]))
          refine Flow.WalkL.nil ?_
          simp only [List.drop]
          intro w1 hE1
          go_wp2_with fail
          exact ⟨⟨k + 1, by omega, by go_num, by rw [hss.out, ht.out, IntKind.wrap_i64]; split <;> (apply congrArg; omega), hE.trans hE1⟩, by simp only [intOf]; omega⟩
      · have ht : excT f1 m2 f2 shift from_ till k = 0 := by unfold excT; rw [if_neg hin]
        replace hss := Lib.hid hss
        replace ht := Lib.hid ht
        have hin1 : from_ ≤ (k : Int) := by omega
        have hin2 : (k : Int) < till := by omega
        clear hin
        go_wp2_with fail
        exact ⟨⟨k + 1, by omega, by go_num, by rw [hss.out, ht.out, Int.add_zero], hE⟩, by simp only [intOf]; omega⟩
    · go_wp2_with fail
      go_ret
      exact ⟨ret_int (by unfold excS; rw [show k = m1 by omega]), hE⟩
end Go.Proofs.YtfgcogkhnnflcaaDoor
end
