/- The reference's Columns, at, excess. No condition but those that each states. -/
import Derived.Test.YtfgcogkhnnflcaaDoorProg
import Derived.Test.YtfgcogkhnnflcaaDoorBdLeast
import Derived.Deep.DeepCutAuto
namespace Go.Proofs.YtfgcogkhnnflcaaDoor
open Go.RowKit Go.Flow Go.Plain
open Go.Proofs
attribute [local go_sem] block_add
attribute [local go_sem ↓] Go.wp_at_zero Go.wp_at_succ

theorem ColumnsR_bad (W H : Int) (A : Option Addr) (n c : Nat) (w : World) (hok : chk W H n ≠ 0) :
    Calls Tryd.prog 13 #[bmp W H A n c] w fun e w' => e = .returned (.tuple #[.slice none 0 0, .slice none 0 0]) ∧ Ext w w' := by
  have hne : (chk W H n != 0) = true := by simpa using hok
  go_enter Tryd.func13, Tryd.ntmps13
  go_wp2_with fail
  refine (Check_any W H A n c _).mono ?_
  rintro e w1 ⟨rfl, hE1⟩
  go_wp2_with fail
  go_ret2
  exact ⟨rfl, ((Ext.refl w).alloc _).trans hE1⟩

set_option maxHeartbeats 1000000 in
theorem ColumnsR_ok (W H : Int) (A : Option Addr) (n c : Nat) (dot : Nat → Bool) (w : World) (hok : chk W H n = 0) (hA : Bools w A n dot) :
    Calls Tryd.prog 13 #[bmp W H A n c] w (ColsPost W H n dot w) := by
  obtain ⟨i0, hi, hz0, hz1, hz2⟩ := info_parts info_int
  have hne : (chk W H n != 0) = false := by simpa using hok
  have hk := okB hok
  have hbd := area_bd ⟨hk.1, hk.2.1⟩ ⟨hk.2.2.1, hk.2.2.2.1⟩
  have hn1 : n ≤ 9216 := by omega
  obtain ⟨hk1, hk2, hk3, hk4, hk5⟩ := hk
  obtain ⟨Wn, rfl⟩ := Int.eq_ofNat_of_zero_le hk1
  obtain ⟨Hn, rfl⟩ := Int.eq_ofNat_of_zero_le hk3
  replace hk5 := Lib.hid hk5
  clear hok
  have hP : ∀ (e : Ending) (w' : World), (∃ A B c d, e = .returned (.tuple #[.slice A Wn c, .slice B Hn d]) ∧ Ints w' A Wn (colF Wn n dot) ∧ Ints w' B Hn (rowF Wn n dot) ∧ Ext w w') → ColsPost Wn Hn n dot w e w' := fun e w' h => h
  replace hP := Lib.hid hP
  go_enter Tryd.func13, Tryd.ntmps13
  go_wp2_with fail
  refine (Check_any Wn Hn A n c _).mono ?_
  rintro e w1 ⟨rfl, hE1⟩
  have hB := (Blk.new w 30 #[.int .i64 Wn, .int .i64 Hn, .slice A n c]).ext hE1
  have hE01 := ((Ext.refl w).alloc _).trans hE1
  obtain ⟨hBc, hBf, hBl⟩ := hB.rules
  clear hE1
  replace hE01 := Lib.hid hE01
  go_wp2_with fail
  go_cut [4, 5] (fun s4 s5 wx => ∃ g1 g2, s4 = .slice (some ⟨g1, 0, none⟩) Wn Wn ∧ s5 = .slice (some ⟨g2, 0, none⟩) Hn Hn ∧ Own wx g1 3 Wn (fun _ => .int .i64 0) ∧ Own wx g2 3 Hn (fun _ => .int .i64 0) ∧
      g1 ≠ g2 ∧ w.heap.size < g1 ∧ w.heap.size < g2 ∧ Blk wx w.heap.size 30 #[.int .i64 Wn, .int .i64 Hn, .slice A n c] ∧ Ext w wx)
  case first =>
    refine Flow.wp_fork 8 [(0, true), (1, true), (3, true), (4, true)] 2 5 [(6, true), (5, false), (7, true)] [(2, false), (6, true), (7, true)] (by kernel_rfl) (by kernel_rfl) ?_
    simp only [List.map_cons, List.map_nil, List.getD_cons_succ, List.getD_cons_zero]
    repeat (first
      | (refine Flow.WalkL.move rfl ?_
         simp only [Act.put, Act.eval, Array.getD_eq_getD_getElem?, List.getElem?_toArray, List.getElem?_cons_succ, List.getElem?_cons_zero, Option.getD_some, List.setIfInBounds_toArray, List.set_cons_zero, List.set_cons_succ])
      | (refine Flow.WalkL.assign rfl ?_
         simp only [Act.put, Act.eval, Array.getD_eq_getD_getElem?, List.getElem?_toArray, List.getElem?_cons_succ, List.getElem?_cons_zero, Option.getD_some, List.setIfInBounds_toArray, List.set_cons_zero, List.set_cons_succ])
      | (refine Flow.WalkL.run (v := ?_) rfl (fun w1 hC => ?_) ?_
         rotate_left
         · obtain ⟨hCc, hCf⟩ := hC.rules
           go_simp
           with_reducible rfl
         simp only [Act.put, List.setIfInBounds_toArray, List.set_cons_zero, List.set_cons_succ]))
    refine Flow.WalkL.nil (fun w2 hE2 => ⟨?_, ?_⟩)
    · refine WalkL.openmake 3 i0 (.int .i64 0) Tryd.underlying22 hi hz0 hz1 rfl _ _ _ _ Wn rfl rfl rfl rfl (by rw [hz2]; omega) (by omega) rfl fun w3 w4 hE3 hO1 hE4 => ?_
      simp only [Act.put, List.setIfInBounds_toArray, List.set_cons_zero, List.set_cons_succ]
      repeat (first
        | (refine Flow.WalkL.move rfl ?_
           simp only [Act.put, Act.eval, Array.getD_eq_getD_getElem?, List.getElem?_toArray, List.getElem?_cons_succ, List.getElem?_cons_zero, Option.getD_some, List.setIfInBounds_toArray, List.set_cons_zero, List.set_cons_succ])
        | (refine Flow.WalkL.assign rfl ?_
           simp only [Act.put, Act.eval, Array.getD_eq_getD_getElem?, List.getElem?_toArray, List.getElem?_cons_succ, List.getElem?_cons_zero, Option.getD_some, List.setIfInBounds_toArray, List.set_cons_zero, List.set_cons_succ])
        | (refine Flow.WalkL.run (v := ?_) rfl (fun w1 hC => ?_) ?_
           rotate_left
           · obtain ⟨hCc, hCf⟩ := hC.rules
             go_simp
             with_reducible rfl
           simp only [Act.put, List.setIfInBounds_toArray, List.set_cons_zero, List.set_cons_succ]))
      refine WalkL.openmake 3 i0 (.int .i64 0) Tryd.underlying22 hi hz0 hz1 rfl _ _ _ _ Hn rfl rfl rfl rfl (by rw [hz2]; omega) (by omega) rfl fun w5 w6 hE5 hO2 hE6 => ?_
      simp only [Act.put, List.setIfInBounds_toArray, List.set_cons_zero, List.set_cons_succ]
      repeat (first
        | (refine Flow.WalkL.move rfl ?_
           simp only [Act.put, Act.eval, Array.getD_eq_getD_getElem?, List.getElem?_toArray, List.getElem?_cons_succ, List.getElem?_cons_zero, Option.getD_some, List.setIfInBounds_toArray, List.set_cons_zero, List.set_cons_succ])
        | (refine Flow.WalkL.assign rfl ?_
           simp only [Act.put, Act.eval, Array.getD_eq_getD_getElem?, List.getElem?_toArray, List.getElem?_cons_succ, List.getElem?_cons_zero, Option.getD_some, List.setIfInBounds_toArray, List.set_cons_zero, List.set_cons_succ])
        | (refine Flow.WalkL.run (v := ?_) rfl (fun w1 hC => ?_) ?_
           rotate_left
           · obtain ⟨hCc, hCf⟩ := hC.rules
             go_simp
             with_reducible rfl
           simp only [Act.put, List.setIfInBounds_toArray, List.set_cons_zero, List.set_cons_succ]))
      refine Flow.WalkL.nil ?_
      simp only [List.drop_succ_cons, List.drop_zero, List.drop_nil]
      intro w7 hE7
      have s1 := hE2.size
      have s2 := hE3.size
      have s3 := hO1.lt
      have s4 := hE5.size
      have hx := hE2.trans (hE3.trans (hE4.trans (hE5.trans (hE6.trans hE7))))
      go_wp2_with fail
      go_meet
      exact ⟨w3.heap.size, w5.heap.size, rfl, rfl, hO1.ext (hE5.trans (hE6.trans hE7)), hO2.ext hE7, by omega, by omega, by omega, hB.ext hx, hE01.out.trans hx⟩
    · refine WalkL.openmake 3 i0 (.int .i64 0) Tryd.underlying22 hi hz0 hz1 rfl _ _ _ _ Hn rfl rfl rfl rfl (by rw [hz2]; omega) (by omega) rfl fun w3 w4 hE3 hO1 hE4 => ?_
      simp only [Act.put, List.setIfInBounds_toArray, List.set_cons_zero, List.set_cons_succ]
      refine WalkL.openmake 3 i0 (.int .i64 0) Tryd.underlying22 hi hz0 hz1 rfl _ _ _ _ Wn rfl rfl rfl rfl (by rw [hz2]; omega) (by omega) rfl fun w5 w6 hE5 hO2 hE6 => ?_
      simp only [Act.put, List.setIfInBounds_toArray, List.set_cons_zero, List.set_cons_succ]
      repeat (first
        | (refine Flow.WalkL.move rfl ?_
           simp only [Act.put, Act.eval, Array.getD_eq_getD_getElem?, List.getElem?_toArray, List.getElem?_cons_succ, List.getElem?_cons_zero, Option.getD_some, List.setIfInBounds_toArray, List.set_cons_zero, List.set_cons_succ])
        | (refine Flow.WalkL.assign rfl ?_
           simp only [Act.put, Act.eval, Array.getD_eq_getD_getElem?, List.getElem?_toArray, List.getElem?_cons_succ, List.getElem?_cons_zero, Option.getD_some, List.setIfInBounds_toArray, List.set_cons_zero, List.set_cons_succ])
        | (refine Flow.WalkL.run (v := ?_) rfl (fun w1 hC => ?_) ?_
           rotate_left
           · obtain ⟨hCc, hCf⟩ := hC.rules
             go_simp
             with_reducible rfl
           simp only [Act.put, List.setIfInBounds_toArray, List.set_cons_zero, List.set_cons_succ]))
      refine Flow.WalkL.nil ?_
      simp only [List.drop_succ_cons, List.drop_zero, List.drop_nil]
      intro w7 hE7
      have s1 := hE2.size
      have s2 := hE3.size
      have s3 := hO1.lt
      have s4 := hE5.size
      have hx := hE2.trans (hE3.trans (hE4.trans (hE5.trans (hE6.trans hE7))))
      go_wp2_with fail
      go_meet
      exact ⟨w5.heap.size, w3.heap.size, rfl, rfl, hO2.ext hE7, hO1.ext (hE5.trans (hE6.trans hE7)), by omega, by omega, by omega, hB.ext hx, hE01.out.trans hx⟩
  case rest =>
  clear hBc hBf hBl hB hE01
  obtain ⟨g1, g2, rfl, rfl, hO1, hO2, hg12, hs1, hs2, hB, hE01⟩ := hcut
  have hE01' := Lib.hid hE01
  clear hE01
  go_wp2_with fail
  go_loopw [6] (fun i wr => ∃ k : Nat, k ≤ n ∧ i = .int .i64 k ∧ Blk wr w.heap.size 30 #[.int .i64 Wn, .int .i64 Hn, .slice A n c] ∧
      Own wr g1 3 Wn (fun j => .int .i64 (colF Wn k dot j)) ∧ Own wr g2 3 Hn (fun j => .int .i64 (rowF Wn k dot j)) ∧ Ext w wr) (fun i _ => n - (intOf i).toNat)
  case atStart => exact ⟨0, by omega, rfl, hB, hO1, hO2, hE01'.out⟩
  case round =>
    clear hB hO1 hO2 hE01'
    obtain ⟨k, hk, rfl, hB, hO1, hO2, hE⟩ := hrel
    obtain ⟨hBc, hBf, hBl'⟩ := hB.rules
    by_cases hlt : k < n
    · have hlt' : (k : Int) < n := by omega
      obtain ⟨ad, rfl, hc⟩ := hA.ext hE k hlt
      have hadl := lt_of_cell hc
      replace hE := Lib.hid hE
      cases hd : dot k
      · go_wp2_with fail
        exact ⟨⟨k + 1, by omega, by go_num, hB, hO1.congr (fun i _ => by simp only [colF, cnt_succ, hd]; simp), hO2.congr (fun i _ => by simp only [rowF, cnt_succ, hd]; simp), hE.out⟩, by simp only [intOf]; omega⟩
      · have hW : (0 : Int) < Wn := by
          rcases Int.lt_or_le 0 Wn with h1 | h1
          · exact h1
          · have h := hk5.out; rw [show (Wn : Int) = 0 by omega, Int.zero_mul] at h; omega
        obtain ⟨j, hj⟩ : ∃ j : Nat, (k : Int) % Wn = j := ⟨((k : Int) % Wn).toNat, by have := Int.emod_nonneg (k : Int) (show (Wn : Int) ≠ 0 by omega); omega⟩
        have hjW : (j : Int) < Wn := by rw [← hj]; exact Int.emod_lt_of_pos _ hW
        obtain ⟨m, hm⟩ : ∃ m : Nat, (k : Int) / Wn = m := ⟨((k : Int) / Wn).toNat, by have := Int.ediv_nonneg (a := (k : Int)) (b := Wn) (by omega) (by omega); omega⟩
        have hmH : (m : Int) < Hn := by rw [← hm]; exact Int.ediv_lt_of_lt_mul hW (by have h := hk5.out; rw [Int.mul_comm] at h; omega)
        have hq1 : (m : Int) ≤ 9216 := by omega
        have hcj := hO1.cell (k := j) (by omega)
        have hfj := hO1.frozen j
        have hcm := hO2.cell (k := m) (by omega)
        have hfm := hO2.frozen m
        have hl1 := hO1.lt
        have hl2 := hO2.lt
        have hu0 : 0 ≤ colF Wn k dot j := cnt_nonneg _ _
        have hu1 : colF Wn k dot j ≤ 9216 := by have := cnt_le (fun i => dot i && decide ((i : Int) % Wn = j)) k; unfold colF; omega
        have hv0 : 0 ≤ rowF Wn k dot m := cnt_nonneg _ _
        have hv1 : rowF Wn k dot m ≤ 9216 := by have := cnt_le (fun i => dot i && decide ((i : Int) / Wn = m)) k; unfold rowF; omega
        have hj' := Lib.hid hj
        have hm' := Lib.hid hm
        go_wp2_with fail
        exact ⟨⟨k + 1, by omega, by go_num, (hB.far (by simp; omega) _).far (by simp; omega) _,
          ((hO1.set_ j _).far (by simp; omega) _).congr (fun i _ => by
            simp only [upd, colF, cnt_succ, hd, hj'.out]; by_cases e : i = j <;> simp [e]; omega),
          ((hO2.far (by simp; omega) _).set_ m _).congr (fun i _ => by
            simp only [upd, rowF, cnt_succ, hd, hm'.out]; by_cases e : i = m <;> simp [e]; omega),
          (hE.out.setCell (by simp; omega) _).setCell (by simp; omega) _⟩, by simp only [intOf]; omega⟩
    · go_wp2_with fail
      go_ret2
      obtain rfl : k = n := by omega
      exact hP.out _ _ ⟨_, _, _, _, rfl, hO1.arr, hO2.arr, hE⟩
end Go.Proofs.YtfgcogkhnnflcaaDoor
