/- Parts of the proof: Sum, BdCols, BdRef, BdRef2, BdRef3, BdRef4, BdVal. -/
import Derived.Test.YtfgcogkhnnflcaaDoorG02
import Derived.WalkKit
import Derived.Test.YtfgcogkhnnflcaaDoorProg
import Derived.Test.YtfgcogkhnnflcaaDoorG01
import Derived.Test.YtfgcogkhnnflcaaDoorHBdLeaCard01
import Derived.Lib.Hide
import Derived.Deep.QuietTactic
import Derived.BigQuiet
import Derived.Deep.DrawnRows
import Derived.StillTail
import Derived.Below
import Derived.Deep.Draws
import Derived.KernelRfl
import Derived.Test.YtfgcogkhnnflcaaDoorG03
import Derived.Deep.DeepCutAuto
import Derived.Laws.EntriesVeiled
set_option linter.unusedSimpArgs false
set_option linter.unusedVariables false
section
namespace Go.Plain

theorem sumTo_congr {f g : Nat → Int} : ∀ {n : Nat}, (∀ k, k < n → f k = g k) → sumTo f n = sumTo g n
  | 0, _ => rfl
  | n + 1, h => by simp only [sumTo]; rw [sumTo_congr (n := n) fun k hk => h k (by omega), h n (by omega)]
end Go.Plain
end

section
namespace Go.Proofs.YtfgcogkhnnflcaaDoor
open Go.RowKit Go.Flow Go.Plain
open Go.Proofs
attribute [local go_sem] block_add
attribute [local go_sem ↓] Go.wp_at_zero Go.wp_at_succ

theorem Columns_bad (W H : Int) (A : Option Addr) (n c : Nat) (w : World) (hok : chk W H n ≠ 0) :
    Calls Tryd.prog 12 #[bmp W H A n c] w fun e w' => e = .returned (.tuple #[.slice none 0 0, .slice none 0 0]) ∧ Ext w w' := by
  have hne : (chk W H n != 0) = true := by simpa using hok
  go_enter Tryd.func12, Tryd.ntmps12
  go_wp2_with fail
  refine (Check2_any W H A n c _).mono ?_
  rintro e w1 ⟨rfl, hE1⟩
  go_wp2_with fail
  go_ret2
  exact ⟨rfl, ((Ext.refl w).alloc _).trans hE1⟩

end Go.Proofs.YtfgcogkhnnflcaaDoor
end

section
namespace Go.Proofs.YtfgcogkhnnflcaaDoor
open Go.RowKit Go.Flow Go.Plain
open Go.Proofs
attribute [local go_sem] block_add
attribute [local go_sem ↓] Go.wp_at_zero Go.wp_at_succ

theorem ColumnsR_bad (W H : Int) (A : Option Addr) (n c : Nat) (w : World) (hok : chk W H n ≠ 0) :
    Calls Tryd.prog 13 #[bmp W H A n c] w fun e w' => e = .returned (.tuple #[.slice none 0 0, .slice none 0 0]) ∧ Ext w w' := by
  have hne : (chk W H n != 0) = true := by simpa using hok
  go_enter Tryd.func13, Tryd.ntmps13
  go_wp2_with fail
  refine (Check_any W H A n c _).mono ?_
  rintro e w1 ⟨rfl, hE1⟩
  go_wp2_with fail
  go_ret2
  exact ⟨rfl, ((Ext.refl w).alloc _).trans hE1⟩

set_option maxHeartbeats 1000000 in
theorem ColumnsR_ok (W H : Int) (A : Option Addr) (n c : Nat) (dot : Nat → Bool) (w : World) (hok : chk W H n = 0) (hA : Bools w A n dot) :
    Calls Tryd.prog 13 #[bmp W H A n c] w (ColsPost W H n dot w) := by
  obtain ⟨i0, hi, hz0, hz1, hz2⟩ := info_parts info_int
  have hne : (chk W H n != 0) = false := by simpa using hok
  have hk := okB hok
  have hbd := area_bd ⟨hk.1, hk.2.1⟩ ⟨hk.2.2.1, hk.2.2.2.1⟩
  have hn1 : n ≤ 9216 := by omega
  obtain ⟨hk1, hk2, hk3, hk4, hk5⟩ := hk
  obtain ⟨Wn, rfl⟩ := Int.eq_ofNat_of_zero_le hk1
  obtain ⟨Hn, rfl⟩ := Int.eq_ofNat_of_zero_le hk3
  replace hk5 := Lib.hid hk5
  clear hok
  have hP : ∀ (e : Ending) (w' : World), (∃ A B c d, e = .returned (.tuple #[.slice A Wn c, .slice B Hn d]) ∧ Ints w' A Wn (colF Wn n dot) ∧ Ints w' B Hn (rowBd Wn n dot) ∧ Ext w w') → ColsPost Wn Hn n dot w e w' := fun e w' h => h
  replace hP := Lib.hid hP
  go_enter Tryd.func13, Tryd.ntmps13
  go_wp2_with fail
  refine (Check_any Wn Hn A n c _).mono ?_
  rintro e w1 ⟨rfl, hE1⟩
  have hB := (Blk.new w 30 #[.int .i64 Wn, .int .i64 Hn, .slice A n c]).ext hE1
  have hE01 := ((Ext.refl w).alloc _).trans hE1
  obtain ⟨hBc, hBf, hBl⟩ := hB.rules
  clear hE1
  replace hE01 := Lib.hid hE01
  go_wp2_with fail
  go_cut [4, 5] (fun s4 s5 wx => ∃ g1 g2, s4 = .slice (some ⟨g1, 0, none⟩) Wn Wn ∧ s5 = .slice (some ⟨g2, 0, none⟩) Hn Hn ∧ Own wx g1 3 Wn (fun _ => .int .i64 0) ∧ Own wx g2 3 Hn (fun _ => .int .i64 0) ∧
      g1 ≠ g2 ∧ w.heap.size < g1 ∧ w.heap.size < g2 ∧ Blk wx w.heap.size 30 #[.int .i64 Wn, .int .i64 Hn, .slice A n c] ∧ Ext w wx)
  case first =>
    refine Flow.wp_fork 8 [(0, true), (1, true), (3, true), (4, true)] 2 5 [(6, true), (5, false), (7, true)] [(2, false), (6, true), (7, true)] (by kernel_rfl) (by kernel_rfl) ?_
    simp only [List.map_cons, List.map_nil, List.getD_cons_succ, List.getD_cons_zero]
    repeat (first
      | (refine Flow.WalkL.move rfl ?_
         simp only [Act.put, Act.eval, Array.getD_eq_getD_getElem?, List.getElem?_toArray, List.getElem?_cons_succ, List.getElem?_cons_zero, Option.getD_some, List.setIfInBounds_toArray, List.set_cons_zero, List.set_cons_succ])
      | (refine Flow.WalkL.assign rfl ?_
         simp only [Act.put, Act.eval, Array.getD_eq_getD_getElem?, List.getElem?_toArray, List.getElem?_cons_succ, List.getElem?_cons_zero, Option.getD_some, List.setIfInBounds_toArray, List.set_cons_zero, List.set_cons_succ])
      | (refine Flow.WalkL.run (v := ?_) rfl (fun w1 hC => ?_) ?_
         rotate_left
         · obtain ⟨hCc, hCf⟩ := hC.rules
           go_simp
           with_reducible rfl
         simp only [Act.put, List.setIfInBounds_toArray, List.set_cons_zero, List.set_cons_succ]))
    refine Flow.WalkL.nil (fun w2 hE2 => ⟨?_, ?_⟩)
    · refine WalkL.openmake 3 i0 (.int .i64 0) Tryd.underlying22 hi hz0 hz1 rfl _ _ _ _ Wn rfl rfl rfl rfl (by rw [hz2]; omega) (by omega) rfl fun w3 w4 hE3 hO1 hE4 => ?_
      simp only [Act.put, List.setIfInBounds_toArray, List.set_cons_zero, List.set_cons_succ]
      repeat (first
        | (refine Flow.WalkL.move rfl ?_
           simp only [Act.put, Act.eval, Array.getD_eq_getD_getElem?, List.getElem?_toArray, List.getElem?_cons_succ, List.getElem?_cons_zero, Option.getD_some, List.setIfInBounds_toArray, List.set_cons_zero, List.set_cons_succ])
        | (refine Flow.WalkL.assign rfl ?_
           simp only [Act.put, Act.eval, Array.getD_eq_getD_getElem?, List.getElem?_toArray, List.getElem?_cons_succ, List.getElem?_cons_zero, Option.getD_some, List.setIfInBounds_toArray, List.set_cons_zero, List.set_cons_succ])
        | (refine Flow.WalkL.run (v := ?_) rfl (fun w1 hC => ?_) ?_
           rotate_left
           · obtain ⟨hCc, hCf⟩ := hC.rules
             go_simp
             with_reducible rfl
           simp only [Act.put, List.setIfInBounds_toArray, List.set_cons_zero, List.set_cons_succ]))
      refine WalkL.openmake 3 i0 (.int .i64 0) Tryd.underlying22 hi hz0 hz1 rfl _ _ _ _ Hn rfl rfl rfl rfl (by rw [hz2]; omega) (by omega) rfl fun w5 w6 hE5 hO2 hE6 => ?_
      simp only [Act.put, List.setIfInBounds_toArray, List.set_cons_zero, List.set_cons_succ]
      repeat (first
        | (refine Flow.WalkL.move rfl ?_
           simp only [Act.put, Act.eval, Array.getD_eq_getD_getElem?, List.getElem?_toArray, List.getElem?_cons_succ, List.getElem?_cons_zero, Option.getD_some, List.setIfInBounds_toArray, List.set_cons_zero, List.set_cons_succ])
        | (refine Flow.WalkL.assign rfl ?_
           simp only [Act.put, Act.eval, Array.getD_eq_getD_getElem?, List.getElem?_toArray, List.getElem?_cons_succ, List.getElem?_cons_zero, Option.getD_some, List.setIfInBounds_toArray, List.set_cons_zero, List.set_cons_succ])
        | (refine Flow.WalkL.run (v := ?_) rfl (fun w1 hC => ?_) ?_
           rotate_left
           · obtain ⟨hCc, hCf⟩ := hC.rules
             go_simp
             with_reducible rfl
           simp only [Act.put, List.setIfInBounds_toArray, List.set_cons_zero, List.set_cons_succ]))
      refine Flow.WalkL.nil ?_
      simp only [List.drop]
      intro w7 hE7
      have s1 := hE2.size
      have s2 := hE3.size
      have s3 := hO1.lt
      have s4 := hE5.size
      have hx := hE2.trans (hE3.trans (hE4.trans (hE5.trans (hE6.trans hE7))))
      go_wp2_with fail
      go_meet
      exact ⟨w3.heap.size, w5.heap.size, rfl, rfl, hO1.ext (hE5.trans (hE6.trans hE7)), hO2.ext hE7, by omega, by omega, by omega, hB.ext hx, hE01.out.trans hx⟩
    · refine WalkL.openmake 3 i0 (.int .i64 0) Tryd.underlying22 hi hz0 hz1 rfl _ _ _ _ Hn rfl rfl rfl rfl (by rw [hz2]; omega) (by omega) rfl fun w3 w4 hE3 hO1 hE4 => ?_
      simp only [Act.put, List.setIfInBounds_toArray, List.set_cons_zero, List.set_cons_succ]
      refine WalkL.openmake 3 i0 (.int .i64 0) Tryd.underlying22 hi hz0 hz1 rfl _ _ _ _ Wn rfl rfl rfl rfl (by rw [hz2]; omega) (by omega) rfl fun w5 w6 hE5 hO2 hE6 => ?_
      simp only [Act.put, List.setIfInBounds_toArray, List.set_cons_zero, List.set_cons_succ]
      repeat (first
        | (refine Flow.WalkL.move rfl ?_
           simp only [Act.put, Act.eval, Array.getD_eq_getD_getElem?, List.getElem?_toArray, List.getElem?_cons_succ, List.getElem?_cons_zero, Option.getD_some, List.setIfInBounds_toArray, List.set_cons_zero, List.set_cons_succ])
        | (refine Flow.WalkL.assign rfl ?_
           simp only [Act.put, Act.eval, Array.getD_eq_getD_getElem?, List.getElem?_toArray, List.getElem?_cons_succ, List.getElem?_cons_zero, Option.getD_some, List.setIfInBounds_toArray, List.set_cons_zero, List.set_cons_succ])
        | (refine Flow.WalkL.run (v := ?_) rfl (fun w1 hC => ?_) ?_
           rotate_left
           · obtain ⟨hCc, hCf⟩ := hC.rules
             go_simp
             with_reducible rfl
           simp only [Act.put, List.setIfInBounds_toArray, List.set_cons_zero, List.set_cons_succ]))
      refine Flow.WalkL.nil ?_
      simp only [List.drop]
      intro w7 hE7
      have s1 := hE2.size
      have s2 := hE3.size
      have s3 := hO1.lt
      have s4 := hE5.size
      have hx := hE2.trans (hE3.trans (hE4.trans (hE5.trans (hE6.trans hE7))))
      go_wp2_with fail
      go_meet
      exact ⟨w5.heap.size, w3.heap.size, rfl, rfl, hO2.ext hE7, hO1.ext (hE5.trans (hE6.trans hE7)), by omega, by omega, by omega, hB.ext hx, hE01.out.trans hx⟩
  case rest =>
  clear hBc hBf hBl hB hE01
  obtain ⟨g1, g2, rfl, rfl, hO1, hO2, hg12, hs1, hs2, hB, hE01⟩ := hcut
  have hE01' := Lib.hid hE01
  clear hE01
  go_wp2_with fail
  go_loopw [6] (fun i wr => ∃ k : Nat, k ≤ n ∧ i = .int .i64 k ∧ Blk wr w.heap.size 30 #[.int .i64 Wn, .int .i64 Hn, .slice A n c] ∧
      Own wr g1 3 Wn (fun j => .int .i64 (colF Wn k dot j)) ∧ Own wr g2 3 Hn (fun j => .int .i64 (rowBd Wn k dot j)) ∧ Ext w wr) (fun i _ => n - (intOf i).toNat)
  case atStart => exact ⟨0, by omega, rfl, hB, hO1, hO2, hE01'.out⟩
  case round =>
    clear hB hO1 hO2 hE01'
    obtain ⟨k, hk, rfl, hB, hO1, hO2, hE⟩ := hrel
    obtain ⟨hBc, hBf, hBl'⟩ := hB.rules
    by_cases hlt : k < n
    · have hlt' : (k : Int) < n := by omega
      obtain ⟨ad, rfl, hc⟩ := hA.ext hE k hlt
      have hadl := lt_of_cell hc
      replace hE := Lib.hid hE
      cases hd : dot k
      · go_wp2_with fail
        exact ⟨⟨k + 1, by omega, by go_num, hB, hO1.congr (fun i _ => by simp only [colF, cnt_succ, hd]; simp), hO2.congr (fun i _ => by simp only [rowBd, cnt_succ, hd]; simp), hE.out⟩, by simp only [intOf]; omega⟩
      · have hW : (0 : Int) < Wn := by
          rcases Int.lt_or_le 0 Wn with h1 | h1
          · exact h1
          · have h := hk5.out; rw [show (Wn : Int) = 0 by omega, Int.zero_mul] at h; omega
        obtain ⟨j, hj⟩ : ∃ j : Nat, (k : Int) % Wn = j := ⟨((k : Int) % Wn).toNat, by have := Int.emod_nonneg (k : Int) (show (Wn : Int) ≠ 0 by omega); omega⟩
        have hjW : (j : Int) < Wn := by rw [← hj]; exact Int.emod_lt_of_pos _ hW
        obtain ⟨m, hm⟩ : ∃ m : Nat, (k : Int) / Wn = m := ⟨((k : Int) / Wn).toNat, by have := Int.ediv_nonneg (a := (k : Int)) (b := Wn) (by omega) (by omega); omega⟩
        have hmH : (m : Int) < Hn := by rw [← hm]; exact Int.ediv_lt_of_lt_mul hW (by have h := hk5.out; rw [Int.mul_comm] at h; omega)
        have hq1 : (m : Int) ≤ 9216 := by omega
        have hcj := hO1.cell (k := j) (by omega)
        have hfj := hO1.frozen j
        have hcm := hO2.cell (k := m) (by omega)
        have hfm := hO2.frozen m
        have hl1 := hO1.lt
        have hl2 := hO2.lt
        have hu0 : 0 ≤ colF Wn k dot j := cnt_nonneg _ _
        have hu1 : colF Wn k dot j ≤ 9216 := by have := cnt_le (fun i => dot i && decide ((i : Int) % Wn = j)) k; unfold colF; omega
        have hv0 : 0 ≤ rowBd Wn k dot m := cnt_nonneg _ _
        have hv1 : rowBd Wn k dot m ≤ 9216 := by have := cnt_le (fun i => dot i && decide ((i : Int) / Wn = m)) k; unfold rowBd; omega
        have hj' := Lib.hid hj
        have hm' := Lib.hid hm
        go_wp2_with fail
        exact ⟨⟨k + 1, by omega, by go_num, (hB.far (by simp; omega) _).far (by simp; omega) _,
          ((hO1.set_ j _).far (by simp; omega) _).congr (fun i _ => by
            simp only [upd, colF, cnt_succ, hd, hj'.out]; by_cases e : i = j <;> simp [e]; omega),
          ((hO2.far (by simp; omega) _).set_ m _).congr (fun i _ => by
            simp only [upd, rowBd, cnt_succ, hd, hm'.out]; by_cases e : i = m <;> simp [e]; omega),
          (hE.out.setCell (by simp; omega) _).setCell (by simp; omega) _⟩, by simp only [intOf]; omega⟩
    · go_wp2_with fail
      go_ret2
      obtain rfl : k = n := by omega
      exact hP.out _ _ ⟨_, _, _, _, rfl, hO1.arr, hO2.arr, hE⟩
end Go.Proofs.YtfgcogkhnnflcaaDoor
end

section
namespace Go.Proofs.YtfgcogkhnnflcaaDoor
open Go.RowKit Go.Flow Go.Plain
open Go.Proofs
attribute [local go_sem] block_add
attribute [local go_sem ↓] Go.wp_at_zero Go.wp_at_succ

theorem at_any (A : Option Addr) (n c : Nat) (f : Nat → Int) (k : Int) (w : World) (hn : n ≤ 96) (h : Ints w A n f) :
    Calls Tryd.prog 59 #[.slice A n c, .int .i64 k] w fun e w' => e = .returned (.int .i64 (extB n f k)) ∧ w = w' := by
  by_cases h0 : k < 0
  · go_enter Tryd.func59, Tryd.ntmps59
    go_wp2
    go_ret
    exact ⟨ret_int (by unfold extB; rw [if_neg (by omega)]), rfl⟩
  · by_cases h1 : k < n
    · obtain ⟨j, rfl⟩ := Int.eq_ofNat_of_zero_le (by omega : 0 ≤ k)
      obtain ⟨ad, rfl, hc⟩ := h j (by omega)
      go_enter Tryd.func59, Tryd.ntmps59
      go_wp2
      go_ret
      exact ⟨ret_int (by unfold extB; rw [if_pos (by omega)]; simp), rfl⟩
    · have h1' : (n : Int) ≤ k := by omega
      go_enter Tryd.func59, Tryd.ntmps59
      go_wp2
      go_ret
      exact ⟨ret_int (by unfold extB; rw [if_neg (by omega)]), rfl⟩

set_option maxHeartbeats 1000000 in
theorem excessR_any (A1 A2 : Option Addr) (m1 m2 c1 c2 : Nat) (f1 f2 : Nat → Int) (shift from_ till : Int) (w : World) (hm1 : m1 ≤ 96) (hm2 : m2 ≤ 96) (hC1 : Ints w A1 m1 f1) (hC2 : Ints w A2 m2 f2)
    (h1 : ∀ k, 0 ≤ f1 k ∧ f1 k ≤ 9216) (h2 : ∀ k, 0 ≤ f2 k ∧ f2 k ≤ 9216) (hs : -1000 ≤ shift ∧ shift ≤ 1000) :
    Calls Tryd.prog 47 #[.slice A1 m1 c1, .slice A2 m2 c2, .int .i64 shift, .int .i64 from_, .int .i64 till] w fun e w' =>
      e = .returned (.int .i64 (excS m1 f1 m2 f2 shift from_ till)) ∧ Ext w w' := by
  obtain ⟨hs1, hs2⟩ := hs
  have hbd : ∀ k, k ≤ m1 → 0 ≤ sumTo (excT f1 m2 f2 shift from_ till) k ∧ sumTo (excT f1 m2 f2 shift from_ till) k ≤ 1000000 := fun k hk => by
    have := excS_bd (m1 := k) (m2 := m2) (shift := shift) (from_ := from_) (till := till) h1 h2
    unfold excS at this
    omega
  replace hbd := Lib.hid hbd
  go_enter Tryd.func47, Tryd.ntmps47
  go_wp2_with fail
  go_loopw [11, 12] (fun t i wr => ∃ k : Nat, k ≤ m1 ∧ i = .int .i64 k ∧ t = .int .i64 (sumTo (excT f1 m2 f2 shift from_ till) k) ∧ Ext w wr) (fun _ i _ => m1 - (intOf i).toNat)
  case atStart => exact ⟨0, by omega, rfl, rfl, Ext.refl w⟩
  case round =>
    obtain ⟨k, hk, rfl, rfl, hE⟩ := hrel
    by_cases hlt : k < m1
    · obtain ⟨ad, rfl, hc⟩ := hC1.ext hE k hlt
      have hadl := lt_of_cell hc
      have hb0 := (hbd.out k hk).1
      have hb1 := (hbd.out k hk).2
      have hf := h1 k
      have he := extB_bd (m := m2) h2 (by omega) ((k : Int) - shift)
      have hsk : IntKind.i64.wrap ((k : Int) - shift) = (k : Int) - shift := by rw [IntKind.wrap_i64]; omega
      have hss : sumTo (excT f1 m2 f2 shift from_ till) (k + 1) = sumTo (excT f1 m2 f2 shift from_ till) k + excT f1 m2 f2 shift from_ till k := rfl
      by_cases hin : (k : Int) < from_ ∨ till ≤ (k : Int)
      · have ht : excT f1 m2 f2 shift from_ till k = max 0 (f1 k - extB m2 f2 ((k : Int) - shift)) := by unfold excT; rw [if_pos hin]
        replace hss := Lib.hid hss
        replace ht := Lib.hid ht
        have hin' : (k : Int) < from_ ∨ (from_ ≤ (k : Int) ∧ till ≤ (k : Int)) := by omega
        clear hin
        obtain ⟨hf0, hf1⟩ := hf
        obtain ⟨he0, he1⟩ := he
        have hw1 : IntKind.i64.wrap (f1 k - extB m2 f2 ((k : Int) - shift)) = f1 k - extB m2 f2 ((k : Int) - shift) := by rw [IntKind.wrap_i64]; omega
        have hk0 : (0 : Int) ≤ k := by omega
        have hkm : (k : Int) < m1 := by omega
        rcases hin' with hin | ⟨hin1, hin2⟩
        · go_wp2_with fail
          refine Flow.wp_flow 14 [(0, true), (1, true), (2, true), (3, true), (4, true), (5, true), (6, true), (7, true), (8, true), (9, true), (10, true), (11, true), (12, true), (13, true)] (by kernel_rfl) (by kernel_rfl) ?_
          simp only [List.map_cons, List.map_nil, List.getD_cons_succ, List.getD_cons_zero]
          repeat (first
            | (refine Flow.WalkL.move rfl ?_
               simp only [Act.put, Act.eval, Array.getD_eq_getD_getElem?, List.getElem?_toArray, List.getElem?_cons_succ, List.getElem?_cons_zero, Option.getD_some, List.setIfInBounds_toArray, List.set_cons_zero, List.set_cons_succ])
            | (refine Flow.WalkL.assign rfl ?_
               simp only [Act.put, Act.eval, Array.getD_eq_getD_getElem?, List.getElem?_toArray, List.getElem?_cons_succ, List.getElem?_cons_zero, Option.getD_some, List.setIfInBounds_toArray, List.set_cons_zero, List.set_cons_succ])
            | (refine Flow.WalkL.callf Tryd.func59 rfl (by kernel_rfl) rfl (fun w1 hC => keep (at_any A2 m2 _ f2 _ _ hm2 (hC2.ext (hE.trans hC)))) rfl rfl ?_
               simp only [Act.put, List.setIfInBounds_toArray, List.set_cons_zero, List.set_cons_succ])
            | (refine Flow.WalkL.run (v := ?_) rfl (fun w1 hC => ?_) ?_
               rotate_left
               · obtain ⟨hCc, hCf⟩ := hC.rules
                 go_simp
                 with_reducible rfl
               simp only [Act.put, List.setIfInBounds_toArray, List.set_cons_zero, List.set_cons_succ]))
          refine Flow.WalkL.nil ?_
          simp only [List.drop]
          intro w1 hE1
          go_wp2_with fail
          exact ⟨⟨k + 1, by omega, by go_num, by rw [hss.out, ht.out, IntKind.wrap_i64]; split <;> (apply congrArg; omega), hE.trans hE1⟩, by simp only [intOf]; omega⟩
        · go_wp2_with fail
          refine Flow.wp_flow 14 [(0, true), (1, true), (2, true), (3, true), (4, true), (5, true), (6, true), (7, true), (8, true), (9, true), (10, true), (11, true), (12, true), (13, true)] (by kernel_rfl) (by kernel_rfl) ?_
          simp only [List.map_cons, List.map_nil, List.getD_cons_succ, List.getD_cons_zero]
          repeat (first
            | (refine Flow.WalkL.move rfl ?_
               simp only [Act.put, Act.eval, Array.getD_eq_getD_getElem?, List.getElem?_toArray, List.getElem?_cons_succ, List.getElem?_cons_zero, Option.getD_some, List.setIfInBounds_toArray, List.set_cons_zero, List.set_cons_succ])
            | (refine Flow.WalkL.assign rfl ?_
               simp only [Act.put, Act.eval, Array.getD_eq_getD_getElem?, List.getElem?_toArray, List.getElem?_cons_succ, List.getElem?_cons_zero, Option.getD_some, List.setIfInBounds_toArray, List.set_cons_zero, List.set_cons_succ])
            | (refine Flow.WalkL.callf Tryd.func59 rfl (by kernel_rfl) rfl (fun w1 hC => keep (at_any A2 m2 _ f2 _ _ hm2 (hC2.ext (hE.trans hC)))) rfl rfl ?_
               simp only [Act.put, List.setIfInBounds_toArray, List.set_cons_zero, List.set_cons_succ])
            | (refine Flow.WalkL.run (v := ?_) rfl (fun w1 hC => ?_) ?_
               rotate_left
               · obtain ⟨hCc, hCf⟩ := hC.rules
                 go_simp
                 with_reducible rfl
               simp only [Act.put, List.setIfInBounds_toArray, List.set_cons_zero, List.set_cons_succ]))
          refine Flow.WalkL.nil ?_
          simp only [List.drop]
          intro w1 hE1
          go_wp2_with fail
          exact ⟨⟨k + 1, by omega, by go_num, by rw [hss.out, ht.out, IntKind.wrap_i64]; split <;> (apply congrArg; omega), hE.trans hE1⟩, by simp only [intOf]; omega⟩
      · have ht : excT f1 m2 f2 shift from_ till k = 0 := by unfold excT; rw [if_neg hin]
        replace hss := Lib.hid hss
        replace ht := Lib.hid ht
        have hin1 : from_ ≤ (k : Int) := by omega
        have hin2 : (k : Int) < till := by omega
        clear hin
        go_wp2_with fail
        exact ⟨⟨k + 1, by omega, by go_num, by rw [hss.out, ht.out, Int.add_zero], hE⟩, by simp only [intOf]; omega⟩
    · go_wp2_with fail
      go_ret
      exact ⟨ret_int (by unfold excS; rw [show k = m1 by omega]), hE⟩

/-- Where a strip has no columns the excess does not depend on where it lies. -/
theorem lG_strip0 (m : Nat) (f1 f2 : Nat → Int) (L1 L2 : Int) (s c c' : Int) : lG m f1 f2 0 L1 L2 (s, c) = lG m f1 f2 0 L1 L2 (s, c') := by
  have h : ∀ (g1 g2 : Nat → Int) (sh a b : Int), excS m g1 m g2 sh a (a + 0) = excS m g1 m g2 sh b (b + 0) := fun g1 g2 sh a b => sumTo_congr fun k _ => by
    unfold excT
    rw [if_pos (by omega), if_pos (by omega)]
  unfold lG
  simp only
  rw [h f1 f2 s c c', h f2 f1 (-s) (c - s) (c' - s)]

theorem RefMin.stay {Q Q' : Int × Int → Prop} {f : Int × Int → Int} {b : Int} {q : Int × Int} (h : RefMin Q f b true) (hQ : ∀ p, Q' p → Q p ∨ f p = f q) (hsub : ∀ p, Q p → Q' p)
    (hc : b ≤ f q) : RefMin Q' f b true := by
  refine ⟨fun p hp => ⟨rfl, ?_⟩, fun _ => let ⟨p, h1, h2⟩ := h.2 rfl; ⟨p, hsub p h1, h2⟩⟩
  rcases hQ p hp with h1 | h1
  · exact (h.1 p h1).2
  · omega
end Go.Proofs.YtfgcogkhnnflcaaDoor
end

section
namespace Go.Proofs.YtfgcogkhnnflcaaDoor
open Go.RowKit Go.Flow Go.Plain
open Go.Proofs
attribute [local go_sem] block_add
attribute [local go_sem ↓] Go.wp_at_zero Go.wp_at_succ

def MinPost (S : Int × Int → Prop) (f : Int × Int → Int) (w : World) (e : Ending) (w' : World) : Prop := ∃ v, e = .returned (.int .i64 v) ∧ IsMin S f v ∧ Ext w w'


set_option maxHeartbeats 2000000 in
set_option maxRecDepth 100000 in
theorem leastR_any (A1 A2 : Option Addr) (m c1 c2 : Nat) (f1 f2 : Nat → Int) (most st L1 L2 : Int) (w : World) (hm : m ≤ 96) (hC1 : Ints w A1 m f1) (hC2 : Ints w A2 m f2)
    (h1 : ∀ k, 0 ≤ f1 k ∧ f1 k ≤ 9216) (h2 : ∀ k, 0 ≤ f2 k ∧ f2 k ≤ 9216) (hmo : 0 ≤ most ∧ most ≤ 4) (hst : 0 ≤ st ∧ st ≤ 16 ∧ st ≤ (m : Int) + 8) (hL1 : 0 ≤ L1 ∧ L1 ≤ 400) (hL2 : 0 ≤ L2 ∧ L2 ≤ 400) :
    Calls Tryd.prog 32 #[.slice A1 m c1, .slice A2 m c2, .int .i64 most, .int .i64 st, .agg #[.int .i64 L1, .int .i64 L2]] w (MinPost (lS m most st) (lG m f1 f2 st L1 L2) w) := by
  have hG := fun p => lG_bd (m := m) (st := st) (L1 := L1) (L2 := L2) hm h1 h2 hL1 hL2 p
  replace hG := Lib.hid hG
  replace h1 := Lib.hid h1
  replace h2 := Lib.hid h2
  obtain ⟨hmo1, hmo2⟩ := hmo
  obtain ⟨hst1, hst2, hst3⟩ := hst
  obtain ⟨hL1a, hL1b⟩ := hL1
  obtain ⟨hL2a, hL2b⟩ := hL2
  have hng : IntKind.i64.wrap (-most) = -most := by rw [IntKind.wrap_i64]; omega
  go_enter Tryd.func32, Tryd.ntmps32
  go_wp2_with fail
  go_loopw [11, 12, 13] (fun b s i wr => ∃ (bi : Int) (so : Bool) (sh : Int), -most ≤ sh ∧ sh ≤ most + 1 ∧ b = .int .i64 bi ∧ s = .bool so ∧ i = .int .i64 sh ∧
      RefMin (fun p => lS m most st p ∧ p.1 < sh) (lG m f1 f2 st L1 L2) bi so ∧ Blk wr w.heap.size 76 #[.int .i64 L1, .int .i64 L2] ∧ Ext w wr) (fun _ _ i _ => (most + 1 - intOf i).toNat)
  case atStart => exact ⟨0, false, -most, by omega, by omega, rfl, rfl, rfl, ⟨fun p hp => by have := hp.1.1; have := hp.2; omega, fun h => by cases h⟩, Blk.new _ _ _, (Ext.refl w).alloc _⟩
  case round =>
    obtain ⟨bi, so, sh, hs1, hs2, rfl, rfl, rfl, hP, hB, hE⟩ := hrel
    by_cases hsh : sh ≤ most
    · go_wp2_with fail
      go_loopw [11, 12, 14] (fun b s i wr => ∃ (bi : Int) (so : Bool) (cc : Int), -4 ≤ cc ∧ cc ≤ m + 5 - st ∧ b = .int .i64 bi ∧ s = .bool so ∧ i = .int .i64 cc ∧
          RefMin (fun p => lS m most st p ∧ (p.1 < sh ∨ p.1 = sh ∧ p.2 < cc)) (lG m f1 f2 st L1 L2) bi so ∧ Blk wr w.heap.size 76 #[.int .i64 L1, .int .i64 L2] ∧ Ext w wr) (fun _ _ i _ => (m + 5 - st - intOf i).toNat)
      case atStart => exact ⟨bi, so, -4, by omega, by omega, rfl, rfl, rfl, hP.congr fun p => ⟨fun ⟨h1, h2⟩ => ⟨h1, .inl h2⟩, fun ⟨h1, h2⟩ => ⟨h1, h2.elim id fun h => by have := h1.2.2.1; omega⟩⟩, hB, hE⟩
      case round =>
        clear hP hB hE
        obtain ⟨bi, so, cc, hc1, hc2, rfl, rfl, rfl, hP, hB, hE⟩ := hrel
        by_cases hcc : cc ≤ m + 4 - st
        · have hex1 := excS_bd (m1 := m) (m2 := m) (shift := sh) (from_ := cc) (till := cc + st) h1.out h2.out
          have hex2 := excS_bd (m1 := m) (m2 := m) (shift := -sh) (from_ := cc - sh) (till := cc - sh + st) h2.out h1.out
          have hx0 := hex1.1
          have hx1 : excS m f1 m f2 sh cc (cc + st) ≤ 1000000 := by omega
          have hy0 := hex2.1
          have hy1 : excS m f2 m f1 (-sh) (cc - sh) (cc - sh + st) ≤ 1000000 := by omega
          clear hex1 hex2
          have w1 : IntKind.i64.wrap (cc + st) = cc + st := by rw [IntKind.wrap_i64]; omega
          have w4 : IntKind.i64.wrap (-sh) = -sh := by rw [IntKind.wrap_i64]; omega
          have w5 : IntKind.i64.wrap (cc - sh) = cc - sh := by rw [IntKind.wrap_i64]; omega
          have w6 : IntKind.i64.wrap (cc - sh + st) = cc - sh + st := by rw [IntKind.wrap_i64]; omega
          have hsh1 : -1000 ≤ sh ∧ sh ≤ 1000 := by omega
          have hsh2 : -1000 ≤ -sh ∧ -sh ≤ 1000 := by omega
          replace hsh1 := Lib.hid hsh1
          replace hsh2 := Lib.hid hsh2
          replace hE := Lib.hid hE
          go_wp2_with fail
          refine (excessR_any A1 A2 m m c1 c2 f1 f2 sh cc (cc + st) wr hm hm (hC1.ext hE.out) (hC2.ext hE.out) h1.out h2.out hsh1.out).mono ?_
          rintro e v1 ⟨rfl, hE1⟩
          have hE1' := hE1
          replace hE1 := Lib.hid (hE.out.trans hE1)
          go_wp2_with fail
          refine (excessR_any A2 A1 m m c2 c1 f2 f1 (-sh) (cc - sh) (cc - sh + st) v1 hm hm (hC2.ext hE1.out) (hC1.ext hE1.out) h2.out h1.out hsh2.out).mono ?_
          rintro e v2 ⟨rfl, hE2⟩
          have hB3 := (hB.ext hE1').ext hE2
          have hE3 := Lib.hid (hE1.out.trans hE2)
          obtain ⟨hBc, hBf, hBl⟩ := hB3.rules
          clear hE hE1 hE2 hE1' hB
          obtain ⟨u, hu⟩ : ∃ u, excS m f1 m f2 sh cc (cc + st) - L1 = u := ⟨_, rfl⟩
          obtain ⟨v, hv⟩ : ∃ v, excS m f2 m f1 (-sh) (cc - sh) (cc - sh + st) - L2 = v := ⟨_, rfl⟩
          have w7 : IntKind.i64.wrap (excS m f1 m f2 sh cc (cc + st) - L1) = u := by rw [IntKind.wrap_i64]; omega
          have w8 : IntKind.i64.wrap (excS m f2 m f1 (-sh) (cc - sh) (cc - sh + st) - L2) = v := by rw [IntKind.wrap_i64]; omega
          have hgq : (if u < v then v else u) = lG m f1 f2 st L1 L2 (sh, cc) := by unfold lG; simp only; rw [hu, hv]; split <;> omega
          replace hu := Lib.hid hu
          replace hv := Lib.hid hv
          have hq1 : ∀ p : Int × Int, (lS m most st p ∧ (p.1 < sh ∨ p.1 = sh ∧ p.2 < cc + 1)) → (lS m most st p ∧ (p.1 < sh ∨ p.1 = sh ∧ p.2 < cc)) ∨ lG m f1 f2 st L1 L2 p = lG m f1 f2 st L1 L2 (sh, cc) := by
            intro p ⟨h1, h2⟩
            by_cases e : p = (sh, cc)
            · exact .inr (by rw [e])
            · refine .inl ⟨h1, ?_⟩
              rcases h2 with h2 | ⟨h2, h3⟩
              · exact .inl h2
              · refine .inr ⟨h2, ?_⟩
                rcases Int.lt_or_eq_of_le (show p.2 ≤ cc by omega) with h4 | h4
                · exact h4
                · exact absurd (Prod.ext h2 h4) e
          have hq0 : st = 0 → ∀ p : Int × Int, (lS m most st p ∧ p.1 < sh + 1) → (lS m most st p ∧ (p.1 < sh ∨ p.1 = sh ∧ p.2 < cc)) ∨ lG m f1 f2 st L1 L2 p = lG m f1 f2 st L1 L2 (sh, cc) := by
            intro h0 p ⟨h1, h2⟩
            rcases Int.lt_or_eq_of_le (show p.1 ≤ sh by omega) with h4 | h4
            · exact .inl ⟨h1, .inl h4⟩
            · refine .inr ?_
              rw [h0, ← h4]
              exact lG_strip0 m f1 f2 L1 L2 p.1 p.2 cc
          have hqq : lS m most st (sh, cc) := ⟨by simp only; omega, by simp only; omega, by simp only; omega, by simp only; omega⟩
          have hs0 : ∀ p : Int × Int, (lS m most st p ∧ (p.1 < sh ∨ p.1 = sh ∧ p.2 < cc)) → (lS m most st p ∧ p.1 < sh + 1) := fun p h => ⟨h.1, by have := h.2; omega⟩
          have hs1' : ∀ p : Int × Int, (lS m most st p ∧ (p.1 < sh ∨ p.1 = sh ∧ p.2 < cc)) → (lS m most st p ∧ (p.1 < sh ∨ p.1 = sh ∧ p.2 < cc + 1)) := fun p h => ⟨h.1, by have := h.2; omega⟩
          by_cases hcase : so = false ∨ lG m f1 f2 st L1 L2 (sh, cc) < bi
          · have hfin1 := hP.step (Q' := fun p => lS m most st p ∧ (p.1 < sh ∨ p.1 = sh ∧ p.2 < cc + 1)) hq1 ⟨hqq, .inr ⟨rfl, by simp only; omega⟩⟩ hs1' hcase
            have hfin0 := fun h0 => hP.step (Q' := fun p => lS m most st p ∧ p.1 < sh + 1) (hq0 h0) ⟨hqq, by simp only; omega⟩ hs0 hcase
            clear hP hq1 hq0 hs0 hs1' hqq
            obtain ⟨gq, hq⟩ : ∃ gq, lG m f1 f2 st L1 L2 (sh, cc) = gq := ⟨_, rfl⟩
            rw [hq] at hgq hcase hfin1 hfin0
            replace hq := Lib.hid hq
            rcases hcase with rfl | hcase
            · replace hfin0 := Lib.hid hfin0
              replace hfin1 := Lib.hid hfin1
              by_cases hst0 : st = 0
              · have hbe : (st == 0) = true := by simp [hst0]
                replace hst0 := Lib.hid hst0
                go_wp2_with fail
                exact ⟨⟨gq, true, sh + 1, by omega, by omega, rfl, rfl, rfl, hfin0.out hst0.out, hB3, hE3.out⟩, by simp only [intOf]; omega⟩
              · have hbe : (st == 0) = false := by simp [hst0]
                clear hfin0
                go_wp2_with fail
                exact ⟨⟨gq, true, cc + 1, by omega, by omega, rfl, rfl, rfl, hfin1.out, hB3, hE3.out⟩, by simp only [intOf]; omega⟩
            · cases so
              · replace hfin0 := Lib.hid hfin0
                replace hfin1 := Lib.hid hfin1
                by_cases hst0 : st = 0
                · have hbe : (st == 0) = true := by simp [hst0]
                  replace hst0 := Lib.hid hst0
                  go_wp2_with fail
                  exact ⟨⟨gq, true, sh + 1, by omega, by omega, rfl, rfl, rfl, hfin0.out hst0.out, hB3, hE3.out⟩, by simp only [intOf]; omega⟩
                · have hbe : (st == 0) = false := by simp [hst0]
                  clear hfin0
                  go_wp2_with fail
                  exact ⟨⟨gq, true, cc + 1, by omega, by omega, rfl, rfl, rfl, hfin1.out, hB3, hE3.out⟩, by simp only [intOf]; omega⟩
              · replace hfin0 := Lib.hid hfin0
                replace hfin1 := Lib.hid hfin1
                by_cases hst0 : st = 0
                · have hbe : (st == 0) = true := by simp [hst0]
                  replace hst0 := Lib.hid hst0
                  go_wp2_with fail
                  exact ⟨⟨gq, true, sh + 1, by omega, by omega, rfl, rfl, rfl, hfin0.out hst0.out, hB3, hE3.out⟩, by simp only [intOf]; omega⟩
                · have hbe : (st == 0) = false := by simp [hst0]
                  clear hfin0
                  go_wp2_with fail
                  exact ⟨⟨gq, true, cc + 1, by omega, by omega, rfl, rfl, rfl, hfin1.out, hB3, hE3.out⟩, by simp only [intOf]; omega⟩
          · obtain rfl : so = true := by cases so <;> simp_all
            have hle : bi ≤ lG m f1 f2 st L1 L2 (sh, cc) := by simp at hcase; exact hcase
            clear hcase
            have hfin1 := hP.stay (Q' := fun p => lS m most st p ∧ (p.1 < sh ∨ p.1 = sh ∧ p.2 < cc + 1)) hq1 hs1' hle
            have hfin0 := fun h0 => hP.stay (Q' := fun p => lS m most st p ∧ p.1 < sh + 1) (hq0 h0) hs0 hle
            clear hP hq1 hq0 hs0 hs1' hqq
            obtain ⟨gq, hq⟩ : ∃ gq, lG m f1 f2 st L1 L2 (sh, cc) = gq := ⟨_, rfl⟩
            rw [hq] at hgq hle
            replace hq := Lib.hid hq
            replace hfin0 := Lib.hid hfin0
            replace hfin1 := Lib.hid hfin1
            by_cases hst0 : st = 0
            · have hbe : (st == 0) = true := by simp [hst0]
              replace hst0 := Lib.hid hst0
              go_wp2_with fail
              exact ⟨⟨bi, true, sh + 1, by omega, by omega, rfl, rfl, rfl, hfin0.out hst0.out, hB3, hE3.out⟩, by simp only [intOf]; omega⟩
            · have hbe : (st == 0) = false := by simp [hst0]
              clear hfin0
              go_wp2_with fail
              exact ⟨⟨bi, true, cc + 1, by omega, by omega, rfl, rfl, rfl, hfin1.out, hB3, hE3.out⟩, by simp only [intOf]; omega⟩
        · go_wp2_with fail
          exact ⟨⟨bi, so, sh + 1, by omega, by omega, rfl, rfl, rfl, hP.congr fun p => ⟨fun ⟨h1, h2⟩ => ⟨h1, by omega⟩, fun ⟨h1, h2⟩ => ⟨h1, by have := h1.2.2.2; omega⟩⟩, hB, hE⟩, by simp only [intOf]; omega⟩
    · go_wp2_with fail
      go_ret
      exact ⟨bi, rfl, (hP.congr (Q' := lS m most st) fun p => ⟨fun h => h.1, fun h => ⟨h, by have := h.2.1; omega⟩⟩).isMin (-most, -4) ⟨by simp only; omega, by simp only; omega, by simp only; omega, by simp only; omega⟩, hE⟩
end Go.Proofs.YtfgcogkhnnflcaaDoor
end

section
namespace Go.Proofs.YtfgcogkhnnflcaaDoor
open Go.RowKit Go.Flow Go.Plain
open Go.Proofs
attribute [local go_sem] block_add
attribute [local go_sem ↓] Go.wp_at_zero Go.wp_at_succ

theorem LeastR_bad (W H : Int) (A : Option Addr) (n c : Nat) (W' H' : Int) (A' : Option Addr) (n' c' : Nat) (x0 x1 x2 x3 y0 y1 y2 y3 : Int) (w : World) (hbad : ¬ bothOk W H n W' H' n') :
    Calls Tryd.prog 16 #[bmp W H A n c, bmp W' H' A' n' c', bud x0 x1 x2 x3, bud y0 y1 y2 y3] w fun e w' => e = .returned (.tuple #[.int .i64 0, .bool false]) ∧ Ext w w' := by
  have hfin : ∀ w1, Ext ((((w.alloc (.cells #[.int .i64 W, .int .i64 H, .slice A n c] 30)).alloc (.cells #[.int .i64 W', .int .i64 H', .slice A' n' c'] 30)).alloc
      (.cells #[.int .i64 x0, .int .i64 x1, .int .i64 x2, .int .i64 x3] 25)).alloc (.cells #[.int .i64 y0, .int .i64 y1, .int .i64 y2, .int .i64 y3] 25)) w1 →
      Ext w w1 ∧ Blk w1 w.heap.size 30 #[.int .i64 W, .int .i64 H, .slice A n c] ∧ Blk w1 (w.heap.size + 1) 30 #[.int .i64 W', .int .i64 H', .slice A' n' c'] := fun w1 h =>
    ⟨(((((Ext.refl w).alloc _).alloc _).alloc _).alloc _).trans h, ((((Blk.new _ _ _).alloc _).alloc _).alloc _).ext h, (((Blk.new' (by simp) _ _).alloc _).alloc _).ext h⟩
  replace hfin := Lib.hid hfin
  by_cases h1 : chk W H n = 0
  · have e1 : (chk W H n != 0) = false := by simp [h1]
    by_cases h2 : chk W' H' n' = 0
    · have e2 : (chk W' H' n' != 0) = false := by simp [h2]
      by_cases h3 : W = W'
      · have h4 : H ≠ H' := fun h => hbad ⟨h1, h2, h3, h⟩
        have e3 : (W != W') = false := by simp [h3]
        have e4 : (H != H') = true := by simp [h4]
        clear h1 h2 h3 h4
        go_enter Tryd.func16, Tryd.ntmps16
        go_wp2_with fail
        refine (Check_any W H A n c _).mono ?_
        rintro e w1 ⟨rfl, hE1⟩
        obtain ⟨hE, hB1, hB2⟩ := hfin.out w1 hE1
        obtain ⟨hB2c, _, _⟩ := hB2.rules
        go_wp2_with fail
        refine (Check_any W' H' A' n' c' _).mono ?_
        rintro e w2 ⟨rfl, hE2⟩
        obtain ⟨hB1c, _, _⟩ := (hB1.ext hE2).rules
        obtain ⟨hB2c', _, _⟩ := (hB2.ext hE2).rules
        replace hE := Lib.hid (hE.trans hE2)
        clear hE1 hE2 hB1 hB2 hB2c
        go_wp2_with fail
        go_ret2
        exact ⟨rfl, hE.out⟩
      · have e3 : (W != W') = true := by simp [h3]
        clear h1 h2 h3
        go_enter Tryd.func16, Tryd.ntmps16
        go_wp2_with fail
        refine (Check_any W H A n c _).mono ?_
        rintro e w1 ⟨rfl, hE1⟩
        obtain ⟨hE, hB1, hB2⟩ := hfin.out w1 hE1
        obtain ⟨hB2c, _, _⟩ := hB2.rules
        go_wp2_with fail
        refine (Check_any W' H' A' n' c' _).mono ?_
        rintro e w2 ⟨rfl, hE2⟩
        obtain ⟨hB1c, _, _⟩ := (hB1.ext hE2).rules
        obtain ⟨hB2c', _, _⟩ := (hB2.ext hE2).rules
        replace hE := Lib.hid (hE.trans hE2)
        clear hE1 hE2 hB1 hB2 hB2c
        go_wp2_with fail
        go_ret2
        exact ⟨rfl, hE.out⟩
    · have e2 : (chk W' H' n' != 0) = true := by simp [h2]
      clear h1 h2
      go_enter Tryd.func16, Tryd.ntmps16
      go_wp2_with fail
      refine (Check_any W H A n c _).mono ?_
      rintro e w1 ⟨rfl, hE1⟩
      obtain ⟨hE, hB1, hB2⟩ := hfin.out w1 hE1
      obtain ⟨hB2c, _, _⟩ := hB2.rules
      go_wp2_with fail
      refine (Check_any W' H' A' n' c' _).mono ?_
      rintro e w2 ⟨rfl, hE2⟩
      replace hE := Lib.hid (hE.trans hE2)
      clear hE1 hE2 hB1 hB2 hB2c
      go_wp2_with fail
      go_ret2
      exact ⟨rfl, hE.out⟩
  · have e1 : (chk W H n != 0) = true := by simp [h1]
    clear h1
    go_enter Tryd.func16, Tryd.ntmps16
    go_wp2_with fail
    refine (Check_any W H A n c _).mono ?_
    rintro e w1 ⟨rfl, hE1⟩
    obtain ⟨hE, hB1, hB2⟩ := hfin.out w1 hE1
    replace hE := Lib.hid hE
    clear hE1 hB1 hB2
    go_wp2_with fail
    go_ret2
    exact ⟨rfl, hE.out⟩

set_option maxHeartbeats 1000000 in
set_option maxRecDepth 100000 in
theorem LeastR_aux (W H : Int) (A : Option Addr) (n c : Nat) (A' : Option Addr) (c' : Nat) (dot dot' : Nat → Bool) (x0 x1 x2 x3 y0 y1 y2 y3 : Int) (w : World) (hok : chk W H n = 0)
    (hA : Bools w A n dot) (hA' : Bools w A' n dot') (R : Ending → World → Prop)
    (hR : ∀ v w', LeastV W H n dot dot' (lim x0 200) (lim x1 200) (lim x2 2) (lim x3 16) (lim y0 200) (lim y1 200) (lim y2 2) (lim y3 16) v → Ext w w' → R (.returned (.tuple #[.int .i64 v, .bool true])) w') :
    Calls Tryd.prog 16 #[bmp W H A n c, bmp W H A' n c', bud x0 x1 x2 x3, bud y0 y1 y2 y3] w R := by
  replace hR := Lib.hid hR
  have hfin : ∀ w1, Ext ((((w.alloc (.cells #[.int .i64 W, .int .i64 H, .slice A n c] 30)).alloc (.cells #[.int .i64 W, .int .i64 H, .slice A' n c'] 30)).alloc
      (.cells #[.int .i64 x0, .int .i64 x1, .int .i64 x2, .int .i64 x3] 25)).alloc (.cells #[.int .i64 y0, .int .i64 y1, .int .i64 y2, .int .i64 y3] 25)) w1 →
      Ext w w1 ∧ Blk w1 w.heap.size 30 #[.int .i64 W, .int .i64 H, .slice A n c] ∧ Blk w1 (w.heap.size + 1) 30 #[.int .i64 W, .int .i64 H, .slice A' n c'] ∧
      Blk w1 (w.heap.size + 1 + 1) 25 #[.int .i64 x0, .int .i64 x1, .int .i64 x2, .int .i64 x3] ∧ Blk w1 (w.heap.size + 1 + 1 + 1) 25 #[.int .i64 y0, .int .i64 y1, .int .i64 y2, .int .i64 y3] := fun w1 h =>
    ⟨(((((Ext.refl w).alloc _).alloc _).alloc _).alloc _).trans h, ((((Blk.new _ _ _).alloc _).alloc _).alloc _).ext h, (((Blk.new' (by simp) _ _).alloc _).alloc _).ext h, ((Blk.new' (by simp) _ _).alloc _).ext h, (Blk.new' (by simp) _ _).ext h⟩
  replace hfin := Lib.hid hfin
  have e1 : (chk W H n != 0) = false := by simp [hok]
  have eW : (W != W) = false := by simp
  have eH : (H != H) = false := by simp
  replace hok := Lib.hid hok
  go_enter Tryd.func16, Tryd.ntmps16
  go_wp2_with fail
  refine (Check_any W H A n c _).mono ?_
  rintro e w1 ⟨rfl, hE1⟩
  obtain ⟨hE, hB1, hB2, hB3, hB4⟩ := hfin.out w1 hE1
  obtain ⟨hB2c, _, _⟩ := hB2.rules
  go_wp2_with fail
  refine (Check_any W H A' n c' _).mono ?_
  rintro e w2 ⟨rfl, hE2⟩
  replace hB1 := hB1.ext hE2
  replace hB2 := hB2.ext hE2
  replace hB3 := hB3.ext hE2
  replace hB4 := hB4.ext hE2
  replace hE := hE.trans hE2
  replace hE := Lib.hid hE
  clear hE1 hE2 hB2c hfin
  obtain ⟨hB1c, _, _⟩ := hB1.rules
  obtain ⟨hB2c, _, _⟩ := hB2.rules
  obtain ⟨hB3c, _, hB3l⟩ := hB3.rules
  obtain ⟨hB4c, _, hB4l⟩ := hB4.rules
  go_wp2_with fail
  refine Flow.wp_flow 4 [(0, true), (1, true), (2, true), (3, true)] (by kernel_rfl) (by kernel_rfl) ?_
  simp only [List.map_cons, List.map_nil, List.getD_cons_succ, List.getD_cons_zero]
  repeat (first
    | (refine Flow.WalkL.move rfl ?_
       simp only [Act.put, Act.eval, Array.getD_eq_getD_getElem?, List.getElem?_toArray, List.getElem?_cons_succ, List.getElem?_cons_zero, Option.getD_some, List.setIfInBounds_toArray, List.set_cons_zero, List.set_cons_succ])
    | (refine Flow.WalkL.assign rfl ?_
       simp only [Act.put, Act.eval, Array.getD_eq_getD_getElem?, List.getElem?_toArray, List.getElem?_cons_succ, List.getElem?_cons_zero, Option.getD_some, List.setIfInBounds_toArray, List.set_cons_zero, List.set_cons_succ])
    | (refine Flow.WalkL.callf Tryd.func31 rfl (by kernel_rfl) rfl (fun w1 hC => Limited_any _ _ _ _ _) rfl rfl ?_
       simp only [Act.put, List.setIfInBounds_toArray, List.set_cons_zero, List.set_cons_succ])
    | (refine Flow.WalkL.run (v := ?_) rfl (fun w1 hC => ?_) ?_
       rotate_left
       · obtain ⟨hCc, hCf⟩ := hC.rules
         go_simp
         with_reducible rfl
       simp only [Act.put, List.setIfInBounds_toArray, List.set_cons_zero, List.set_cons_succ]))
  refine Flow.WalkL.nil ?_
  simp only [List.drop]
  have hX0 := lim_bnd x0 200 (by omega)
  have hX1 := lim_bnd x1 200 (by omega)
  have hX2 := lim_bnd x2 2 (by omega)
  have hX3 := lim_bnd x3 16 (by omega)
  have hY0 := lim_bnd y0 200 (by omega)
  have hY1 := lim_bnd y1 200 (by omega)
  have hY2 := lim_bnd y2 2 (by omega)
  have hY3 := lim_bnd y3 16 (by omega)
  obtain ⟨hX0a, hX0b⟩ := hX0
  obtain ⟨hX1a, hX1b⟩ := hX1
  obtain ⟨hY0a, hY0b⟩ := hY0
  obtain ⟨hY1a, hY1b⟩ := hY1
  intro w3 hE3
  obtain ⟨h3c, h3f⟩ := hE3.rules
  go_wp2_with fail
  refine wp_abs (fun W0 => Ext w W0 ∧ Blk W0 w.heap.size 30 #[.int .i64 W, .int .i64 H, .slice A n c] ∧ Blk W0 (w.heap.size + 1) 30 #[.int .i64 W, .int .i64 H, .slice A' n c'] ∧
      Blk W0 (w.heap.size + 1 + 1) 25 #[.int .i64 (lim x0 200), .int .i64 (lim x1 200), .int .i64 (lim x2 2), .int .i64 (lim x3 16)] ∧
      Blk W0 (w.heap.size + 1 + 1 + 1) 25 #[.int .i64 (lim y0 200), .int .i64 (lim y1 200), .int .i64 (lim y2 2), .int .i64 (lim y3 16)] ∧ Blk W0 w3.heap.size 76 #[.int .i64 (lim x0 200 + lim y1 200), .int .i64 (lim y0 200 + lim x1 200)])
    ⟨(((hE.out.trans hE3).set4 (by omega)).set4 (by omega)).alloc _, (((hB1.ext hE3).far4 (by omega)).far4 (by omega)).alloc _, (((hB2.ext hE3).far4 (by omega)).far4 (by omega)).alloc _,
      (((hB3.ext hE3).set4).far4 (by omega)).alloc _, (((hB4.ext hE3).far4 (by omega)).set4).alloc _, Blk.new' (by simp [World.setCell]) _ _⟩ ?_
  rintro W0 ⟨hE0, hB1', hB2', hB3', hB4', hBm⟩
  clear hE hB1 hB2 hB3 hB4 hB1c hB2c hB3c hB4c hB3l hB4l hE3 h3c h3f
  generalize lim x0 200 = X0 at *
  generalize lim x1 200 = X1 at *
  generalize lim x2 2 = X2 at *
  generalize lim x3 16 = X3 at *
  generalize lim y0 200 = Y0 at *
  generalize lim y1 200 = Y1 at *
  generalize lim y2 2 = Y2 at *
  generalize lim y3 16 = Y3 at *
  have hA0 := hA.ext hE0
  have hA0' := hA'.ext hE0
  replace hE0 := Lib.hid hE0
  clear hA hA'
  obtain ⟨hB1c, hB1f, hB1l⟩ := hB1'.rules
  obtain ⟨hB2c, hB2f, hB2l⟩ := hB2'.rules
  obtain ⟨hB3c, hB3f, hB3l⟩ := hB3'.rules
  obtain ⟨hB4c, hB4f, hB4l⟩ := hB4'.rules
  have hk := okB hok.out
  obtain ⟨hX2a, hX2b⟩ := hX2
  obtain ⟨hX3a, hX3b⟩ := hX3
  obtain ⟨hY2a, hY2b⟩ := hY2
  obtain ⟨hY3a, hY3b⟩ := hY3
  obtain ⟨hk1, hk2, hk3, hk4, hk5⟩ := hk
  replace hk5 := Lib.hid hk5
  have hw1 : IntKind.i64.wrap (X2 + Y2) = X2 + Y2 := by rw [IntKind.wrap_i64]; omega
  have hw2 : IntKind.i64.wrap (W + 8) = W + 8 := by rw [IntKind.wrap_i64]; omega
  obtain ⟨mx, hmx⟩ : ∃ mx, (if X3 < Y3 then Y3 else X3) = mx := ⟨_, rfl⟩
  obtain ⟨st, hst⟩ : ∃ st, (if mx < W + 8 then mx else W + 8) = st := ⟨_, rfl⟩
  have hstr : stripOf W X3 Y3 = st := by unfold stripOf; rw [← hst, ← hmx]; split <;> split <;> omega
  have hst0 : 0 ≤ st := by rw [← hst, ← hmx]; split <;> split <;> omega
  have hst1 : st ≤ 16 := by rw [← hst, ← hmx]; split <;> split <;> omega
  have hst2 : st ≤ W + 8 := by rw [← hst, ← hmx]; split <;> split <;> omega
  replace hR := hR.out
  unfold LeastV at hR
  rw [hstr] at hR
  replace hR := Lib.hid hR
  replace hstr := Lib.hid hstr
  have hn1 : n ≤ 9216 := by have h := hk5.out; have := area_bd ⟨hk1, hk2⟩ ⟨hk3, hk4⟩; omega
  obtain ⟨Wn, rfl⟩ := Int.eq_ofNat_of_zero_le hk1
  obtain ⟨Hn, rfl⟩ := Int.eq_ofNat_of_zero_le hk3
  simp only [Int.toNat_natCast] at hR
  replace hBm := Lib.hid hBm
  go_wp2_with fail
  refine Flow.wp_flow 16 [(0, true), (1, true), (2, true), (3, true), (4, true), (5, true), (6, true), (7, true), (8, true), (9, true), (10, true), (11, true), (12, true), (13, true), (14, true), (15, true)] (by kernel_rfl) (by kernel_rfl) ?_
  simp only [List.map_cons, List.map_nil, List.getD_cons_succ, List.getD_cons_zero]
  repeat (first
    | (refine Flow.WalkL.move rfl ?_
       simp only [Act.put, Act.eval, Array.getD_eq_getD_getElem?, List.getElem?_toArray, List.getElem?_cons_succ, List.getElem?_cons_zero, Option.getD_some, List.setIfInBounds_toArray, List.set_cons_zero, List.set_cons_succ])
    | (refine Flow.WalkL.assign rfl ?_
       simp only [Act.put, Act.eval, Array.getD_eq_getD_getElem?, List.getElem?_toArray, List.getElem?_cons_succ, List.getElem?_cons_zero, Option.getD_some, List.setIfInBounds_toArray, List.set_cons_zero, List.set_cons_succ])
    | (refine Flow.WalkL.run (v := ?_) rfl (fun w1 hC => ?_) ?_
       rotate_left
       · obtain ⟨hCc, hCf⟩ := hC.rules
         go_simp
         with_reducible rfl
       simp only [Act.put, List.setIfInBounds_toArray, List.set_cons_zero, List.set_cons_succ]))
  refine Flow.WalkL.nil ?_
  simp only [List.drop]
  clear hmx hst hw1 hw2
  intro W2 hE2
  obtain ⟨h2c, h2f⟩ := hE2.rules
  go_wp2_with fail
  refine (ColumnsR_ok Wn Hn A n c dot W2 hok.out (hA0.ext hE2)).mono ?_
  rintro e W3 ⟨A1, B1, c1, d1, rfl, hC1, hD1, hE3⟩
  replace hE2 := hE2.trans hE3
  clear h2c h2f
  obtain ⟨h2c, h2f⟩ := hE2.rules
  go_wp2_with fail
  refine (ColumnsR_ok Wn Hn A' n c' dot' W3 hok.out (hA0'.ext hE2)).mono ?_
  rintro e W4 ⟨A2, B2, c2, d2, rfl, hC2, hD2, hE4⟩
  replace hC1 := hC1.ext hE4
  replace hD1 := hD1.ext hE4
  replace hE2 := hE2.trans hE4
  clear h2c h2f hE3 hE4
  replace hBm := hBm.out.ext hE2
  obtain ⟨h4c, h4f, h4l⟩ := hBm.rules
  have hq1 := Lib.hid (col_bd Wn n dot hn1)
  have hq2 := Lib.hid (col_bd Wn n dot' hn1)
  have hq3 := Lib.hid (row_bd Wn n dot hn1)
  have hq4 := Lib.hid (row_bd Wn n dot' hn1)
  have hWm : Wn ≤ 96 := by omega
  have hHm : Hn ≤ 96 := by omega
  replace hWm := Lib.hid hWm
  replace hHm := Lib.hid hHm
  clear hB1c hB1f hB1l hB2c hB2f hB2l hB3c hB3f hB3l hB4c hB4f hB4l
  have hg1 : 0 ≤ X2 + Y2 ∧ X2 + Y2 ≤ 4 := by omega
  have hg2 : 0 ≤ st ∧ st ≤ 16 ∧ st ≤ (Wn : Int) + 8 := by omega
  have hg3 : 0 ≤ X0 + Y1 ∧ X0 + Y1 ≤ 400 := by omega
  have hg4 : 0 ≤ Y0 + X1 ∧ Y0 + X1 ≤ 400 := by omega
  replace hg1 := Lib.hid hg1
  replace hg2 := Lib.hid hg2
  replace hg3 := Lib.hid hg3
  replace hg4 := Lib.hid hg4
  replace hE2 := Lib.hid hE2
  replace hC1 := Lib.hid hC1
  replace hC2 := Lib.hid hC2
  replace hD1 := Lib.hid hD1
  replace hD2 := Lib.hid hD2
  go_wp2_with fail
  refine (leastR_any A1 A2 Wn c1 c2 _ _ (X2 + Y2) st (X0 + Y1) (Y0 + X1) W4 hWm.out hC1.out hC2.out hq1.out hq2.out hg1.out hg2.out hg3.out hg4.out).mono ?_
  rintro e W5 ⟨bc, rfl, hbc, hE5⟩
  replace hBm := hBm.ext hE5
  clear h4c h4f h4l
  obtain ⟨h4c, h4f, h4l⟩ := hBm.rules
  replace hE2 := Lib.hid (hE2.out.trans hE5)
  by_cases hz : st = 0
  · have hb : (st == 0) = true := by simp [hz]
    have hg5 : 0 ≤ (0 : Int) ∧ (0 : Int) ≤ 16 ∧ (0 : Int) ≤ (Hn : Int) + 8 := by omega
    replace hg5 := Lib.hid hg5
    replace hz := Lib.hid hz
    replace hbc := Lib.hid hbc
    go_wp2_with fail
    refine (leastR_any B1 B2 Hn d1 d2 _ _ (X2 + Y2) 0 (X0 + Y1) (Y0 + X1) W5 hHm.out (hD1.out.ext hE5) (hD2.out.ext hE5) hq3.out hq4.out hg1.out hg5.out hg3.out hg4.out).mono ?_
    rintro e W6 ⟨br, rfl, hbr, hE6⟩
    replace hbr := Lib.hid hbr
    obtain ⟨mv, hmv⟩ : ∃ mv, (if bc < br then br else bc) = mv := ⟨_, rfl⟩
    have hmv' := Lib.hid hmv
    go_wp2_with fail
    refine hR.out mv _ ⟨bc, hbc.out, fun h => by have := hz.out; omega, fun _ => ⟨br, ?_, ?_⟩⟩ (hE0.out.trans (hE2.out.trans hE6))
    · rw [hz.out]; exact hbr.out
    · rw [← hmv'.out]; split <;> omega
  · have hb : (st == 0) = false := by simp [hz]
    replace hbc := Lib.hid hbc
    go_wp2_with fail
    exact hR.out bc _ ⟨bc, hbc.out, fun _ => rfl, fun h => absurd h hz⟩ (hE0.out.trans hE2.out)

/-- The reference's Least of two comparable bitmaps. -/
theorem LeastR_ok (W H : Int) (A : Option Addr) (n c : Nat) (A' : Option Addr) (c' : Nat) (dot dot' : Nat → Bool) (x0 x1 x2 x3 y0 y1 y2 y3 : Int) (w : World) (hok : chk W H n = 0)
    (hA : Bools w A n dot) (hA' : Bools w A' n dot') :
    Calls Tryd.prog 16 #[bmp W H A n c, bmp W H A' n c', bud x0 x1 x2 x3, bud y0 y1 y2 y3] w (LeastPost W H n dot dot' x0 x1 x2 x3 y0 y1 y2 y3 w) :=
  LeastR_aux W H A n c A' c' dot dot' x0 x1 x2 x3 y0 y1 y2 y3 w hok hA hA' _ fun v w' hv hE => ⟨v, rfl, hv, hE⟩
end Go.Proofs.YtfgcogkhnnflcaaDoor
end

section
namespace Go.Proofs.YtfgcogkhnnflcaaDoor
open Go.RowKit Go.Flow Go.Plain
open Go.Proofs

/-- The reference's. -/
theorem LeastR_any (W H : Int) (A : Option Addr) (n c : Nat) (dot : Nat → Bool) (W' H' : Int) (A' : Option Addr) (n' c' : Nat) (dot' : Nat → Bool) (x0 x1 x2 x3 y0 y1 y2 y3 : Int) (w : World)
    (hA : Bools w A n dot) (hA' : Bools w A' n' dot') :
    Calls Tryd.prog 16 #[bmp W H A n c, bmp W' H' A' n' c', bud x0 x1 x2 x3, bud y0 y1 y2 y3] w fun e w' =>
      e = .returned (.tuple #[.int .i64 (leastN W H n dot W' H' n' dot' x0 x1 x2 x3 y0 y1 y2 y3), .bool (okN W H n W' H' n')]) ∧ Ext w w' := by
  by_cases h : bothOk W H n W' H' n'
  · obtain ⟨h1, h2, rfl, rfl⟩ := h
    obtain rfl := chk_len h1 h2
    exact (LeastR_ok W H A n c A' c' dot dot' x0 x1 x2 x3 y0 y1 y2 y3 w h1 hA hA').mono fun e w' h => leastN_post h1 h
  · rw [leastN_bad h, okN_false h]
    exact LeastR_bad W H A n c W' H' A' n' c' x0 x1 x2 x3 y0 y1 y2 y3 w h
end Go.Proofs.YtfgcogkhnnflcaaDoor
end
