/- BoundColumns: the walk. No condition but those that each states. -/
import Derived.Test.YtfgcogkhnnflcaaDoorProg
import Derived.Test.YtfgcogkhnnflcaaDoorBdSan
import Derived.Test.YtfgcogkhnnflcaaDoorBdSym
import Derived.Test.YtfgcogkhnnflcaaDoorBdColP
import Derived.Test.YtfgcogkhnnflcaaDoorBmCrop
import Derived.Test.YtfgcogkhnnflcaaDoorBmCount
namespace Go.Proofs.YtfgcogkhnnflcaaDoor
open Go.RowKit Go.Flow Go.Plain
open Go.Proofs
attribute [local go_sem] block_add
attribute [local go_sem ↓] Go.wp_at_zero Go.wp_at_succ

theorem crop_col (Wn Hn n m : Nat) (dot : Nat → Bool) (k : Nat) (hk : k < Wn) (hn : (n : Int) = (Wn : Int) * Hn) (hm : (m : Int) = (1 : Int) * Hn) : cnt (cropB Wn Hn dot k 0 1) m = colF Wn n dot k := by
  obtain rfl : m = Hn := by omega
  obtain rfl : n = Wn * m := by exact_mod_cast hn
  unfold colF
  rw [col_part Wn dot k hk m]
  refine cnt_congr fun j hj => ?_
  unfold cropB hasB
  rw [Int.emod_one, Int.ediv_one, if_pos ⟨by omega, by omega, by omega, by omega⟩]
  congr 1
  rw [show (0 + (j : Int)) * (Wn : Int) + ((k : Int) + 0) = ((j * Wn + k : Nat) : Int) by push_cast; rw [Int.zero_add, Int.add_zero]]
  exact Int.toNat_natCast _
theorem crop_row (Wn Hn n m : Nat) (dot : Nat → Bool) (k : Nat) (hk : k < Hn) (hn : (n : Int) = (Wn : Int) * Hn) (hm : (m : Int) = (Wn : Int) * (1 : Int)) : cnt (cropB Wn Hn dot 0 k Wn) m = rowF Wn n dot k := by
  obtain rfl : m = Wn := by omega
  obtain rfl : n = m * Hn := by exact_mod_cast hn
  unfold rowF
  rcases Nat.eq_zero_or_pos m with rfl | hW
  · rw [Nat.zero_mul]; rfl
  · obtain ⟨r, rfl⟩ : ∃ r, Hn = k + 1 + r := ⟨Hn - k - 1, by omega⟩
    rw [row_part m hW dot k r]
    refine cnt_congr fun j hj => ?_
    unfold cropB hasB
    rw [Int.emod_eq_of_lt (by omega) (by omega), Int.ediv_eq_zero_of_lt (by omega) (by omega), if_pos ⟨by omega, by omega, by omega, by omega⟩]
    congr 1
    rw [show ((k : Int) + 0) * (m : Int) + (0 + (j : Int)) = ((k * m + j : Nat) : Int) by push_cast; rw [Int.zero_add, Int.add_zero]]
    exact Int.toNat_natCast _
theorem sum_bd {f : Nat → Int} {M : Int} (hf : ∀ k, 0 ≤ f k ∧ f k ≤ M) : ∀ k : Nat, 0 ≤ sumTo f k ∧ sumTo f k ≤ k * M := fun k =>
  ⟨sumTo_nonneg fun j _ => (hf j).1, by have := sumTo_le (f := f) (g := fun _ => M) (n := k) (fun j _ => (hf j).2); rwa [sumTo_const] at this⟩
theorem colF_bd (W : Int) (n : Nat) (dot : Nat → Bool) (k : Nat) : 0 ≤ colF W n dot k ∧ colF W n dot k ≤ n := ⟨cnt_nonneg _ _, cnt_le _ _⟩
theorem rowF_bd (W : Int) (n : Nat) (dot : Nat → Bool) (k : Nat) : 0 ≤ rowF W n dot k ∧ rowF W n dot k ≤ n := ⟨cnt_nonneg _ _, cnt_le _ _⟩
theorem chk_crop {a b m : Nat} (ha : a ≤ 16) (hb : b ≤ 16) (hm : (m : Int) = (a : Int) * b) : chk a b m = 0 := by
  unfold chk
  rw [sideB_iff.2 ⟨by omega, by omega⟩, sideB_iff.2 ⟨by omega, by omega⟩]
  simp [hm]

set_option maxHeartbeats 1000000 in
set_option maxRecDepth 100000 in
theorem BoundColumns_any (A : Option Addr) (N c : Nat) (f : Nat → Int) (w : World)
    (hN : N ≤ c) (hc : c ≤ 4611686018427387904) (hA : Ints w A N f) (hS : Sides w) :
    Calls Tryd.prog 5 #[.slice A N c] w fun e w' => e = .returned (.bool true) ∧ Ext w w' := by
  go_enter Tryd.func5, Tryd.ntmps5
  go_wp2_with fail
  refine (sanity_any _ hS).mono ?_
  rintro e w1 ⟨rfl, hE1⟩
  go_wp2_with fail
  refine (cut_any A N c w1 hN hc).mono ?_
  rintro e w2 ⟨rfl, rfl⟩
  have hl := few_le N 60
  go_wp2_with fail
  refine (Made_any A (few N 60) c f w1 (by omega) ((hA.take hl).ext hE1)).mono ?_
  rintro e w2 ⟨Wa, Ha, ga, na, fa, rfl, ha1, ha2, ha3, ha4, han, hOa, hga, hE2⟩
  obtain ⟨Wn, rfl⟩ := Int.eq_ofNat_of_zero_le ha1
  obtain ⟨Hn, rfl⟩ := Int.eq_ofNat_of_zero_le ha3
  have hca := made_chk ha1 ha2 ha3 ha4 han
  have hbd := area_bd (W := Wn) (H := Hn) ⟨ha1, by omega⟩ ⟨ha3, by omega⟩
  have hna : na ≤ 9216 := by omega
  replace hE2 := hE1.trans hE2
  have hX3 := Blk.new w2 30 #[.int .i64 Wn, .int .i64 Hn, .slice (some ⟨ga, 0, none⟩) na na]
  have hOb := (hOa.ext ((Ext.refl w2).alloc (.cells #[.int .i64 Wn, .int .i64 Hn, .slice (some ⟨ga, 0, none⟩) na na] 30))).arr
  have hE3 := hE2.alloc (.cells #[.int .i64 Wn, .int .i64 Hn, .slice (some ⟨ga, 0, none⟩) na na] 30)
  replace hX3 := Lib.hid hX3
  replace hOb := Lib.hid hOb
  replace hE3 := Lib.hid hE3
  replace hca := Lib.hid hca
  replace han := Lib.hid han
  clear hE1 hE2 hl hga hOa hbd
  go_wp2_with fail
  refine (Columns_ok Wn Hn _ na na fa _ hca.out hOb.out (hS.ext hE3.out)).mono ?_
  rintro e w4 ⟨X, Y, cx, cy, rfl, hC, hR, hE4⟩
  simp only [Int.toNat_natCast] at hC hR ⊢
  have hQ : ∀ w', Ext w4 w' → Blk w' w2.heap.size 30 #[.int .i64 Wn, .int .i64 Hn, .slice (some ⟨ga, 0, none⟩) na na] ∧ Bools w' (some ⟨ga, 0, none⟩) na fa ∧ Ints w' X Wn (colF Wn na fa) ∧ Ints w' Y Hn (rowF Wn na fa) ∧ Ext w w' := by
    intro w' h
    exact ⟨hX3.out.ext (hE4.trans h), hOb.out.ext (hE4.trans h), hC.ext h, hR.ext h, hE3.out.trans (hE4.trans h)⟩
  replace hQ := Lib.hid hQ
  clear hE4 hC hR hX3 hOb hE3
  obtain ⟨q1, q2, q3, q4, q5⟩ := hQ.out w4 (Ext.refl w4)
  obtain ⟨q1c, q1f, q1l⟩ := q1.rules
  have n1 : ((Wn : Int) != Wn) = false := by simp
  have n2 : ((Hn : Int) != Hn) = false := by simp
  replace q2 := Lib.hid q2
  replace q3 := Lib.hid q3
  replace q4 := Lib.hid q4
  replace q5 := Lib.hid q5
  go_wp2_with fail
  go_loopw [7, 40] (fun s i wr => ∃ k : Nat, k ≤ Wn ∧ i = .int .i64 k ∧ s = .int .i64 (sumTo (colF Wn na fa) k) ∧ Ext w4 wr) (fun _ i _ => Wn - (intOf i).toNat)
  case atStart => exact ⟨0, by omega, rfl, rfl, Ext.refl w4⟩
  case round =>
    clear q1 q2 q3 q4 q5 q1c q1f q1l n1 n2
    obtain ⟨k, hk, rfl, rfl, hE⟩ := hrel
    obtain ⟨q1, q2, q3, q4, q5⟩ := hQ.out wr hE
    obtain ⟨q1c, q1f, q1l⟩ := q1.rules
    have hsb := sum_bd (colF_bd Wn na fa) k
    have hs1 : sumTo (colF Wn na fa) (k + 1) = sumTo (colF Wn na fa) k + colF Wn na fa k := rfl
    have hkn : (k : Int) * na ≤ 16 * 9216 := Int.mul_le_mul (by omega) (by omega) (by omega) (by omega)
    by_cases hlt : k < Wn
    · have hlt' : (k : Int) < Wn := by omega
      have hcb := colF_bd Wn na fa k
      have hcc := fun m hm => crop_col Wn Hn na m fa k hlt han.out hm
      obtain ⟨cv, hcv⟩ : ∃ cv, colF Wn na fa k = cv := ⟨_, rfl⟩
      obtain ⟨ad, rfl, hcx⟩ := q3 k hlt
      simp only [hcv] at hs1 hcb hcc hcx
      replace hs1 := Lib.hid hs1
      replace hcc := Lib.hid hcc
      replace hcv := Lib.hid hcv
      have hrb := Lib.hid (rowF_bd Wn na fa)
      replace q2 := Lib.hid q2
      replace q4 := Lib.hid q4
      replace q5 := Lib.hid q5
      replace hE := Lib.hid hE
      generalize sumTo (colF Wn na fa) k = sv at *
      have hsw : IntKind.i64.wrap (sv + cv) = sv + cv := by rw [IntKind.wrap_i64]; omega
      have hab := lt_of_cell hcx
      clear hkn hsb
      go_wp2_with fail
      refine (Crop_any Wn Hn _ na na fa k 0 1 Hn wr hca.out q2.out (by omega) (by omega) (by omega) (by omega)).mono ?_
      rintro e w6 ⟨g, m, rfl, hm, hO, hE6⟩
      have hcm := chk_crop (a := 1) (b := Hn) (m := m) (by omega) (by omega) hm
      have hb6 := Blk.new w6 30 #[.int .i64 1, .int .i64 Hn, .slice (some ⟨g, 0, none⟩) m m]
      have hO6 := (hO.ext ((Ext.refl w6).alloc (.cells #[.int .i64 1, .int .i64 Hn, .slice (some ⟨g, 0, none⟩) m m] 30))).arr
      replace hO6 := Lib.hid hO6
      replace hm := Lib.hid (hcc.out m hm)
      replace hE6 := Lib.hid (hE.out.trans (hE6.alloc (.cells #[.int .i64 1, .int .i64 Hn, .slice (some ⟨g, 0, none⟩) m m] 30)))
      replace hcm := Lib.hid hcm
      clear q1 q1c q1f q1l hcx hab hO
      replace hb6 := Lib.hid hb6
      go_wp2_with fail
      refine (Count_any 1 Hn _ m m _ hcm.out _ hO6.out).mono ?_
      rintro e w7 ⟨rfl, hE7⟩
      rw [hm.out]
      have n1 : (cv != cv) = false := by simp
      replace hE7 := Lib.hid (hE6.out.trans hE7)
      go_wp2_with fail
      exact ⟨⟨k + 1, by omega, by go_num, by rw [hs1.out], hE7.out⟩, by simp only [intOf]; omega⟩
    · obtain rfl : k = Wn := by omega
      clear hs1 hkn hsb
      replace q2 := Lib.hid q2
      replace q3 := Lib.hid q3
      replace q4 := Lib.hid q4
      replace q5 := Lib.hid q5
      replace hE := Lib.hid hE
      generalize hsv : sumTo (colF k na fa) k = sv at *
      replace hsv := Lib.hid hsv
      go_wp2_with fail
      obtain ⟨w9, rfl⟩ : ∃ w9 : World, w9 = wr := ⟨_, rfl⟩
      go_loopw [8, 67] (fun s i wr => ∃ j : Nat, j ≤ Hn ∧ i = .int .i64 j ∧ s = .int .i64 (sumTo (rowF k na fa) j) ∧ Ext w4 wr) (fun _ i _ => Hn - (intOf i).toNat)
      case atStart => exact ⟨0, by omega, rfl, rfl, hE.out⟩
      case round =>
        clear q1 q2 q3 q4 q5 q1c q1f q1l hE
        obtain ⟨j, hj, rfl, rfl, hE⟩ := hrel
        obtain ⟨q1, q2, q3, q4, q5⟩ := hQ.out wr hE
        obtain ⟨q1c, q1f, q1l⟩ := q1.rules
        have hsb := sum_bd (rowF_bd k na fa) j
        have hs1 : sumTo (rowF k na fa) (j + 1) = sumTo (rowF k na fa) j + rowF k na fa j := rfl
        have hkn : (j : Int) * na ≤ 16 * 9216 := Int.mul_le_mul (by omega) (by omega) (by omega) (by omega)
        by_cases hlt : j < Hn
        · have hlt' : (j : Int) < Hn := by omega
          have hcb := rowF_bd k na fa j
          have hcc := fun m hm => crop_row k Hn na m fa j hlt han.out hm
          obtain ⟨cv, hcv⟩ : ∃ cv, rowF k na fa j = cv := ⟨_, rfl⟩
          obtain ⟨ad, rfl, hcx⟩ := q4 j hlt
          simp only [hcv] at hs1 hcb hcc hcx
          replace hs1 := Lib.hid hs1
          replace hcc := Lib.hid hcc
          replace hcv := Lib.hid hcv
          replace q2 := Lib.hid q2
          replace q3 := Lib.hid q3
          replace q5 := Lib.hid q5
          replace hE := Lib.hid hE
          generalize sumTo (rowF k na fa) j = s2 at *
          have hsw : IntKind.i64.wrap (s2 + cv) = s2 + cv := by rw [IntKind.wrap_i64]; omega
          have hab := lt_of_cell hcx
          clear hkn hsb
          go_wp2_with fail
          refine (Crop_any k Hn _ na na fa 0 j k 1 wr hca.out q2.out (by omega) (by omega) (by omega) (by omega)).mono ?_
          rintro e w6 ⟨g, m, rfl, hm, hO, hE6⟩
          have hcm := chk_crop (a := k) (b := 1) (m := m) (by omega) (by omega) hm
          have hb6 := Blk.new w6 30 #[.int .i64 k, .int .i64 1, .slice (some ⟨g, 0, none⟩) m m]
          have hO6 := (hO.ext ((Ext.refl w6).alloc (.cells #[.int .i64 k, .int .i64 1, .slice (some ⟨g, 0, none⟩) m m] 30))).arr
          replace hO6 := Lib.hid hO6
          replace hm := Lib.hid (hcc.out m hm)
          replace hE6 := Lib.hid (hE.out.trans (hE6.alloc (.cells #[.int .i64 k, .int .i64 1, .slice (some ⟨g, 0, none⟩) m m] 30)))
          replace hcm := Lib.hid hcm
          clear q1 q1c q1f q1l hcx hab hO
          replace hb6 := Lib.hid hb6
          go_wp2_with fail
          refine (Count_any k 1 _ m m _ hcm.out _ hO6.out).mono ?_
          rintro e w7 ⟨rfl, hE7⟩
          rw [hm.out]
          have n1 : (cv != cv) = false := by simp
          replace hE7 := Lib.hid (hE6.out.trans hE7)
          go_wp2_with fail
          exact ⟨⟨j + 1, by omega, by go_num, by rw [hs1.out], hE7.out⟩, by simp only [intOf]; omega⟩
        · obtain rfl : j = Hn := by omega
          have hnw : na = k * j := by exact_mod_cast han.out
          have hc1 : sv = cnt fa na := by rw [← hsv.out, hnw]; exact col_sum k j fa
          have hc2 : sumTo (rowF k na fa) j = cnt fa na := by rw [hnw]; exact row_sum k j fa
          subst hc1
          rw [hc2]
          clear hs1 hkn hsb hc2 hnw hsv
          replace q3 := Lib.hid q3
          replace q4 := Lib.hid q4
          replace q5 := Lib.hid q5
          replace q2 := Lib.hid q2
          replace hE := Lib.hid hE
          go_wp2_with fail
          refine (Count_any k j _ na na fa hca.out _ q2.out).mono ?_
          rintro e w7 ⟨rfl, hE7⟩
          have hfin := Lib.hid (q5.out.trans hE7)
          generalize cnt fa na = cv
          have n1 : (cv == cv) = true := by simp
          clear q1 q2 q3 q4 q5 q1c q1f q1l hE7 hE
          go_wp2_with fail
          go_ret
          exact ⟨rfl, hfin.out⟩
end Go.Proofs.YtfgcogkhnnflcaaDoor
