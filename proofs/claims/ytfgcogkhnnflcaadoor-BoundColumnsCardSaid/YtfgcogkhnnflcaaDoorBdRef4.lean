/- The reference's Least. No condition but those that each states. -/
import Derived.Test.YtfgcogkhnnflcaaDoorProg
import Derived.Test.YtfgcogkhnnflcaaDoorBdRef3
namespace Go.Proofs.YtfgcogkhnnflcaaDoor
open Go.RowKit Go.Flow Go.Plain
open Go.Proofs
attribute [local go_sem] block_add
attribute [local go_sem ↓] Go.wp_at_zero Go.wp_at_succ

theorem LeastR_bad (W H : Int) (A : Option Addr) (n c : Nat) (W' H' : Int) (A' : Option Addr) (n' c' : Nat) (x0 x1 x2 x3 y0 y1 y2 y3 : Int) (w : World) (hbad : ¬ bothOk W H n W' H' n') :
    Calls Tryd.prog 16 #[bmp W H A n c, bmp W' H' A' n' c', bud x0 x1 x2 x3, bud y0 y1 y2 y3] w fun e w' => e = .returned (.tuple #[.int .i64 0, .bool false]) ∧ Ext w w' := by
  have hfin : ∀ w1, Ext ((((w.alloc (.cells #[.int .i64 W, .int .i64 H, .slice A n c] 30)).alloc (.cells #[.int .i64 W', .int .i64 H', .slice A' n' c'] 30)).alloc
      (.cells #[.int .i64 x0, .int .i64 x1, .int .i64 x2, .int .i64 x3] 25)).alloc (.cells #[.int .i64 y0, .int .i64 y1, .int .i64 y2, .int .i64 y3] 25)) w1 →
      Ext w w1 ∧ Blk w1 w.heap.size 30 #[.int .i64 W, .int .i64 H, .slice A n c] ∧ Blk w1 (w.heap.size + 1) 30 #[.int .i64 W', .int .i64 H', .slice A' n' c'] := fun w1 h =>
    ⟨(((((Ext.refl w).alloc _).alloc _).alloc _).alloc _).trans h, ((((Blk.new _ _ _).alloc _).alloc _).alloc _).ext h, (((Blk.new' (by simp) _ _).alloc _).alloc _).ext h⟩
  replace hfin := Lib.hid hfin
  by_cases h1 : chk W H n = 0
  · have e1 : (chk W H n != 0) = false := by simp [h1]
    by_cases h2 : chk W' H' n' = 0
    · have e2 : (chk W' H' n' != 0) = false := by simp [h2]
      by_cases h3 : W = W'
      · have h4 : H ≠ H' := fun h => hbad ⟨h1, h2, h3, h⟩
        have e3 : (W != W') = false := by simp [h3]
        have e4 : (H != H') = true := by simp [h4]
        clear h1 h2 h3 h4
        go_enter Tryd.func16, Tryd.ntmps16
        go_wp2_with fail
        refine (Check_any W H A n c _).mono ?_
        rintro e w1 ⟨rfl, hE1⟩
        obtain ⟨hE, hB1, hB2⟩ := hfin.out w1 hE1
        obtain ⟨hB2c, _, _⟩ := hB2.rules
        go_wp2_with fail
        refine (Check_any W' H' A' n' c' _).mono ?_
        rintro e w2 ⟨rfl, hE2⟩
        obtain ⟨hB1c, _, _⟩ := (hB1.ext hE2).rules
        obtain ⟨hB2c', _, _⟩ := (hB2.ext hE2).rules
        replace hE := Lib.hid (hE.trans hE2)
        clear hE1 hE2 hB1 hB2 hB2c
        go_wp2_with fail
        go_ret2
        exact ⟨rfl, hE.out⟩
      · have e3 : (W != W') = true := by simp [h3]
        clear h1 h2 h3
        go_enter Tryd.func16, Tryd.ntmps16
        go_wp2_with fail
        refine (Check_any W H A n c _).mono ?_
        rintro e w1 ⟨rfl, hE1⟩
        obtain ⟨hE, hB1, hB2⟩ := hfin.out w1 hE1
        obtain ⟨hB2c, _, _⟩ := hB2.rules
        go_wp2_with fail
        refine (Check_any W' H' A' n' c' _).mono ?_
        rintro e w2 ⟨rfl, hE2⟩
        obtain ⟨hB1c, _, _⟩ := (hB1.ext hE2).rules
        obtain ⟨hB2c', _, _⟩ := (hB2.ext hE2).rules
        replace hE := Lib.hid (hE.trans hE2)
        clear hE1 hE2 hB1 hB2 hB2c
        go_wp2_with fail
        go_ret2
        exact ⟨rfl, hE.out⟩
    · have e2 : (chk W' H' n' != 0) = true := by simp [h2]
      clear h1 h2
      go_enter Tryd.func16, Tryd.ntmps16
      go_wp2_with fail
      refine (Check_any W H A n c _).mono ?_
      rintro e w1 ⟨rfl, hE1⟩
      obtain ⟨hE, hB1, hB2⟩ := hfin.out w1 hE1
      obtain ⟨hB2c, _, _⟩ := hB2.rules
      go_wp2_with fail
      refine (Check_any W' H' A' n' c' _).mono ?_
      rintro e w2 ⟨rfl, hE2⟩
      replace hE := Lib.hid (hE.trans hE2)
      clear hE1 hE2 hB1 hB2 hB2c
      go_wp2_with fail
      go_ret2
      exact ⟨rfl, hE.out⟩
  · have e1 : (chk W H n != 0) = true := by simp [h1]
    clear h1
    go_enter Tryd.func16, Tryd.ntmps16
    go_wp2_with fail
    refine (Check_any W H A n c _).mono ?_
    rintro e w1 ⟨rfl, hE1⟩
    obtain ⟨hE, hB1, hB2⟩ := hfin.out w1 hE1
    replace hE := Lib.hid hE
    clear hE1 hB1 hB2
    go_wp2_with fail
    go_ret2
    exact ⟨rfl, hE.out⟩

set_option maxHeartbeats 1000000 in
set_option maxRecDepth 100000 in
theorem LeastR_aux (W H : Int) (A : Option Addr) (n c : Nat) (A' : Option Addr) (c' : Nat) (dot dot' : Nat → Bool) (x0 x1 x2 x3 y0 y1 y2 y3 : Int) (w : World) (hok : chk W H n = 0)
    (hA : Bools w A n dot) (hA' : Bools w A' n dot') (R : Ending → World → Prop)
    (hR : ∀ v w', LeastV W H n dot dot' (lim x0 200) (lim x1 200) (lim x2 2) (lim x3 16) (lim y0 200) (lim y1 200) (lim y2 2) (lim y3 16) v → Ext w w' → R (.returned (.tuple #[.int .i64 v, .bool true])) w') :
    Calls Tryd.prog 16 #[bmp W H A n c, bmp W H A' n c', bud x0 x1 x2 x3, bud y0 y1 y2 y3] w R := by
  replace hR := Lib.hid hR
  have hfin : ∀ w1, Ext ((((w.alloc (.cells #[.int .i64 W, .int .i64 H, .slice A n c] 30)).alloc (.cells #[.int .i64 W, .int .i64 H, .slice A' n c'] 30)).alloc
      (.cells #[.int .i64 x0, .int .i64 x1, .int .i64 x2, .int .i64 x3] 25)).alloc (.cells #[.int .i64 y0, .int .i64 y1, .int .i64 y2, .int .i64 y3] 25)) w1 →
      Ext w w1 ∧ Blk w1 w.heap.size 30 #[.int .i64 W, .int .i64 H, .slice A n c] ∧ Blk w1 (w.heap.size + 1) 30 #[.int .i64 W, .int .i64 H, .slice A' n c'] ∧
      Blk w1 (w.heap.size + 1 + 1) 25 #[.int .i64 x0, .int .i64 x1, .int .i64 x2, .int .i64 x3] ∧ Blk w1 (w.heap.size + 1 + 1 + 1) 25 #[.int .i64 y0, .int .i64 y1, .int .i64 y2, .int .i64 y3] := fun w1 h =>
    ⟨(((((Ext.refl w).alloc _).alloc _).alloc _).alloc _).trans h, ((((Blk.new _ _ _).alloc _).alloc _).alloc _).ext h, (((Blk.new' (by simp) _ _).alloc _).alloc _).ext h, ((Blk.new' (by simp) _ _).alloc _).ext h, (Blk.new' (by simp) _ _).ext h⟩
  replace hfin := Lib.hid hfin
  have e1 : (chk W H n != 0) = false := by simp [hok]
  have eW : (W != W) = false := by simp
  have eH : (H != H) = false := by simp
  replace hok := Lib.hid hok
  go_enter Tryd.func16, Tryd.ntmps16
  go_wp2_with fail
  refine (Check_any W H A n c _).mono ?_
  rintro e w1 ⟨rfl, hE1⟩
  obtain ⟨hE, hB1, hB2, hB3, hB4⟩ := hfin.out w1 hE1
  obtain ⟨hB2c, _, _⟩ := hB2.rules
  go_wp2_with fail
  refine (Check_any W H A' n c' _).mono ?_
  rintro e w2 ⟨rfl, hE2⟩
  replace hB1 := hB1.ext hE2
  replace hB2 := hB2.ext hE2
  replace hB3 := hB3.ext hE2
  replace hB4 := hB4.ext hE2
  replace hE := hE.trans hE2
  replace hE := Lib.hid hE
  clear hE1 hE2 hB2c hfin
  obtain ⟨hB1c, _, _⟩ := hB1.rules
  obtain ⟨hB2c, _, _⟩ := hB2.rules
  obtain ⟨hB3c, _, hB3l⟩ := hB3.rules
  obtain ⟨hB4c, _, hB4l⟩ := hB4.rules
  go_wp2_with fail
  refine Flow.wp_flow 4 [(0, true), (1, true), (2, true), (3, true)] (by kernel_rfl) (by kernel_rfl) ?_
  simp only [List.map_cons, List.map_nil, List.getD_cons_succ, List.getD_cons_zero]
  repeat (first
    | (refine Flow.WalkL.move rfl ?_
       simp only [Act.put, Act.eval, Array.getD_eq_getD_getElem?, List.getElem?_toArray, List.getElem?_cons_succ, List.getElem?_cons_zero, Option.getD_some, List.setIfInBounds_toArray, List.set_cons_zero, List.set_cons_succ])
    | (refine Flow.WalkL.assign rfl ?_
       simp only [Act.put, Act.eval, Array.getD_eq_getD_getElem?, List.getElem?_toArray, List.getElem?_cons_succ, List.getElem?_cons_zero, Option.getD_some, List.setIfInBounds_toArray, List.set_cons_zero, List.set_cons_succ])
    | (refine Flow.WalkL.callf Tryd.func31 rfl (by kernel_rfl) rfl (fun w1 hC => Limited_any _ _ _ _ _) rfl rfl ?_
       simp only [Act.put, List.setIfInBounds_toArray, List.set_cons_zero, List.set_cons_succ])
    | (refine Flow.WalkL.run (v := ?_) rfl (fun w1 hC => ?_) ?_
       rotate_left
       · obtain ⟨hCc, hCf⟩ := hC.rules
         go_simp
         with_reducible rfl
       simp only [Act.put, List.setIfInBounds_toArray, List.set_cons_zero, List.set_cons_succ]))
  refine Flow.WalkL.nil ?_
  simp only [List.drop_succ_cons, List.drop_zero, List.drop_nil]
  have hX0 := lim_bd x0 200 (by omega)
  have hX1 := lim_bd x1 200 (by omega)
  have hX2 := lim_bd x2 2 (by omega)
  have hX3 := lim_bd x3 16 (by omega)
  have hY0 := lim_bd y0 200 (by omega)
  have hY1 := lim_bd y1 200 (by omega)
  have hY2 := lim_bd y2 2 (by omega)
  have hY3 := lim_bd y3 16 (by omega)
  obtain ⟨hX0a, hX0b⟩ := hX0
  obtain ⟨hX1a, hX1b⟩ := hX1
  obtain ⟨hY0a, hY0b⟩ := hY0
  obtain ⟨hY1a, hY1b⟩ := hY1
  intro w3 hE3
  obtain ⟨h3c, h3f⟩ := hE3.rules
  go_wp2_with fail
  refine wp_abs (fun W0 => Ext w W0 ∧ Blk W0 w.heap.size 30 #[.int .i64 W, .int .i64 H, .slice A n c] ∧ Blk W0 (w.heap.size + 1) 30 #[.int .i64 W, .int .i64 H, .slice A' n c'] ∧
      Blk W0 (w.heap.size + 1 + 1) 25 #[.int .i64 (lim x0 200), .int .i64 (lim x1 200), .int .i64 (lim x2 2), .int .i64 (lim x3 16)] ∧
      Blk W0 (w.heap.size + 1 + 1 + 1) 25 #[.int .i64 (lim y0 200), .int .i64 (lim y1 200), .int .i64 (lim y2 2), .int .i64 (lim y3 16)] ∧ Blk W0 w3.heap.size 76 #[.int .i64 (lim x0 200 + lim y1 200), .int .i64 (lim y0 200 + lim x1 200)])
    ⟨(((hE.out.trans hE3).set4 (by omega)).set4 (by omega)).alloc _, (((hB1.ext hE3).far4 (by omega)).far4 (by omega)).alloc _, (((hB2.ext hE3).far4 (by omega)).far4 (by omega)).alloc _,
      (((hB3.ext hE3).set4).far4 (by omega)).alloc _, (((hB4.ext hE3).far4 (by omega)).set4).alloc _, Blk.new' (by simp [World.setCell]) _ _⟩ ?_
  rintro W0 ⟨hE0, hB1', hB2', hB3', hB4', hBm⟩
  clear hE hB1 hB2 hB3 hB4 hB1c hB2c hB3c hB4c hB3l hB4l hE3 h3c h3f
  generalize lim x0 200 = X0 at *
  generalize lim x1 200 = X1 at *
  generalize lim x2 2 = X2 at *
  generalize lim x3 16 = X3 at *
  generalize lim y0 200 = Y0 at *
  generalize lim y1 200 = Y1 at *
  generalize lim y2 2 = Y2 at *
  generalize lim y3 16 = Y3 at *
  have hA0 := hA.ext hE0
  have hA0' := hA'.ext hE0
  replace hE0 := Lib.hid hE0
  clear hA hA'
  obtain ⟨hB1c, hB1f, hB1l⟩ := hB1'.rules
  obtain ⟨hB2c, hB2f, hB2l⟩ := hB2'.rules
  obtain ⟨hB3c, hB3f, hB3l⟩ := hB3'.rules
  obtain ⟨hB4c, hB4f, hB4l⟩ := hB4'.rules
  have hk := okB hok.out
  obtain ⟨hX2a, hX2b⟩ := hX2
  obtain ⟨hX3a, hX3b⟩ := hX3
  obtain ⟨hY2a, hY2b⟩ := hY2
  obtain ⟨hY3a, hY3b⟩ := hY3
  obtain ⟨hk1, hk2, hk3, hk4, hk5⟩ := hk
  replace hk5 := Lib.hid hk5
  have hw1 : IntKind.i64.wrap (X2 + Y2) = X2 + Y2 := by rw [IntKind.wrap_i64]; omega
  have hw2 : IntKind.i64.wrap (W + 8) = W + 8 := by rw [IntKind.wrap_i64]; omega
  obtain ⟨mx, hmx⟩ : ∃ mx, (if X3 < Y3 then Y3 else X3) = mx := ⟨_, rfl⟩
  obtain ⟨st, hst⟩ : ∃ st, (if mx < W + 8 then mx else W + 8) = st := ⟨_, rfl⟩
  have hstr : stripOf W X3 Y3 = st := by unfold stripOf; rw [← hst, ← hmx]; split <;> split <;> omega
  have hst0 : 0 ≤ st := by rw [← hst, ← hmx]; split <;> split <;> omega
  have hst1 : st ≤ 16 := by rw [← hst, ← hmx]; split <;> split <;> omega
  have hst2 : st ≤ W + 8 := by rw [← hst, ← hmx]; split <;> split <;> omega
  replace hR := hR.out
  unfold LeastV at hR
  rw [hstr] at hR
  replace hR := Lib.hid hR
  replace hstr := Lib.hid hstr
  have hn1 : n ≤ 9216 := by have h := hk5.out; have := area_bd ⟨hk1, hk2⟩ ⟨hk3, hk4⟩; omega
  obtain ⟨Wn, rfl⟩ := Int.eq_ofNat_of_zero_le hk1
  obtain ⟨Hn, rfl⟩ := Int.eq_ofNat_of_zero_le hk3
  simp only [Int.toNat_natCast] at hR
  replace hBm := Lib.hid hBm
  go_wp2_with fail
  refine Flow.wp_flow 16 [(0, true), (1, true), (2, true), (3, true), (4, true), (5, true), (6, true), (7, true), (8, true), (9, true), (10, true), (11, true), (12, true), (13, true), (14, true), (15, true)] (by kernel_rfl) (by kernel_rfl) ?_
  simp only [List.map_cons, List.map_nil, List.getD_cons_succ, List.getD_cons_zero]
  repeat (first
    | (refine Flow.WalkL.move rfl ?_
       simp only [Act.put, Act.eval, Array.getD_eq_getD_getElem?, List.getElem?_toArray, List.getElem?_cons_succ, List.getElem?_cons_zero, Option.getD_some, List.setIfInBounds_toArray, List.set_cons_zero, List.set_cons_succ])
    | (refine Flow.WalkL.assign rfl ?_
       simp only [Act.put, Act.eval, Array.getD_eq_getD_getElem?, List.getElem?_toArray, List.getElem?_cons_succ, List.getElem?_cons_zero, Option.getD_some, List.setIfInBounds_toArray, List.set_cons_zero, List.set_cons_succ])
    | (refine Flow.WalkL.run (v := ?_) rfl (fun w1 hC => ?_) ?_
       rotate_left
       · obtain ⟨hCc, hCf⟩ := hC.rules
         go_simp
         with_reducible rfl
       simp only [Act.put, List.setIfInBounds_toArray, List.set_cons_zero, List.set_cons_succ]))
  refine Flow.WalkL.nil ?_
  simp only [List.drop_succ_cons, List.drop_zero, List.drop_nil]
  clear hmx hst hw1 hw2
  intro W2 hE2
  obtain ⟨h2c, h2f⟩ := hE2.rules
  go_wp2_with fail
  refine (ColumnsR_ok Wn Hn A n c dot W2 hok.out (hA0.ext hE2)).mono ?_
  rintro e W3 ⟨A1, B1, c1, d1, rfl, hC1, hD1, hE3⟩
  replace hE2 := hE2.trans hE3
  clear h2c h2f
  obtain ⟨h2c, h2f⟩ := hE2.rules
  go_wp2_with fail
  refine (ColumnsR_ok Wn Hn A' n c' dot' W3 hok.out (hA0'.ext hE2)).mono ?_
  rintro e W4 ⟨A2, B2, c2, d2, rfl, hC2, hD2, hE4⟩
  replace hC1 := hC1.ext hE4
  replace hD1 := hD1.ext hE4
  replace hE2 := hE2.trans hE4
  clear h2c h2f hE3 hE4
  replace hBm := hBm.out.ext hE2
  obtain ⟨h4c, h4f, h4l⟩ := hBm.rules
  have hq1 := Lib.hid (col_bd Wn n dot hn1)
  have hq2 := Lib.hid (col_bd Wn n dot' hn1)
  have hq3 := Lib.hid (row_bd Wn n dot hn1)
  have hq4 := Lib.hid (row_bd Wn n dot' hn1)
  have hWm : Wn ≤ 96 := by omega
  have hHm : Hn ≤ 96 := by omega
  replace hWm := Lib.hid hWm
  replace hHm := Lib.hid hHm
  clear hB1c hB1f hB1l hB2c hB2f hB2l hB3c hB3f hB3l hB4c hB4f hB4l
  have hg1 : 0 ≤ X2 + Y2 ∧ X2 + Y2 ≤ 4 := by omega
  have hg2 : 0 ≤ st ∧ st ≤ 16 ∧ st ≤ (Wn : Int) + 8 := by omega
  have hg3 : 0 ≤ X0 + Y1 ∧ X0 + Y1 ≤ 400 := by omega
  have hg4 : 0 ≤ Y0 + X1 ∧ Y0 + X1 ≤ 400 := by omega
  replace hg1 := Lib.hid hg1
  replace hg2 := Lib.hid hg2
  replace hg3 := Lib.hid hg3
  replace hg4 := Lib.hid hg4
  replace hE2 := Lib.hid hE2
  replace hC1 := Lib.hid hC1
  replace hC2 := Lib.hid hC2
  replace hD1 := Lib.hid hD1
  replace hD2 := Lib.hid hD2
  go_wp2_with fail
  refine (leastR_any A1 A2 Wn c1 c2 _ _ (X2 + Y2) st (X0 + Y1) (Y0 + X1) W4 hWm.out hC1.out hC2.out hq1.out hq2.out hg1.out hg2.out hg3.out hg4.out).mono ?_
  rintro e W5 ⟨bc, rfl, hbc, hE5⟩
  replace hBm := hBm.ext hE5
  clear h4c h4f h4l
  obtain ⟨h4c, h4f, h4l⟩ := hBm.rules
  replace hE2 := Lib.hid (hE2.out.trans hE5)
  by_cases hz : st = 0
  · have hb : (st == 0) = true := by simp [hz]
    have hg5 : 0 ≤ (0 : Int) ∧ (0 : Int) ≤ 16 ∧ (0 : Int) ≤ (Hn : Int) + 8 := by omega
    replace hg5 := Lib.hid hg5
    replace hz := Lib.hid hz
    replace hbc := Lib.hid hbc
    go_wp2_with fail
    refine (leastR_any B1 B2 Hn d1 d2 _ _ (X2 + Y2) 0 (X0 + Y1) (Y0 + X1) W5 hHm.out (hD1.out.ext hE5) (hD2.out.ext hE5) hq3.out hq4.out hg1.out hg5.out hg3.out hg4.out).mono ?_
    rintro e W6 ⟨br, rfl, hbr, hE6⟩
    replace hbr := Lib.hid hbr
    obtain ⟨mv, hmv⟩ : ∃ mv, (if bc < br then br else bc) = mv := ⟨_, rfl⟩
    have hmv' := Lib.hid hmv
    go_wp2_with fail
    refine hR.out mv _ ⟨bc, hbc.out, fun h => by have := hz.out; omega, fun _ => ⟨br, ?_, ?_⟩⟩ (hE0.out.trans (hE2.out.trans hE6))
    · rw [hz.out]; exact hbr.out
    · rw [← hmv'.out]; split <;> omega
  · have hb : (st == 0) = false := by simp [hz]
    replace hbc := Lib.hid hbc
    go_wp2_with fail
    exact hR.out bc _ ⟨bc, hbc.out, fun _ => rfl, fun h => absurd h hz⟩ (hE0.out.trans hE2.out)

/-- The reference's Least of two comparable bitmaps. -/
theorem LeastR_ok (W H : Int) (A : Option Addr) (n c : Nat) (A' : Option Addr) (c' : Nat) (dot dot' : Nat → Bool) (x0 x1 x2 x3 y0 y1 y2 y3 : Int) (w : World) (hok : chk W H n = 0)
    (hA : Bools w A n dot) (hA' : Bools w A' n dot') :
    Calls Tryd.prog 16 #[bmp W H A n c, bmp W H A' n c', bud x0 x1 x2 x3, bud y0 y1 y2 y3] w (LeastPost W H n dot dot' x0 x1 x2 x3 y0 y1 y2 y3 w) :=
  LeastR_aux W H A n c A' c' dot dot' x0 x1 x2 x3 y0 y1 y2 y3 w hok hA hA' _ fun v w' hv hE => ⟨v, rfl, hv, hE⟩
end Go.Proofs.YtfgcogkhnnflcaaDoor
