/- BoundSymmetric: the walk. No condition but those that each states. -/
import Derived.Test.YtfgcogkhnnflcaaDoorProg
import Derived.Test.YtfgcogkhnnflcaaDoorBdSan
import Derived.Test.YtfgcogkhnnflcaaDoorBdSymP
namespace Go.Proofs.YtfgcogkhnnflcaaDoor
open Go.RowKit Go.Flow Go.Plain
open Go.Proofs
attribute [local go_sem] block_add
attribute [local go_sem ↓] Go.wp_at_zero Go.wp_at_succ

theorem made_chk {W H : Int} {n : Nat} (h1 : 0 ≤ W) (h2 : W ≤ 16) (h3 : 0 ≤ H) (h4 : H ≤ 12) (hn : (n : Int) = W * H) : chk W H n = 0 := by
  unfold chk
  rw [sideB_iff.2 ⟨h1, by omega⟩, sideB_iff.2 ⟨h3, by omega⟩]
  simp [hn]
theorem bd_bd (N : Nat) (f : Nat → Int) : (0 ≤ bd0 N f ∧ bd0 N f ≤ 4) ∧ (0 ≤ bd1 N f ∧ bd1 N f ≤ 3) := by
  have h0 := dval_bd N f 0 5 (by omega)
  have h1 := dval_bd N f (dat N 0) 4 (by omega)
  unfold bd0 bd1
  omega


set_option maxHeartbeats 1000000 in
set_option maxRecDepth 100000 in
theorem BoundSymmetric_any (A : Option Addr) (N c : Nat) (f : Nat → Int) (A' : Option Addr) (N' c' : Nat) (f' : Nat → Int) (B : Option Addr) (M d : Nat) (g : Nat → Int) (B' : Option Addr) (M' d' : Nat) (g' : Nat → Int) (w : World)
    (hN : N ≤ c) (hc : c ≤ 4611686018427387904) (hN' : N' ≤ c') (hc' : c' ≤ 4611686018427387904) (hM : M ≤ d) (hd : d ≤ 4611686018427387904) (hM' : M' ≤ d') (hd' : d' ≤ 4611686018427387904)
    (hA : Ints w A N f) (hA' : Ints w A' N' f') (hB : Ints w B M g) (hB' : Ints w B' M' g') (hS : Sides w) :
    Calls Tryd.prog 4 #[.slice A N c, .slice A' N' c', .agg #[.slice B M d, .slice B' M' d']] w fun e w' => e = .returned (.bool true) ∧ Ext w w' := by
  have hE0 := Lib.hid ((Ext.refl w).alloc (.cells #[.slice B M d, .slice B' M' d'] 23))
  have hX0 := Lib.hid (Blk.new w 23 #[.slice B M d, .slice B' M' d'])
  go_enter Tryd.func4, Tryd.ntmps4
  go_wp2_with fail
  refine (sanity_any _ (hS.ext hE0.out)).mono ?_
  rintro e w1 ⟨rfl, hE1⟩
  have hX1 := Lib.hid (hX0.out.ext hE1)
  replace hE1 := Lib.hid (hE0.out.trans hE1)
  clear hE0 hX0
  go_wp2_with fail
  refine (cut_any A N c w1 hN hc).mono ?_
  rintro e w2 ⟨rfl, rfl⟩
  have hl := few_le N 60
  go_wp2_with fail
  refine (Made_any A (few N 60) c f w1 (by omega) ((hA.take hl).ext hE1.out)).mono ?_
  rintro e w2 ⟨Wa, Ha, ga, na, fa, rfl, ha1, ha2, ha3, ha4, han, hOa, hga, hE2⟩
  have hca := made_chk ha1 ha2 ha3 ha4 han
  have hX2 := Lib.hid (hX1.out.ext hE2)
  replace hE2 := Lib.hid (hE1.out.trans hE2)
  clear hE1 hX1 hl hga
  go_wp2_with fail
  refine (cut_any A' N' c' w2 hN' hc').mono ?_
  rintro e w3 ⟨rfl, rfl⟩
  have hl := few_le N' 60
  go_wp2_with fail
  refine (Made_any A' (few N' 60) c' f' w2 (by omega) ((hA'.take hl).ext hE2.out)).mono ?_
  rintro e w3 ⟨Wb, Hb, gb, nb, fb, rfl, hb1, hb2, hb3, hb4, hbn, hOb, hgb, hE3⟩
  have hcb := made_chk hb1 hb2 hb3 hb4 hbn
  have hOa' := Lib.hid ((hOa.ext hE3).arr)
  have hOb' := Lib.hid hOb.arr
  have hX3 := hX2.out.ext hE3
  replace hE3 := Lib.hid (hE2.out.trans hE3)
  clear hE2 hX2 hl hgb hOa hOb
  obtain ⟨hXc, hXf, hXl⟩ := hX3.rules
  go_wp2_with fail
  have hq := ((Ext.refl w3).alloc (.cells #[.int .i64 Wa, .int .i64 Ha, .slice (some ⟨ga, 0, none⟩) na na] 30)).alloc (.cells #[.int .i64 Wb, .int .i64 Hb, .slice (some ⟨gb, 0, none⟩) nb nb] 30)
  refine (budgets_any B M d g B' M' d' g' _ hM hd hM' hd' (hB.ext (hE3.out.trans hq)) (hB'.ext (hE3.out.trans hq))).mono ?_
  rintro e w4 ⟨rfl, hE4⟩
  have hbd := bd_bd (few M 4) g
  have hbd' := bd_bd (few M' 4) g'
  generalize bd0 (few M 4) g = x0 at *
  generalize bd1 (few M 4) g = x1 at *
  generalize bd2 (few M 4) g = x2 at *
  generalize bd3 (few M 4) g = x3 at *
  generalize bd0 (few M' 4) g' = y0 at *
  generalize bd1 (few M' 4) g' = y1 at *
  generalize bd2 (few M' 4) g' = y2 at *
  generalize bd3 (few M' 4) g' = y3 at *
  obtain ⟨W5, hW5⟩ : ∃ W5, (w4.alloc (.cells #[.int .i64 x0, .int .i64 x1, .int .i64 x2, .int .i64 x3] 25)).alloc (.cells #[.int .i64 y0, .int .i64 y1, .int .i64 y2, .int .i64 y3] 25) = W5 := ⟨_, rfl⟩
  have hQ : ∀ w', Ext W5 w' → Blk w' w3.heap.size 30 #[.int .i64 Wa, .int .i64 Ha, .slice (some ⟨ga, 0, none⟩) na na] ∧ Blk w' (w3.heap.size + 1) 30 #[.int .i64 Wb, .int .i64 Hb, .slice (some ⟨gb, 0, none⟩) nb nb] ∧
      Blk w' w4.heap.size 25 #[.int .i64 x0, .int .i64 x1, .int .i64 x2, .int .i64 x3] ∧ Blk w' (w4.heap.size + 1) 25 #[.int .i64 y0, .int .i64 y1, .int .i64 y2, .int .i64 y3] ∧
      Bools w' (some ⟨ga, 0, none⟩) na fa ∧ Bools w' (some ⟨gb, 0, none⟩) nb fb ∧ Sides w' ∧ Ext w w' := by
    intro w' h
    subst hW5
    have h1 := hE4.trans ((((Ext.refl w4).alloc _).alloc _).trans h)
    have h2 := hq.trans h1
    exact ⟨((Blk.new _ _ _).alloc _).ext h1, (Blk.new' (by simp) _ _).ext h1, ((Blk.new _ _ _).alloc _).ext h, (Blk.new' (by simp) _ _).ext h, hOa'.out.ext h2, hOb'.out.ext h2, hS.ext (hE3.out.trans h2), hE3.out.trans h2⟩
  replace hQ := Lib.hid hQ
  clear hE4 hq hX3 hXc hXf hXl hOa' hOb' hE3
  have hw5 : w4.heap.size + 2 ≤ W5.heap.size := by rw [← hW5]; simp
  obtain ⟨b1, b2, b3, b4, b5, b6, b7, b8⟩ := hQ.out W5 (Ext.refl W5)
  obtain ⟨b1c, b1f, b1l⟩ := b1.rules
  obtain ⟨b2c, b2f, b2l⟩ := b2.rules
  obtain ⟨b3c, b3f, b3l⟩ := b3.rules
  obtain ⟨b4c, b4f, b4l⟩ := b4.rules
  replace b5 := Lib.hid b5
  replace b6 := Lib.hid b6
  replace b7 := Lib.hid b7
  replace b8 := Lib.hid b8
  clear b1 b2 b3 b4
  go_wp2_with fail
  refine (Least_any Wa Ha _ na na fa Wb Hb _ nb nb fb x0 x1 x2 x3 y0 y1 y2 y3 W5 b5.out b6.out b7.out).mono ?_
  rintro e w6 ⟨rfl, hE6⟩
  clear hW5
  clear b1c b1f b1l b2c b2f b2l b3c b3f b3l b4c b4f b4l b5 b6 b7 b8
  obtain ⟨b1, b2, b3, b4, b5, b6, b7, b8⟩ := hQ.out w6 hE6
  obtain ⟨b1c, b1f, b1l⟩ := b1.rules
  obtain ⟨b2c, b2f, b2l⟩ := b2.rules
  obtain ⟨b3c, b3f, b3l⟩ := b3.rules
  obtain ⟨b4c, b4f, b4l⟩ := b4.rules
  replace b5 := Lib.hid b5
  replace b6 := Lib.hid b6
  replace b7 := Lib.hid b7
  replace b8 := Lib.hid b8
  clear b1 b2 b3 b4
  replace hE6 := Lib.hid hE6
  go_wp2_with fail
  refine (Least_any Wb Hb _ nb nb fb Wa Ha _ na na fa y0 y1 y2 y3 x0 x1 x2 x3 w6 b6.out b5.out b7.out).mono ?_
  rintro e w7 ⟨rfl, hE7⟩
  rw [okN_swap Wb, leastN_swap Wb]
  clear b1c b1f b1l b2c b2f b2l b3c b3f b3l b4c b4f b4l b5 b6 b7 b8
  obtain ⟨b1, b2, b3, b4, b5, b6, b7, b8⟩ := hQ.out w7 (hE6.out.trans hE7)
  obtain ⟨b1c, b1f, b1l⟩ := b1.rules
  obtain ⟨b2c, b2f, b2l⟩ := b2.rules
  obtain ⟨b3c, b3f, b3l⟩ := b3.rules
  obtain ⟨b4c, b4f, b4l⟩ := b4.rules
  replace b5 := Lib.hid b5
  replace b6 := Lib.hid b6
  replace b7 := Lib.hid b7
  replace b8 := Lib.hid b8
  clear b1 b2 b3 b4
  replace hE7 := Lib.hid (hE6.out.trans hE7)
  clear hE6
  go_wp2_with fail
  refine (Least_any Wa Ha _ na na fa Wa Ha _ na na fa x0 x1 x2 x3 y0 y1 y2 y3 w7 b5.out b5.out b7.out).mono ?_
  rintro e w8 ⟨rfl, hE8⟩
  have hok : okN Wa Ha na Wa Ha na = true := decide_eq_true ⟨hca, hca, rfl, rfl⟩
  rw [hok, leastN_self hca fa x0 x1 x2 x3 y0 y1 y2 y3 (by omega) (by omega) (by omega) (by omega)]
  clear b1c b1f b1l b2c b2f b2l b3c b3f b3l b4c b4f b4l b5 b6 b7 b8
  obtain ⟨b1, b2, b3, b4, b5, b6, b7, b8⟩ := hQ.out w8 (hE7.out.trans hE8)
  obtain ⟨b1c, b1f, b1l⟩ := b1.rules
  obtain ⟨b2c, b2f, b2l⟩ := b2.rules
  obtain ⟨b3c, b3f, b3l⟩ := b3.rules
  obtain ⟨b4c, b4f, b4l⟩ := b4.rules
  replace b5 := Lib.hid b5
  replace b6 := Lib.hid b6
  replace b7 := Lib.hid b7
  replace b8 := Lib.hid b8
  clear b1 b2 b3 b4
  have hfin := b8
  clear hE8 hE7 hQ
  clear b5 b6 b7 b8 hca hcb hok
  generalize okN Wa Ha na Wb Hb nb = oo
  generalize leastN Wa Ha na fa Wb Hb nb fb x0 x1 x2 x3 y0 y1 y2 y3 = ll
  have e1 : (oo == oo) = true := by simp
  have e2 : (ll == ll) = true := by simp
  obtain ⟨⟨p1, p2⟩, p3, p4⟩ := hbd
  obtain ⟨⟨p5, p6⟩, p7, p8⟩ := hbd'
  obtain ⟨mx, hmx⟩ : ∃ mx, max (-x0 - y1) (-y0 - x1) = mx := ⟨_, rfl⟩
  have hmx' : (if -x0 - y1 < -y0 - x1 then -y0 - x1 else -x0 - y1) = mx := by rw [← hmx]; split <;> omega
  rw [hmx]
  clear hmx
  have e3 : (mx == mx) = true := by simp
  have e4 : IntKind.i64.wrap (-x0) = -x0 := by rw [IntKind.wrap_i64]; omega
  have e5 : IntKind.i64.wrap (-x0 - y1) = -x0 - y1 := by rw [IntKind.wrap_i64]; omega
  have e6 : IntKind.i64.wrap (-y0) = -y0 := by rw [IntKind.wrap_i64]; omega
  have e7 : IntKind.i64.wrap (-y0 - x1) = -y0 - x1 := by rw [IntKind.wrap_i64]; omega
  go_wp2_with fail
  go_ret
  exact ⟨rfl, hfin.out⟩
end Go.Proofs.YtfgcogkhnnflcaaDoor
