/- Parts of the proof: BdSymP, BdSym. -/
import Derived.Test.YtfgcogkhnnflcaaDoorProg
import Derived.Test.YtfgcogkhnnflcaaDoorG03
import Derived.Deep.DeepCutAuto
import Derived.Test.YtfgcogkhnnflcaaDoorG02
import Derived.Laws.EntriesVeiled
import Derived.Test.YtfgcogkhnnflcaaDoorG01
import Derived.Test.YtfgcogkhnnflcaaDoorHBdSymCard01
import Derived.Test.YtfgcogkhnnflcaaDoorHBdSymCard02
import Derived.WalkKit
import Derived.Lib.Hide
import Derived.Deep.QuietTactic
import Derived.BigQuiet
import Derived.Deep.DrawnRows
import Derived.StillTail
import Derived.Below
import Derived.Deep.Draws
import Derived.KernelRfl
import Derived.Test.YtfgcogkhnnflcaaDoorG06
import Derived.Test.YtfgcogkhnnflcaaDoorG05
import Derived.Test.YtfgcogkhnnflcaaDoorG04
import Derived.Test.YtfgcogkhnnflcaaDoorHBdSymCard03
import Derived.Deep.AppendLies
import Derived.Maps.AppendAt
import Derived.OwnWalk
set_option linter.unusedSimpArgs false
set_option linter.unusedVariables false
section
namespace Go.Proofs.YtfgcogkhnnflcaaDoor
open Go.RowKit Go.Flow Go.Plain
open Go.Proofs

/-- Where a strip covers more, the excess is less. -/
theorem excS_mono {m m2 : Nat} {f1 f2 : Nat → Int} {s a b a' b' : Int} (h : ∀ k : Nat, k < m → (a ≤ (k : Int) ∧ (k : Int) < b) → (a' ≤ (k : Int) ∧ (k : Int) < b')) : excS m f1 m2 f2 s a' b' ≤ excS m f1 m2 f2 s a b :=
  sumTo_le fun k hk => by
    unfold excT
    have := h k hk
    split <;> split <;> omega
theorem lG_swap {m : Nat} {f1 f2 : Nat → Int} {most st L1 L2 : Int} (hmo : most ≤ 4) (p : Int × Int) (hp : lS m most st p) :
    ∃ q, lS m most st q ∧ lG m f2 f1 st L2 L1 q ≤ lG m f1 f2 st L1 L2 p := by
  obtain ⟨s, c⟩ := p
  obtain ⟨h1, h2, h3, h4⟩ := hp
  simp only at h1 h2 h3 h4
  obtain ⟨d, hd, hd1, hd2, hA, hB⟩ : ∃ d : Int, True ∧ -4 ≤ d ∧ d ≤ (m : Int) + 4 - st ∧ (∀ k : Nat, k < m → (c - s ≤ (k : Int) ∧ (k : Int) < c - s + st) → (d ≤ (k : Int) ∧ (k : Int) < d + st)) ∧
      (∀ k : Nat, k < m → (c ≤ (k : Int) ∧ (k : Int) < c + st) → (d - -s ≤ (k : Int) ∧ (k : Int) < d - -s + st)) := by
    by_cases e1 : c - s < -4
    · exact ⟨-4, trivial, by omega, by omega, fun k hk h => by omega, fun k hk h => by omega⟩
    · by_cases e2 : c - s ≤ (m : Int) + 4 - st
      · exact ⟨c - s, trivial, by omega, by omega, fun k hk h => by omega, fun k hk h => by omega⟩
      · exact ⟨(m : Int) + 4 - st, trivial, by omega, by omega, fun k hk h => by omega, fun k hk h => by omega⟩
  refine ⟨(-s, d), ⟨by simp only; omega, by simp only; omega, hd1, hd2⟩, ?_⟩
  have a1 := excS_mono (f1 := f2) (m2 := m) (f2 := f1) (s := -s) hA
  have a2 := excS_mono (f1 := f1) (m2 := m) (f2 := f2) (s := s) hB
  unfold lG
  simp only [Int.neg_neg]
  omega
theorem isMin_swap {m : Nat} {f1 f2 : Nat → Int} {most st L1 L2 b b' : Int} (hmo : most ≤ 4) (h : IsMin (lS m most st) (lG m f1 f2 st L1 L2) b) (h' : IsMin (lS m most st) (lG m f2 f1 st L2 L1) b') : b = b' := by
  obtain ⟨⟨p, hp, e⟩, hm⟩ := h
  obtain ⟨⟨q, hq, e'⟩, hm'⟩ := h'
  obtain ⟨p', hp', l1⟩ := lG_swap (f1 := f1) (f2 := f2) (L1 := L1) (L2 := L2) hmo p hp
  obtain ⟨q', hq', l2⟩ := lG_swap (f1 := f2) (f2 := f1) (L1 := L2) (L2 := L1) hmo q hq
  have := hm q' hq'
  have := hm' p' hp'
  omega
theorem LeastV.swap {W H : Int} {n : Nat} {dot dot' : Nat → Bool} {x0 x1 x2 x3 y0 y1 y2 y3 v v' : Int} (h0 : 0 ≤ stripOf W x3 y3) (hmo : x2 + y2 ≤ 4) (h : LeastV W H n dot dot' x0 x1 x2 x3 y0 y1 y2 y3 v)
    (h' : LeastV W H n dot' dot y0 y1 y2 y3 x0 x1 x2 x3 v') : v = v' := by
  have hs : stripOf W y3 x3 = stripOf W x3 y3 := by unfold stripOf; omega
  unfold LeastV at h'
  rw [hs, show y2 + x2 = x2 + y2 by omega] at h'
  obtain ⟨b, hb, h1, h2⟩ := h
  obtain ⟨b', hb', h1', h2'⟩ := h'
  have e := isMin_swap hmo hb hb'
  by_cases hz : 0 < stripOf W x3 y3
  · rw [h1 hz, h1' hz, e]
  · have hz' : stripOf W x3 y3 = 0 := by omega
    obtain ⟨r, hr, e1⟩ := h2 hz'
    obtain ⟨r', hr', e2⟩ := h2' hz'
    rw [e1, e2, e, isMin_swap hmo hr hr']

theorem okN_swap (W H : Int) (n : Nat) (W' H' : Int) (n' : Nat) : okN W H n W' H' n' = okN W' H' n' W H n := by
  unfold okN bothOk
  congr 1
  exact propext ⟨fun ⟨a, b, c, d⟩ => ⟨b, a, c.symm, d.symm⟩, fun ⟨a, b, c, d⟩ => ⟨b, a, c.symm, d.symm⟩⟩
theorem leastN_V {W H : Int} {n : Nat} (hok : chk W H n = 0) (dot dot' : Nat → Bool) (x0 x1 x2 x3 y0 y1 y2 y3 : Int) :
    LeastV W H n dot dot' (lim x0 200) (lim x1 200) (lim x2 2) (lim x3 16) (lim y0 200) (lim y1 200) (lim y2 2) (lim y3 16) (leastN W H n dot W H n dot' x0 x1 x2 x3 y0 y1 y2 y3) := by
  have hk := okB hok
  have ho : okN W H n W H n = true := decide_eq_true ⟨hok, hok, rfl, rfl⟩
  unfold leastN
  rw [ho, if_pos rfl]
  exact leastC_V hk.1 hk.2.2.1 (lim_bnd x2 2 (by omega)).1 (lim_bnd y2 2 (by omega)).1 (lim_bnd x3 16 (by omega)).1
theorem leastN_swap (W H : Int) (n : Nat) (dot : Nat → Bool) (W' H' : Int) (n' : Nat) (dot' : Nat → Bool) (x0 x1 x2 x3 y0 y1 y2 y3 : Int) :
    leastN W H n dot W' H' n' dot' x0 x1 x2 x3 y0 y1 y2 y3 = leastN W' H' n' dot' W H n dot y0 y1 y2 y3 x0 x1 x2 x3 := by
  by_cases h : bothOk W H n W' H' n'
  · obtain ⟨h1, h2, rfl, rfl⟩ := h
    obtain rfl := chk_len h1 h2
    have l2 := lim_bnd x2 2 (by omega)
    have l2' := lim_bnd y2 2 (by omega)
    have l3 := lim_bnd x3 16 (by omega)
    have hk := okB h1
    exact (leastN_V h1 dot dot' x0 x1 x2 x3 y0 y1 y2 y3).swap (by unfold stripOf; omega) (by omega) (leastN_V h1 dot' dot y0 y1 y2 y3 x0 x1 x2 x3)
  · rw [leastN_bad h, leastN_bad fun ⟨a, b, c, d⟩ => h ⟨b, a, c.symm, d.symm⟩]

/-- A list of counts and itself, without a shift. -/
theorem excS_self (m : Nat) (f : Nat → Int) (a b : Int) : excS m f m f 0 a b = 0 := by
  unfold excS
  rw [sumTo_congr (g := fun _ => 0) fun k hk => ?_]
  · rw [sumTo_const]; omega
  · unfold excT extB
    rw [if_pos (show 0 ≤ (k : Int) - 0 ∧ (k : Int) - 0 < m by omega), show ((k : Int) - 0).toNat = k by omega]
    split <;> omega
theorem excS_nonneg (m : Nat) (f1 : Nat → Int) (m2 : Nat) (f2 : Nat → Int) (s a b : Int) : 0 ≤ excS m f1 m2 f2 s a b := sumTo_nonneg fun k _ => by unfold excT; split <;> omega
theorem isMin_self {m : Nat} {f : Nat → Int} {most st L1 L2 b : Int} (hmo : 0 ≤ most) (hst : st ≤ (m : Int) + 8) (h : IsMin (lS m most st) (lG m f f st L1 L2) b) : b = max (-L1) (-L2) := by
  obtain ⟨⟨p, _, e⟩, hm⟩ := h
  have h0 := hm (0, -4) ⟨by simp only; omega, by simp only; omega, by simp only; omega, by simp only; omega⟩
  have a1 := excS_self m f (-4) (-4 + st)
  have a2 := excS_self m f (-4 - 0) (-4 - 0 + st)
  have a3 := excS_nonneg m f m f p.1 p.2 (p.2 + st)
  have a4 := excS_nonneg m f m f (-p.1) (p.2 - p.1) (p.2 - p.1 + st)
  unfold lG at h0 e
  simp only [Int.neg_zero] at h0
  omega
theorem leastN_self {W H : Int} {n : Nat} (hok : chk W H n = 0) (dot : Nat → Bool) (x0 x1 x2 x3 y0 y1 y2 y3 : Int) (hx0 : 0 ≤ x0 ∧ x0 ≤ 200) (hx1 : 0 ≤ x1 ∧ x1 ≤ 200) (hy0 : 0 ≤ y0 ∧ y0 ≤ 200) (hy1 : 0 ≤ y1 ∧ y1 ≤ 200) :
    leastN W H n dot W H n dot x0 x1 x2 x3 y0 y1 y2 y3 = max (-x0 - y1) (-y0 - x1) := by
  obtain ⟨b, hb, h1, h2⟩ := leastN_V hok dot dot x0 x1 x2 x3 y0 y1 y2 y3
  have hk := okB hok
  have l2 := lim_bnd x2 2 (by omega)
  have l2' := lim_bnd y2 2 (by omega)
  have l3 := lim_bnd x3 16 (by omega)
  have hs0 : 0 ≤ stripOf W (lim x3 16) (lim y3 16) := by unfold stripOf; omega
  have hs1 : stripOf W (lim x3 16) (lim y3 16) ≤ ((W.toNat : Nat) : Int) + 8 := by unfold stripOf; omega
  have e := isMin_self (by omega) hs1 hb
  have k0 : lim x0 200 = x0 := by unfold lim; omega
  have k1 : lim x1 200 = x1 := by unfold lim; omega
  have k2 : lim y0 200 = y0 := by unfold lim; omega
  have k3 : lim y1 200 = y1 := by unfold lim; omega
  rw [k0, k1, k2, k3] at e
  by_cases hz : 0 < stripOf W (lim x3 16) (lim y3 16)
  · rw [h1 hz]; omega
  · obtain ⟨r, hr, e1⟩ := h2 (by omega)
    have e' := isMin_self (by omega) (by omega) hr
    rw [k0, k1, k2, k3] at e'
    omega
end Go.Proofs.YtfgcogkhnnflcaaDoor
end

section
namespace Go.Proofs.YtfgcogkhnnflcaaDoor
open Go.RowKit Go.Flow Go.Plain
open Go.Proofs
attribute [local go_sem] block_add
attribute [local go_sem ↓] Go.wp_at_zero Go.wp_at_succ

theorem made_chk {W H : Int} {n : Nat} (h1 : 0 ≤ W) (h2 : W ≤ 16) (h3 : 0 ≤ H) (h4 : H ≤ 12) (hn : (n : Int) = W * H) : chk W H n = 0 := by
  unfold chk
  rw [sideB_iff.2 ⟨h1, by omega⟩, sideB_iff.2 ⟨h3, by omega⟩]
  simp [hn]
theorem bd_bd (N : Nat) (f : Nat → Int) : (0 ≤ bd0 N f ∧ bd0 N f ≤ 4) ∧ (0 ≤ bd1 N f ∧ bd1 N f ≤ 3) := by
  have h0 := dval_bd N f 0 5 (by omega)
  have h1 := dval_bd N f (dat N 0) 4 (by omega)
  unfold bd0 bd1
  omega


set_option maxHeartbeats 1000000 in
set_option maxRecDepth 100000 in
theorem BoundSymmetric_any (A : Option Addr) (N c : Nat) (f : Nat → Int) (A' : Option Addr) (N' c' : Nat) (f' : Nat → Int) (B : Option Addr) (M d : Nat) (g : Nat → Int) (B' : Option Addr) (M' d' : Nat) (g' : Nat → Int) (w : World)
    (hN : N ≤ c) (hc : c ≤ 4611686018427387904) (hN' : N' ≤ c') (hc' : c' ≤ 4611686018427387904) (hM : M ≤ d) (hd : d ≤ 4611686018427387904) (hM' : M' ≤ d') (hd' : d' ≤ 4611686018427387904)
    (hA : Ints w A N f) (hA' : Ints w A' N' f') (hB : Ints w B M g) (hB' : Ints w B' M' g') (hS : Sides w) :
    Calls Tryd.prog 4 #[.slice A N c, .slice A' N' c', .agg #[.slice B M d, .slice B' M' d']] w fun e w' => e = .returned (.bool true) ∧ Ext w w' := by
  have hE0 := Lib.hid ((Ext.refl w).alloc (.cells #[.slice B M d, .slice B' M' d'] 23))
  have hX0 := Lib.hid (Blk.new w 23 #[.slice B M d, .slice B' M' d'])
  go_enter Tryd.func4, Tryd.ntmps4
  go_wp2_with fail
  refine (sanity_any _ (hS.ext hE0.out)).mono ?_
  rintro e w1 ⟨rfl, hE1⟩
  have hX1 := Lib.hid (hX0.out.ext hE1)
  replace hE1 := Lib.hid (hE0.out.trans hE1)
  clear hE0 hX0
  go_wp2_with fail
  refine (cut_any A N c w1 hN hc).mono ?_
  rintro e w2 ⟨rfl, rfl⟩
  have hl := few_le N 60
  go_wp2_with fail
  refine (Made_any A (few N 60) c f w1 (by omega) ((hA.take hl).ext hE1.out)).mono ?_
  rintro e w2 ⟨Wa, Ha, ga, na, fa, rfl, ha1, ha2, ha3, ha4, han, hOa, hga, hE2⟩
  have hca := made_chk ha1 ha2 ha3 ha4 han
  have hX2 := Lib.hid (hX1.out.ext hE2)
  replace hE2 := Lib.hid (hE1.out.trans hE2)
  clear hE1 hX1 hl hga
  go_wp2_with fail
  refine (cut_any A' N' c' w2 hN' hc').mono ?_
  rintro e w3 ⟨rfl, rfl⟩
  have hl := few_le N' 60
  go_wp2_with fail
  refine (Made_any A' (few N' 60) c' f' w2 (by omega) ((hA'.take hl).ext hE2.out)).mono ?_
  rintro e w3 ⟨Wb, Hb, gb, nb, fb, rfl, hb1, hb2, hb3, hb4, hbn, hOb, hgb, hE3⟩
  have hcb := made_chk hb1 hb2 hb3 hb4 hbn
  have hOa' := Lib.hid ((hOa.ext hE3).arr)
  have hOb' := Lib.hid hOb.arr
  have hX3 := hX2.out.ext hE3
  replace hE3 := Lib.hid (hE2.out.trans hE3)
  clear hE2 hX2 hl hgb hOa hOb
  obtain ⟨hXc, hXf, hXl⟩ := hX3.rules
  go_wp2_with fail
  have hq := ((Ext.refl w3).alloc (.cells #[.int .i64 Wa, .int .i64 Ha, .slice (some ⟨ga, 0, none⟩) na na] 30)).alloc (.cells #[.int .i64 Wb, .int .i64 Hb, .slice (some ⟨gb, 0, none⟩) nb nb] 30)
  refine (budgets_any B M d g B' M' d' g' _ hM hd hM' hd' (hB.ext (hE3.out.trans hq)) (hB'.ext (hE3.out.trans hq))).mono ?_
  rintro e w4 ⟨rfl, hE4⟩
  have hbd := bd_bd (few M 4) g
  have hbd' := bd_bd (few M' 4) g'
  generalize bd0 (few M 4) g = x0 at *
  generalize bd1 (few M 4) g = x1 at *
  generalize bd2 (few M 4) g = x2 at *
  generalize bd3 (few M 4) g = x3 at *
  generalize bd0 (few M' 4) g' = y0 at *
  generalize bd1 (few M' 4) g' = y1 at *
  generalize bd2 (few M' 4) g' = y2 at *
  generalize bd3 (few M' 4) g' = y3 at *
  obtain ⟨W5, hW5⟩ : ∃ W5, (w4.alloc (.cells #[.int .i64 x0, .int .i64 x1, .int .i64 x2, .int .i64 x3] 25)).alloc (.cells #[.int .i64 y0, .int .i64 y1, .int .i64 y2, .int .i64 y3] 25) = W5 := ⟨_, rfl⟩
  have hQ : ∀ w', Ext W5 w' → Blk w' w3.heap.size 30 #[.int .i64 Wa, .int .i64 Ha, .slice (some ⟨ga, 0, none⟩) na na] ∧ Blk w' (w3.heap.size + 1) 30 #[.int .i64 Wb, .int .i64 Hb, .slice (some ⟨gb, 0, none⟩) nb nb] ∧
      Blk w' w4.heap.size 25 #[.int .i64 x0, .int .i64 x1, .int .i64 x2, .int .i64 x3] ∧ Blk w' (w4.heap.size + 1) 25 #[.int .i64 y0, .int .i64 y1, .int .i64 y2, .int .i64 y3] ∧
      Bools w' (some ⟨ga, 0, none⟩) na fa ∧ Bools w' (some ⟨gb, 0, none⟩) nb fb ∧ Sides w' ∧ Ext w w' := by
    intro w' h
    subst hW5
    have h1 := hE4.trans ((((Ext.refl w4).alloc _).alloc _).trans h)
    have h2 := hq.trans h1
    exact ⟨((Blk.new _ _ _).alloc _).ext h1, (Blk.new' (by simp) _ _).ext h1, ((Blk.new _ _ _).alloc _).ext h, (Blk.new' (by simp) _ _).ext h, hOa'.out.ext h2, hOb'.out.ext h2, hS.ext (hE3.out.trans h2), hE3.out.trans h2⟩
  replace hQ := Lib.hid hQ
  clear hE4 hq hX3 hXc hXf hXl hOa' hOb' hE3
  have hw5 : w4.heap.size + 2 ≤ W5.heap.size := by rw [← hW5]; simp
  obtain ⟨b1, b2, b3, b4, b5, b6, b7, b8⟩ := hQ.out W5 (Ext.refl W5)
  obtain ⟨b1c, b1f, b1l⟩ := b1.rules
  obtain ⟨b2c, b2f, b2l⟩ := b2.rules
  obtain ⟨b3c, b3f, b3l⟩ := b3.rules
  obtain ⟨b4c, b4f, b4l⟩ := b4.rules
  replace b5 := Lib.hid b5
  replace b6 := Lib.hid b6
  replace b7 := Lib.hid b7
  replace b8 := Lib.hid b8
  clear b1 b2 b3 b4
  go_wp2_with fail
  refine (Least_any Wa Ha _ na na fa Wb Hb _ nb nb fb x0 x1 x2 x3 y0 y1 y2 y3 W5 b5.out b6.out b7.out).mono ?_
  rintro e w6 ⟨rfl, hE6⟩
  clear hW5
  clear b1c b1f b1l b2c b2f b2l b3c b3f b3l b4c b4f b4l b5 b6 b7 b8
  obtain ⟨b1, b2, b3, b4, b5, b6, b7, b8⟩ := hQ.out w6 hE6
  obtain ⟨b1c, b1f, b1l⟩ := b1.rules
  obtain ⟨b2c, b2f, b2l⟩ := b2.rules
  obtain ⟨b3c, b3f, b3l⟩ := b3.rules
  obtain ⟨b4c, b4f, b4l⟩ := b4.rules
  replace b5 := Lib.hid b5
  replace b6 := Lib.hid b6
  replace b7 := Lib.hid b7
  replace b8 := Lib.hid b8
  clear b1 b2 b3 b4
  replace hE6 := Lib.hid hE6
  go_wp2_with fail
  refine (Least_any Wb Hb _ nb nb fb Wa Ha _ na na fa y0 y1 y2 y3 x0 x1 x2 x3 w6 b6.out b5.out b7.out).mono ?_
  rintro e w7 ⟨rfl, hE7⟩
  rw [okN_swap Wb, leastN_swap Wb]
  clear b1c b1f b1l b2c b2f b2l b3c b3f b3l b4c b4f b4l b5 b6 b7 b8
  obtain ⟨b1, b2, b3, b4, b5, b6, b7, b8⟩ := hQ.out w7 (hE6.out.trans hE7)
  obtain ⟨b1c, b1f, b1l⟩ := b1.rules
  obtain ⟨b2c, b2f, b2l⟩ := b2.rules
  obtain ⟨b3c, b3f, b3l⟩ := b3.rules
  obtain ⟨b4c, b4f, b4l⟩ := b4.rules
  replace b5 := Lib.hid b5
  replace b6 := Lib.hid b6
  replace b7 := Lib.hid b7
  replace b8 := Lib.hid b8
  clear b1 b2 b3 b4
  replace hE7 := Lib.hid (hE6.out.trans hE7)
  clear hE6
  go_wp2_with fail
  refine (Least_any Wa Ha _ na na fa Wa Ha _ na na fa x0 x1 x2 x3 y0 y1 y2 y3 w7 b5.out b5.out b7.out).mono ?_
  rintro e w8 ⟨rfl, hE8⟩
  have hok : okN Wa Ha na Wa Ha na = true := decide_eq_true ⟨hca, hca, rfl, rfl⟩
  rw [hok, leastN_self hca fa x0 x1 x2 x3 y0 y1 y2 y3 (by omega) (by omega) (by omega) (by omega)]
  clear b1c b1f b1l b2c b2f b2l b3c b3f b3l b4c b4f b4l b5 b6 b7 b8
  obtain ⟨b1, b2, b3, b4, b5, b6, b7, b8⟩ := hQ.out w8 (hE7.out.trans hE8)
  obtain ⟨b1c, b1f, b1l⟩ := b1.rules
  obtain ⟨b2c, b2f, b2l⟩ := b2.rules
  obtain ⟨b3c, b3f, b3l⟩ := b3.rules
  obtain ⟨b4c, b4f, b4l⟩ := b4.rules
  replace b5 := Lib.hid b5
  replace b6 := Lib.hid b6
  replace b7 := Lib.hid b7
  replace b8 := Lib.hid b8
  clear b1 b2 b3 b4
  have hfin := b8
  clear hE8 hE7 hQ
  clear b5 b6 b7 b8 hca hcb hok
  generalize okN Wa Ha na Wb Hb nb = oo
  generalize leastN Wa Ha na fa Wb Hb nb fb x0 x1 x2 x3 y0 y1 y2 y3 = ll
  have e1 : (oo == oo) = true := by simp
  have e2 : (ll == ll) = true := by simp
  obtain ⟨⟨p1, p2⟩, p3, p4⟩ := hbd
  obtain ⟨⟨p5, p6⟩, p7, p8⟩ := hbd'
  obtain ⟨mx, hmx⟩ : ∃ mx, max (-x0 - y1) (-y0 - x1) = mx := ⟨_, rfl⟩
  have hmx' : (if -x0 - y1 < -y0 - x1 then -y0 - x1 else -x0 - y1) = mx := by rw [← hmx]; split <;> omega
  rw [hmx]
  clear hmx
  have e3 : (mx == mx) = true := by simp
  have e4 : IntKind.i64.wrap (-x0) = -x0 := by rw [IntKind.wrap_i64]; omega
  have e5 : IntKind.i64.wrap (-x0 - y1) = -x0 - y1 := by rw [IntKind.wrap_i64]; omega
  have e6 : IntKind.i64.wrap (-y0) = -y0 := by rw [IntKind.wrap_i64]; omega
  have e7 : IntKind.i64.wrap (-y0 - x1) = -y0 - x1 := by rw [IntKind.wrap_i64]; omega
  go_wp2_with fail
  go_ret
  exact ⟨rfl, hfin.out⟩
end Go.Proofs.YtfgcogkhnnflcaaDoor
end
