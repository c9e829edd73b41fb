/- BoundLeast: the walk. No condition but those that each states. -/
import Derived.Test.YtfgcogkhnnflcaaDoorProg
import Derived.Test.YtfgcogkhnnflcaaDoorBdSym
import Derived.Deep.DeepCutAuto
namespace Go.Proofs.YtfgcogkhnnflcaaDoor
open Go.RowKit Go.Flow Go.Plain
open Go.Proofs
attribute [local go_sem] block_add
attribute [local go_sem ↓] Go.wp_at_zero Go.wp_at_succ

/-- The numbers of columns and of rows that both sides return. -/
def colLen (W H : Int) (n : Nat) : Nat := if chk W H n = 0 then W.toNat else 0
def rowLen (W H : Int) (n : Nat) : Nat := if chk W H n = 0 then H.toNat else 0
def ColsAny (W H : Int) (n : Nat) (dot : Nat → Bool) (w : World) (e : Ending) (w' : World) : Prop :=
  ∃ A B c d, e = .returned (.tuple #[.slice A (colLen W H n) c, .slice B (rowLen W H n) d]) ∧ Ints w' A (colLen W H n) (colF W n dot) ∧ Ints w' B (rowLen W H n) (rowF W n dot) ∧ Ext w w'
theorem Columns_any (W H : Int) (A : Option Addr) (n c : Nat) (dot : Nat → Bool) (w : World) (hA : Bools w A n dot) (hS : Sides w) :
    Calls Tryd.prog 12 #[bmp W H A n c] w (ColsAny W H n dot w) := by
  by_cases h : chk W H n = 0
  · refine (Columns_ok W H A n c dot w h hA hS).mono fun e w' hp => ?_
    unfold ColsAny colLen rowLen
    rw [if_pos h, if_pos h]
    exact hp
  · refine (Columns_bad W H A n c w h).mono fun e w' ⟨he, hE⟩ => ?_
    unfold ColsAny colLen rowLen
    rw [if_neg h, if_neg h]
    exact ⟨none, none, 0, 0, he, Arr.zero _ _ _, Arr.zero _ _ _, hE⟩
theorem ColumnsR_any (W H : Int) (A : Option Addr) (n c : Nat) (dot : Nat → Bool) (w : World) (hA : Bools w A n dot) :
    Calls Tryd.prog 13 #[bmp W H A n c] w (ColsAny W H n dot w) := by
  by_cases h : chk W H n = 0
  · refine (ColumnsR_ok W H A n c dot w h hA).mono fun e w' hp => ?_
    unfold ColsAny colLen rowLen
    rw [if_pos h, if_pos h]
    exact hp
  · refine (ColumnsR_bad W H A n c w h).mono fun e w' ⟨he, hE⟩ => ?_
    unfold ColsAny colLen rowLen
    rw [if_neg h, if_neg h]
    exact ⟨none, none, 0, 0, he, Arr.zero _ _ _, Arr.zero _ _ _, hE⟩
theorem colLen_bd (W H : Int) (n : Nat) : colLen W H n ≤ 96 ∧ rowLen W H n ≤ 96 := by
  unfold colLen rowLen
  by_cases h : chk W H n = 0
  · have := okB h; rw [if_pos h, if_pos h]; omega
  · rw [if_neg h, if_neg h]; omega
theorem sameB_self (n : Nat) (f : Nat → Int) : sameB n n f f = true := by unfold sameB; simp

def pz (j : Nat) (a b : Int) : Int := if j = 0 then a else b
/-- Two pairs of budgets in a row. -/
structure Pairs (w : World) (g : Nat) (x0 x1 x2 x3 y0 y1 y2 y3 : Nat → Int) : Prop where
  a : ∀ k, k < 2 → w.cell? ⟨g, k * 8, none⟩ = some (.int .i64 (x0 k))
  b : ∀ k, k < 2 → w.cell? ⟨g, k * 8 + 1, none⟩ = some (.int .i64 (x1 k))
  c : ∀ k, k < 2 → w.cell? ⟨g, k * 8 + 2, none⟩ = some (.int .i64 (x2 k))
  d : ∀ k, k < 2 → w.cell? ⟨g, k * 8 + 3, none⟩ = some (.int .i64 (x3 k))
  e : ∀ k, k < 2 → w.cell? ⟨g, k * 8 + 4, none⟩ = some (.int .i64 (y0 k))
  f : ∀ k, k < 2 → w.cell? ⟨g, k * 8 + 5, none⟩ = some (.int .i64 (y1 k))
  h : ∀ k, k < 2 → w.cell? ⟨g, k * 8 + 6, none⟩ = some (.int .i64 (y2 k))
  i : ∀ k, k < 2 → w.cell? ⟨g, k * 8 + 7, none⟩ = some (.int .i64 (y3 k))
theorem Pairs.ext {w w' : World} {g : Nat} {x0 x1 x2 x3 y0 y1 y2 y3 : Nat → Int} (h : Pairs w g x0 x1 x2 x3 y0 y1 y2 y3) (hE : Ext w w') : Pairs w' g x0 x1 x2 x3 y0 y1 y2 y3 :=
  ⟨fun k hk => Ext.cell_ hE (h.a k hk), fun k hk => Ext.cell_ hE (h.b k hk), fun k hk => Ext.cell_ hE (h.c k hk), fun k hk => Ext.cell_ hE (h.d k hk),
   fun k hk => Ext.cell_ hE (h.e k hk), fun k hk => Ext.cell_ hE (h.f k hk), fun k hk => Ext.cell_ hE (h.h k hk), fun k hk => Ext.cell_ hE (h.i k hk)⟩
theorem pairs_of {w : World} {g : Nat} {t : TypeId} {x0 x1 x2 x3 y0 y1 y2 y3 r0 r1 r2 r3 s0 s1 s2 s3 : Int} (h : Blk w g t #[.int .i64 x0, .int .i64 x1, .int .i64 x2, .int .i64 x3, .int .i64 y0, .int .i64 y1, .int .i64 y2, .int .i64 y3,
      .int .i64 r0, .int .i64 r1, .int .i64 r2, .int .i64 r3, .int .i64 s0, .int .i64 s1, .int .i64 s2, .int .i64 s3]) :
    Pairs w g (fun k => pz k x0 r0) (fun k => pz k x1 r1) (fun k => pz k x2 r2) (fun k => pz k x3 r3) (fun k => pz k y0 s0) (fun k => pz k y1 s1) (fun k => pz k y2 s2) (fun k => pz k y3 s3) :=
  ⟨fun k hk => by rw [h.cell]; match k, hk with | 0, _ => rfl | 1, _ => rfl, fun k hk => by rw [h.cell]; match k, hk with | 0, _ => rfl | 1, _ => rfl,
   fun k hk => by rw [h.cell]; match k, hk with | 0, _ => rfl | 1, _ => rfl, fun k hk => by rw [h.cell]; match k, hk with | 0, _ => rfl | 1, _ => rfl,
   fun k hk => by rw [h.cell]; match k, hk with | 0, _ => rfl | 1, _ => rfl, fun k hk => by rw [h.cell]; match k, hk with | 0, _ => rfl | 1, _ => rfl,
   fun k hk => by rw [h.cell]; match k, hk with | 0, _ => rfl | 1, _ => rfl, fun k hk => by rw [h.cell]; match k, hk with | 0, _ => rfl | 1, _ => rfl⟩
/-- Three bitmaps in a row. -/
def p3 {α : Type} (k : Nat) (a b c : α) : α := if k = 0 then a else if k = 1 then b else c
theorem bmps_of {w : World} {g : Nat} {t : TypeId} {Wa Ha Wb Hb V : Int} {A B : Option Addr} {na nb : Nat} {fa fb : Nat → Bool}
    (h : Blk w g t #[.int .i64 Wa, .int .i64 Ha, .slice A na na, .int .i64 Wb, .int .i64 Hb, .slice B nb nb, .int .i64 V, .int .i64 Hb, .slice B nb nb]) (hA : Bools w A na fa) (hB : Bools w B nb fb) :
    Bmps w g 0 3 (fun k => p3 k Wa Wb V) (fun k => p3 k Ha Hb Hb) (fun k => p3 k A B B) (fun k => p3 k na nb nb) (fun k => p3 k na nb nb) (fun k => p3 k fa fb fb) :=
  ⟨fun k hk => by rw [h.cell]; match k, hk with | 0, _ => rfl | 1, _ => rfl | 2, _ => rfl, fun k hk => by rw [h.cell]; match k, hk with | 0, _ => rfl | 1, _ => rfl | 2, _ => rfl,
   fun k hk => by rw [h.cell]; match k, hk with | 0, _ => rfl | 1, _ => rfl | 2, _ => rfl, fun k hk => match k, hk with | 0, _ => hA | 1, _ => hB | 2, _ => hB⟩

set_option maxHeartbeats 1000000 in
set_option maxRecDepth 100000 in
theorem BoundLeast_any (A : Option Addr) (N c : Nat) (f : Nat → Int) (A' : Option Addr) (N' c' : Nat) (f' : Nat → Int) (B : Option Addr) (M d : Nat) (g : Nat → Int) (B' : Option Addr) (M' d' : Nat) (g' : Nat → Int)
    (r0 r1 r2 r3 s0 s1 s2 s3 V : Int) (w : World)
    (hN : N ≤ c) (hc : c ≤ 4611686018427387904) (hN' : N' ≤ c') (hc' : c' ≤ 4611686018427387904) (hM : M ≤ d) (hd : d ≤ 4611686018427387904) (hM' : M' ≤ d') (hd' : d' ≤ 4611686018427387904)
    (hA : Ints w A N f) (hA' : Ints w A' N' f') (hB : Ints w B M g) (hB' : Ints w B' M' g') (hS : Sides w) :
    Calls Tryd.prog 3 #[.slice A N c, .slice A' N' c', .agg #[.slice B M d, .slice B' M' d'], .agg #[.int .i64 r0, .int .i64 r1, .int .i64 r2, .int .i64 r3, .int .i64 s0, .int .i64 s1, .int .i64 s2, .int .i64 s3], .int .i64 V] w
      fun e w' => e = .returned (.bool true) ∧ Ext w w' := by
  have hE0 := Lib.hid (((Ext.refl w).alloc (.cells #[.slice B M d, .slice B' M' d'] 23)).alloc (.cells #[.int .i64 r0, .int .i64 r1, .int .i64 r2, .int .i64 r3, .int .i64 s0, .int .i64 s1, .int .i64 s2, .int .i64 s3] 26))
  have hX0 := Lib.hid ((Blk.new w 23 #[.slice B M d, .slice B' M' d']).alloc (.cells #[.int .i64 r0, .int .i64 r1, .int .i64 r2, .int .i64 r3, .int .i64 s0, .int .i64 s1, .int .i64 s2, .int .i64 s3] 26))
  have hZ0 := Lib.hid (Blk.new' (g := w.heap.size + 1) (w := w.alloc (.cells #[.slice B M d, .slice B' M' d'] 23)) (by simp) 26 #[.int .i64 r0, .int .i64 r1, .int .i64 r2, .int .i64 r3, .int .i64 s0, .int .i64 s1, .int .i64 s2, .int .i64 s3])
  go_enter Tryd.func3, Tryd.ntmps3
  go_wp2_with fail
  refine (sanity_any _ (hS.ext hE0.out)).mono ?_
  rintro e w1 ⟨rfl, hE1⟩
  have hX1 := Lib.hid (hX0.out.ext hE1)
  have hZ1 := Lib.hid (hZ0.out.ext hE1)
  replace hE1 := Lib.hid (hE0.out.trans hE1)
  clear hE0 hX0 hZ0
  go_wp2_with fail
  refine (cut_any A N c w1 hN hc).mono ?_
  rintro e w2 ⟨rfl, rfl⟩
  have hl := few_le N 60
  go_wp2_with fail
  refine (Made_any A (few N 60) c f w1 (by omega) ((hA.take hl).ext hE1.out)).mono ?_
  rintro e w2 ⟨Wa, Ha, ga, na, fa, rfl, ha1, ha2, ha3, ha4, han, hOa, hga, hE2⟩
  have hX2 := Lib.hid (hX1.out.ext hE2)
  have hZ2 := Lib.hid (hZ1.out.ext hE2)
  replace hE2 := Lib.hid (hE1.out.trans hE2)
  clear hE1 hX1 hZ1 hl hga
  go_wp2_with fail
  refine (cut_any A' N' c' w2 hN' hc').mono ?_
  rintro e w3 ⟨rfl, rfl⟩
  have hl := few_le N' 60
  go_wp2_with fail
  refine (Made_any A' (few N' 60) c' f' w2 (by omega) ((hA'.take hl).ext hE2.out)).mono ?_
  rintro e w3 ⟨Wb, Hb, gb, nb, fb, rfl, hb1, hb2, hb3, hb4, hbn, hOb, hgb, hE3⟩
  have hOa' := Lib.hid ((hOa.ext hE3).arr)
  have hOb' := Lib.hid hOb.arr
  have hX3 := Lib.hid (hX2.out.ext hE3)
  have hZ3 := Lib.hid (hZ2.out.ext hE3)
  replace hE3 := Lib.hid (hE2.out.trans hE3)
  clear hE2 hX2 hZ2 hl hgb hOa hOb ha1 ha2 ha3 ha4 han hb1 hb2 hb3 hb4 hbn
  obtain ⟨W4, hW4⟩ : ∃ W4, ((((w3.alloc (.cells #[.int .i64 Wa, .int .i64 Ha, .slice (some ⟨ga, 0, none⟩) na na] 30)).alloc (.cells #[.int .i64 Wb, .int .i64 Hb, .slice (some ⟨gb, 0, none⟩) nb nb] 30)).alloc
      (.cells #[.int .i64 Wb, .int .i64 Hb, .slice (some ⟨gb, 0, none⟩) nb nb] 30)).setCell ⟨w3.heap.size + 1 + 1, 0, none⟩ (.int .i64 V)) = W4 := ⟨_, rfl⟩
  have hR : ∀ w', Ext W4 w' → Blk w' w3.heap.size 30 #[.int .i64 Wa, .int .i64 Ha, .slice (some ⟨ga, 0, none⟩) na na] ∧ Blk w' (w3.heap.size + 1) 30 #[.int .i64 Wb, .int .i64 Hb, .slice (some ⟨gb, 0, none⟩) nb nb] ∧
      Blk w' (w3.heap.size + 1 + 1) 30 #[.int .i64 V, .int .i64 Hb, .slice (some ⟨gb, 0, none⟩) nb nb] ∧ Ext w3 w' := by
    intro w' h
    subst hW4
    refine ⟨Blk.ext (((((Blk.new _ _ _).alloc _).alloc _).far ?_ _)) h, Blk.ext (((Blk.new' (by simp) _ _).alloc _).far ?_ _) h, ?_, ((((((Ext.refl w3).alloc _).alloc _).alloc _).setCell ?_ _)).trans h⟩
    · simp; omega
    · simp
    · have := (Blk.new' (g := w3.heap.size + 1 + 1) (w := (w3.alloc (.cells #[.int .i64 Wa, .int .i64 Ha, .slice (some ⟨ga, 0, none⟩) na na] 30)).alloc (.cells #[.int .i64 Wb, .int .i64 Hb, .slice (some ⟨gb, 0, none⟩) nb nb] 30)) (by simp) 30
        #[.int .i64 Wb, .int .i64 Hb, .slice (some ⟨gb, 0, none⟩) nb nb]).set_ 0 (.int .i64 V)
      exact Blk.ext (by simpa using this) h
    · simp; omega
  replace hR := Lib.hid hR
  obtain ⟨r1', r2', r3', r4'⟩ := hR.out W4 (Ext.refl _)
  obtain ⟨xc, xf, xl⟩ := (hX3.out.ext r4').rules
  replace r4' := Lib.hid r4'
  clear r1' r2' r3'
  obtain ⟨u1c, u1f, u1l⟩ := hX3.out.rules
  go_wp2_with fail
  refine (budgets_any B M d g B' M' d' g' W4 hM hd hM' hd' (hB.ext (hE3.out.trans r4'.out)) (hB'.ext (hE3.out.trans r4'.out))).mono ?_
  rintro e w5 ⟨rfl, hE5⟩
  generalize bd0 (few M 4) g = x0 at *
  generalize bd1 (few M 4) g = x1 at *
  generalize bd2 (few M 4) g = x2 at *
  generalize bd3 (few M 4) g = x3 at *
  generalize bd0 (few M' 4) g' = y0 at *
  generalize bd1 (few M' 4) g' = y1 at *
  generalize bd2 (few M' 4) g' = y2 at *
  generalize bd3 (few M' 4) g' = y3 at *
  clear hW4 xc xf xl u1c u1f u1l
  obtain ⟨W6, hW6⟩ : ∃ W6, (w5.alloc (.cells #[.int .i64 x0, .int .i64 x1, .int .i64 x2, .int .i64 x3] 25)).alloc (.cells #[.int .i64 y0, .int .i64 y1, .int .i64 y2, .int .i64 y3] 25) = W6 := ⟨_, rfl⟩
  have hE6 : Ext w5 W6 := by rw [← hW6]; exact ((Ext.refl w5).alloc _).alloc _
  have hx6 : Blk W6 w5.heap.size 25 #[.int .i64 x0, .int .i64 x1, .int .i64 x2, .int .i64 x3] := by rw [← hW6]; exact (Blk.new _ _ _).alloc _
  have hy6 : Blk W6 (w5.heap.size + 1) 25 #[.int .i64 y0, .int .i64 y1, .int .i64 y2, .int .i64 y3] := by rw [← hW6]; exact Blk.new' (by simp) _ _
  obtain ⟨W7, hW7⟩ : ∃ W7, W6.alloc (.cells #[.int .i64 Wa, .int .i64 Ha, .slice (some ⟨ga, 0, none⟩) na na, .int .i64 Wb, .int .i64 Hb, .slice (some ⟨gb, 0, none⟩) nb nb, .int .i64 V, .int .i64 Hb, .slice (some ⟨gb, 0, none⟩) nb nb] 30) = W7 := ⟨_, rfl⟩
  have hQ : ∀ w', Ext W7 w' → Blk w' w3.heap.size 30 #[.int .i64 Wa, .int .i64 Ha, .slice (some ⟨ga, 0, none⟩) na na] ∧
      Blk w' w5.heap.size 25 #[.int .i64 x0, .int .i64 x1, .int .i64 x2, .int .i64 x3] ∧ Blk w' (w5.heap.size + 1) 25 #[.int .i64 y0, .int .i64 y1, .int .i64 y2, .int .i64 y3] ∧
      Blk w' (w.heap.size + 1) 26 #[.int .i64 r0, .int .i64 r1, .int .i64 r2, .int .i64 r3, .int .i64 s0, .int .i64 s1, .int .i64 s2, .int .i64 s3] ∧
      Bmps w' W6.heap.size 0 3 (fun k => p3 k Wa Wb V) (fun k => p3 k Ha Hb Hb) (fun k => p3 k (some ⟨ga, 0, none⟩) (some ⟨gb, 0, none⟩) (some ⟨gb, 0, none⟩)) (fun k => p3 k na nb nb) (fun k => p3 k na nb nb) (fun k => p3 k fa fb fb) ∧
      Bools w' (some ⟨ga, 0, none⟩) na fa ∧ Sides w' ∧ Ext w w' := by
    intro w' h
    subst hW7
    have h6 := ((Ext.refl W6).alloc _).trans h
    have h4 := hE5.trans (hE6.trans h6)
    obtain ⟨q1, q2, q3, q4⟩ := hR.out w' h4
    exact ⟨q1, hx6.ext h6, hy6.ext h6, hZ3.out.ext q4, bmps_of ((Blk.new _ _ _).ext h) (hOa'.out.ext q4) (hOb'.out.ext q4), hOa'.out.ext q4, hS.ext (hE3.out.trans q4), hE3.out.trans q4⟩
  obtain ⟨q1, q2, q3, q4⟩ := hR.out W6 (hE5.trans hE6)
  obtain ⟨q1c, q1f, q1l⟩ := q1.rules
  obtain ⟨q2c, q2f, q2l⟩ := q2.rules
  obtain ⟨q3c, q3f, q3l⟩ := q3.rules
  replace hQ := Lib.hid hQ
  clear q1 q2 q3 q4 hR hE5 hE6 hx6 hy6 hZ3 hX3 hOa' hOb' hE3 r4'
  go_wp2_with fail
  go_loopw [52] (fun i wr => ∃ k : Nat, k ≤ 3 ∧ i = .int .i64 k ∧ Ext W7 wr) (fun i _ => 3 - (intOf i).toNat)
  case atStart => exact ⟨0, by omega, rfl, Ext.refl _⟩
  case round =>
    clear q1c q1f q1l q2c q2f q2l q3c q3f q3l hW6 hW7
    obtain ⟨k, hk, rfl, hE⟩ := hrel
    by_cases hlt : k < 3
    · have hlt' : (k : Int) < 3 := by omega
      obtain ⟨b1, b2, b3, b4, b5, b6, b7, b8⟩ := hQ.out wr hE
      have hD := b5.dots k hlt
      have l1 := b5.w_ k hlt
      have l2 := b5.h_ k hlt
      have l3 := b5.d_ k hlt
      rw [Nat.zero_add] at l1 l2 l3
      have hg1 : W6.heap.size < wr.heap.size := World.block_lt_of_cell? wr _ l1
      generalize p3 k Wa Wb V = Wk at *
      generalize p3 k Ha Hb Hb = Hk at *
      generalize p3 k (some (⟨ga, 0, none⟩ : Addr)) (some ⟨gb, 0, none⟩) (some ⟨gb, 0, none⟩) = Ak at *
      generalize p3 k na nb nb = nk at *
      generalize p3 k fa fb fb = dk at *
      replace b7 := Lib.hid b7
      replace hD := Lib.hid hD
      replace hE := Lib.hid hE
      clear b1 b2 b3 b4 b5 b6 b8
      go_wp2_with fail
      refine (Columns_any Wk Hk Ak nk nk dk _ (hD.out.ext ((Ext.refl wr).alloc _)) (b7.out.ext ((Ext.refl wr).alloc _))).mono ?_
      rintro e v1 ⟨A1, B1, c1, d1, rfl, hC1, hD1, hF1⟩
      have hT1 := (Blk.new wr 30 #[.int .i64 Wk, .int .i64 Hk, .slice Ak nk nk]).ext hF1
      replace hF1 := Lib.hid (((Ext.refl wr).alloc _).trans hF1)
      obtain ⟨tc, tf, tl⟩ := hT1.rules
      clear l1 l2 l3 hg1
      go_wp2_with fail
      refine (ColumnsR_any Wk Hk Ak nk nk dk v1 (hD.out.ext hF1.out)).mono ?_
      rintro e v2 ⟨A2, B2, c2, d2, rfl, hC2, hD2, hF2⟩
      obtain ⟨hlb1, hlb2⟩ := colLen_bd Wk Hk nk
      generalize colLen Wk Hk nk = cl at *
      generalize rowLen Wk Hk nk = rl at *
      replace hT1 := Lib.hid (hT1.ext hF2)
      replace hC1 := Lib.hid (hC1.ext hF2)
      replace hD1 := Lib.hid (hD1.ext hF2)
      replace hF2 := Lib.hid (hF1.out.trans hF2)
      clear hF1 tc tf tl
      go_wp2_with fail
      refine (SameInts_any A1 A2 cl cl c1 c2 _ _ v2 (by omega) hC1.out hC2).mono ?_
      rintro e v3 ⟨rfl, hF3⟩
      rw [sameB_self]
      replace hD1 := Lib.hid (hD1.out.ext hF3)
      replace hD2 := Lib.hid (hD2.ext hF3)
      replace hT1 := Lib.hid (hT1.out.ext hF3)
      replace hF3 := Lib.hid (hF2.out.trans hF3)
      clear hF2 hC1 hC2
      go_wp2_with fail
      refine (SameInts_any B1 B2 rl rl d1 d2 _ _ v3 (by omega) hD1.out hD2.out).mono ?_
      rintro e v4 ⟨rfl, hF4⟩
      rw [sameB_self]
      replace hT1 := Lib.hid (hT1.out.ext hF4)
      replace hF4 := Lib.hid (hF3.out.trans hF4)
      clear hF3 hD1 hD2
      obtain ⟨b1, b2, b3, b4, b5, b6, b8, b9⟩ := hQ.out v4 (hE.out.trans hF4.out)
      obtain ⟨b2c, b2f, b2l⟩ := b2.rules
      obtain ⟨b3c, b3f, b3l⟩ := b3.rules
      obtain ⟨b4c, b4f, b4l⟩ := b4.rules
      clear b1 b2 b3 b4 b5 b6 b8 b9
      obtain ⟨W9, hW9⟩ : ∃ W9, v4.alloc (.cells #[.int .i64 x0, .int .i64 x1, .int .i64 x2, .int .i64 x3, .int .i64 y0, .int .i64 y1, .int .i64 y2, .int .i64 y3,
        .int .i64 r0, .int .i64 r1, .int .i64 r2, .int .i64 r3, .int .i64 s0, .int .i64 s1, .int .i64 s2, .int .i64 s3] 26) = W9 := ⟨_, rfl⟩
      have hP9 := pairs_of (Blk.new v4 26 #[.int .i64 x0, .int .i64 x1, .int .i64 x2, .int .i64 x3, .int .i64 y0, .int .i64 y1, .int .i64 y2, .int .i64 y3,
        .int .i64 r0, .int .i64 r1, .int .i64 r2, .int .i64 r3, .int .i64 s0, .int .i64 s1, .int .i64 s2, .int .i64 s3])
      rw [hW9] at hP9
      have hF9 : Ext v4 W9 := by rw [← hW9]; exact (Ext.refl v4).alloc _
      have hT9 := Lib.hid (hT1.out.ext hF9)
      replace hP9 := Lib.hid hP9
      replace hF9 := Lib.hid (hF4.out.trans hF9)
      clear hT1 hF4
      go_wp2_with fail
      go_loopw [82] (fun i wr => ∃ j : Nat, j ≤ 2 ∧ i = .int .i64 j ∧ Ext W9 wr) (fun i _ => 2 - (intOf i).toNat)
      case atStart => exact ⟨0, by omega, rfl, Ext.refl _⟩
      case round =>
        clear b2c b2f b2l b3c b3f b3l b4c b4f b4l hW9
        obtain ⟨j, hj, rfl, hG⟩ := hrel
        by_cases hjt : j < 2
        · have hjt' : (j : Int) < 2 := by omega
          obtain ⟨b1, b2, b3, b4, b5, b6, b8, b9⟩ := hQ.out wr (hE.out.trans (hF9.out.trans hG))
          obtain ⟨b1c, b1f, b1l⟩ := b1.rules
          obtain ⟨tc, tf, tl⟩ := (hT9.out.ext hG).rules
          have hP := hP9.out.ext hG
          have m0 := hP.a j hjt
          have m1 := hP.b j hjt
          have m2 := hP.c j hjt
          have m3 := hP.d j hjt
          have m4 := hP.e j hjt
          have m5 := hP.f j hjt
          have m6 := hP.h j hjt
          have m7 := hP.i j hjt
          have hgz : v4.heap.size < wr.heap.size := World.block_lt_of_cell? wr _ m0
          generalize pz j x0 r0 = z0 at *
          generalize pz j x1 r1 = z1 at *
          generalize pz j x2 r2 = z2 at *
          generalize pz j x3 r3 = z3 at *
          generalize pz j y0 s0 = z4 at *
          generalize pz j y1 s1 = z5 at *
          generalize pz j y2 s2 = z6 at *
          generalize pz j y3 s3 = z7 at *
          have hDq := Lib.hid (hD.out.ext (hF9.out.trans hG))
          replace b6 := Lib.hid b6
          replace b8 := Lib.hid b8
          replace hG := Lib.hid hG
          have b1' := Lib.hid b1
          clear b1 b2 b3 b4 b5 b9 hP
          go_wp2_with fail
          refine (Least_any Wa Ha _ na na fa Wk Hk Ak nk nk dk z0 z1 z2 z3 z4 z5 z6 z7 _ (b6.out.ext ((Ext.refl wr).alloc _)) (hDq.out.ext ((Ext.refl wr).alloc _)) (b8.out.ext ((Ext.refl wr).alloc _))).mono ?_
          rintro e u1 ⟨rfl, hG1⟩
          have hZ := (Blk.new wr 26 #[.int .i64 z0, .int .i64 z1, .int .i64 z2, .int .i64 z3, .int .i64 z4, .int .i64 z5, .int .i64 z6, .int .i64 z7]).ext hG1
          replace hG1 := ((Ext.refl wr).alloc (.cells #[.int .i64 z0, .int .i64 z1, .int .i64 z2, .int .i64 z3, .int .i64 z4, .int .i64 z5, .int .i64 z6, .int .i64 z7] 26)).trans hG1
          clear b1c b1f b1l tc tf tl m0 m1 m2 m3 m4 m5 m6 m7 hgz
          obtain ⟨b1c, b1f, b1l⟩ := (b1'.out.ext hG1).rules
          obtain ⟨tc, tf, tl⟩ := (hT9.out.ext (hG.out.trans hG1)).rules
          obtain ⟨zc, zf, zl⟩ := hZ.rules
          replace hG1 := Lib.hid hG1
          clear hZ
          go_wp2_with fail
          refine (LeastR_any Wa Ha _ na na fa Wk Hk Ak nk nk dk z0 z1 z2 z3 z4 z5 z6 z7 u1 (b6.out.ext hG1.out) (hDq.out.ext hG1.out)).mono ?_
          rintro e u2 ⟨rfl, hG2⟩
          generalize leastN Wa Ha na fa Wk Hk nk dk z0 z1 z2 z3 z4 z5 z6 z7 = lv
          generalize okN Wa Ha na Wk Hk nk = oo
          have e1 : (oo != oo) = false := by simp
          have e2 : (lv != lv) = false := by simp
          replace hG2 := Lib.hid (hG.out.trans (hG1.out.trans hG2))
          clear b1c b1f b1l tc tf tl zc zf zl
          go_wp2_with fail
          exact ⟨⟨j + 1, by omega, by go_num, hG2.out⟩, by simp only [intOf]; omega⟩
        · have hG' := Lib.hid (hE.out.trans (hF9.out.trans hG))
          clear hG
          go_wp2_with fail
          exact ⟨⟨k + 1, by omega, by go_num, hG'.out⟩, by simp only [intOf]; omega⟩
    · go_wp2_with fail
      go_ret
      exact ⟨rfl, (hQ.out wr hE).2.2.2.2.2.2.2⟩
end Go.Proofs.YtfgcogkhnnflcaaDoor
