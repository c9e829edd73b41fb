/- Parts of the proof: BdLeast, BdRef2, BdVal. -/
import Derived.Test.YtfgcogkhnnflcaaDoorProg
import Derived.Test.YtfgcogkhnnflcaaDoorG02
import Derived.Laws.EntriesVeiled
import Derived.Deep.DeepCutAuto
set_option linter.unusedSimpArgs false
set_option linter.unusedVariables false
section
namespace Go.Proofs.YtfgcogkhnnflcaaDoor
open Go.RowKit Go.Flow Go.Plain
open Go.Proofs
attribute [local go_sem] block_add
attribute [local go_sem ↓] Go.wp_at_zero Go.wp_at_succ

theorem between1_any (n m : Int) (w : World) :
    Calls Tryd.prog 44 #[.int .i64 n, .int .i64 m] w fun e w' => e = .returned (.int .i64 (lim n m)) ∧ w = w' := by
  go_enter Tryd.func44, Tryd.ntmps44
  go_wp2
  all_goals go_ret
  all_goals exact ⟨ret_int (by unfold lim; omega), rfl⟩

set_option maxHeartbeats 400000 in
theorem limited_any (a b c d : Int) (w : World) :
    Calls Tryd.prog 29 #[bud a b c d] w fun e w' => e = .returned (bud (lim a 200) (lim b 200) (lim c 2) (lim d 16)) ∧ Ext w w' := by
  go_enter Tryd.func29, Tryd.ntmps29
  go_wp2_with fail
  refine wp_abs (fun W => Ext w W ∧ Blk W w.heap.size 25 #[.int .i64 a, .int .i64 b, .int .i64 c, .int .i64 d] ∧ Blk W (w.heap.size + 1) 25 #[.int .i64 0, .int .i64 0, .int .i64 0, .int .i64 0])
    ⟨((Ext.refl w).alloc _).alloc _, (Blk.new _ _ _).alloc _, Blk.new' (by simp) _ _⟩ ?_
  rintro W ⟨hw, hb1, hb2⟩
  replace hw := Lib.hid hw
  obtain ⟨hb1c, hb1f, hb1l⟩ := hb1.rules
  obtain ⟨hb2c, hb2f, hb2l⟩ := hb2.rules
  refine Flow.wp_flow 17 [(0, true), (1, true), (2, true), (3, true), (4, true), (5, true), (6, true), (7, true), (8, true), (9, true), (10, true), (11, true), (12, true), (13, true), (14, true), (15, true), (16, true)] (by kernel_rfl) (by kernel_rfl) ?_
  simp only [List.map_cons, List.map_nil, List.getD_cons_succ, List.getD_cons_zero]
  repeat (first
    | (refine Flow.WalkL.move rfl ?_
       simp only [Act.put, Act.eval, Array.getD_eq_getD_getElem?, List.getElem?_toArray, List.getElem?_cons_succ, List.getElem?_cons_zero, Option.getD_some, List.setIfInBounds_toArray, List.set_cons_zero, List.set_cons_succ])
    | (refine Flow.WalkL.assign rfl ?_
       simp only [Act.put, Act.eval, Array.getD_eq_getD_getElem?, List.getElem?_toArray, List.getElem?_cons_succ, List.getElem?_cons_zero, Option.getD_some, List.setIfInBounds_toArray, List.set_cons_zero, List.set_cons_succ])
    | (refine Flow.WalkL.callf Tryd.func44 rfl (by kernel_rfl) rfl (fun w1 hC => keep (between1_any _ _ _)) rfl rfl ?_
       simp only [Act.put, List.setIfInBounds_toArray, List.set_cons_zero, List.set_cons_succ])
    | (refine Flow.WalkL.run (v := ?_) rfl (fun w1 hC => ?_) ?_
       rotate_left
       · obtain ⟨hCc, hCf⟩ := hC.rules
         go_simp
         with_reducible rfl
       simp only [Act.put, List.setIfInBounds_toArray, List.set_cons_zero, List.set_cons_succ]))
  refine Flow.WalkL.nil ?_
  simp only [List.drop]
  intro w' hC
  obtain ⟨hCc, hCf⟩ := hC.rules
  go_wp2_with fail
  refine bodyPost_ret (v := bud (lim a 200) (lim b 200) (lim c 2) (lim d 16)) (by simp [results, Tryd.results29, go_sem, *]) rfl ⟨rfl, ?_⟩
  refine (hw.out.trans hC).setCell ?_ _ |>.setCell ?_ _ |>.setCell ?_ _ |>.setCell ?_ _ <;> simp

/-- Both bitmaps are well-formed and of one size. -/
def bothOk (W H : Int) (n : Nat) (W' H' : Int) (n' : Nat) : Prop := chk W H n = 0 ∧ chk W' H' n' = 0 ∧ W = W' ∧ H = H'
instance (W H : Int) (n : Nat) (W' H' : Int) (n' : Nat) : Decidable (bothOk W H n W' H' n') := by unfold bothOk; infer_instance

theorem Least_bad (W H : Int) (A : Option Addr) (n c : Nat) (W' H' : Int) (A' : Option Addr) (n' c' : Nat) (x0 x1 x2 x3 y0 y1 y2 y3 : Int) (w : World) (hbad : ¬ bothOk W H n W' H' n') :
    Calls Tryd.prog 15 #[bmp W H A n c, bmp W' H' A' n' c', bud x0 x1 x2 x3, bud y0 y1 y2 y3] w fun e w' => e = .returned (.tuple #[.int .i64 0, .bool false]) ∧ Ext w w' := by
  have hfin : ∀ w1, Ext ((((w.alloc (.cells #[.int .i64 W, .int .i64 H, .slice A n c] 30)).alloc (.cells #[.int .i64 W', .int .i64 H', .slice A' n' c'] 30)).alloc
      (.cells #[.int .i64 x0, .int .i64 x1, .int .i64 x2, .int .i64 x3] 25)).alloc (.cells #[.int .i64 y0, .int .i64 y1, .int .i64 y2, .int .i64 y3] 25)) w1 →
      Ext w w1 ∧ Blk w1 w.heap.size 30 #[.int .i64 W, .int .i64 H, .slice A n c] ∧ Blk w1 (w.heap.size + 1) 30 #[.int .i64 W', .int .i64 H', .slice A' n' c'] := fun w1 h =>
    ⟨(((((Ext.refl w).alloc _).alloc _).alloc _).alloc _).trans h, ((((Blk.new _ _ _).alloc _).alloc _).alloc _).ext h, (((Blk.new' (by simp) _ _).alloc _).alloc _).ext h⟩
  replace hfin := Lib.hid hfin
  by_cases h1 : chk W H n = 0
  · have e1 : (chk W H n != 0) = false := by simp [h1]
    by_cases h2 : chk W' H' n' = 0
    · have e2 : (chk W' H' n' != 0) = false := by simp [h2]
      by_cases h3 : W = W'
      · have h4 : H ≠ H' := fun h => hbad ⟨h1, h2, h3, h⟩
        have e3 : (W != W') = false := by simp [h3]
        have e4 : (H != H') = true := by simp [h4]
        clear h1 h2 h3 h4
        go_enter Tryd.func15, Tryd.ntmps15
        go_wp2_with fail
        refine (Check2_any W H A n c _).mono ?_
        rintro e w1 ⟨rfl, hE1⟩
        obtain ⟨hE, hB1, hB2⟩ := hfin.out w1 hE1
        obtain ⟨hB2c, _, _⟩ := hB2.rules
        go_wp2_with fail
        refine (Check2_any W' H' A' n' c' _).mono ?_
        rintro e w2 ⟨rfl, hE2⟩
        obtain ⟨hB1c, _, _⟩ := (hB1.ext hE2).rules
        obtain ⟨hB2c', _, _⟩ := (hB2.ext hE2).rules
        replace hE := Lib.hid (hE.trans hE2)
        clear hE1 hE2 hB1 hB2 hB2c
        go_wp2_with fail
        go_ret2
        exact ⟨rfl, hE.out⟩
      · have e3 : (W != W') = true := by simp [h3]
        clear h1 h2 h3
        go_enter Tryd.func15, Tryd.ntmps15
        go_wp2_with fail
        refine (Check2_any W H A n c _).mono ?_
        rintro e w1 ⟨rfl, hE1⟩
        obtain ⟨hE, hB1, hB2⟩ := hfin.out w1 hE1
        obtain ⟨hB2c, _, _⟩ := hB2.rules
        go_wp2_with fail
        refine (Check2_any W' H' A' n' c' _).mono ?_
        rintro e w2 ⟨rfl, hE2⟩
        obtain ⟨hB1c, _, _⟩ := (hB1.ext hE2).rules
        obtain ⟨hB2c', _, _⟩ := (hB2.ext hE2).rules
        replace hE := Lib.hid (hE.trans hE2)
        clear hE1 hE2 hB1 hB2 hB2c
        go_wp2_with fail
        go_ret2
        exact ⟨rfl, hE.out⟩
    · have e2 : (chk W' H' n' != 0) = true := by simp [h2]
      clear h1 h2
      go_enter Tryd.func15, Tryd.ntmps15
      go_wp2_with fail
      refine (Check2_any W H A n c _).mono ?_
      rintro e w1 ⟨rfl, hE1⟩
      obtain ⟨hE, hB1, hB2⟩ := hfin.out w1 hE1
      obtain ⟨hB2c, _, _⟩ := hB2.rules
      go_wp2_with fail
      refine (Check2_any W' H' A' n' c' _).mono ?_
      rintro e w2 ⟨rfl, hE2⟩
      replace hE := Lib.hid (hE.trans hE2)
      clear hE1 hE2 hB1 hB2 hB2c
      go_wp2_with fail
      go_ret2
      exact ⟨rfl, hE.out⟩
  · have e1 : (chk W H n != 0) = true := by simp [h1]
    clear h1
    go_enter Tryd.func15, Tryd.ntmps15
    go_wp2_with fail
    refine (Check2_any W H A n c _).mono ?_
    rintro e w1 ⟨rfl, hE1⟩
    obtain ⟨hE, hB1, hB2⟩ := hfin.out w1 hE1
    replace hE := Lib.hid hE
    clear hE1 hB1 hB2
    go_wp2_with fail
    go_ret2
    exact ⟨rfl, hE.out⟩

/-- Sets of dots that are compared: a shift, and the first column of a strip. -/
def lS (m : Nat) (most strip : Int) (p : Int × Int) : Prop := -most ≤ p.1 ∧ p.1 ≤ most ∧ -4 ≤ p.2 ∧ p.2 ≤ m + 4 - strip
def lG (m : Nat) (f1 f2 : Nat → Int) (strip L1 L2 : Int) (p : Int × Int) : Int :=
  max (excS m f1 m f2 p.1 p.2 (p.2 + strip) - L1) (excS m f2 m f1 (-p.1) (p.2 - p.1) (p.2 - p.1 + strip) - L2)
def stripOf (W : Int) (s t : Int) : Int := min (W + 8) (max s t)
/-- What Least computes. -/
def LeastV (W H : Int) (n : Nat) (dot dot' : Nat → Bool) (x0 x1 x2 x3 y0 y1 y2 y3 : Int) (v : Int) : Prop :=
  ∃ bc, IsMin (lS W.toNat (x2 + y2) (stripOf W x3 y3)) (lG W.toNat (colF W n dot) (colF W n dot') (stripOf W x3 y3) (x0 + y1) (y0 + x1)) bc ∧
    (0 < stripOf W x3 y3 → v = bc) ∧
    (stripOf W x3 y3 = 0 → ∃ br, IsMin (lS H.toNat (x2 + y2) (stripOf W x3 y3)) (lG H.toNat (rowBd W n dot) (rowBd W n dot') (stripOf W x3 y3) (x0 + y1) (y0 + x1)) br ∧ v = max bc br)
def LeastPost (W H : Int) (n : Nat) (dot dot' : Nat → Bool) (x0 x1 x2 x3 y0 y1 y2 y3 : Int) (w : World) (e : Ending) (w' : World) : Prop :=
  ∃ v, e = .returned (.tuple #[.int .i64 v, .bool true]) ∧ LeastV W H n dot dot' (lim x0 200) (lim x1 200) (lim x2 2) (lim x3 16) (lim y0 200) (lim y1 200) (lim y2 2) (lim y3 16) v ∧ Ext w w'

def maxI : Int := 9223372036854775807
def minI : Int := -9223372036854775808
/-- The least so far. -/
def PartMin (Q : Int × Int → Prop) (f : Int × Int → Int) (b : Int) : Prop := (∀ p, Q p → b ≤ f p) ∧ (b = maxI ∨ ∃ p, Q p ∧ f p = b)
theorem PartMin.step {Q Q' : Int × Int → Prop} {f : Int × Int → Int} {b : Int} {q : Int × Int} (h : PartMin Q f b) (hQ : ∀ p, Q' p → Q p ∨ p = q) (hq : Q' q) (hsub : ∀ p, Q p → Q' p) (hlt : f q < maxI) :
    PartMin Q' f (if f q < b then f q else b) := by
  constructor
  · intro p hp
    rcases hQ p hp with h1 | rfl
    · have := h.1 p h1; split <;> omega
    · split <;> omega
  · split
    · exact .inr ⟨q, hq, rfl⟩
    · rcases h.2 with h1 | ⟨p, h1, h2⟩
      · omega
      · exact .inr ⟨p, hsub p h1, h2⟩
theorem PartMin.congr {Q Q' : Int × Int → Prop} {f : Int × Int → Int} {b : Int} (h : PartMin Q f b) (hQ : ∀ p, Q p ↔ Q' p) : PartMin Q' f b :=
  ⟨fun p hp => h.1 p ((hQ p).2 hp), h.2.imp id fun ⟨p, h1, h2⟩ => ⟨p, (hQ p).1 h1, h2⟩⟩
theorem PartMin.isMin {Q : Int × Int → Prop} {f : Int × Int → Int} {b : Int} (h : PartMin Q f b) (q : Int × Int) (hq : Q q) (hlt : f q < maxI) : IsMin Q f b := by
  refine ⟨?_, h.1⟩
  rcases h.2 with h1 | ⟨p, h1, h2⟩
  · have := h.1 q hq; omega
  · exact ⟨p, h1, h2⟩
theorem lG_bd {m : Nat} {f1 f2 : Nat → Int} {st L1 L2 : Int} (hm : m ≤ 96) (h1 : ∀ k, 0 ≤ f1 k ∧ f1 k ≤ 9216) (h2 : ∀ k, 0 ≤ f2 k ∧ f2 k ≤ 9216) (hL1 : 0 ≤ L1 ∧ L1 ≤ 400) (hL2 : 0 ≤ L2 ∧ L2 ≤ 400) (p : Int × Int) :
    -400 ≤ lG m f1 f2 st L1 L2 p ∧ lG m f1 f2 st L1 L2 p ≤ 1000000 := by
  have e1 := excS_bd (m1 := m) (m2 := m) (shift := p.1) (from_ := p.2) (till := p.2 + st) h1 h2
  have e2 := excS_bd (m1 := m) (m2 := m) (shift := -p.1) (from_ := p.2 - p.1) (till := p.2 - p.1 + st) h2 h1
  unfold lG
  omega
theorem col_bd (W : Int) (n : Nat) (dot : Nat → Bool) (hn : n ≤ 9216) (k : Nat) : 0 ≤ colF W n dot k ∧ colF W n dot k ≤ 9216 := by
  have := cnt_le (fun j => dot j && decide ((j : Int) % W = k)) n
  have := cnt_nonneg (fun j => dot j && decide ((j : Int) % W = k)) n
  unfold colF
  omega
theorem row_bd (W : Int) (n : Nat) (dot : Nat → Bool) (hn : n ≤ 9216) (k : Nat) : 0 ≤ rowBd W n dot k ∧ rowBd W n dot k ≤ 9216 := by
  have := cnt_le (fun j => dot j && decide ((j : Int) / W = k)) n
  have := cnt_nonneg (fun j => dot j && decide ((j : Int) / W = k)) n
  unfold rowBd
  omega
/-- What Least comes to, for both sides. -/
def FinP (Wn Hn : Nat) (c1 c2 r1 r2 : Nat → Int) (most st L1 L2 : Int) (o : Int) : Prop :=
  ∃ bc, IsMin (lS Wn most st) (lG Wn c1 c2 st L1 L2) bc ∧ (0 < st → o = bc) ∧ (st = 0 → ∃ br, IsMin (lS Hn most st) (lG Hn r1 r2 st L1 L2) br ∧ o = max bc br)
/-- What stands in 'out' when some sides are done. -/
def OutP (Wn Hn : Nat) (c1 c2 r1 r2 : Nat → Int) (most st L1 L2 : Int) (k : Value) (o : Int) : Prop :=
  (k = .int .i64 0 ∧ o = minI) ∨ (k = .int .i64 1 ∧ IsMin (lS Wn most st) (lG Wn c1 c2 st L1 L2) o) ∨ (k = .int .i64 2 ∧ FinP Wn Hn c1 c2 r1 r2 most st L1 L2 o)

theorem lim_bnd (x m : Int) (hm : 0 ≤ m) : 0 ≤ lim x m ∧ lim x m ≤ m := by unfold lim; omega

set_option maxHeartbeats 4000000 in
set_option maxRecDepth 100000 in
theorem Least_aux (W H : Int) (A : Option Addr) (n c : Nat) (A' : Option Addr) (c' : Nat) (dot dot' : Nat → Bool) (x0 x1 x2 x3 y0 y1 y2 y3 : Int) (w : World) (hok : chk W H n = 0)
    (hA : Bools w A n dot) (hA' : Bools w A' n dot') (hS : Sides w) (R : Ending → World → Prop)
    (hR : ∀ v w', LeastV W H n dot dot' (lim x0 200) (lim x1 200) (lim x2 2) (lim x3 16) (lim y0 200) (lim y1 200) (lim y2 2) (lim y3 16) v → Ext w w' → R (.returned (.tuple #[.int .i64 v, .bool true])) w') :
    Calls Tryd.prog 15 #[bmp W H A n c, bmp W H A' n c', bud x0 x1 x2 x3, bud y0 y1 y2 y3] w R := by
  replace hR := Lib.hid hR
  have i0 : ∀ w, (Instr.index 69 (.agg sidesCells) (.int .i64 0)).run Tryd.prog w = .ok (.agg #[.func (.func 83) #[] #[], .func (.func 84) #[] #[], .bool true]) w := fun _ => by kernel_rfl
  have i1 : ∀ w, (Instr.index 69 (.agg sidesCells) (.int .i64 1)).run Tryd.prog w = .ok (.agg #[.func (.func 85) #[] #[], .func (.func 86) #[] #[], .bool false]) w := fun _ => by kernel_rfl
  delta sidesCells at i0 i1
  have hfin : ∀ w1, Ext ((((w.alloc (.cells #[.int .i64 W, .int .i64 H, .slice A n c] 30)).alloc (.cells #[.int .i64 W, .int .i64 H, .slice A' n c'] 30)).alloc
      (.cells #[.int .i64 x0, .int .i64 x1, .int .i64 x2, .int .i64 x3] 25)).alloc (.cells #[.int .i64 y0, .int .i64 y1, .int .i64 y2, .int .i64 y3] 25)) w1 →
      Ext w w1 ∧ Blk w1 w.heap.size 30 #[.int .i64 W, .int .i64 H, .slice A n c] ∧ Blk w1 (w.heap.size + 1) 30 #[.int .i64 W, .int .i64 H, .slice A' n c'] ∧
      Blk w1 (w.heap.size + 1 + 1) 25 #[.int .i64 x0, .int .i64 x1, .int .i64 x2, .int .i64 x3] ∧ Blk w1 (w.heap.size + 1 + 1 + 1) 25 #[.int .i64 y0, .int .i64 y1, .int .i64 y2, .int .i64 y3] := fun w1 h =>
    ⟨(((((Ext.refl w).alloc _).alloc _).alloc _).alloc _).trans h, ((((Blk.new _ _ _).alloc _).alloc _).alloc _).ext h, (((Blk.new' (by simp) _ _).alloc _).alloc _).ext h, ((Blk.new' (by simp) _ _).alloc _).ext h, (Blk.new' (by simp) _ _).ext h⟩
  replace hfin := Lib.hid hfin
  have e1 : (chk W H n != 0) = false := by simp [hok]
  have eW : (W != W) = false := by simp
  have eH : (H != H) = false := by simp
  replace hok := Lib.hid hok
  go_enter Tryd.func15, Tryd.ntmps15
  go_wp2_with fail
  refine (Check2_any W H A n c _).mono ?_
  rintro e w1 ⟨rfl, hE1⟩
  obtain ⟨hE, hB1, hB2, hB3, hB4⟩ := hfin.out w1 hE1
  obtain ⟨hB2c, _, _⟩ := hB2.rules
  go_wp2_with fail
  refine (Check2_any W H A' n c' _).mono ?_
  rintro e w2 ⟨rfl, hE2⟩
  replace hB1 := hB1.ext hE2
  replace hB2 := hB2.ext hE2
  replace hB3 := hB3.ext hE2
  replace hB4 := hB4.ext hE2
  replace hE := hE.trans hE2
  replace hE := Lib.hid hE
  clear hE1 hE2 hB2c hfin
  obtain ⟨hB1c, _, _⟩ := hB1.rules
  obtain ⟨hB2c, _, _⟩ := hB2.rules
  obtain ⟨hB3c, _, hB3l⟩ := hB3.rules
  obtain ⟨hB4c, _, hB4l⟩ := hB4.rules
  go_wp2_with fail
  refine Flow.wp_flow 4 [(0, true), (1, true), (2, true), (3, true)] (by kernel_rfl) (by kernel_rfl) ?_
  simp only [List.map_cons, List.map_nil, List.getD_cons_succ, List.getD_cons_zero]
  repeat (first
    | (refine Flow.WalkL.move rfl ?_
       simp only [Act.put, Act.eval, Array.getD_eq_getD_getElem?, List.getElem?_toArray, List.getElem?_cons_succ, List.getElem?_cons_zero, Option.getD_some, List.setIfInBounds_toArray, List.set_cons_zero, List.set_cons_succ])
    | (refine Flow.WalkL.assign rfl ?_
       simp only [Act.put, Act.eval, Array.getD_eq_getD_getElem?, List.getElem?_toArray, List.getElem?_cons_succ, List.getElem?_cons_zero, Option.getD_some, List.setIfInBounds_toArray, List.set_cons_zero, List.set_cons_succ])
    | (refine Flow.WalkL.callf Tryd.func29 rfl (by kernel_rfl) rfl (fun w1 hC => limited_any _ _ _ _ _) rfl rfl ?_
       simp only [Act.put, List.setIfInBounds_toArray, List.set_cons_zero, List.set_cons_succ])
    | (refine Flow.WalkL.run (v := ?_) rfl (fun w1 hC => ?_) ?_
       rotate_left
       · obtain ⟨hCc, hCf⟩ := hC.rules
         go_simp
         with_reducible rfl
       simp only [Act.put, List.setIfInBounds_toArray, List.set_cons_zero, List.set_cons_succ]))
  refine Flow.WalkL.nil ?_
  simp only [List.drop]
  intro w3 hE3
  obtain ⟨h3c, h3f⟩ := hE3.rules
  go_wp2_with fail
  have hX0 := lim_bnd x0 200 (by omega)
  have hX1 := lim_bnd x1 200 (by omega)
  have hX2 := lim_bnd x2 2 (by omega)
  have hX3 := lim_bnd x3 16 (by omega)
  have hY0 := lim_bnd y0 200 (by omega)
  have hY1 := lim_bnd y1 200 (by omega)
  have hY2 := lim_bnd y2 2 (by omega)
  have hY3 := lim_bnd y3 16 (by omega)
  refine wp_abs (fun W0 => Ext w W0 ∧ Blk W0 w.heap.size 30 #[.int .i64 W, .int .i64 H, .slice A n c] ∧ Blk W0 (w.heap.size + 1) 30 #[.int .i64 W, .int .i64 H, .slice A' n c'] ∧
      Blk W0 (w.heap.size + 1 + 1) 25 #[.int .i64 (lim x0 200), .int .i64 (lim x1 200), .int .i64 (lim x2 2), .int .i64 (lim x3 16)] ∧
      Blk W0 (w.heap.size + 1 + 1 + 1) 25 #[.int .i64 (lim y0 200), .int .i64 (lim y1 200), .int .i64 (lim y2 2), .int .i64 (lim y3 16)])
    ⟨((hE.out.trans hE3).set4 (by omega)).set4 (by omega), ((hB1.ext hE3).far4 (by omega)).far4 (by omega), ((hB2.ext hE3).far4 (by omega)).far4 (by omega),
      ((hB3.ext hE3).set4).far4 (by omega), ((hB4.ext hE3).far4 (by omega)).set4⟩ ?_
  rintro W0 ⟨hE0, hB1', hB2', hB3', hB4'⟩
  clear hE hB1 hB2 hB3 hB4 hB1c hB2c hB3c hB4c hB3l hB4l hE3 h3c h3f
  generalize lim x0 200 = X0 at *
  generalize lim x1 200 = X1 at *
  generalize lim x2 2 = X2 at *
  generalize lim x3 16 = X3 at *
  generalize lim y0 200 = Y0 at *
  generalize lim y1 200 = Y1 at *
  generalize lim y2 2 = Y2 at *
  generalize lim y3 16 = Y3 at *
  have hS0 := hS.ext hE0
  have hA0 := hA.ext hE0
  have hA0' := hA'.ext hE0
  replace hE0 := Lib.hid hE0
  clear hS hA hA'
  obtain ⟨hB1c, hB1f, hB1l⟩ := hB1'.rules
  obtain ⟨hB2c, hB2f, hB2l⟩ := hB2'.rules
  obtain ⟨hB3c, hB3f, hB3l⟩ := hB3'.rules
  obtain ⟨hB4c, hB4f, hB4l⟩ := hB4'.rules
  have hk := okB hok.out
  obtain ⟨hX0a, hX0b⟩ := hX0
  obtain ⟨hX1a, hX1b⟩ := hX1
  obtain ⟨hX2a, hX2b⟩ := hX2
  obtain ⟨hX3a, hX3b⟩ := hX3
  obtain ⟨hY0a, hY0b⟩ := hY0
  obtain ⟨hY1a, hY1b⟩ := hY1
  obtain ⟨hY2a, hY2b⟩ := hY2
  obtain ⟨hY3a, hY3b⟩ := hY3
  obtain ⟨hk1, hk2, hk3, hk4, hk5⟩ := hk
  replace hk5 := Lib.hid hk5
  have hw1 : IntKind.i64.wrap (X2 + Y2) = X2 + Y2 := by rw [IntKind.wrap_i64]; omega
  have hw2 : IntKind.i64.wrap (W + 8) = W + 8 := by rw [IntKind.wrap_i64]; omega
  obtain ⟨mx, hmx⟩ : ∃ mx, (if X3 < Y3 then Y3 else X3) = mx := ⟨_, rfl⟩
  obtain ⟨st, hst⟩ : ∃ st, (if mx < W + 8 then mx else W + 8) = st := ⟨_, rfl⟩
  have hstr : stripOf W X3 Y3 = st := by unfold stripOf; rw [← hst, ← hmx]; split <;> split <;> omega
  have hst0 : 0 ≤ st := by rw [← hst, ← hmx]; split <;> split <;> omega
  have hst1 : st ≤ 16 := by rw [← hst, ← hmx]; split <;> split <;> omega
  have hst2 : st ≤ W + 8 := by rw [← hst, ← hmx]; split <;> split <;> omega
  replace hR := hR.out
  unfold LeastV at hR
  rw [hstr] at hR
  replace hR := Lib.hid hR
  refine Flow.wp_flow 16 [(0, true), (1, true), (2, true), (3, true), (4, true), (5, true), (6, true), (7, true), (8, true), (9, true), (10, true), (11, true), (12, true), (13, true), (14, true), (15, true)] (by kernel_rfl) (by kernel_rfl) ?_
  simp only [List.map_cons, List.map_nil, List.getD_cons_succ, List.getD_cons_zero]
  repeat (first
    | (refine Flow.WalkL.move rfl ?_
       simp only [Act.put, Act.eval, Array.getD_eq_getD_getElem?, List.getElem?_toArray, List.getElem?_cons_succ, List.getElem?_cons_zero, Option.getD_some, List.setIfInBounds_toArray, List.set_cons_zero, List.set_cons_succ])
    | (refine Flow.WalkL.assign rfl ?_
       simp only [Act.put, Act.eval, Array.getD_eq_getD_getElem?, List.getElem?_toArray, List.getElem?_cons_succ, List.getElem?_cons_zero, Option.getD_some, List.setIfInBounds_toArray, List.set_cons_zero, List.set_cons_succ])
    | (refine Flow.WalkL.run (v := ?_) rfl (fun w1 hC => ?_) ?_
       rotate_left
       · obtain ⟨hCc, hCf⟩ := hC.rules
         go_simp
         with_reducible rfl
       simp only [Act.put, List.setIfInBounds_toArray, List.set_cons_zero, List.set_cons_succ]))
  refine Flow.WalkL.nil ?_
  simp only [List.drop]
  clear hmx hst hstr hw1 hw2
  intro W1 hE1
  have hS1 := (hS0.ext hE1).cell
  have hS1l := (hS0.ext hE1).lt
  have hn1 : n ≤ 9216 := by have h := hk5.out; have := area_bd ⟨hk1, hk2⟩ ⟨hk3, hk4⟩; omega
  obtain ⟨Wn, rfl⟩ := Int.eq_ofNat_of_zero_le hk1
  obtain ⟨Hn, rfl⟩ := Int.eq_ofNat_of_zero_le hk3
  simp only [Int.toNat_natCast] at hR
  go_wp2_with fail
  clear hS1 hS1l
  go_loopw [12, 63] (fun o k wr => ∃ oi : Int, o = .int .i64 oi ∧
      OutP Wn Hn (colF Wn n dot) (colF Wn n dot') (rowBd Wn n dot) (rowBd Wn n dot') (X2 + Y2) st (X0 + Y1) (Y0 + X1) k oi ∧ Ext W0 wr) (fun _ k _ => 2 - (intOf k).toNat)
  case atStart => exact ⟨minI, rfl, .inl ⟨rfl, rfl⟩, hE1⟩
  case round =>
    clear hE1
    obtain ⟨oi, rfl, hO, hE⟩ := hrel
    obtain ⟨hEc, hEf⟩ := hE.rules
    rcases hO with ⟨rfl, rfl⟩ | ⟨rfl, hO⟩ | ⟨rfl, hO⟩
    · go_wp2_with fail
      refine wp_abs (fun V => Ext W0 V ∧ Blk V wr.heap.size 68 #[.func (.func 83) #[] #[], .func (.func 84) #[] #[], .bool true]) ⟨hE.alloc _, Blk.new _ _ _⟩ ?_
      rintro V ⟨hEV, hBs⟩
      clear hE hEc hEf
      obtain ⟨hVc, hVf⟩ := hEV.rules
      obtain ⟨hBsc, hBsf, hBsl⟩ := hBs.rules
      have hVs := hEV.size
      have hl1 : w.heap.size < V.heap.size := by omega
      have hl2 : w.heap.size + 1 < V.heap.size := by omega
      refine Flow.wp_flow 8 [(0, true), (1, true), (3, true), (4, true), (2, false), (5, false), (6, true), (7, true)] (by kernel_rfl) (by kernel_rfl) ?_
      simp only [List.map_cons, List.map_nil, List.getD_cons_succ, List.getD_cons_zero]
      repeat (first
        | (refine Flow.WalkL.move rfl ?_
           simp only [Act.put, Act.eval, Array.getD_eq_getD_getElem?, List.getElem?_toArray, List.getElem?_cons_succ, List.getElem?_cons_zero, Option.getD_some, List.setIfInBounds_toArray, List.set_cons_zero, List.set_cons_succ])
        | (refine Flow.WalkL.assign rfl ?_
           simp only [Act.put, Act.eval, Array.getD_eq_getD_getElem?, List.getElem?_toArray, List.getElem?_cons_succ, List.getElem?_cons_zero, Option.getD_some, List.setIfInBounds_toArray, List.set_cons_zero, List.set_cons_succ])
        | (refine Flow.WalkL.run (v := ?_) rfl (fun w1 hC => ?_) ?_
           rotate_left
           · obtain ⟨hCc, hCf⟩ := hC.rules
             go_simp
             with_reducible rfl
           simp only [Act.put, List.setIfInBounds_toArray, List.set_cons_zero, List.set_cons_succ]))
      refine Flow.WalkL.openf Tryd.func27 rfl (by kernel_rfl) rfl rfl rfl (fun v1 hv1 => ?_)
      refine (count1_any Wn Hn A n c dot v1 hok.out ((hA0.ext hEV).ext hv1)).mono ?_
      rintro e v2 ⟨g1, rfl, hC1, hg1, hv2⟩
      refine ⟨_, rfl, hv2, ?_⟩
      simp only [Act.put, List.setIfInBounds_toArray, List.set_cons_zero, List.set_cons_succ]
      refine Flow.WalkL.openf Tryd.func27 rfl (by kernel_rfl) rfl rfl rfl (fun v3 hv3 => ?_)
      refine (count1_any Wn Hn A' n c' dot' v3 hok.out ((hA0'.ext hEV).ext (hv1.trans (hv2.trans hv3)))).mono ?_
      rintro e v4 ⟨g2, rfl, hC2, hg2, hv4⟩
      refine ⟨_, rfl, hv4, ?_⟩
      simp only [Act.put, List.setIfInBounds_toArray, List.set_cons_zero, List.set_cons_succ]
      repeat (first
        | (refine Flow.WalkL.move rfl ?_
           simp only [Act.put, Act.eval, Array.getD_eq_getD_getElem?, List.getElem?_toArray, List.getElem?_cons_succ, List.getElem?_cons_zero, Option.getD_some, List.setIfInBounds_toArray, List.set_cons_zero, List.set_cons_succ])
        | (refine Flow.WalkL.assign rfl ?_
           simp only [Act.put, Act.eval, Array.getD_eq_getD_getElem?, List.getElem?_toArray, List.getElem?_cons_succ, List.getElem?_cons_zero, Option.getD_some, List.setIfInBounds_toArray, List.set_cons_zero, List.set_cons_succ])
        | (refine Flow.WalkL.run (v := ?_) rfl (fun w1 hC => ?_) ?_
           rotate_left
           · obtain ⟨hCc, hCf⟩ := hC.rules
             go_simp
             with_reducible rfl
           simp only [Act.put, List.setIfInBounds_toArray, List.set_cons_zero, List.set_cons_succ]))
      refine Flow.WalkL.nil ?_
      simp only [List.drop]
      intro v5 hv5
      have hC1' : Cts v5 g1 Wn (colF Wn n dot) := Own.ext hC1 (hv3.trans (hv4.trans hv5))
      have hC2' : Cts v5 g2 Wn (colF Wn n dot') := Own.ext hC2 hv5
      replace hEV := hEV.trans (hv1.trans (hv2.trans (hv3.trans (hv4.trans hv5))))
      clear hVc hVf hBs hBsc hBsf hBsl hC1 hC2 hv1 hv2 hv3 hv4 hv5 hg1 hg2 hVs hl1 hl2
      have hb1 := fun k => col_bd Wn n dot hn1 k
      have hb2 := fun k => col_bd Wn n dot' hn1 k
      generalize hf1 : colF Wn n dot = f1 at hC1' hb1
      generalize hf2 : colF Wn n dot' = f2 at hC2' hb2
      replace hf1 := Lib.hid hf1
      replace hf2 := Lib.hid hf2
      have hM : Wn ≤ 96 := by omega
      have hst2' : st ≤ (Wn : Int) + 8 := by omega
      have hG := fun p => lG_bd (m := Wn) (st := st) (L1 := X0 + Y1) (L2 := Y0 + X1) hM hb1 hb2 (by omega) (by omega) p
      replace hG := Lib.hid hG
      replace hb1 := Lib.hid hb1
      replace hb2 := Lib.hid hb2
      have hng : IntKind.i64.wrap (-(X2 + Y2)) = -(X2 + Y2) := by rw [IntKind.wrap_i64]; omega
      go_wp2_with fail
      go_loopw [17, 18] (fun b s wr => ∃ bi sh : Int, -(X2 + Y2) ≤ sh ∧ sh ≤ X2 + Y2 + 1 ∧ s = .int .i64 sh ∧ b = .int .i64 bi ∧
          PartMin (fun p => lS Wn (X2 + Y2) st p ∧ p.1 < sh) (lG Wn f1 f2 st (X0 + Y1) (Y0 + X1)) bi ∧ Ext v5 wr) (fun _ s _ => (X2 + Y2 + 1 - intOf s).toNat)
      case atStart => exact ⟨maxI, -(X2 + Y2), by omega, by omega, rfl, rfl, ⟨fun p hp => by have := hp.1.1; have := hp.2; omega, .inl rfl⟩, Ext.refl _⟩
      case round =>
        obtain ⟨bi, sh, hs1, hs2, rfl, rfl, hP, hE2⟩ := hrel
        by_cases hsh : sh ≤ X2 + Y2
        · go_wp2_with fail
          go_loopw [17, 19] (fun b c wr => ∃ bi cc : Int, -4 ≤ cc ∧ cc ≤ Wn + 5 - st ∧ c = .int .i64 cc ∧ b = .int .i64 bi ∧
              PartMin (fun p => lS Wn (X2 + Y2) st p ∧ (p.1 < sh ∨ p.1 = sh ∧ p.2 < cc)) (lG Wn f1 f2 st (X0 + Y1) (Y0 + X1)) bi ∧ Ext v5 wr) (fun _ c _ => (Wn + 5 - st - intOf c).toNat)
          case atStart => exact ⟨bi, -4, by omega, by omega, rfl, rfl, hP.congr fun p => ⟨fun ⟨h1, h2⟩ => ⟨h1, .inl h2⟩, fun ⟨h1, h2⟩ => ⟨h1, h2.elim id fun h => by have := h1.2.2.1; omega⟩⟩, hE2⟩
          case round =>
            clear hP hE2
            obtain ⟨bi, cc, hc1, hc2, rfl, rfl, hP, hE2⟩ := hrel
            have hC1w := Own.ext hC1' hE2
            have hC2w := Own.ext hC2' hE2
            have hmany := Cts.many hC1w
            have hgl := Own.lt hC1w
            by_cases hcc : cc ≤ Wn + 4 - st
            · have hex1 := excS_bd (m1 := Wn) (m2 := Wn) (shift := sh) (from_ := cc) (till := cc + st) hb1.out hb2.out
              have hex2 := excS_bd (m1 := Wn) (m2 := Wn) (shift := -sh) (from_ := cc - sh) (till := cc - sh + st) hb2.out hb1.out
              have hx0 := hex1.1
              have hx1 : excS Wn f1 Wn f2 sh cc (cc + st) ≤ 1000000 := by omega
              have hy0 := hex2.1
              have hy1 : excS Wn f2 Wn f1 (-sh) (cc - sh) (cc - sh + st) ≤ 1000000 := by omega
              clear hex1 hex2
              have w1 : IntKind.i64.wrap (cc + st) = cc + st := by rw [IntKind.wrap_i64]; omega
              have w2 : IntKind.i64.wrap (excS Wn f1 Wn f2 sh cc (cc + st) - X0) = excS Wn f1 Wn f2 sh cc (cc + st) - X0 := by rw [IntKind.wrap_i64]; omega
              obtain ⟨u, hu⟩ : ∃ u, excS Wn f1 Wn f2 sh cc (cc + st) - X0 - Y1 = u := ⟨_, rfl⟩
              obtain ⟨v, hv⟩ : ∃ v, excS Wn f2 Wn f1 (-sh) (cc - sh) (cc - sh + st) - Y0 - X1 = v := ⟨_, rfl⟩
              have w3 : IntKind.i64.wrap (excS Wn f1 Wn f2 sh cc (cc + st) - X0 - Y1) = u := by rw [IntKind.wrap_i64]; omega
              have w4 : IntKind.i64.wrap (-sh) = -sh := by rw [IntKind.wrap_i64]; omega
              have w5 : IntKind.i64.wrap (cc - sh) = cc - sh := by rw [IntKind.wrap_i64]; omega
              have w6 : IntKind.i64.wrap (cc - sh + st) = cc - sh + st := by rw [IntKind.wrap_i64]; omega
              have w7 : IntKind.i64.wrap (excS Wn f2 Wn f1 (-sh) (cc - sh) (cc - sh + st) - Y0) = excS Wn f2 Wn f1 (-sh) (cc - sh) (cc - sh + st) - Y0 := by rw [IntKind.wrap_i64]; omega
              have w8 : IntKind.i64.wrap (excS Wn f2 Wn f1 (-sh) (cc - sh) (cc - sh + st) - Y0 - X1) = v := by rw [IntKind.wrap_i64]; omega
              have hgq : (if u < v then v else u) = lG Wn f1 f2 st (X0 + Y1) (Y0 + X1) (sh, cc) := by unfold lG; simp only; rw [← hu, ← hv]; split <;> omega
              replace hu := Lib.hid hu
              replace hv := Lib.hid hv
              obtain ⟨gq, hq⟩ : ∃ gq, lG Wn f1 f2 st (X0 + Y1) (Y0 + X1) (sh, cc) = gq := ⟨_, rfl⟩
              rw [hq] at hgq
              replace hq := Lib.hid hq
              obtain ⟨nb, hnb⟩ : ∃ nb, (if gq < bi then gq else bi) = nb := ⟨_, rfl⟩
              have hnb' := Lib.hid hnb
              have hsh1 : -1000 ≤ sh ∧ sh ≤ 1000 := by omega
              have hsh2 : -1000 ≤ -sh ∧ -sh ≤ 1000 := by omega
              replace hsh1 := Lib.hid hsh1
              replace hsh2 := Lib.hid hsh2
              have hE0w := hEV.trans hE2
              obtain ⟨hrc, hrf⟩ := hE0w.rules
              have hsz := hE0w.size
              have hs3 : w.heap.size + 1 + 1 < wr.heap.size := by omega
              have hs4 : w.heap.size + 1 + 1 + 1 < wr.heap.size := by omega
              replace hE2 := Lib.hid hE2
              replace hE0w := Lib.hid hE0w
              go_wp2_with fail
              refine Flow.wp_flow 15 [(0, true), (1, true), (2, true), (3, true), (4, true), (5, true), (6, true), (7, true), (8, true), (9, true), (10, true), (11, true), (12, true), (13, true), (14, true)] (by kernel_rfl) (by kernel_rfl) ?_
              simp only [List.map_cons, List.map_nil, List.getD_cons_succ, List.getD_cons_zero]
              repeat (first
                | (refine Flow.WalkL.move rfl ?_
                   simp only [Act.put, Act.eval, Array.getD_eq_getD_getElem?, List.getElem?_toArray, List.getElem?_cons_succ, List.getElem?_cons_zero, Option.getD_some, List.setIfInBounds_toArray, List.set_cons_zero, List.set_cons_succ])
                | (refine Flow.WalkL.assign rfl ?_
                   simp only [Act.put, Act.eval, Array.getD_eq_getD_getElem?, List.getElem?_toArray, List.getElem?_cons_succ, List.getElem?_cons_zero, Option.getD_some, List.setIfInBounds_toArray, List.set_cons_zero, List.set_cons_succ])
                | (refine Flow.WalkL.callf Tryd.func30 rfl (by kernel_rfl) rfl (fun w1 hC => excess_any g1 g2 Wn Wn f1 f2 _ _ _ _ hM hM (Own.ext hC1w hC) (Own.ext hC2w hC) hb1.out hb2.out hsh1.out) rfl rfl ?_
                   simp only [Act.put, List.setIfInBounds_toArray, List.set_cons_zero, List.set_cons_succ])
                | (refine Flow.WalkL.run (v := ?_) rfl (fun w1 hC => ?_) ?_
                   rotate_left
                   · obtain ⟨hCc, hCf⟩ := hC.rules
                     go_simp
                     with_reducible rfl
                   simp only [Act.put, List.setIfInBounds_toArray, List.set_cons_zero, List.set_cons_succ]))
              refine Flow.WalkL.nil ?_
              simp only [List.drop]
              intro x1 hx1E
              obtain ⟨hxc, hxf⟩ := hx1E.rules
              have hsz2 := hx1E.size
              have hs5 : w.heap.size + 1 + 1 < x1.heap.size := by omega
              have hs6 : w.heap.size + 1 + 1 + 1 < x1.heap.size := by omega
              replace hx1E := Lib.hid hx1E
              go_wp2_with fail
              refine Flow.wp_flow 20 [(0, true), (1, true), (2, true), (3, true), (4, true), (5, true), (6, true), (7, true), (8, true), (9, true), (10, true), (11, true), (12, true), (13, true), (14, true), (15, true), (16, true), (17, true), (18, true), (19, true)] (by kernel_rfl) (by kernel_rfl) ?_
              simp only [List.map_cons, List.map_nil, List.getD_cons_succ, List.getD_cons_zero]
              repeat (first
                | (refine Flow.WalkL.move rfl ?_
                   simp only [Act.put, Act.eval, Array.getD_eq_getD_getElem?, List.getElem?_toArray, List.getElem?_cons_succ, List.getElem?_cons_zero, Option.getD_some, List.setIfInBounds_toArray, List.set_cons_zero, List.set_cons_succ])
                | (refine Flow.WalkL.assign rfl ?_
                   simp only [Act.put, Act.eval, Array.getD_eq_getD_getElem?, List.getElem?_toArray, List.getElem?_cons_succ, List.getElem?_cons_zero, Option.getD_some, List.setIfInBounds_toArray, List.set_cons_zero, List.set_cons_succ])
                | (refine Flow.WalkL.callf Tryd.func30 rfl (by kernel_rfl) rfl (fun w1 hC => excess_any g2 g1 Wn Wn f2 f1 _ _ _ _ hM hM (Own.ext hC2w (hx1E.out.trans hC)) (Own.ext hC1w (hx1E.out.trans hC)) hb2.out hb1.out hsh2.out) rfl rfl ?_
                   simp only [Act.put, List.setIfInBounds_toArray, List.set_cons_zero, List.set_cons_succ])
                | (refine Flow.WalkL.run (v := ?_) rfl (fun w1 hC => ?_) ?_
                   rotate_left
                   · obtain ⟨hCc, hCf⟩ := hC.rules
                     go_simp
                     with_reducible rfl
                   simp only [Act.put, List.setIfInBounds_toArray, List.set_cons_zero, List.set_cons_succ]))
              refine Flow.WalkL.nil ?_
              simp only [List.drop]
              intro x2 hx2E
              replace hx2E := Lib.hid hx2E
              go_wp2_with fail
              exact ⟨⟨nb, cc + 1, by omega, by omega, rfl, rfl, by
                rw [← hnb'.out, ← hq.out]
                refine hP.step (fun p hp => ?_) ?_ (fun p hp => ?_) (by have := (hG.out (sh, cc)).2; unfold maxI; omega)
                · obtain ⟨h1, h2⟩ := hp
                  by_cases e : p = (sh, cc)
                  · exact .inr e
                  · refine .inl ⟨h1, ?_⟩
                    rcases h2 with h2 | ⟨h2, h3⟩
                    · exact .inl h2
                    · refine .inr ⟨h2, ?_⟩
                      rcases Int.lt_or_eq_of_le (show p.2 ≤ cc by omega) with h4 | h4
                      · exact h4
                      · exact absurd (Prod.ext h2 h4) e
                · exact ⟨⟨by simp only; omega, by simp only; omega, by simp only; omega, by simp only; omega⟩, .inr ⟨rfl, by simp only; omega⟩⟩
                · exact ⟨hp.1, hp.2.imp id fun h => ⟨h.1, by omega⟩⟩, hE2.out.trans (hx1E.out.trans hx2E.out)⟩, by simp only [intOf]; omega⟩
            · go_wp2_with fail
              exact ⟨⟨bi, sh + 1, by omega, by omega, rfl, rfl, hP.congr fun p => ⟨fun ⟨h1, h2⟩ => ⟨h1, by omega⟩, fun ⟨h1, h2⟩ => ⟨h1, by have := h1.2.2.2; omega⟩⟩, hE2⟩, by simp only [intOf]; omega⟩
        · have hmin : IsMin (lS Wn (X2 + Y2) st) (lG Wn f1 f2 st (X0 + Y1) (Y0 + X1)) bi :=
            (hP.congr (Q' := lS Wn (X2 + Y2) st) fun p => ⟨fun h => h.1, fun h => ⟨h, by have := h.2.1; omega⟩⟩).isMin (-(X2 + Y2), -4) ⟨by simp only; omega, by simp only; omega, by simp only; omega, by simp only; omega⟩ (by have := (hG.out (-(X2 + Y2), -4)).2; unfold maxI; omega)
          rw [← hf1.out, ← hf2.out] at hmin
          rw [← hf1.out, ← hf2.out] at hG
          have hlt : (-9223372036854775808 : Int) < bi := by have := hmin.1; obtain ⟨p, _, hp⟩ := this; have := (hG.out p).1; omega
          have hmi : minI = -9223372036854775808 := rfl
          rw [hmi]
          go_wp2_with fail
          exact ⟨⟨bi, rfl, .inr (.inl ⟨rfl, hmin⟩), hEV.trans hE2⟩, by simp only [intOf]; omega⟩
    · by_cases hst : 0 < st
      · go_wp2_with fail
        exact ⟨⟨oi, rfl, .inr (.inr ⟨rfl, oi, hO, fun _ => rfl, fun h => by omega⟩), hE.alloc _⟩, by simp only [intOf]; omega⟩
      · have hst' : st ≤ 0 := by omega
        clear hst
        go_wp2_with fail
        refine wp_abs (fun V => Ext W0 V ∧ Blk V wr.heap.size 68 #[.func (.func 85) #[] #[], .func (.func 86) #[] #[], .bool false]) ⟨hE.alloc _, Blk.new _ _ _⟩ ?_
        rintro V ⟨hEV, hBs⟩
        clear hE hEc hEf
        obtain ⟨hVc, hVf⟩ := hEV.rules
        obtain ⟨hBsc, hBsf, hBsl⟩ := hBs.rules
        have hVs := hEV.size
        have hl1 : w.heap.size < V.heap.size := by omega
        have hl2 : w.heap.size + 1 < V.heap.size := by omega
        refine Flow.wp_flow 8 [(0, true), (1, true), (3, true), (4, true), (2, false), (5, false), (6, true), (7, true)] (by kernel_rfl) (by kernel_rfl) ?_
        simp only [List.map_cons, List.map_nil, List.getD_cons_succ, List.getD_cons_zero]
        repeat (first
          | (refine Flow.WalkL.move rfl ?_
             simp only [Act.put, Act.eval, Array.getD_eq_getD_getElem?, List.getElem?_toArray, List.getElem?_cons_succ, List.getElem?_cons_zero, Option.getD_some, List.setIfInBounds_toArray, List.set_cons_zero, List.set_cons_succ])
          | (refine Flow.WalkL.assign rfl ?_
             simp only [Act.put, Act.eval, Array.getD_eq_getD_getElem?, List.getElem?_toArray, List.getElem?_cons_succ, List.getElem?_cons_zero, Option.getD_some, List.setIfInBounds_toArray, List.set_cons_zero, List.set_cons_succ])
          | (refine Flow.WalkL.run (v := ?_) rfl (fun w1 hC => ?_) ?_
             rotate_left
             · obtain ⟨hCc, hCf⟩ := hC.rules
               go_simp
               with_reducible rfl
             simp only [Act.put, List.setIfInBounds_toArray, List.set_cons_zero, List.set_cons_succ]))
        refine Flow.WalkL.openf Tryd.func27 rfl (by kernel_rfl) rfl rfl rfl (fun v1 hv1 => ?_)
        refine (count2_any Wn Hn A n c dot v1 hok.out ((hA0.ext hEV).ext hv1)).mono ?_
        rintro e v2 ⟨g1, rfl, hC1, hg1, hv2⟩
        refine ⟨_, rfl, hv2, ?_⟩
        simp only [Act.put, List.setIfInBounds_toArray, List.set_cons_zero, List.set_cons_succ]
        refine Flow.WalkL.openf Tryd.func27 rfl (by kernel_rfl) rfl rfl rfl (fun v3 hv3 => ?_)
        refine (count2_any Wn Hn A' n c' dot' v3 hok.out ((hA0'.ext hEV).ext (hv1.trans (hv2.trans hv3)))).mono ?_
        rintro e v4 ⟨g2, rfl, hC2, hg2, hv4⟩
        refine ⟨_, rfl, hv4, ?_⟩
        simp only [Act.put, List.setIfInBounds_toArray, List.set_cons_zero, List.set_cons_succ]
        repeat (first
          | (refine Flow.WalkL.move rfl ?_
             simp only [Act.put, Act.eval, Array.getD_eq_getD_getElem?, List.getElem?_toArray, List.getElem?_cons_succ, List.getElem?_cons_zero, Option.getD_some, List.setIfInBounds_toArray, List.set_cons_zero, List.set_cons_succ])
          | (refine Flow.WalkL.assign rfl ?_
             simp only [Act.put, Act.eval, Array.getD_eq_getD_getElem?, List.getElem?_toArray, List.getElem?_cons_succ, List.getElem?_cons_zero, Option.getD_some, List.setIfInBounds_toArray, List.set_cons_zero, List.set_cons_succ])
          | (refine Flow.WalkL.run (v := ?_) rfl (fun w1 hC => ?_) ?_
             rotate_left
             · obtain ⟨hCc, hCf⟩ := hC.rules
               go_simp
               with_reducible rfl
             simp only [Act.put, List.setIfInBounds_toArray, List.set_cons_zero, List.set_cons_succ]))
        refine Flow.WalkL.nil ?_
        simp only [List.drop]
        intro v5 hv5
        have hC1' : Cts v5 g1 Hn (rowBd Wn n dot) := Own.ext hC1 (hv3.trans (hv4.trans hv5))
        have hC2' : Cts v5 g2 Hn (rowBd Wn n dot') := Own.ext hC2 hv5
        replace hEV := hEV.trans (hv1.trans (hv2.trans (hv3.trans (hv4.trans hv5))))
        clear hVc hVf hBs hBsc hBsf hBsl hC1 hC2 hv1 hv2 hv3 hv4 hv5 hg1 hg2 hVs hl1 hl2
        have hb1 := fun k => row_bd Wn n dot hn1 k
        have hb2 := fun k => row_bd Wn n dot' hn1 k
        generalize hf1 : rowBd Wn n dot = f1 at hC1' hb1
        generalize hf2 : rowBd Wn n dot' = f2 at hC2' hb2
        replace hf1 := Lib.hid hf1
        replace hf2 := Lib.hid hf2
        have hM : Hn ≤ 96 := by omega
        have hst2' : st ≤ (Hn : Int) + 8 := by omega
        have hG := fun p => lG_bd (m := Hn) (st := st) (L1 := X0 + Y1) (L2 := Y0 + X1) hM hb1 hb2 (by omega) (by omega) p
        replace hG := Lib.hid hG
        replace hb1 := Lib.hid hb1
        replace hb2 := Lib.hid hb2
        have hng : IntKind.i64.wrap (-(X2 + Y2)) = -(X2 + Y2) := by rw [IntKind.wrap_i64]; omega
        go_wp2_with fail
        go_loopw [17, 18] (fun b s wr => ∃ bi sh : Int, -(X2 + Y2) ≤ sh ∧ sh ≤ X2 + Y2 + 1 ∧ s = .int .i64 sh ∧ b = .int .i64 bi ∧
            PartMin (fun p => lS Hn (X2 + Y2) st p ∧ p.1 < sh) (lG Hn f1 f2 st (X0 + Y1) (Y0 + X1)) bi ∧ Ext v5 wr) (fun _ s _ => (X2 + Y2 + 1 - intOf s).toNat)
        case atStart => exact ⟨maxI, -(X2 + Y2), by omega, by omega, rfl, rfl, ⟨fun p hp => by have := hp.1.1; have := hp.2; omega, .inl rfl⟩, Ext.refl _⟩
        case round =>
          obtain ⟨bi, sh, hs1, hs2, rfl, rfl, hP, hE2⟩ := hrel
          by_cases hsh : sh ≤ X2 + Y2
          · go_wp2_with fail
            go_loopw [17, 19] (fun b c wr => ∃ bi cc : Int, -4 ≤ cc ∧ cc ≤ Hn + 5 - st ∧ c = .int .i64 cc ∧ b = .int .i64 bi ∧
                PartMin (fun p => lS Hn (X2 + Y2) st p ∧ (p.1 < sh ∨ p.1 = sh ∧ p.2 < cc)) (lG Hn f1 f2 st (X0 + Y1) (Y0 + X1)) bi ∧ Ext v5 wr) (fun _ c _ => (Hn + 5 - st - intOf c).toNat)
            case atStart => exact ⟨bi, -4, by omega, by omega, rfl, rfl, hP.congr fun p => ⟨fun ⟨h1, h2⟩ => ⟨h1, .inl h2⟩, fun ⟨h1, h2⟩ => ⟨h1, h2.elim id fun h => by have := h1.2.2.1; omega⟩⟩, hE2⟩
            case round =>
              clear hP hE2
              obtain ⟨bi, cc, hc1, hc2, rfl, rfl, hP, hE2⟩ := hrel
              have hC1w := Own.ext hC1' hE2
              have hC2w := Own.ext hC2' hE2
              have hmany := Cts.many hC1w
              have hgl := Own.lt hC1w
              by_cases hcc : cc ≤ Hn + 4 - st
              · have hex1 := excS_bd (m1 := Hn) (m2 := Hn) (shift := sh) (from_ := cc) (till := cc + st) hb1.out hb2.out
                have hex2 := excS_bd (m1 := Hn) (m2 := Hn) (shift := -sh) (from_ := cc - sh) (till := cc - sh + st) hb2.out hb1.out
                have hx0 := hex1.1
                have hx1 : excS Hn f1 Hn f2 sh cc (cc + st) ≤ 1000000 := by omega
                have hy0 := hex2.1
                have hy1 : excS Hn f2 Hn f1 (-sh) (cc - sh) (cc - sh + st) ≤ 1000000 := by omega
                clear hex1 hex2
                have w1 : IntKind.i64.wrap (cc + st) = cc + st := by rw [IntKind.wrap_i64]; omega
                have w2 : IntKind.i64.wrap (excS Hn f1 Hn f2 sh cc (cc + st) - X0) = excS Hn f1 Hn f2 sh cc (cc + st) - X0 := by rw [IntKind.wrap_i64]; omega
                obtain ⟨u, hu⟩ : ∃ u, excS Hn f1 Hn f2 sh cc (cc + st) - X0 - Y1 = u := ⟨_, rfl⟩
                obtain ⟨v, hv⟩ : ∃ v, excS Hn f2 Hn f1 (-sh) (cc - sh) (cc - sh + st) - Y0 - X1 = v := ⟨_, rfl⟩
                have w3 : IntKind.i64.wrap (excS Hn f1 Hn f2 sh cc (cc + st) - X0 - Y1) = u := by rw [IntKind.wrap_i64]; omega
                have w4 : IntKind.i64.wrap (-sh) = -sh := by rw [IntKind.wrap_i64]; omega
                have w5 : IntKind.i64.wrap (cc - sh) = cc - sh := by rw [IntKind.wrap_i64]; omega
                have w6 : IntKind.i64.wrap (cc - sh + st) = cc - sh + st := by rw [IntKind.wrap_i64]; omega
                have w7 : IntKind.i64.wrap (excS Hn f2 Hn f1 (-sh) (cc - sh) (cc - sh + st) - Y0) = excS Hn f2 Hn f1 (-sh) (cc - sh) (cc - sh + st) - Y0 := by rw [IntKind.wrap_i64]; omega
                have w8 : IntKind.i64.wrap (excS Hn f2 Hn f1 (-sh) (cc - sh) (cc - sh + st) - Y0 - X1) = v := by rw [IntKind.wrap_i64]; omega
                have hgq : (if u < v then v else u) = lG Hn f1 f2 st (X0 + Y1) (Y0 + X1) (sh, cc) := by unfold lG; simp only; rw [← hu, ← hv]; split <;> omega
                replace hu := Lib.hid hu
                replace hv := Lib.hid hv
                obtain ⟨gq, hq⟩ : ∃ gq, lG Hn f1 f2 st (X0 + Y1) (Y0 + X1) (sh, cc) = gq := ⟨_, rfl⟩
                rw [hq] at hgq
                replace hq := Lib.hid hq
                obtain ⟨nb, hnb⟩ : ∃ nb, (if gq < bi then gq else bi) = nb := ⟨_, rfl⟩
                have hnb' := Lib.hid hnb
                have hsh1 : -1000 ≤ sh ∧ sh ≤ 1000 := by omega
                have hsh2 : -1000 ≤ -sh ∧ -sh ≤ 1000 := by omega
                replace hsh1 := Lib.hid hsh1
                replace hsh2 := Lib.hid hsh2
                have hE0w := hEV.trans hE2
                obtain ⟨hrc, hrf⟩ := hE0w.rules
                have hsz := hE0w.size
                have hs3 : w.heap.size + 1 + 1 < wr.heap.size := by omega
                have hs4 : w.heap.size + 1 + 1 + 1 < wr.heap.size := by omega
                replace hE2 := Lib.hid hE2
                replace hE0w := Lib.hid hE0w
                go_wp2_with fail
                refine Flow.wp_flow 15 [(0, true), (1, true), (2, true), (3, true), (4, true), (5, true), (6, true), (7, true), (8, true), (9, true), (10, true), (11, true), (12, true), (13, true), (14, true)] (by kernel_rfl) (by kernel_rfl) ?_
                simp only [List.map_cons, List.map_nil, List.getD_cons_succ, List.getD_cons_zero]
                repeat (first
                  | (refine Flow.WalkL.move rfl ?_
                     simp only [Act.put, Act.eval, Array.getD_eq_getD_getElem?, List.getElem?_toArray, List.getElem?_cons_succ, List.getElem?_cons_zero, Option.getD_some, List.setIfInBounds_toArray, List.set_cons_zero, List.set_cons_succ])
                  | (refine Flow.WalkL.assign rfl ?_
                     simp only [Act.put, Act.eval, Array.getD_eq_getD_getElem?, List.getElem?_toArray, List.getElem?_cons_succ, List.getElem?_cons_zero, Option.getD_some, List.setIfInBounds_toArray, List.set_cons_zero, List.set_cons_succ])
                  | (refine Flow.WalkL.callf Tryd.func30 rfl (by kernel_rfl) rfl (fun w1 hC => excess_any g1 g2 Hn Hn f1 f2 _ _ _ _ hM hM (Own.ext hC1w hC) (Own.ext hC2w hC) hb1.out hb2.out hsh1.out) rfl rfl ?_
                     simp only [Act.put, List.setIfInBounds_toArray, List.set_cons_zero, List.set_cons_succ])
                  | (refine Flow.WalkL.run (v := ?_) rfl (fun w1 hC => ?_) ?_
                     rotate_left
                     · obtain ⟨hCc, hCf⟩ := hC.rules
                       go_simp
                       with_reducible rfl
                     simp only [Act.put, List.setIfInBounds_toArray, List.set_cons_zero, List.set_cons_succ]))
                refine Flow.WalkL.nil ?_
                simp only [List.drop]
                intro x1 hx1E
                obtain ⟨hxc, hxf⟩ := hx1E.rules
                have hsz2 := hx1E.size
                have hs5 : w.heap.size + 1 + 1 < x1.heap.size := by omega
                have hs6 : w.heap.size + 1 + 1 + 1 < x1.heap.size := by omega
                replace hx1E := Lib.hid hx1E
                go_wp2_with fail
                refine Flow.wp_flow 20 [(0, true), (1, true), (2, true), (3, true), (4, true), (5, true), (6, true), (7, true), (8, true), (9, true), (10, true), (11, true), (12, true), (13, true), (14, true), (15, true), (16, true), (17, true), (18, true), (19, true)] (by kernel_rfl) (by kernel_rfl) ?_
                simp only [List.map_cons, List.map_nil, List.getD_cons_succ, List.getD_cons_zero]
                repeat (first
                  | (refine Flow.WalkL.move rfl ?_
                     simp only [Act.put, Act.eval, Array.getD_eq_getD_getElem?, List.getElem?_toArray, List.getElem?_cons_succ, List.getElem?_cons_zero, Option.getD_some, List.setIfInBounds_toArray, List.set_cons_zero, List.set_cons_succ])
                  | (refine Flow.WalkL.assign rfl ?_
                     simp only [Act.put, Act.eval, Array.getD_eq_getD_getElem?, List.getElem?_toArray, List.getElem?_cons_succ, List.getElem?_cons_zero, Option.getD_some, List.setIfInBounds_toArray, List.set_cons_zero, List.set_cons_succ])
                  | (refine Flow.WalkL.callf Tryd.func30 rfl (by kernel_rfl) rfl (fun w1 hC => excess_any g2 g1 Hn Hn f2 f1 _ _ _ _ hM hM (Own.ext hC2w (hx1E.out.trans hC)) (Own.ext hC1w (hx1E.out.trans hC)) hb2.out hb1.out hsh2.out) rfl rfl ?_
                     simp only [Act.put, List.setIfInBounds_toArray, List.set_cons_zero, List.set_cons_succ])
                  | (refine Flow.WalkL.run (v := ?_) rfl (fun w1 hC => ?_) ?_
                     rotate_left
                     · obtain ⟨hCc, hCf⟩ := hC.rules
                       go_simp
                       with_reducible rfl
                     simp only [Act.put, List.setIfInBounds_toArray, List.set_cons_zero, List.set_cons_succ]))
                refine Flow.WalkL.nil ?_
                simp only [List.drop]
                intro x2 hx2E
                replace hx2E := Lib.hid hx2E
                go_wp2_with fail
                exact ⟨⟨nb, cc + 1, by omega, by omega, rfl, rfl, by
                  rw [← hnb'.out, ← hq.out]
                  refine hP.step (fun p hp => ?_) ?_ (fun p hp => ?_) (by have := (hG.out (sh, cc)).2; unfold maxI; omega)
                  · obtain ⟨h1, h2⟩ := hp
                    by_cases e : p = (sh, cc)
                    · exact .inr e
                    · refine .inl ⟨h1, ?_⟩
                      rcases h2 with h2 | ⟨h2, h3⟩
                      · exact .inl h2
                      · refine .inr ⟨h2, ?_⟩
                        rcases Int.lt_or_eq_of_le (show p.2 ≤ cc by omega) with h4 | h4
                        · exact h4
                        · exact absurd (Prod.ext h2 h4) e
                  · exact ⟨⟨by simp only; omega, by simp only; omega, by simp only; omega, by simp only; omega⟩, .inr ⟨rfl, by simp only; omega⟩⟩
                  · exact ⟨hp.1, hp.2.imp id fun h => ⟨h.1, by omega⟩⟩, hE2.out.trans (hx1E.out.trans hx2E.out)⟩, by simp only [intOf]; omega⟩
              · go_wp2_with fail
                exact ⟨⟨bi, sh + 1, by omega, by omega, rfl, rfl, hP.congr fun p => ⟨fun ⟨h1, h2⟩ => ⟨h1, by omega⟩, fun ⟨h1, h2⟩ => ⟨h1, by have := h1.2.2.2; omega⟩⟩, hE2⟩, by simp only [intOf]; omega⟩
          · have hmin : IsMin (lS Hn (X2 + Y2) st) (lG Hn f1 f2 st (X0 + Y1) (Y0 + X1)) bi :=
              (hP.congr (Q' := lS Hn (X2 + Y2) st) fun p => ⟨fun h => h.1, fun h => ⟨h, by have := h.2.1; omega⟩⟩).isMin (-(X2 + Y2), -4) ⟨by simp only; omega, by simp only; omega, by simp only; omega, by simp only; omega⟩ (by have := (hG.out (-(X2 + Y2), -4)).2; unfold maxI; omega)
            rw [← hf1.out, ← hf2.out] at hmin
            rw [← hf1.out, ← hf2.out] at hG
            obtain ⟨nb, hnb⟩ : ∃ nb, (if oi < bi then bi else oi) = nb := ⟨_, rfl⟩
            have hnb' := Lib.hid hnb
            go_wp2_with fail
            exact ⟨⟨nb, rfl, .inr (.inr ⟨rfl, oi, hO, fun h => by omega, fun _ => ⟨bi, hmin, by rw [← hnb'.out]; split <;> omega⟩⟩), hEV.trans hE2⟩, by simp only [intOf]; omega⟩
    · go_wp2_with fail
      exact hR.out oi _ hO (hE0.out.trans hE)

/-- Least of two comparable bitmaps. -/
theorem Least_ok (W H : Int) (A : Option Addr) (n c : Nat) (A' : Option Addr) (c' : Nat) (dot dot' : Nat → Bool) (x0 x1 x2 x3 y0 y1 y2 y3 : Int) (w : World) (hok : chk W H n = 0)
    (hA : Bools w A n dot) (hA' : Bools w A' n dot') (hS : Sides w) :
    Calls Tryd.prog 15 #[bmp W H A n c, bmp W H A' n c', bud x0 x1 x2 x3, bud y0 y1 y2 y3] w (LeastPost W H n dot dot' x0 x1 x2 x3 y0 y1 y2 y3 w) :=
  Least_aux W H A n c A' c' dot dot' x0 x1 x2 x3 y0 y1 y2 y3 w hok hA hA' hS _ fun v w' hv hE => ⟨v, rfl, hv, hE⟩
end Go.Proofs.YtfgcogkhnnflcaaDoor
end

section
namespace Go.Proofs.YtfgcogkhnnflcaaDoor
open Go.RowKit Go.Flow Go.Plain
open Go.Proofs
attribute [local go_sem] block_add
attribute [local go_sem ↓] Go.wp_at_zero Go.wp_at_succ

/-- The least so far, and whether there is one. -/
def RefMin (Q : Int × Int → Prop) (f : Int × Int → Int) (b : Int) (some_ : Bool) : Prop := (∀ p, Q p → some_ = true ∧ b ≤ f p) ∧ (some_ = true → ∃ p, Q p ∧ f p = b)
theorem RefMin.congr {Q Q' : Int × Int → Prop} {f : Int × Int → Int} {b : Int} {s : Bool} (h : RefMin Q f b s) (hQ : ∀ p, Q p ↔ Q' p) : RefMin Q' f b s :=
  ⟨fun p hp => h.1 p ((hQ p).2 hp), fun hs => let ⟨p, h1, h2⟩ := h.2 hs; ⟨p, (hQ p).1 h1, h2⟩⟩
theorem RefMin.isMin {Q : Int × Int → Prop} {f : Int × Int → Int} {b : Int} {s : Bool} (h : RefMin Q f b s) (q : Int × Int) (hq : Q q) : IsMin Q f b := ⟨h.2 (h.1 q hq).1, fun p hp => (h.1 p hp).2⟩
theorem RefMin.step {Q Q' : Int × Int → Prop} {f : Int × Int → Int} {b : Int} {s : Bool} {q : Int × Int} (h : RefMin Q f b s) (hQ : ∀ p, Q' p → Q p ∨ f p = f q) (hq : Q' q) (hsub : ∀ p, Q p → Q' p)
    (hc : s = false ∨ f q < b) : RefMin Q' f (f q) true := by
  refine ⟨fun p hp => ⟨rfl, ?_⟩, fun _ => ⟨q, hq, rfl⟩⟩
  rcases hQ p hp with h1 | h1
  · have := h.1 p h1
    rcases hc with hc | hc
    · rw [hc] at this; cases this.1
    · omega
  · omega
end Go.Proofs.YtfgcogkhnnflcaaDoor
end

section
namespace Go.Proofs.YtfgcogkhnnflcaaDoor
open Go.RowKit Go.Flow Go.Plain
open Go.Proofs

def minTo (f : Nat → Int) : Nat → Int
  | 0 => f 0
  | n + 1 => min (minTo f n) (f (n + 1))
theorem minTo_le (f : Nat → Int) : ∀ (n k : Nat), k ≤ n → minTo f n ≤ f k
  | 0, k, h => by obtain rfl : k = 0 := by omega
                  exact Int.le_refl _
  | n + 1, k, h => by
    unfold minTo
    by_cases e : k = n + 1
    · subst e; omega
    · have := minTo_le f n k (by omega); omega
theorem minTo_mem (f : Nat → Int) : ∀ n : Nat, ∃ k, k ≤ n ∧ f k = minTo f n
  | 0 => ⟨0, Nat.le_refl _, rfl⟩
  | n + 1 => by
    obtain ⟨k, hk, he⟩ := minTo_mem f n
    unfold minTo
    by_cases h : minTo f n ≤ f (n + 1)
    · exact ⟨k, by omega, by omega⟩
    · exact ⟨n + 1, Nat.le_refl _, by omega⟩
/-- The least over all shifts and strips. -/
def leastOf (m : Nat) (most st : Int) (g : Int × Int → Int) : Int := minTo (fun i => minTo (fun j => g (-most + (i : Int), -4 + (j : Int))) ((m : Int) + 8 - st).toNat) (2 * most).toNat
theorem leastOf_isMin {m : Nat} {most st : Int} {g : Int × Int → Int} (h0 : 0 ≤ most) (hst : st ≤ (m : Int) + 8) : IsMin (lS m most st) g (leastOf m most st g) := by
  constructor
  · obtain ⟨i, hi, he⟩ := minTo_mem (fun i => minTo (fun j => g (-most + (i : Int), -4 + (j : Int))) ((m : Int) + 8 - st).toNat) (2 * most).toNat
    obtain ⟨j, hj, he'⟩ := minTo_mem (fun j => g (-most + (i : Int), -4 + (j : Int))) ((m : Int) + 8 - st).toNat
    refine ⟨(-most + (i : Int), -4 + (j : Int)), ⟨by simp only; omega, by simp only; omega, by simp only; omega, by simp only; omega⟩, ?_⟩
    unfold leastOf
    rw [← he]
    exact he'
  · rintro ⟨p, q⟩ ⟨h1, h2, h3, h4⟩
    simp only at h1 h2 h3 h4
    have a1 := minTo_le (fun i => minTo (fun j => g (-most + (i : Int), -4 + (j : Int))) ((m : Int) + 8 - st).toNat) (2 * most).toNat (p + most).toNat (by omega)
    have a2 := minTo_le (fun j => g (-most + (((p + most).toNat : Nat) : Int), -4 + (j : Int))) ((m : Int) + 8 - st).toNat (q + 4).toNat (by omega)
    rw [show -most + (((p + most).toNat : Nat) : Int) = p by omega] at a1 a2
    rw [show -4 + (((q + 4).toNat : Nat) : Int) = q by omega] at a2
    unfold leastOf
    omega

theorem LeastV.unique {W H : Int} {n : Nat} {dot dot' : Nat → Bool} {x0 x1 x2 x3 y0 y1 y2 y3 v v' : Int} (h0 : 0 ≤ stripOf W x3 y3) (h : LeastV W H n dot dot' x0 x1 x2 x3 y0 y1 y2 y3 v)
    (h' : LeastV W H n dot dot' x0 x1 x2 x3 y0 y1 y2 y3 v') : v = v' := by
  obtain ⟨b, hb, h1, h2⟩ := h
  obtain ⟨b', hb', h1', h2'⟩ := h'
  have e := hb.unique hb'
  by_cases hz : 0 < stripOf W x3 y3
  · rw [h1 hz, h1' hz, e]
  · have hz' : stripOf W x3 y3 = 0 := by omega
    obtain ⟨r, hr, e1⟩ := h2 hz'
    obtain ⟨r', hr', e2⟩ := h2' hz'
    rw [e1, e2, e, hr.unique hr']

def leastC (W H : Int) (n : Nat) (dot dot' : Nat → Bool) (x0 x1 x2 x3 y0 y1 y2 y3 : Int) : Int :=
  let c := leastOf W.toNat (x2 + y2) (stripOf W x3 y3) (lG W.toNat (colF W n dot) (colF W n dot') (stripOf W x3 y3) (x0 + y1) (y0 + x1))
  if 0 < stripOf W x3 y3 then c else max c (leastOf H.toNat (x2 + y2) (stripOf W x3 y3) (lG H.toNat (rowBd W n dot) (rowBd W n dot') (stripOf W x3 y3) (x0 + y1) (y0 + x1)))
theorem leastC_V {W H : Int} {n : Nat} {dot dot' : Nat → Bool} {x0 x1 x2 x3 y0 y1 y2 y3 : Int} (hW : 0 ≤ W) (hH : 0 ≤ H) (hx2 : 0 ≤ x2) (hy2 : 0 ≤ y2) (hx3 : 0 ≤ x3) :
    LeastV W H n dot dot' x0 x1 x2 x3 y0 y1 y2 y3 (leastC W H n dot dot' x0 x1 x2 x3 y0 y1 y2 y3) := by
  have hs0 : 0 ≤ stripOf W x3 y3 := by unfold stripOf; omega
  have hs1 : stripOf W x3 y3 ≤ ((W.toNat : Nat) : Int) + 8 := by unfold stripOf; omega
  refine ⟨_, leastOf_isMin (by omega) hs1, fun h => ?_, fun h => ⟨_, leastOf_isMin (by omega) (by omega), ?_⟩⟩
  · unfold leastC; simp only; rw [if_pos h]
  · unfold leastC; simp only; rw [if_neg (by omega)]

/-- Whether two bitmaps can be compared, and what Least returns. -/
def okN (W H : Int) (n : Nat) (W' H' : Int) (n' : Nat) : Bool := decide (bothOk W H n W' H' n')
def leastN (W H : Int) (n : Nat) (dot : Nat → Bool) (W' H' : Int) (n' : Nat) (dot' : Nat → Bool) (x0 x1 x2 x3 y0 y1 y2 y3 : Int) : Int :=
  if okN W H n W' H' n' then leastC W H n dot dot' (lim x0 200) (lim x1 200) (lim x2 2) (lim x3 16) (lim y0 200) (lim y1 200) (lim y2 2) (lim y3 16) else 0

theorem leastN_post {W H : Int} {n : Nat} {dot dot' : Nat → Bool} {x0 x1 x2 x3 y0 y1 y2 y3 : Int} {w : World} (hok : chk W H n = 0) {e : Ending} {w' : World}
    (h : LeastPost W H n dot dot' x0 x1 x2 x3 y0 y1 y2 y3 w e w') : e = .returned (.tuple #[.int .i64 (leastN W H n dot W H n dot' x0 x1 x2 x3 y0 y1 y2 y3), .bool (okN W H n W H n)]) ∧ Ext w w' := by
  obtain ⟨v, rfl, hv, hE⟩ := h
  have hk := okB hok
  have hb : bothOk W H n W H n := ⟨hok, hok, rfl, rfl⟩
  have ho : okN W H n W H n = true := by unfold okN; exact decide_eq_true hb
  have l2 := lim_bnd x2 2 (by omega)
  have l2' := lim_bnd y2 2 (by omega)
  have l3 := lim_bnd x3 16 (by omega)
  have hs0 : 0 ≤ stripOf W (lim x3 16) (lim y3 16) := by unfold stripOf; omega
  have e1 : v = leastN W H n dot W H n dot' x0 x1 x2 x3 y0 y1 y2 y3 := by
    unfold leastN
    rw [ho, if_pos rfl]
    exact hv.unique hs0 (leastC_V hk.1 hk.2.2.1 l2.1 l2'.1 l3.1)
  exact ⟨by rw [e1, ho], hE⟩

theorem okN_false {W H : Int} {n : Nat} {W' H' : Int} {n' : Nat} (h : ¬ bothOk W H n W' H' n') : okN W H n W' H' n' = false := decide_eq_false h
theorem leastN_bad {W H : Int} {n : Nat} {dot : Nat → Bool} {W' H' : Int} {n' : Nat} {dot' : Nat → Bool} {x0 x1 x2 x3 y0 y1 y2 y3 : Int} (h : ¬ bothOk W H n W' H' n') :
    leastN W H n dot W' H' n' dot' x0 x1 x2 x3 y0 y1 y2 y3 = 0 := by unfold leastN; rw [okN_false h]; rfl
theorem chk_len {W H : Int} {n n' : Nat} (h : chk W H n = 0) (h' : chk W H n' = 0) : n = n' := by
  have := (okB h).2.2.2.2
  have := (okB h').2.2.2.2
  omega

/-- Least, whatever it is given. -/
theorem Least_any (W H : Int) (A : Option Addr) (n c : Nat) (dot : Nat → Bool) (W' H' : Int) (A' : Option Addr) (n' c' : Nat) (dot' : Nat → Bool) (x0 x1 x2 x3 y0 y1 y2 y3 : Int) (w : World)
    (hA : Bools w A n dot) (hA' : Bools w A' n' dot') (hS : Sides w) :
    Calls Tryd.prog 15 #[bmp W H A n c, bmp W' H' A' n' c', bud x0 x1 x2 x3, bud y0 y1 y2 y3] w fun e w' =>
      e = .returned (.tuple #[.int .i64 (leastN W H n dot W' H' n' dot' x0 x1 x2 x3 y0 y1 y2 y3), .bool (okN W H n W' H' n')]) ∧ Ext w w' := by
  by_cases h : bothOk W H n W' H' n'
  · obtain ⟨h1, h2, rfl, rfl⟩ := h
    obtain rfl := chk_len h1 h2
    exact (Least_ok W H A n c A' c' dot dot' x0 x1 x2 x3 y0 y1 y2 y3 w h1 hA hA' hS).mono fun e w' h => leastN_post h1 h
  · rw [leastN_bad h, okN_false h]
    exact Least_bad W H A n c W' H' A' n' c' x0 x1 x2 x3 y0 y1 y2 y3 w h
end Go.Proofs.YtfgcogkhnnflcaaDoor
end
