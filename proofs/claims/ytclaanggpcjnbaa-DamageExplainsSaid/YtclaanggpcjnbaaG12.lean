/- Parts of the proof: Low, Img, ImgPutP, Same, ImgPut. -/
import Derived.Test.YtclaanggpcjnbaaProg
import Derived.Test.YtclaanggpcjnbaaG02
import Derived.Lib.Hide
import Derived.Deep.QuietTactic
import Derived.BigQuiet
import Derived.Deep.DrawnRows
set_option linter.unusedSimpArgs false
set_option linter.unusedVariables false
section
/- The contracts of the small functions. No condition but those that each states. -/
namespace Go.Proofs.Ytclaanggpcjnbaa
open Go.RowKit Go.Flow
open Go.Proofs
attribute [local go_sem] block_add
attribute [local go_sem ↓] Go.wp_at_zero Go.wp_at_succ

theorem ret_int {k : IntKind} {a b : Int} (h : a = b) : Ending.returned (.int k a) = .returned (.int k b) := by rw [h]
theorem ret_bool {a b : Bool} (h : a = b) : Ending.returned (.bool a) = .returned (.bool b) := by rw [h]

def lim (n m : Int) : Int := max 0 (min n m)

theorem between_any (n m : Int) (w : World) :
    Calls Try.prog 48 #[.int .i64 n, .int .i64 m] w fun e w' => e = .returned (.int .i64 (lim n m)) ∧ w = w' := by
  go_enter Try.func48, Try.ntmps48
  go_wp2
  all_goals go_ret
  all_goals exact ⟨ret_int (by unfold lim; omega), rfl⟩

def sideB (n : Int) : Bool := decide (0 ≤ n ∧ n ≤ 96)

theorem side_any (n : Int) (w : World) :
    Calls Try.prog 49 #[.int .i64 n] w fun e w' => e = .returned (.bool (sideB n)) ∧ w = w' := by
  go_enter Try.func49, Try.ntmps49
  go_wp2
  all_goals go_ret
  all_goals exact ⟨ret_bool (by unfold sideB; simp; omega), rfl⟩

/-- A budget's four numbers. -/
abbrev bud (a b c d : Int) : Value := .agg #[.int .i64 a, .int .i64 b, .int .i64 c, .int .i64 d]

set_option maxHeartbeats 400000 in
theorem Limited_any (a b c d : Int) (w : World) :
    Calls Try.prog 31 #[bud a b c d] w fun e w' => e = .returned (bud (lim a 200) (lim b 200) (lim c 2) (lim d 16)) ∧ Ext w w' := by
  go_enter Try.func31, Try.ntmps31
  go_wp2_with fail
  refine wp_abs (fun W => Ext w W ∧ Blk W w.heap.size 24 #[.int .i64 a, .int .i64 b, .int .i64 c, .int .i64 d] ∧ Blk W (w.heap.size + 1) 24 #[.int .i64 0, .int .i64 0, .int .i64 0, .int .i64 0])
    ⟨((Ext.refl w).alloc _).alloc _, (Blk.new _ _ _).alloc _, Blk.new' (by simp) _ _⟩ ?_
  rintro W ⟨hw, hb1, hb2⟩
  replace hw := Lib.hid hw
  obtain ⟨hb1c, hb1f, hb1l⟩ := hb1.rules
  obtain ⟨hb2c, hb2f, hb2l⟩ := hb2.rules
  refine Flow.wp_flow 13 [(0, true), (1, true), (2, true), (3, true), (4, true), (5, true), (6, true), (7, true), (8, true), (9, true), (10, true), (11, true), (12, true)] (by kernel_rfl) (by kernel_rfl) ?_
  simp only [List.map_cons, List.map_nil, List.getD_cons_succ, List.getD_cons_zero]
  repeat (first
    | (refine Flow.WalkL.move rfl ?_
       simp only [Act.put, Act.eval, Array.getD_eq_getD_getElem?, List.getElem?_toArray, List.getElem?_cons_succ, List.getElem?_cons_zero, Option.getD_some, List.setIfInBounds_toArray, List.set_cons_zero, List.set_cons_succ])
    | (refine Flow.WalkL.assign rfl ?_
       simp only [Act.put, Act.eval, Array.getD_eq_getD_getElem?, List.getElem?_toArray, List.getElem?_cons_succ, List.getElem?_cons_zero, Option.getD_some, List.setIfInBounds_toArray, List.set_cons_zero, List.set_cons_succ])
    | (refine Flow.WalkL.callf Try.func48 rfl (by kernel_rfl) rfl (fun w1 hC => keep (between_any _ _ _)) rfl rfl ?_
       simp only [Act.put, List.setIfInBounds_toArray, List.set_cons_zero, List.set_cons_succ])
    | (refine Flow.WalkL.run (v := ?_) rfl (fun w1 hC => ?_) ?_
       rotate_left
       · obtain ⟨hCc, hCf⟩ := hC.rules
         go_simp
         with_reducible rfl
       simp only [Act.put, List.setIfInBounds_toArray, List.set_cons_zero, List.set_cons_succ]))
  refine Flow.WalkL.nil ?_
  simp only [List.drop]
  intro w' hC
  obtain ⟨hCc, hCf⟩ := hC.rules
  go_wp2_with fail
  refine bodyPost_ret (v := bud (lim a 200) (lim b 200) (lim c 2) (lim d 16)) (by simp [results, Try.results31, go_sem, *]) rfl ⟨rfl, ?_⟩
  refine (hw.out.trans hC).setCell ?_ _ |>.setCell ?_ _ |>.setCell ?_ _ |>.setCell ?_ _ <;> simp

theorem side2_any (n : Int) (w : World) :
    Calls Try.prog 58 #[.int .i64 n] w fun e w' => e = .returned (.bool (sideB n)) ∧ w = w' := by
  go_enter Try.func58, Try.ntmps58
  go_wp2
  all_goals go_ret
  all_goals exact ⟨ret_bool (by unfold sideB; simp; omega), rfl⟩

theorem sideB_iff {n : Int} : sideB n = true ↔ 0 ≤ n ∧ n ≤ 96 := by unfold sideB; simp
theorem area_bd {W H : Int} (hW : 0 ≤ W ∧ W ≤ 96) (hH : 0 ≤ H ∧ H ≤ 96) : 0 ≤ W * H ∧ W * H ≤ 9216 :=
  ⟨Int.mul_nonneg hW.1 hH.1, by have := Int.mul_le_mul hW.2 hH.2 hH.1 (by omega : (0 : Int) ≤ 96); omega⟩

/-- A bitmap by value. -/
abbrev bmp (W H : Int) (A : Option Addr) (n c : Nat) : Value := .agg #[.int .i64 W, .int .i64 H, .slice A n c]
/-- What Check returns. -/
def chk (W H : Int) (n : Nat) : Int := if sideB W && sideB H then (if (n : Int) = W * H then 0 else 5) else 13

theorem okB {W H : Int} {n : Nat} (h : chk W H n = 0) : 0 ≤ W ∧ W ≤ 96 ∧ 0 ≤ H ∧ H ≤ 96 ∧ (n : Int) = W * H := by
  unfold chk at h
  split at h
  · rename_i h1
    simp only [Bool.and_eq_true, sideB_iff] at h1
    split at h
    · exact ⟨h1.1.1, h1.1.2, h1.2.1, h1.2.2, ‹_›⟩
    · omega
  · omega

def hasB (W H : Int) (dot : Nat → Bool) (x y : Int) : Bool := if 0 ≤ x ∧ x < W ∧ 0 ≤ y ∧ y < H then dot (y * W + x).toNat else false

theorem Check_any (W H : Int) (A : Option Addr) (n c : Nat) (w : World) :
    Calls Try.prog 50 #[bmp W H A n c] w fun e w' => e = .returned (.int .i64 (chk W H n)) ∧ Ext w w' := by
  have hfin : Ext w (w.alloc (.cells #[.int .i64 W, .int .i64 H, .slice A n c] 39)) := (Ext.refl w).alloc _
  replace hfin := Lib.hid hfin
  cases hW : sideB W
  · have hr : chk W H n = 13 := by simp [chk, hW]
    replace hr := Lib.hid hr
    go_enter Try.func50, Try.ntmps50
    go_wp2_with (first | (go_at_call 49; refine (side_any _ _).mono ?_; rintro e w' ⟨rfl, rfl⟩))
    go_ret
    exact ⟨ret_int hr.out.symm, hfin.out⟩
  cases hH : sideB H
  · have hr : chk W H n = 13 := by simp [chk, hH]
    replace hr := Lib.hid hr
    go_enter Try.func50, Try.ntmps50
    go_wp2_with (first | (go_at_call 49; refine (side_any _ _).mono ?_; rintro e w' ⟨rfl, rfl⟩))
    go_ret
    exact ⟨ret_int hr.out.symm, hfin.out⟩
  have hb := area_bd (sideB_iff.1 hW) (sideB_iff.1 hH)
  have hr : chk W H n = if (n : Int) = W * H then 0 else 5 := by simp [chk, hH, hW]
  replace hr := Lib.hid hr
  go_enter Try.func50, Try.ntmps50
  go_wp2_with (first | (go_at_call 49; refine (side_any _ _).mono ?_; rintro e w' ⟨rfl, rfl⟩))
  all_goals go_ret
  all_goals refine ⟨?_, hfin.out⟩
  all_goals rw [hr.out]
  all_goals simp_all

theorem Check2_any (W H : Int) (A : Option Addr) (n c : Nat) (w : World) :
    Calls Try.prog 55 #[bmp W H A n c] w fun e w' => e = .returned (.int .i64 (chk W H n)) ∧ Ext w w' := by
  have hfin : Ext w (w.alloc (.cells #[.int .i64 W, .int .i64 H, .slice A n c] 39)) := (Ext.refl w).alloc _
  replace hfin := Lib.hid hfin
  cases hW : sideB W
  · have hr : chk W H n = 13 := by simp [chk, hW]
    replace hr := Lib.hid hr
    go_enter Try.func55, Try.ntmps55
    go_wp2_with (first | (go_at_call 58; refine (side2_any _ _).mono ?_; rintro e w' ⟨rfl, rfl⟩))
    go_ret
    exact ⟨ret_int hr.out.symm, hfin.out⟩
  cases hH : sideB H
  · have hr : chk W H n = 13 := by simp [chk, hH]
    replace hr := Lib.hid hr
    go_enter Try.func55, Try.ntmps55
    go_wp2_with (first | (go_at_call 58; refine (side2_any _ _).mono ?_; rintro e w' ⟨rfl, rfl⟩))
    go_ret
    exact ⟨ret_int hr.out.symm, hfin.out⟩
  have hb := area_bd (sideB_iff.1 hW) (sideB_iff.1 hH)
  have hr : chk W H n = if (n : Int) = W * H then 0 else 5 := by simp [chk, hH, hW]
  replace hr := Lib.hid hr
  go_enter Try.func55, Try.ntmps55
  go_wp2_with (first | (go_at_call 58; refine (side2_any _ _).mono ?_; rintro e w' ⟨rfl, rfl⟩))
  all_goals go_ret
  all_goals refine ⟨?_, hfin.out⟩
  all_goals rw [hr.out]
  all_goals simp_all

theorem Mod_any (n m : Int) (hm : 0 < m) (hM : m ≤ 1000000) (w : World) :
    Calls Try.prog 46 #[.int .i64 n, .int .i64 m] w fun e w' => e = .returned (.int .i64 (n % m)) ∧ w = w' := by
  have h1 : -m < n.tmod m := by have := Int.lt_tmod_of_pos n hm; omega
  have h2 : n.tmod m < m := Int.tmod_lt_of_pos n hm
  have h3 : (n.tmod m + m) % m = n % m := by
    rw [Int.add_emod_right, Int.emod_def, Int.emod_def]
    have e1 := Int.mul_tdiv_add_tmod n m
    have e2 : n.tmod m = n - m * n.tdiv m := by omega
    rw [e2, show n - m * n.tdiv m = n + m * (- n.tdiv m) by rw [Int.mul_neg]; omega, Int.add_mul_ediv_left _ _ (by omega), Int.mul_add]
    omega
  replace h3 := Lib.hid h3
  go_enter Try.func46, Try.ntmps46
  go_wp2
  all_goals go_ret
  all_goals exact ⟨ret_int (by rw [← h3.out]; try simp), rfl⟩

/-- What a draw yields, and where it stands then. -/
def dval (N : Nat) (f : Nat → Int) (at_ : Nat) (m : Int) : Int := if at_ < N then f at_ % m else 0
def dat (N at_ : Nat) : Nat := if at_ < N then at_ + 1 else at_

theorem Next_any (w0 : World) (g : Nat) (A : Option Addr) (N c : Nat) (f : Nat → Int) (at_ : Nat) (m : Int) (hm : 0 < m) (hM : m ≤ 1000000) (w : World)
    (hN : N ≤ 4611686018427387904) (hat : at_ ≤ N)
    (hE : Ext w0 w) (hf : Ints w0 A N f) (hg : w0.heap.size ≤ g) (hB : Blk w g 73 #[.slice A N c, .int .i64 (at_ : Int)]) :
    Calls Try.prog 29 #[.pointer (some ⟨g, 0, none⟩), .int .i64 m] w fun e w' => e = .returned (.int .i64 (dval N f at_ m)) ∧
      Blk w' g 73 #[.slice A N c, .int .i64 (dat N at_ : Int)] ∧ Only w w' g := by
  obtain ⟨hBc, hBf, hBl⟩ := hB.rules
  by_cases hlt : at_ < N
  · have hlt' : (at_ : Int) < N := by omega
    obtain ⟨ad, rfl, hc⟩ := hf at_ hlt
    have hadl : ad.block < w0.heap.size := by have := World.block_lt_of_cell? w0 _ hc; rwa [block_add] at this
    have hv : dval N f at_ m = f at_ % m := by simp [dval, hlt]
    have ht : dat N at_ = at_ + 1 := by simp [dat, hlt]
    replace hv := Lib.hid hv
    replace ht := Lib.hid ht
    go_enter Try.func29, Try.ntmps29
    go_wp2_with fail
    refine Flow.wp_flow 10 [(0, true), (1, true), (2, true), (3, true), (4, true), (5, true), (6, true), (7, true), (8, true), (9, true)] (by kernel_rfl) (by kernel_rfl) ?_
    simp only [List.map_cons, List.map_nil, List.getD_cons_succ, List.getD_cons_zero]
    repeat (first
      | (refine Flow.WalkL.move rfl ?_
         simp only [Act.put, Act.eval, Array.getD_eq_getD_getElem?, List.getElem?_toArray, List.getElem?_cons_succ, List.getElem?_cons_zero, Option.getD_some, List.setIfInBounds_toArray, List.set_cons_zero, List.set_cons_succ])
      | (refine Flow.WalkL.assign rfl ?_
         simp only [Act.put, Act.eval, Array.getD_eq_getD_getElem?, List.getElem?_toArray, List.getElem?_cons_succ, List.getElem?_cons_zero, Option.getD_some, List.setIfInBounds_toArray, List.set_cons_zero, List.set_cons_succ])
      | (refine Flow.WalkL.run (v := ?_) rfl (fun w1 hC => ?_) ?_
         rotate_left
         · obtain ⟨hCc, hCf⟩ := hC.rules
           go_simp
           with_reducible rfl
         simp only [Act.put, List.setIfInBounds_toArray, List.set_cons_zero, List.set_cons_succ]))
    refine Flow.WalkL.nil ?_
    simp only [List.drop]
    intro w1 hC
    obtain ⟨hCc, hCf⟩ := hC.rules
    go_wp2_with fail
    refine wp_abs (fun W => Only w W g ∧ Blk W g 73 #[.slice (some ad) N c, .int .i64 ((at_ : Int) + 1)])
      ⟨(Only.of_ext hC g).trans (Only.set_ _ _ _ _), by have := (hB.ext hC).set_ 1 (.int .i64 ((at_ : Int) + 1)); simpa using this⟩ ?_
    rintro W ⟨hO, hB'⟩
    have hc' : W.cell? (ad.add at_) = some (.int .i64 (f at_)) := (hO.ext hE hg).cell hc
    have hadl' : ad.block < W.heap.size := by have := (hO.ext hE hg).size; omega
    clear hBc hBf hBl hCc hCf
    obtain ⟨hBc, hBf, hBl⟩ := hB'.rules
    have hwr : IntKind.i64.wrap (at_ : Int) = at_ := by rw [IntKind.wrap_i64]; omega
    have hat0 : (0 : Int) ≤ at_ := by omega
    refine Flow.wp_flow 14 [(0, true), (1, true), (2, true), (3, true), (4, true), (5, true), (6, true), (7, true), (8, true), (9, true), (10, true), (11, true), (12, true), (13, true)] (by kernel_rfl) (by kernel_rfl) ?_
    simp only [List.map_cons, List.map_nil, List.getD_cons_succ, List.getD_cons_zero]
    repeat (first
      | (refine Flow.WalkL.move rfl ?_
         simp only [Act.put, Act.eval, Array.getD_eq_getD_getElem?, List.getElem?_toArray, List.getElem?_cons_succ, List.getElem?_cons_zero, Option.getD_some, List.setIfInBounds_toArray, List.set_cons_zero, List.set_cons_succ])
      | (refine Flow.WalkL.assign rfl ?_
         simp only [Act.put, Act.eval, Array.getD_eq_getD_getElem?, List.getElem?_toArray, List.getElem?_cons_succ, List.getElem?_cons_zero, Option.getD_some, List.setIfInBounds_toArray, List.set_cons_zero, List.set_cons_succ])
      | (refine Flow.WalkL.callf Try.func46 rfl (by kernel_rfl) rfl (fun w1 hC => keep (Mod_any _ _ hm hM _)) rfl rfl ?_
         simp only [Act.put, List.setIfInBounds_toArray, List.set_cons_zero, List.set_cons_succ])
      | (refine Flow.WalkL.run (v := ?_) rfl (fun w1 hC => ?_) ?_
         rotate_left
         · obtain ⟨hCc, hCf⟩ := hC.rules
           go_simp
           with_reducible rfl
         simp only [Act.put, List.setIfInBounds_toArray, List.set_cons_zero, List.set_cons_succ]))
    refine Flow.WalkL.nil ?_
    simp only [List.drop]
    intro w2 hC2
    go_wp2_with fail
    go_ret
    exact ⟨ret_int hv.out.symm, by rw [ht.out]; exact hB'.ext hC2, hO.trans (Only.of_ext hC2 g)⟩
  · have hge : (N : Int) ≤ at_ := by omega
    have hv : dval N f at_ m = 0 := by simp [dval, hlt]
    have ht : dat N at_ = at_ := by simp [dat, hlt]
    replace hv := Lib.hid hv
    replace ht := Lib.hid ht
    go_enter Try.func29, Try.ntmps29
    go_wp2_with fail
    refine Flow.wp_flow 10 [(0, true), (1, true), (2, true), (3, true), (4, true), (5, true), (6, true), (7, true), (8, true), (9, true)] (by kernel_rfl) (by kernel_rfl) ?_
    simp only [List.map_cons, List.map_nil, List.getD_cons_succ, List.getD_cons_zero]
    repeat (first
      | (refine Flow.WalkL.move rfl ?_
         simp only [Act.put, Act.eval, Array.getD_eq_getD_getElem?, List.getElem?_toArray, List.getElem?_cons_succ, List.getElem?_cons_zero, Option.getD_some, List.setIfInBounds_toArray, List.set_cons_zero, List.set_cons_succ])
      | (refine Flow.WalkL.assign rfl ?_
         simp only [Act.put, Act.eval, Array.getD_eq_getD_getElem?, List.getElem?_toArray, List.getElem?_cons_succ, List.getElem?_cons_zero, Option.getD_some, List.setIfInBounds_toArray, List.set_cons_zero, List.set_cons_succ])
      | (refine Flow.WalkL.run (v := ?_) rfl (fun w1 hC => ?_) ?_
         rotate_left
         · obtain ⟨hCc, hCf⟩ := hC.rules
           go_simp
           with_reducible rfl
         simp only [Act.put, List.setIfInBounds_toArray, List.set_cons_zero, List.set_cons_succ]))
    refine Flow.WalkL.nil ?_
    simp only [List.drop]
    intro w1 hC
    obtain ⟨hCc, hCf⟩ := hC.rules
    go_wp2_with fail
    go_ret
    exact ⟨ret_int hv.out.symm, by rw [ht.out]; exact hB.ext hC, Only.of_ext hC g⟩
end Go.Proofs.Ytclaanggpcjnbaa
end

section
/- Images: Check, of the program and of the reference. No condition but those that each states. -/
namespace Go.Proofs.Ytclaanggpcjnbaa
open Go.RowKit Go.Flow
open Go.Proofs
attribute [local go_sem] block_add
attribute [local go_sem ↓] Go.wp_at_zero Go.wp_at_succ

/-- An image by value. -/
abbrev img (W H : Int) (A : Option Addr) (n c : Nat) : Value := .agg #[.int .i64 W, .int .i64 H, .slice A n c]
def pxOk (n : Nat) (f : Nat → Int) : Prop := ∀ k, k < n → 0 ≤ f k ∧ f k ≤ 2
instance (n : Nat) (f : Nat → Int) : Decidable (pxOk n f) := by unfold pxOk; infer_instance
def shI (W H : Int) (n : Nat) : Prop := 0 ≤ W ∧ W ≤ 100 ∧ 0 ≤ H ∧ H ≤ 100 ∧ (n : Int) = W * H
instance (W H : Int) (n : Nat) : Decidable (shI W H n) := by unfold shI; infer_instance
/-- What Check returns. -/
def chkI (W H : Int) (n : Nat) (f : Nat → Int) : Int := if shI W H n then (if pxOk n f then 0 else 50) else 50
theorem chkI_ok {W H : Int} {n : Nat} {f : Nat → Int} : chkI W H n f = 0 ↔ shI W H n ∧ pxOk n f := by
  unfold chkI
  split
  · rename_i h
    split <;> simp_all
  · simp_all
theorem chkI_bad {W H : Int} {n : Nat} {f : Nat → Int} (h : ¬ shI W H n) : chkI W H n f = 50 := by unfold chkI; rw [if_neg h]
theorem areaI {W H : Int} (hW : 0 ≤ W ∧ W ≤ 100) (hH : 0 ≤ H ∧ H ≤ 100) : 0 ≤ W * H ∧ W * H ≤ 10000 :=
  ⟨Int.mul_nonneg hW.1 hH.1, by have := Int.mul_le_mul hW.2 hH.2 hH.1 (by omega : (0 : Int) ≤ 100); omega⟩

def badB (p : Int) : Bool := decide (p < 0 ∨ 2 < p)
theorem bad_any (p : Int) (w : World) : Calls Try.prog 57 #[.int .i64 p] w fun e w' => e = .returned (.bool (badB p)) ∧ w = w' := by
  by_cases h1 : p < 0
  · go_enter Try.func57, Try.ntmps57
    go_wp2
    go_ret
    exact ⟨ret_bool (by simp [badB, h1]), rfl⟩
  · by_cases h2 : 2 < p
    · go_enter Try.func57, Try.ntmps57
      go_wp2
      go_ret
      exact ⟨ret_bool (by simp [badB, h2]), rfl⟩
    · go_enter Try.func57, Try.ntmps57
      go_wp2
      go_ret
      exact ⟨ret_bool (by simp [badB]; omega), rfl⟩

theorem index_any (A : Option Addr) (n c : Nat) (f : Nat → Int) (w : World) (hn : n ≤ 4611686018427387904) (hA : Ints w A n f) :
    Calls Try.prog 59 #[.slice A n c, .func (.func 57) #[] #[]] w fun e w' => (∃ i : Int, e = .returned (.int .i64 i) ∧ ((pxOk n f ∧ i = -1) ∨ (¬ pxOk n f ∧ 0 ≤ i))) ∧ w = w' := by
  go_enter Try.func59, Try.ntmps59
  go_wp2
  go_loop [8] (fun i => ∃ k : Nat, k ≤ n ∧ i = .int .i64 k ∧ Hid (∀ j, j < k → 0 ≤ f j ∧ f j ≤ 2)) (fun i => n - (intOf i).toNat)
  case atStart => exact ⟨0, Nat.zero_le _, rfl, Lib.hid fun j hj => absurd hj (by omega)⟩
  case round =>
    obtain ⟨k, hk, rfl, heq⟩ := hrel
    by_cases hlt : k < n
    · have hlt' : (k : Int) < n := by omega
      obtain ⟨ad, rfl, hc⟩ := hA k hlt
      have hb := lt_of_cell hc
      obtain ⟨p, hp⟩ : ∃ p, f k = p := ⟨_, rfl⟩
      simp only [hp] at hc
      replace hp := Lib.hid hp
      by_cases h : badB p = true
      · have hno : ¬ pxOk n f := fun h' => by
          have := h' k hlt
          rw [hp.out] at this
          simp [badB] at h
          omega
        replace hno := Lib.hid hno
        go_wp2_with (go_at_call 57; refine (bad_any _ _).mono ?_; rintro e w' ⟨rfl, rfl⟩)
        go_ret
        exact ⟨⟨_, rfl, .inr ⟨hno.out, by omega⟩⟩, rfl⟩
      · replace h : badB p = false := by simpa using h
        go_wp2_with (go_at_call 57; refine (bad_any _ _).mono ?_; rintro e w' ⟨rfl, rfl⟩)
        go_round
        case rel => exact ⟨k + 1, by omega, by go_num, Lib.hid fun j hj => by
          rcases Nat.lt_or_ge j k with h1 | h1
          · exact heq.out j h1
          · rw [show j = k by omega, hp.out]
            simp [badB] at h
            omega⟩
        case measure => simp [intOf]; omega
    · obtain rfl : k = n := by omega
      go_wp2
      go_ret
      exact ⟨⟨_, rfl, .inl ⟨fun j hj => heq.out j hj, rfl⟩⟩, rfl⟩

theorem contains_any (A : Option Addr) (n c : Nat) (f : Nat → Int) (w : World) (hn : n ≤ 4611686018427387904) (hA : Ints w A n f) :
    Calls Try.prog 56 #[.slice A n c, .func (.func 57) #[] #[]] w fun e w' => e = .returned (.bool (!decide (pxOk n f))) ∧ w = w' := by
  obtain ⟨b, hb⟩ : ∃ b, decide (pxOk n f) = b := ⟨_, rfl⟩
  rw [hb]
  replace hb := Lib.hid hb
  go_enter Try.func56, Try.ntmps56
  go_wp2_with fail
  refine (index_any A n c f w hn hA).mono ?_
  rintro e w' ⟨⟨i, rfl, h⟩, rfl⟩
  rcases h with ⟨hp, rfl⟩ | ⟨hp, hi⟩
  · obtain rfl : b = true := by rw [← hb.out]; simpa using hp
    clear hp hb
    go_wp2
    go_ret
    exact ⟨rfl, rfl⟩
  · obtain rfl : b = false := by rw [← hb.out]; simpa using hp
    clear hp hb
    go_wp2
    go_ret
    exact ⟨rfl, rfl⟩


set_option maxRecDepth 100000 in
theorem ICheck_any (W H : Int) (A : Option Addr) (n c : Nat) (f : Nat → Int) (w : World) (hn : n ≤ 4611686018427387904) (hA : Ints w A n f) :
    Calls Try.prog 39 #[img W H A n c] w fun e w' => e = .returned (.int .i64 (chkI W H n f)) ∧ Ext w w' := by
  have hE := Lib.hid ((Ext.refl w).alloc (.cells #[.int .i64 W, .int .i64 H, .slice A n c] 43))
  by_cases h1 : W < 0
  · have hne : chkI W H n f = 50 := chkI_bad (by unfold shI; omega)
    rw [hne]
    clear hne
    go_enter Try.func39, Try.ntmps39
    go_wp2_with fail
    go_ret
    exact ⟨rfl, hE.out⟩
  · by_cases h2 : 100 < W
    · have hne : chkI W H n f = 50 := chkI_bad (by unfold shI; omega)
      rw [hne]
      clear hne
      go_enter Try.func39, Try.ntmps39
      go_wp2_with fail
      go_ret
      exact ⟨rfl, hE.out⟩
    · by_cases h3 : H < 0
      · have hne : chkI W H n f = 50 := chkI_bad (by unfold shI; omega)
        rw [hne]
        clear hne
        go_enter Try.func39, Try.ntmps39
        go_wp2_with fail
        go_ret
        exact ⟨rfl, hE.out⟩
      · by_cases h4 : 100 < H
        · have hne : chkI W H n f = 50 := chkI_bad (by unfold shI; omega)
          rw [hne]
          clear hne
          go_enter Try.func39, Try.ntmps39
          go_wp2_with fail
          go_ret
          exact ⟨rfl, hE.out⟩
        · have hbd := areaI (W := W) (H := H) ⟨by omega, by omega⟩ ⟨by omega, by omega⟩
          have hwr : IntKind.i64.wrap (W * H) = W * H := by rw [IntKind.wrap_i64]; omega
          by_cases h5 : (n : Int) = W * H
          · have hs : shI W H n := ⟨by omega, by omega, by omega, by omega, h5⟩
            have h6 : ((n : Int) != W * H) = false := by simp [h5]
            have hc : chkI W H n f = if pxOk n f then 0 else 50 := by unfold chkI; rw [if_pos hs]
            rw [hc]
            obtain ⟨v, hv⟩ : ∃ v : Int, (if pxOk n f then (0 : Int) else 50) = v := ⟨_, rfl⟩
            rw [hv]
            replace hv := Lib.hid hv
            clear hc hs
            replace h5 := Lib.hid h5
            have hA' := Lib.hid (hA.ext hE.out)
            clear hbd
            go_enter Try.func39, Try.ntmps39
            go_wp2_with fail
            refine (contains_any A n c f _ hn hA'.out).mono ?_
            rintro e w' ⟨rfl, rfl⟩
            cases hd : decide (pxOk n f)
            · obtain rfl : v = 50 := by rw [← hv.out, if_neg (by simpa using hd)]
              clear hd hv
              go_wp2_with fail
              go_ret
              exact ⟨rfl, hE.out⟩
            · obtain rfl : v = 0 := by rw [← hv.out, if_pos (by simpa using hd)]
              clear hd hv
              go_wp2_with fail
              go_ret
              exact ⟨rfl, hE.out⟩
          · have h6 : ((n : Int) != W * H) = true := by simp [h5]
            have hne : chkI W H n f = 50 := chkI_bad (by unfold shI; omega)
            rw [hne]
            clear hne hbd
            replace h5 := Lib.hid h5
            go_enter Try.func39, Try.ntmps39
            go_wp2_with fail
            go_ret
            exact ⟨rfl, hE.out⟩

set_option maxRecDepth 100000 in
theorem RCheck_any (W H : Int) (A : Option Addr) (n c : Nat) (f : Nat → Int) (w : World) (hn : n ≤ 4611686018427387904) (hA : Ints w A n f) :
    Calls Try.prog 53 #[img W H A n c] w fun e w' => e = .returned (.int .i64 (chkI W H n f)) ∧ Ext w w' := by
  have hE := Lib.hid ((Ext.refl w).alloc (.cells #[.int .i64 W, .int .i64 H, .slice A n c] 43))
  by_cases h1 : W < 0
  · have hne : chkI W H n f = 50 := chkI_bad (by unfold shI; omega)
    rw [hne]
    clear hne
    go_enter Try.func53, Try.ntmps53
    go_wp2_with fail
    go_ret
    exact ⟨rfl, hE.out⟩
  · by_cases h2 : 100 < W
    · have hne : chkI W H n f = 50 := chkI_bad (by unfold shI; omega)
      rw [hne]
      clear hne
      go_enter Try.func53, Try.ntmps53
      go_wp2_with fail
      go_ret
      exact ⟨rfl, hE.out⟩
    · by_cases h3 : H < 0
      · have hne : chkI W H n f = 50 := chkI_bad (by unfold shI; omega)
        rw [hne]
        clear hne
        go_enter Try.func53, Try.ntmps53
        go_wp2_with fail
        go_ret
        exact ⟨rfl, hE.out⟩
      · by_cases h4 : 100 < H
        · have hne : chkI W H n f = 50 := chkI_bad (by unfold shI; omega)
          rw [hne]
          clear hne
          go_enter Try.func53, Try.ntmps53
          go_wp2_with fail
          go_ret
          exact ⟨rfl, hE.out⟩
        · have hbd := areaI (W := W) (H := H) ⟨by omega, by omega⟩ ⟨by omega, by omega⟩
          have hwr : IntKind.i64.wrap (W * H) = W * H := by rw [IntKind.wrap_i64]; omega
          by_cases h5 : (n : Int) = W * H
          · have hs : shI W H n := ⟨by omega, by omega, by omega, by omega, h5⟩
            have h6 : ((n : Int) != W * H) = false := by simp [h5]
            have hc : chkI W H n f = if pxOk n f then 0 else 50 := by unfold chkI; rw [if_pos hs]
            rw [hc]
            obtain ⟨v, hv⟩ : ∃ v : Int, (if pxOk n f then (0 : Int) else 50) = v := ⟨_, rfl⟩
            rw [hv]
            replace hv := Lib.hid hv
            clear hc hs
            replace h5 := Lib.hid h5
            have hA' := hA.ext hE.out
            clear hbd
            go_enter Try.func53, Try.ntmps53
            go_wp2_with fail
            go_loop [3] (fun i => ∃ k : Nat, k ≤ n ∧ i = .int .i64 k ∧ Hid (∀ j, j < k → 0 ≤ f j ∧ f j ≤ 2)) (fun i => n - (intOf i).toNat)
            case atStart => exact ⟨0, Nat.zero_le _, rfl, Lib.hid fun j hj => absurd hj (by omega)⟩
            case round =>
              obtain ⟨k, hk, rfl, heq⟩ := hrel
              by_cases hlt : k < n
              · have hlt' : (k : Int) < n := by omega
                obtain ⟨ad, rfl, hc⟩ := hA' k hlt
                have hb := lt_of_cell hc
                obtain ⟨p, hp⟩ : ∃ p, f k = p := ⟨_, rfl⟩
                simp only [hp] at hc
                replace hp := Lib.hid hp
                by_cases hp1 : p < 0
                · have hno : ¬ pxOk n f := fun h' => by have := h' k hlt; rw [hp.out] at this; omega
                  obtain rfl : v = 50 := by rw [← hv.out, if_neg hno]
                  clear hno hv
                  go_wp2_with fail
                  go_ret
                  exact ⟨rfl, hE.out⟩
                · by_cases hp2 : 2 < p
                  · have hno : ¬ pxOk n f := fun h' => by have := h' k hlt; rw [hp.out] at this; omega
                    obtain rfl : v = 50 := by rw [← hv.out, if_neg hno]
                    clear hno hv
                    go_wp2_with fail
                    go_ret
                    exact ⟨rfl, hE.out⟩
                  · go_wp2_with fail
                    go_round
                    case rel => exact ⟨k + 1, by omega, by go_num, Lib.hid fun j hj => by
                      rcases Nat.lt_or_ge j k with h1 | h1
                      · exact heq.out j h1
                      · rw [show j = k by omega, hp.out]
                        omega⟩
                    case measure => simp [intOf]; omega
              · obtain rfl : k = n := by omega
                have hyes : pxOk k f := fun j hj => heq.out j hj
                obtain rfl : v = 0 := by rw [← hv.out, if_pos hyes]
                clear hyes hv
                go_wp2_with fail
                go_ret
                exact ⟨rfl, hE.out⟩
          · have h6 : ((n : Int) != W * H) = true := by simp [h5]
            have hne : chkI W H n f = 50 := chkI_bad (by unfold shI; omega)
            rw [hne]
            clear hne hbd
            replace h5 := Lib.hid h5
            go_enter Try.func53, Try.ntmps53
            go_wp2_with fail
            go_ret
            exact ⟨rfl, hE.out⟩
end Go.Proofs.Ytclaanggpcjnbaa
end

section
/- What Put shows: the plain law. No condition but those that each states. -/
namespace Go.Proofs.Ytclaanggpcjnbaa
open Go.RowKit Go.Flow

def shiftB (dx dy : Int) : Bool := decide (-2 ≤ dx ∧ dx ≤ 2 ∧ -2 ≤ dy ∧ dy ≤ 2)
theorem shiftB_iff {dx dy : Int} : shiftB dx dy = true ↔ -2 ≤ dx ∧ dx ≤ 2 ∧ -2 ≤ dy ∧ dy ≤ 2 := by simp [shiftB]
/-- The number that Put reports. -/
def putE (W H : Int) (n : Nat) (dx dy : Int) : Int := if chk W H n = 0 then (if shiftB dx dy then 0 else 3) else chk W H n
/-- The pixels that Put shows. -/
def putF (W H : Int) (dot : Nat → Bool) (dx dy : Int) (k : Nat) : Int := if hasB W H dot ((k : Int) % (W + 4) - 2 - dx) ((k : Int) / (W + 4) - 2 - dy) then 1 else 0
theorem putF_bd (W H : Int) (dot : Nat → Bool) (dx dy : Int) (k : Nat) : 0 ≤ putF W H dot dx dy k ∧ putF W H dot dx dy k ≤ 1 := by unfold putF; split <;> omega
/-- Dots with an index below k. -/
def below (k : Nat) (dot : Nat → Bool) (i : Nat) : Bool := decide (i < k) && dot i
theorem below_all {n k : Nat} {dot : Nat → Bool} (h : n ≤ k) (i : Nat) (hi : i < n) : below k dot i = dot i := by simp [below, show i < k by omega]
theorem hasB_in {W H : Int} {dot : Nat → Bool} {x y : Int} (h1 : 0 ≤ x) (h2 : x < W) (h3 : 0 ≤ y) (h4 : y < H) : hasB W H dot x y = dot (y * W + x).toNat := by unfold hasB; rw [if_pos ⟨h1, h2, h3, h4⟩]
theorem hasB_congr {W H : Int} {dot dot' : Nat → Bool} {n : Nat} (hn : (n : Int) = W * H) (h : ∀ i, i < n → dot i = dot' i) (x y : Int) : hasB W H dot x y = hasB W H dot' x y := by
  unfold hasB
  split
  · rename_i hh
    refine h _ ?_
    have h1 : (y + 1) * W ≤ H * W := Int.mul_le_mul_of_nonneg_right (by omega) (by omega)
    rw [Int.add_mul, Int.mul_comm H W] at h1
    have h2 : 0 ≤ y * W := Int.mul_nonneg (by omega) (by omega)
    omega
  · rfl
theorem putF_congr {W H : Int} {dot dot' : Nat → Bool} {n : Nat} (hn : (n : Int) = W * H) (h : ∀ i, i < n → dot i = dot' i) (dx dy : Int) (k : Nat) : putF W H dot dx dy k = putF W H dot' dx dy k := by
  unfold putF
  rw [hasB_congr hn h]
theorem putF_none (W H : Int) (dot : Nat → Bool) (dx dy : Int) (k : Nat) : putF W H (below 0 dot) dx dy k = 0 := by
  unfold putF hasB
  have : ∀ i, below 0 dot i = false := fun i => by simp [below]
  simp [this]
theorem putF_skip {W H : Int} {dot : Nat → Bool} {k : Nat} (h : dot k = false) (dx dy : Int) (j : Nat) : putF W H (below (k + 1) dot) dx dy j = putF W H (below k dot) dx dy j := by
  have : below (k + 1) dot = below k dot := by
    funext i
    unfold below
    by_cases e : i = k
    · subst e; simp [h]
    · by_cases h1 : i < k
      · simp [h1, show i < k + 1 by omega]
      · simp [h1, show ¬ i < k + 1 by omega]
  rw [this]
/-- Where the dot k of W columns comes to lie. -/
def tgt (W dx dy : Int) (k : Nat) : Int := ((k : Int) / W + 2 + dy) * (W + 4) + (k : Int) % W + 2 + dx
theorem tgt_bd {Wn Hn n : Nat} (hn : (n : Int) = (Wn : Int) * Hn) {dx dy : Int} (hs : shiftB dx dy = true) {k : Nat} (hk : k < n) : 0 ≤ tgt Wn dx dy k ∧ tgt Wn dx dy k < ((Wn : Int) + 4) * (Hn + 4) ∧
    0 ≤ (k : Int) % Wn ∧ (k : Int) % Wn < Wn ∧ 0 ≤ (k : Int) / Wn ∧ (k : Int) / Wn < Hn ∧ 0 < Wn := by
  have hs' := shiftB_iff.1 hs
  have hW : 0 < Wn := by
    rcases Nat.eq_zero_or_pos Wn with h | h
    · rw [h] at hn; simp at hn; omega
    · exact h
  have h1 := Int.emod_nonneg (k : Int) (show (Wn : Int) ≠ 0 by omega)
  have h2 := Int.emod_lt_of_pos (k : Int) (show (0 : Int) < Wn by omega)
  have h3 : 0 ≤ (k : Int) / Wn := Int.ediv_nonneg (by omega) (by omega)
  have h4 : (k : Int) / Wn < Hn := Int.ediv_lt_of_lt_mul (by omega) (by rw [Int.mul_comm, ← hn]; omega)
  have h5 : 0 ≤ ((k : Int) / Wn + 2 + dy) * ((Wn : Int) + 4) := Int.mul_nonneg (by omega) (by omega)
  have h6 : ((k : Int) / Wn + 2 + dy + 1) * ((Wn : Int) + 4) ≤ ((Hn : Int) + 4) * ((Wn : Int) + 4) := Int.mul_le_mul_of_nonneg_right (by omega) (by omega)
  rw [Int.add_mul _ 1, Int.mul_comm ((Hn : Int) + 4)] at h6
  unfold tgt
  refine ⟨by omega, by omega, h1, h2, h3, h4, hW⟩
theorem putF_set {Wn Hn n : Nat} (hn : (n : Int) = (Wn : Int) * Hn) {dot : Nat → Bool} {k : Nat} (hk : k < n) (h : dot k = true) {dx dy : Int} (hs : shiftB dx dy = true) (j : Nat) :
    putF Wn Hn (below (k + 1) dot) dx dy j = if (j : Int) = tgt Wn dx dy k then 1 else putF Wn Hn (below k dot) dx dy j := by
  have hs' := shiftB_iff.1 hs
  obtain ⟨-, -, h1, h2, h3, h4, hW⟩ := tgt_bd hn hs hk
  have hkd : (k : Int) / Wn * Wn + (k : Int) % Wn = k := by have := Int.mul_ediv_add_emod (k : Int) Wn; rw [Int.mul_comm] at this; exact this
  by_cases e : (j : Int) = tgt Wn dx dy k
  · rw [if_pos e]
    have e1 : (j : Int) / ((Wn : Int) + 4) = (k : Int) / Wn + 2 + dy ∧ (j : Int) % ((Wn : Int) + 4) = (k : Int) % Wn + 2 + dx := by
      rw [e]
      unfold tgt
      rw [show ((k : Int) / Wn + 2 + dy) * ((Wn : Int) + 4) + (k : Int) % Wn + 2 + dx = ((k : Int) % Wn + 2 + dx) + ((k : Int) / Wn + 2 + dy) * ((Wn : Int) + 4) by omega,
        Int.add_mul_ediv_right _ _ (by omega), Int.add_mul_emod_self_right, Int.ediv_eq_zero_of_lt (by omega) (by omega), Int.emod_eq_of_lt (by omega) (by omega)]
      omega
    unfold putF
    rw [e1.1, e1.2, hasB_in (by omega) (by omega) (by omega) (by omega)]
    rw [show ((k : Int) / Wn + 2 + dy - 2 - dy) = (k : Int) / Wn by omega, show ((k : Int) % Wn + 2 + dx - 2 - dx) = (k : Int) % Wn by omega, hkd]
    simp [below, h]
  · rw [if_neg e]
    unfold putF hasB
    split
    · rename_i hh
      obtain ⟨x, hx⟩ : ∃ x, (j : Int) % ((Wn : Int) + 4) - 2 - dx = x := ⟨_, rfl⟩
      obtain ⟨y, hy⟩ : ∃ y, (j : Int) / ((Wn : Int) + 4) - 2 - dy = y := ⟨_, rfl⟩
      rw [hx, hy] at hh ⊢
      have hne : (y * (Wn : Int) + x).toNat ≠ k := by
        intro he
        have hy0 : 0 ≤ y * (Wn : Int) := Int.mul_nonneg (by omega) (by omega)
        have hk2 : (k : Int) = x + y * Wn := by omega
        have hq : (k : Int) / Wn = y := by rw [hk2, Int.add_mul_ediv_right _ _ (by omega), Int.ediv_eq_zero_of_lt (by omega) (by omega)]; omega
        have hr : (k : Int) % Wn = x := by rw [hk2, Int.add_mul_emod_self_right, Int.emod_eq_of_lt (by omega) (by omega)]
        apply e
        unfold tgt
        rw [hq, hr]
        have := Int.mul_ediv_add_emod (j : Int) ((Wn : Int) + 4)
        rw [Int.mul_comm] at this
        rw [show y + 2 + dy = (j : Int) / ((Wn : Int) + 4) by omega]
        omega
      generalize (y * (Wn : Int) + x).toNat = i at hne ⊢
      have hb : below (k + 1) dot i = below k dot i := by
        unfold below
        by_cases h1 : i < k
        · simp [h1, show i < k + 1 by omega]
        · simp [h1, show ¬ i < k + 1 by omega]
      rw [hb]
    · rfl
/-- Row y, column x. -/
theorem putF_at {Wn : Nat} {H : Int} {dot : Nat → Bool} {dx dy : Int} {x y : Nat} (hx : x < Wn + 4) : putF Wn H dot dx dy (y * (Wn + 4) + x) = if hasB Wn H dot ((x : Int) - 2 - dx) ((y : Int) - 2 - dy) then 1 else 0 := by
  unfold putF
  have e : ((y * (Wn + 4) + x : Nat) : Int) = (x : Int) + (y : Int) * ((Wn : Int) + 4) := by rw [Int.natCast_add, Int.natCast_mul, Int.natCast_add, Int.add_comm]; rfl
  rw [e, Int.add_mul_ediv_right _ _ (by omega), Int.add_mul_emod_self_right, Int.ediv_eq_zero_of_lt (by omega) (by omega), Int.emod_eq_of_lt (by omega) (by omega), Int.zero_add]
end Go.Proofs.Ytclaanggpcjnbaa
end

section
/- SameInts, New. No condition but those that each states. -/
namespace Go.Proofs.Ytclaanggpcjnbaa
open Go.RowKit Go.Flow
open Go.Proofs
attribute [local go_sem] block_add
attribute [local go_sem ↓] Go.wp_at_zero Go.wp_at_succ

theorem info_bool : (Try.prog.info? 4).map (fun i => (i.zero, i.size, i.bytes)) = some (some (.bool false), 1, 1) := by kernel_rfl
theorem info_int : (Try.prog.info? 3).map (fun i => (i.zero, i.size, i.bytes)) = some (some (.int .i64 0), 1, 8) := by kernel_rfl

/-- What New returns. -/
def NewPost (W H : Int) (w : World) (e : Ending) (w' : World) : Prop :=
  ∃ g n, e = .returned (.tuple #[bmp W H (some ⟨g, 0, none⟩) n n, .int .i64 0]) ∧ (n : Int) = W * H ∧ Own w' g 4 n (fun _ => .bool false) ∧ w.heap.size ≤ g ∧ Ext w w'

theorem New_bad (W H : Int) (w : World) (hb : (sideB W && sideB H) = false) :
    Calls Try.prog 32 #[.int .i64 W, .int .i64 H] w fun e w' => e = .returned (.tuple #[bmp 0 0 none 0 0, .int .i64 13]) ∧ Ext w w' := by
  have hfin : Ext w (w.alloc (.cells #[.int .i64 0, .int .i64 0, .slice none 0 0] 39)) := (Ext.refl w).alloc _
  replace hfin := Lib.hid hfin
  cases hW : sideB W
  · go_enter Try.func32, Try.ntmps32
    go_wp2_with (first | (go_at_call 49; refine (side_any _ _).mono ?_; rintro e w' ⟨rfl, rfl⟩))
    exact bodyPost_ret (v := .tuple #[bmp 0 0 none 0 0, .int .i64 13]) (by simp [results, Try.results32, go_sem]) rfl ⟨rfl, hfin.out⟩
  · have hH : sideB H = false := by simpa [hW] using hb
    go_enter Try.func32, Try.ntmps32
    go_wp2_with (first | (go_at_call 49; refine (side_any _ _).mono ?_; rintro e w' ⟨rfl, rfl⟩))
    exact bodyPost_ret (v := .tuple #[bmp 0 0 none 0 0, .int .i64 13]) (by simp [results, Try.results32, go_sem]) rfl ⟨rfl, hfin.out⟩

theorem New_ok (W H : Int) (w : World) (hb : (sideB W && sideB H) = true) :
    Calls Try.prog 32 #[.int .i64 W, .int .i64 H] w (NewPost W H w) := by
  obtain ⟨i0, hi, hz0, hz1, hz2⟩ := info_parts info_bool
  simp only [Bool.and_eq_true] at hb
  obtain ⟨hW, hH⟩ := hb
  have hbd := area_bd (sideB_iff.1 hW) (sideB_iff.1 hH)
  obtain ⟨n, hn⟩ : ∃ n : Nat, W * H = n := ⟨(W * H).toNat, by omega⟩
  have hn' := Lib.hid hn
  clear hn
  go_enter Try.func32, Try.ntmps32
  go_wp2_with (first
    | (go_at_call 49; refine (side_any _ _).mono ?_; rintro e w' ⟨rfl, rfl⟩)
    | (at_make; refine wpList_make rfl (.tmp 19) (.tmp 19) 37 rfl 4 i0 (.bool false) Try.underlying37 hi hz0 hz1 rfl _ _ _ _ n rfl rfl hn'.out hn'.out (by rw [hz2]; have := hn'.out; omega) (by have := hn'.out; omega) ?_))
  intro w1 hO hE
  obtain ⟨hBc, hBf, hBl⟩ := ((Blk.new w 39 #[.int .i64 0, .int .i64 0, .slice none 0 0]).ext hE).rules
  go_wp2
  refine bodyPost_ret (v := .tuple #[bmp W H (some ⟨w.heap.size + 1, 0, none⟩) n n, .int .i64 0]) (by simp [results, Try.results32, go_sem, *]) rfl
    ⟨w.heap.size + 1, n, rfl, hn'.out.symm, ((hO.far ?_ _).far ?_ _).far ?_ _, by omega, ((((Ext.refl w).alloc _).trans hE).setCell ?_ _ |>.setCell ?_ _ |>.setCell ?_ _)⟩ <;> simp
end Go.Proofs.Ytclaanggpcjnbaa
end

section
/- Put, of the program and of the reference. No condition but those that each states. -/
namespace Go.Flow
open Go Go.RowKit
/-- A slice whose array the call made itself. -/
def Mine (w : World) (base : Nat) (A : Option Addr) (t : TypeId) (n : Nat) (F : Nat → Value) : Prop := 0 < n → ∃ g, A = some ⟨g, 0, none⟩ ∧ base ≤ g ∧ ∃ cs, Blk w g t cs ∧ ∀ k, k < n → cs[k]? = some (F k)
section
variable {w w' : World} {base n : Nat} {A : Option Addr} {t : TypeId} {F : Nat → Value}
theorem Mine.arr (h : Mine w base A t n F) : Arr w A n F := fun k hk => by
  obtain ⟨g, rfl, -, cs, hb, hc⟩ := h (by omega)
  exact ⟨_, rfl, by rw [show (⟨g, 0, none⟩ : Addr).add k = ⟨g, k, none⟩ by unfold Addr.add; split <;> simp_all, hb.cell]; exact hc k hk⟩
theorem Mine.ext (h : Mine w base A t n F) (hE : Ext w w') : Mine w' base A t n F := fun hn =>
  let ⟨g, e, hg, cs, hb, hc⟩ := h hn
  ⟨g, e, hg, cs, hb.ext hE, hc⟩
theorem Mine.of_own {g : Nat} (h : Own w g t n F) (hg : base ≤ g) : Mine w base (some ⟨g, 0, none⟩) t n F := fun _ =>
  let ⟨cs, hb, _, hc⟩ := h
  ⟨g, rfl, hg, cs, hb, hc⟩
theorem Mine.of_row {v : Value} {xs : List Value} (h : w.ownsRow base t 1 v n xs) (hF : ∀ k, k < n → xs[k]? = some (F k)) : ∃ A c, v = .slice A n c ∧ n ≤ c ∧ Mine w base A t n F := by
  rcases h.2 with ⟨rfl, rfl⟩ | ⟨g, cap, cur, rfl, hb, hg, hnc, _, _, htake⟩
  · exact ⟨none, 0, rfl, Nat.le_refl _, fun h => absurd h (by omega)⟩
  · exact ⟨_, cap, rfl, hnc, fun _ => ⟨g, rfl, hb, cur, hg, fun k hk => by
      have := hF k hk
      rw [← htake] at this
      rw [List.getElem?_take, if_pos (by omega)] at this
      rw [← Array.getElem?_toList]
      exact this⟩⟩
theorem row_succ {base : Nat} {e : TypeId} {size : Nat} {v : Value} {k : Nat} {xs : List Value} (h : w.ownsRow base e size v (k + 1) xs) : ∃ g cap, v = .slice (some ⟨g, 0, none⟩) (k + 1) cap := by
  rcases h.2 with ⟨_, h0⟩ | ⟨g, cap, _, rfl, _⟩
  · omega
  · exact ⟨g, cap, rfl⟩
theorem row_get {G : Nat → Value} {n k : Nat} (hk : k < n) : ((List.range n).map G)[k]? = some (G k) := by simp [List.getElem?_range hk]
theorem Mine.set_ {p : Addr} (h : Mine w base A t n F) (hp : p.block < base) (u : Value) : Mine (w.setCell p u) base A t n F := fun hn =>
  let ⟨g, e, hg, cs, hb, hc⟩ := h hn
  ⟨g, e, hg, cs, hb.far (by omega) u, hc⟩
theorem Mine.congr {G : Nat → Value} (h : Mine w base A t n F) (hg : ∀ k, k < n → F k = G k) : Mine w base A t n G := fun hn =>
  let ⟨g, e, hb, cs, hc, hr⟩ := h hn
  ⟨g, e, hb, cs, hc, fun k hk => by rw [hr k hk, hg k hk]⟩
theorem Mine.less {base' : Nat} (h : Mine w base A t n F) (hb : base' ≤ base) : Mine w base' A t n F := fun hn =>
  let ⟨g, e, hg, r⟩ := h hn
  ⟨g, e, by omega, r⟩
end
end Go.Flow
namespace Go.Proofs.Ytclaanggpcjnbaa
open Go.RowKit Go.Flow
open Go.Proofs
attribute [local go_sem] block_add
attribute [local go_sem ↓] Go.wp_at_zero Go.wp_at_succ

/-- What Put returns. -/
def PutPost (W H : Int) (n : Nat) (dot : Nat → Bool) (dx dy : Int) (w : World) (e : Ending) (w' : World) : Prop :=
  (putE W H n dx dy ≠ 0 ∧ e = .returned (.tuple #[img 0 0 none 0 0, .int .i64 (putE W H n dx dy)]) ∧ Ext w w') ∨
  (putE W H n dx dy = 0 ∧ ∃ A c, ∃ m : Nat, e = .returned (.tuple #[img (W + 4) (H + 4) A m c, .int .i64 0]) ∧ (m ≤ c ∧ (m : Int) = (W + 4) * (H + 4)) ∧ Mine w' w.heap.size A 3 m (fun k => .int .i64 (putF W H dot dx dy k)) ∧ Ext w w')

theorem IPut_bad1 (W H : Int) (A : Option Addr) (n c : Nat) (dx dy : Int) (w : World) (hok : chk W H n ≠ 0) :
    Calls Try.prog 38 #[bmp W H A n c, .int .i64 dx, .int .i64 dy] w fun e w' => e = .returned (.tuple #[img 0 0 none 0 0, .int .i64 (chk W H n)]) ∧ Ext w w' := by
  have hne : (chk W H n != 0) = true := by simpa using hok
  replace hok := Lib.hid hok
  have hP := Lib.hid ((Ext.refl w).alloc (.cells #[.int .i64 W, .int .i64 H, .slice A n c] 39) |>.alloc (.cells #[.int .i64 0, .int .i64 0, .slice none 0 0] 43))
  have hR := Lib.hid (Blk.new' (g := w.heap.size + 1) (w := w.alloc (.cells #[.int .i64 W, .int .i64 H, .slice A n c] 39)) (by simp) 43 #[.int .i64 0, .int .i64 0, .slice none 0 0])
  go_enter Try.func38, Try.ntmps38
  go_wp2_with fail
  refine (Check2_any W H A n c _).mono ?_
  rintro e w1 ⟨rfl, hE1⟩
  obtain ⟨rc, rf, rl⟩ := (hR.out.ext hE1).rules
  replace hE1 := Lib.hid (hP.out.trans hE1)
  go_wp2_with fail
  refine bodyPost_ret (v := .tuple #[img 0 0 none 0 0, .int .i64 (chk W H n)]) (by simp [results, Try.results38, go_sem, *]) rfl ⟨rfl, ?_⟩
  exact ((hE1.out.setCell (by simp) _).setCell (by simp) _).setCell (by simp) _

theorem IPut_bad2 (W H : Int) (A : Option Addr) (n c : Nat) (dx dy : Int) (w : World) (hok : chk W H n = 0) (hs : shiftB dx dy = false) :
    Calls Try.prog 38 #[bmp W H A n c, .int .i64 dx, .int .i64 dy] w fun e w' => e = .returned (.tuple #[img 0 0 none 0 0, .int .i64 3]) ∧ Ext w w' := by
  have hne : (chk W H n != 0) = false := by simpa using hok
  replace hok := Lib.hid hok
  have hs' : ¬ (-2 ≤ dx ∧ dx ≤ 2 ∧ -2 ≤ dy ∧ dy ≤ 2) := fun h => by rw [shiftB_iff.2 h] at hs; cases hs
  replace hs := Lib.hid hs
  have hP := Lib.hid ((Ext.refl w).alloc (.cells #[.int .i64 W, .int .i64 H, .slice A n c] 39) |>.alloc (.cells #[.int .i64 0, .int .i64 0, .slice none 0 0] 43))
  have hR := Lib.hid (Blk.new' (g := w.heap.size + 1) (w := w.alloc (.cells #[.int .i64 W, .int .i64 H, .slice A n c] 39)) (by simp) 43 #[.int .i64 0, .int .i64 0, .slice none 0 0])
  obtain ⟨mx, hmx⟩ : ∃ mx, (if dx < dy then dy else dx) = mx := ⟨_, rfl⟩
  obtain ⟨mn, hmn⟩ : ∃ mn, (if dy < dx then dy else dx) = mn := ⟨_, rfl⟩
  by_cases hc : 2 < mx
  · clear hs' hmn
    go_enter Try.func38, Try.ntmps38
    go_wp2_with fail
    refine (Check2_any W H A n c _).mono ?_
    rintro e w1 ⟨rfl, hE1⟩
    obtain ⟨rc, rf, rl⟩ := (hR.out.ext hE1).rules
    replace hE1 := Lib.hid (hP.out.trans hE1)
    go_wp2_with fail
    refine bodyPost_ret (v := .tuple #[img 0 0 none 0 0, .int .i64 3]) (by simp [results, Try.results38, go_sem, *]) rfl ⟨rfl, ?_⟩
    exact ((hE1.out.setCell (by simp) _).setCell (by simp) _).setCell (by simp) _
  · have hc2 : mn < -2 := by
      rw [← hmx] at hc
      rw [← hmn]
      split at hc <;> split <;> omega
    clear hs'
    go_enter Try.func38, Try.ntmps38
    go_wp2_with fail
    refine (Check2_any W H A n c _).mono ?_
    rintro e w1 ⟨rfl, hE1⟩
    obtain ⟨rc, rf, rl⟩ := (hR.out.ext hE1).rules
    replace hE1 := Lib.hid (hP.out.trans hE1)
    go_wp2_with fail
    refine bodyPost_ret (v := .tuple #[img 0 0 none 0 0, .int .i64 3]) (by simp [results, Try.results38, go_sem, *]) rfl ⟨rfl, ?_⟩
    exact ((hE1.out.setCell (by simp) _).setCell (by simp) _).setCell (by simp) _

def PutOk (W H : Int) (dot : Nat → Bool) (dx dy : Int) (w : World) (e : Ending) (w' : World) : Prop :=
  ∃ A c, ∃ m : Nat, e = .returned (.tuple #[img (W + 4) (H + 4) A m c, .int .i64 0]) ∧ (m ≤ c ∧ (m : Int) = (W + 4) * (H + 4)) ∧ Mine w' w.heap.size A 3 m (fun k => .int .i64 (putF W H dot dx dy k)) ∧ Ext w w'

set_option maxHeartbeats 1000000 in
set_option maxRecDepth 100000 in
theorem IPut_ok (Wn Hn : Nat) (A : Option Addr) (n c : Nat) (dot : Nat → Bool) (dx dy : Int) (w : World) (hok : chk Wn Hn n = 0) (hs : shiftB dx dy = true) (hA : Bools w A n dot) :
    Calls Try.prog 38 #[bmp Wn Hn A n c, .int .i64 dx, .int .i64 dy] w (PutOk Wn Hn dot dx dy w) := by
  have hpost : ∀ e w', (∃ A c, ∃ m : Nat, e = .returned (.tuple #[img ((Wn : Int) + 4) ((Hn : Int) + 4) A m c, .int .i64 0]) ∧ (m ≤ c ∧ (m : Int) = ((Wn : Int) + 4) * ((Hn : Int) + 4)) ∧ Mine w' w.heap.size A 3 m (fun k => .int .i64 (putF Wn Hn dot dx dy k)) ∧ Ext w w') → PutOk Wn Hn dot dx dy w e w' := fun _ _ h => h
  replace hpost := Lib.hid hpost
  obtain ⟨i0, hi, hz0, hz1, hz2⟩ := info_parts info_int
  have hne : (chk Wn Hn n != 0) = false := by simpa using hok
  have hk := okB hok
  obtain ⟨-, hw2, -, hh2, hn⟩ := hk
  have hs' := shiftB_iff.1 hs
  obtain ⟨hx1, hx2, hy1, hy2⟩ := hs'
  replace hok := Lib.hid hok
  obtain ⟨mx, hmx, hmx2⟩ : ∃ mx, (if dx < dy then dy else dx) = mx ∧ mx ≤ 2 := ⟨_, rfl, by split <;> omega⟩
  obtain ⟨mn, hmn, hmn2⟩ : ∃ mn, (if dy < dx then dy else dx) = mn ∧ -2 ≤ mn := ⟨_, rfl, by split <;> omega⟩
  have har := areaI (W := (Wn : Int) + 4) (H := (Hn : Int) + 4) ⟨by omega, by omega⟩ ⟨by omega, by omega⟩
  obtain ⟨m, hm⟩ : ∃ m : Nat, ((Wn : Int) + 4) * ((Hn : Int) + 4) = m := ⟨(((Wn : Int) + 4) * ((Hn : Int) + 4)).toNat, by omega⟩
  have hm1 : m ≤ 10000 := by omega
  have hnb := (area_bd (W := (Wn : Int)) (H := (Hn : Int)) ⟨by omega, hw2⟩ ⟨by omega, hh2⟩)
  have hn1 : n ≤ 9216 := by omega
  have hwm : IntKind.i64.wrap (((Wn : Int) + 4) * ((Hn : Int) + 4)) = m := by rw [IntKind.wrap_i64]; omega
  have hd1 : decide (2 < mx) = false := by simpa using hmx2
  have hd2 : decide (mn < -2) = false := by simpa using hmn2
  clear hmx2 hmn2
  replace hn := Lib.hid hn
  replace hm := Lib.hid hm
  replace hs := Lib.hid hs
  clear har hnb
  have hE0 := Lib.hid (((Ext.refl w).alloc (.cells #[.int .i64 Wn, .int .i64 Hn, .slice A n c] 39)).alloc (.cells #[.int .i64 0, .int .i64 0, .slice none 0 0] 43))
  have hB0 := Lib.hid ((Blk.new w 39 #[.int .i64 Wn, .int .i64 Hn, .slice A n c]).alloc (.cells #[.int .i64 0, .int .i64 0, .slice none 0 0] 43))
  have hR0 := Lib.hid (Blk.new' (g := w.heap.size + 1) (w := w.alloc (.cells #[.int .i64 Wn, .int .i64 Hn, .slice A n c] 39)) (by simp) 43 #[.int .i64 0, .int .i64 0, .slice none 0 0])
  go_enter Try.func38, Try.ntmps38
  go_wp2_with fail
  refine (Check2_any Wn Hn A n c _).mono ?_
  rintro e w1 ⟨rfl, hE1⟩
  have hB1 := hB0.out.ext hE1
  have hR1 := hR0.out.ext hE1
  replace hE1 := Lib.hid (hE0.out.trans hE1)
  obtain ⟨bc, bf, bl⟩ := hB1.rules
  obtain ⟨rc, rf, rl⟩ := hR1.rules
  replace hB1 := Lib.hid hB1
  replace hR1 := Lib.hid hR1
  go_wp2_with (first
    | (at_make; refine wpList_make rfl (.tmp 40) (.tmp 40) 22 rfl 3 i0 (.int .i64 0) Try.underlying22 hi hz0 hz1 rfl _ _ _ _ m rfl rfl rfl rfl (by rw [hz2]; omega) (by omega) ?_))
  intro w2 hO hE2
  have hT2 := (Blk.new w1 43 #[.int .i64 ((Wn : Int) + 4), .int .i64 ((Hn : Int) + 4), .slice none 0 0]).ext hE2
  have hB2 := (hB1.out.alloc _).ext hE2
  have hR2 := (hR1.out.alloc _).ext hE2
  replace hE2 := Lib.hid ((hE1.out.alloc _).trans hE2)
  obtain ⟨tc, tf, tl⟩ := hT2.rules
  clear bc bf rc rf
  obtain ⟨bc, bf, -⟩ := hB2.rules
  go_wp2_with fail
  go_loopw [46] (fun i wr => ∃ k : Nat, k ≤ n ∧ i = .int .i64 k ∧ Blk wr w.heap.size 39 #[.int .i64 Wn, .int .i64 Hn, .slice A n c] ∧ Blk wr (w.heap.size + 1) 43 #[.int .i64 0, .int .i64 0, .slice none 0 0] ∧
      Blk wr w1.heap.size 43 #[.int .i64 ((Wn : Int) + 4), .int .i64 ((Hn : Int) + 4), .slice (some ⟨w1.heap.size + 1, 0, none⟩) m m] ∧ Own wr (w1.heap.size + 1) 3 m (fun j => .int .i64 (putF Wn Hn (below k dot) dx dy j)) ∧ Ext w wr) (fun i _ => n - (intOf i).toNat)
  case atStart =>
    refine ⟨0, by omega, rfl, hB2.far (by simp; omega) _, hR2.far (by simp; omega) _, ?_, ?_, hE2.out.setCell (by simp; omega) _⟩
    · have := hT2.set_ 2 (.slice (some ⟨w1.heap.size + 1, 0, none⟩) m m); simpa using this
    · refine (Own.far ?_ (by simp) _).congr (fun j _ => by rw [putF_none])
      simpa using hO
  case round =>
    clear hO hB2 hR2 hT2 bc bf tc tf tl hE2 hE1 hB1 hR1
    obtain ⟨k, hk, rfl, hB, hR, hT, hO, hE⟩ := hrel
    obtain ⟨bc, bf, bl'⟩ := hB.rules
    obtain ⟨tc, tf, tl⟩ := hT.rules
    by_cases hlt : k < n
    · have hlt' : (k : Int) < n := by omega
      obtain ⟨ad, rfl, hc⟩ := hA.ext hE k hlt
      have hal := lt_of_cell hc
      cases hd : dot k
      · simp only [hd] at hc
        have hsk := Lib.hid (putF_skip (W := Wn) (H := Hn) hd dx dy)
        replace hd := Lib.hid hd
        go_wp2_with fail
        exact ⟨⟨k + 1, by omega, by go_num, hB, hR, hT, hO.congr (fun j _ => by rw [hsk.out]), hE⟩, by simp only [intOf]; omega⟩
      · simp only [hd] at hc
        have hst := Lib.hid (putF_set (Hn := Hn) hn.out hlt hd hs.out)
        obtain ⟨t1, t2, t3, t4, t5, t6, t7⟩ := tgt_bd hn.out hs.out hlt
        obtain ⟨t, ht⟩ : ∃ t : Nat, tgt Wn dx dy k = t := ⟨(tgt Wn dx dy k).toNat, by omega⟩
        have htm : t < m := by have := hm.out; omega
        have hwn : Wn ≠ 0 := by omega
        have htm' : (t : Int) < m := by omega
        have hmd : (k : Int).tmod Wn = (k : Int) % Wn := Int.tmod_eq_emod_of_nonneg (by omega)
        have hdv : (k : Int).tdiv Wn = (k : Int) / Wn := Int.tdiv_eq_ediv_of_nonneg (by omega)
        have hwq : IntKind.i64.wrap ((k : Int) / Wn) = (k : Int) / Wn := by rw [IntKind.wrap_i64]; omega
        have hw1 : IntKind.i64.wrap ((k : Int) / Wn + 2) = (k : Int) / Wn + 2 := by rw [IntKind.wrap_i64]; omega
        have hw2' : IntKind.i64.wrap ((k : Int) / Wn + 2 + dy) = (k : Int) / Wn + 2 + dy := by rw [IntKind.wrap_i64]; omega
        have hP := areaI (W := (k : Int) / Wn + 2 + dy) (H := (Wn : Int) + 4) ⟨by omega, by omega⟩ ⟨by omega, by omega⟩
        have hwp : IntKind.i64.wrap (((k : Int) / Wn + 2 + dy) * ((Wn : Int) + 4)) = ((k : Int) / Wn + 2 + dy) * ((Wn : Int) + 4) := by rw [IntKind.wrap_i64]; omega
        have hT1 : ((k : Int) / Wn + 2 + dy) * ((Wn : Int) + 4) + (k : Int) % Wn + 2 + dx = t := ht
        obtain ⟨hP1, hP2⟩ := hP
        have hw3 : IntKind.i64.wrap (((k : Int) / Wn + 2 + dy) * ((Wn : Int) + 4) + (k : Int) % Wn) = ((k : Int) / Wn + 2 + dy) * ((Wn : Int) + 4) + (k : Int) % Wn := by rw [IntKind.wrap_i64]; omega
        have hw4 : IntKind.i64.wrap (((k : Int) / Wn + 2 + dy) * ((Wn : Int) + 4) + (k : Int) % Wn + 2) = ((k : Int) / Wn + 2 + dy) * ((Wn : Int) + 4) + (k : Int) % Wn + 2 := by rw [IntKind.wrap_i64]; omega
        have hw5 : IntKind.i64.wrap (((k : Int) / Wn + 2 + dy) * ((Wn : Int) + 4) + (k : Int) % Wn + 2 + dx) = t := by rw [IntKind.wrap_i64]; omega
        have hw6 : IntKind.i64.wrap (t : Int) = t := by rw [IntKind.wrap_i64]; omega
        replace ht := Lib.hid ht
        have hd' := Lib.hid hd
        clear hd
        replace hE := Lib.hid hE
        have hol := hO.lt
        go_wp2_with fail
        refine Flow.wp_flow 21 [(0, true), (1, true), (2, true), (3, true), (4, true), (5, true), (6, true), (7, true), (8, true), (9, true), (10, true), (11, true), (12, true), (13, true), (14, true), (15, true), (16, true), (17, true), (18, true), (19, true), (20, true)] (by kernel_rfl) (by kernel_rfl) ?_
        simp only [List.map_cons, List.map_nil, List.getD_cons_succ, List.getD_cons_zero]
        repeat (first
          | (refine Flow.WalkL.move rfl ?_
             simp only [Act.put, Act.eval, Array.getD_eq_getD_getElem?, List.getElem?_toArray, List.getElem?_cons_succ, List.getElem?_cons_zero, Option.getD_some, List.setIfInBounds_toArray, List.set_cons_zero, List.set_cons_succ])
          | (refine Flow.WalkL.assign rfl ?_
             simp only [Act.put, Act.eval, Array.getD_eq_getD_getElem?, List.getElem?_toArray, List.getElem?_cons_succ, List.getElem?_cons_zero, Option.getD_some, List.setIfInBounds_toArray, List.set_cons_zero, List.set_cons_succ])
          | (refine Flow.WalkL.run (v := ?_) rfl (fun w1 hC => ?_) ?_
             rotate_left
             · obtain ⟨hCc, hCf⟩ := hC.rules
               go_simp
               with_reducible rfl
             simp only [Act.put, List.setIfInBounds_toArray, List.set_cons_zero, List.set_cons_succ]))
        refine Flow.WalkL.nil ?_
        simp only [List.drop]
        intro v1 hv1
        have hO1 := hO.ext hv1
        have hgc1 := hO1.cell htm
        have hgf1 := hO1.frozen t
        have hgl1 := hO1.lt
        replace hE := Lib.hid (hE.out.trans hv1)
        have hB1 := Lib.hid (hB.ext hv1)
        have hR1 := Lib.hid (hR.ext hv1)
        have hT1' := Lib.hid (hT.ext hv1)
        clear bc bf tc tf tl hc hal hmd hdv hwq hwp hw1 hw2' hw3 hw4 hw5 hw6 hT1 hP1 hP2 t1 t2 t3 t4 t5 t6 t7
        go_wp2_with fail
        exact ⟨⟨k + 1, by omega, by go_num, hB1.out.far (by simp; omega) _, hR1.out.far (by simp; omega) _, hT1'.out.far (by simp) _,
          (hO1.set_ t _).congr (fun j hj => by
            simp only [upd]
            rw [hst.out, ht.out]
            by_cases e : j = t
            · rw [if_pos e, if_pos (by omega)]
            · rw [if_neg e, if_neg (by omega)]),
          hE.out.setCell (by simp; omega) _⟩, by simp only [intOf]; omega⟩
    · obtain rfl : k = n := by omega
      have hfin := hpost.out (.returned (.tuple #[img ((Wn : Int) + 4) ((Hn : Int) + 4) (some ⟨w1.heap.size + 1, 0, none⟩) m m, .int .i64 0])) (((wr.setCell ⟨w.heap.size + 1, 0, none⟩ (.int .i64 ((Wn : Int) + 4))).setCell ⟨w.heap.size + 1, 1, none⟩ (.int .i64 ((Hn : Int) + 4))).setCell ⟨w.heap.size + 1, 2, none⟩ (.slice (some ⟨w1.heap.size + 1, 0, none⟩) m m))
        ⟨_, m, m, rfl, ⟨Nat.le_refl _, hm.out.symm⟩, Mine.of_own ((((hO.congr (fun j hj => by rw [putF_congr hn.out (fun i hi => below_all (Nat.le_refl _) i hi)])).far (p := ⟨w.heap.size + 1, 0, none⟩) (by simp; omega) _).far (p := ⟨w.heap.size + 1, 1, none⟩) (by simp; omega) _).far (p := ⟨w.heap.size + 1, 2, none⟩) (by simp; omega) _) (by omega),
          ((hE.setCell (by simp) _).setCell (by simp) _).setCell (by simp) _⟩
      replace hfin := Lib.hid hfin
      obtain ⟨rc, rf, rl'⟩ := hR.rules
      clear hpost hE hO
      go_wp2_with fail
      exact bodyPost_ret (v := .tuple #[img ((Wn : Int) + 4) ((Hn : Int) + 4) (some ⟨w1.heap.size + 1, 0, none⟩) m m, .int .i64 0]) (by simp [results, Try.results38, go_sem, *]) rfl hfin.out
end Go.Proofs.Ytclaanggpcjnbaa
end
