/- SameInts, New. No condition but those that each states. -/
import Derived.Test.YtfgcogkhnnflcaaDoorProg
import Derived.Test.YtfgcogkhnnflcaaDoorLow
namespace Go.Proofs.YtfgcogkhnnflcaaDoor
open Go.RowKit Go.Flow
open Go.Proofs
attribute [local go_sem] block_add
attribute [local go_sem ↓] Go.wp_at_zero Go.wp_at_succ

def sameB (n m : Nat) (f g : Nat → Int) : Bool := decide (n = m ∧ ∀ k, k < n → f k = g k)

set_option maxHeartbeats 400000 in
theorem SameInts_any (A B : Option Addr) (n m c d : Nat) (f g : Nat → Int) (w : World) (hn : n ≤ 4611686018427387904) (hA : Ints w A n f) (hB : Ints w B m g) :
    Calls Tryd.prog 14 #[.slice A n c, .slice B m d] w fun e w' => e = .returned (.bool (sameB n m f g)) ∧ Ext w w' := by
  by_cases hl : n = m
  · subst hl
    have hne : ((n : Int) != n) = false := by simp
    go_enter Tryd.func14, Tryd.ntmps14
    go_wp2
    go_loopw [5] (fun i wr => ∃ k : Nat, k ≤ n ∧ i = .int .i64 k ∧ (∀ j, j < k → f j = g j) ∧ Ext w wr) (fun i _ => n - (intOf i).toNat)
    case atStart => exact ⟨0, Nat.zero_le _, rfl, fun j hj => absurd hj (by omega), Ext.refl w⟩
    case round =>
      obtain ⟨k, hk, rfl, heq, hE⟩ := hrel
      replace heq := Lib.hid heq
      by_cases hlt : k < n
      · have hlt' : (k : Int) < n := by omega
        obtain ⟨ad, rfl, hc⟩ := hA.ext hE k hlt
        obtain ⟨bd, rfl, hd⟩ := hB.ext hE k hlt
        have hab := lt_of_cell hc
        have hbb := lt_of_cell hd
        replace hE := Lib.hid hE
        by_cases h : f k = g k
        · have hb : (f k != g k) = false := by simp [h]
          replace h := Lib.hid h
          go_wp2
          refine Flow.wp_flow 9 [(0, true), (1, true), (2, true), (3, true), (4, true), (5, true), (6, true), (7, true), (8, true)] (by kernel_rfl) (by kernel_rfl) ?_
          simp only [List.map_cons, List.map_nil, List.getD_cons_succ, List.getD_cons_zero]
          repeat (first
            | (refine Flow.WalkL.move rfl ?_
               simp only [Act.put, Act.eval, Array.getD_eq_getD_getElem?, List.getElem?_toArray, List.getElem?_cons_succ, List.getElem?_cons_zero, Option.getD_some, List.setIfInBounds_toArray, List.set_cons_zero, List.set_cons_succ])
            | (refine Flow.WalkL.assign rfl ?_
               simp only [Act.put, Act.eval, Array.getD_eq_getD_getElem?, List.getElem?_toArray, List.getElem?_cons_succ, List.getElem?_cons_zero, Option.getD_some, List.setIfInBounds_toArray, List.set_cons_zero, List.set_cons_succ])
            | (refine Flow.WalkL.run (v := ?_) rfl (fun w1 hC => ?_) ?_
               rotate_left
               · obtain ⟨hCc, hCf⟩ := hC.rules
                 go_simp
                 with_reducible rfl
               simp only [Act.put, List.setIfInBounds_toArray, List.set_cons_zero, List.set_cons_succ]))
          refine Flow.WalkL.nil ?_
          simp only [List.drop_succ_cons, List.drop_zero, List.drop_nil]
          intro w1 hC
          go_wp2
          go_roundw
          case rel => exact ⟨k + 1, by omega, by go_num, fun j hj => by rcases Nat.lt_or_ge j k with h1 | h1; · exact heq.out j h1
                                                                        · rw [show j = k by omega]; exact h.out, hE.out.trans hC⟩
          case measure => simp [intOf]; omega
        · have hb : (f k != g k) = true := by simp [h]
          go_wp2
          refine Flow.wp_flow 9 [(0, true), (1, true), (2, true), (3, true), (4, true), (5, true), (6, true), (7, true), (8, true)] (by kernel_rfl) (by kernel_rfl) ?_
          simp only [List.map_cons, List.map_nil, List.getD_cons_succ, List.getD_cons_zero]
          repeat (first
            | (refine Flow.WalkL.move rfl ?_
               simp only [Act.put, Act.eval, Array.getD_eq_getD_getElem?, List.getElem?_toArray, List.getElem?_cons_succ, List.getElem?_cons_zero, Option.getD_some, List.setIfInBounds_toArray, List.set_cons_zero, List.set_cons_succ])
            | (refine Flow.WalkL.assign rfl ?_
               simp only [Act.put, Act.eval, Array.getD_eq_getD_getElem?, List.getElem?_toArray, List.getElem?_cons_succ, List.getElem?_cons_zero, Option.getD_some, List.setIfInBounds_toArray, List.set_cons_zero, List.set_cons_succ])
            | (refine Flow.WalkL.run (v := ?_) rfl (fun w1 hC => ?_) ?_
               rotate_left
               · obtain ⟨hCc, hCf⟩ := hC.rules
                 go_simp
                 with_reducible rfl
               simp only [Act.put, List.setIfInBounds_toArray, List.set_cons_zero, List.set_cons_succ]))
          refine Flow.WalkL.nil ?_
          simp only [List.drop_succ_cons, List.drop_zero, List.drop_nil]
          intro w1 hC
          go_wp2
          go_ret
          exact ⟨ret_bool (by simp [sameB]; exact ⟨k, hlt, h⟩), hE.out.trans hC⟩
      · go_wp2
        go_ret
        exact ⟨ret_bool (by simp [sameB]; exact fun j hj => heq.out j (by omega)), hE⟩
  · have hne : ((n : Int) != m) = true := by simp; omega
    go_enter Tryd.func14, Tryd.ntmps14
    go_wp2
    go_ret
    exact ⟨ret_bool (by simp [sameB, hl]), Ext.refl w⟩

theorem info_bool : (Tryd.prog.info? 4).map (fun i => (i.zero, i.size, i.bytes)) = some (some (.bool false), 1, 1) := by kernel_rfl
theorem info_int : (Tryd.prog.info? 3).map (fun i => (i.zero, i.size, i.bytes)) = some (some (.int .i64 0), 1, 8) := by kernel_rfl

/-- What New returns. -/
def NewPost (W H : Int) (w : World) (e : Ending) (w' : World) : Prop :=
  ∃ g n, e = .returned (.tuple #[bmp W H (some ⟨g, 0, none⟩) n n, .int .i64 0]) ∧ (n : Int) = W * H ∧ Own w' g 4 n (fun _ => .bool false) ∧ w.heap.size ≤ g ∧ Ext w w'

theorem New_bad (W H : Int) (w : World) (hb : (sideB W && sideB H) = false) :
    Calls Tryd.prog 24 #[.int .i64 W, .int .i64 H] w fun e w' => e = .returned (.tuple #[bmp 0 0 none 0 0, .int .i64 13]) ∧ Ext w w' := by
  have hfin : Ext w (w.alloc (.cells #[.int .i64 0, .int .i64 0, .slice none 0 0] 30)) := (Ext.refl w).alloc _
  replace hfin := Lib.hid hfin
  cases hW : sideB W
  · go_enter Tryd.func24, Tryd.ntmps24
    go_wp2_with (first | (go_at_call 41; refine (side_any _ _).mono ?_; rintro e w' ⟨rfl, rfl⟩))
    exact bodyPost_ret (v := .tuple #[bmp 0 0 none 0 0, .int .i64 13]) (by simp [results, Tryd.results24, go_sem]) rfl ⟨rfl, hfin.out⟩
  · have hH : sideB H = false := by simpa [hW] using hb
    go_enter Tryd.func24, Tryd.ntmps24
    go_wp2_with (first | (go_at_call 41; refine (side_any _ _).mono ?_; rintro e w' ⟨rfl, rfl⟩))
    exact bodyPost_ret (v := .tuple #[bmp 0 0 none 0 0, .int .i64 13]) (by simp [results, Tryd.results24, go_sem]) rfl ⟨rfl, hfin.out⟩

theorem New_ok (W H : Int) (w : World) (hb : (sideB W && sideB H) = true) :
    Calls Tryd.prog 24 #[.int .i64 W, .int .i64 H] w (NewPost W H w) := by
  obtain ⟨i0, hi, hz0, hz1, hz2⟩ := info_parts info_bool
  simp only [Bool.and_eq_true] at hb
  obtain ⟨hW, hH⟩ := hb
  have hbd := area_bd (sideB_iff.1 hW) (sideB_iff.1 hH)
  obtain ⟨n, hn⟩ : ∃ n : Nat, W * H = n := ⟨(W * H).toNat, by omega⟩
  have hn' := Lib.hid hn
  clear hn
  go_enter Tryd.func24, Tryd.ntmps24
  go_wp2_with (first
    | (go_at_call 41; refine (side_any _ _).mono ?_; rintro e w' ⟨rfl, rfl⟩)
    | (at_make; refine wpList_make rfl (.tmp 19) (.tmp 19) 28 rfl 4 i0 (.bool false) Tryd.underlying28 hi hz0 hz1 rfl _ _ _ _ n rfl rfl hn'.out hn'.out (by rw [hz2]; have := hn'.out; omega) (by have := hn'.out; omega) ?_))
  intro w1 hO hE
  obtain ⟨hBc, hBf, hBl⟩ := ((Blk.new w 30 #[.int .i64 0, .int .i64 0, .slice none 0 0]).ext hE).rules
  go_wp2
  refine bodyPost_ret (v := .tuple #[bmp W H (some ⟨w.heap.size + 1, 0, none⟩) n n, .int .i64 0]) (by simp [results, Tryd.results24, go_sem, *]) rfl
    ⟨w.heap.size + 1, n, rfl, hn'.out.symm, ((hO.far ?_ _).far ?_ _).far ?_ _, by omega, ((((Ext.refl w).alloc _).trans hE).setCell ?_ _ |>.setCell ?_ _ |>.setCell ?_ _)⟩ <;> simp
theorem New2_bad (W H : Int) (w : World) (hb : (sideB W && sideB H) = false) :
    Calls Tryd.prog 33 #[.int .i64 W, .int .i64 H] w fun e w' => e = .returned (.tuple #[bmp 0 0 none 0 0, .int .i64 13]) ∧ Ext w w' := by
  have hfin : Ext w (w.alloc (.cells #[.int .i64 0, .int .i64 0, .slice none 0 0] 30)) := (Ext.refl w).alloc _
  replace hfin := Lib.hid hfin
  cases hW : sideB W
  · go_enter Tryd.func33, Tryd.ntmps33
    go_wp2_with (first | (go_at_call 43; refine (side2_any _ _).mono ?_; rintro e w' ⟨rfl, rfl⟩))
    exact bodyPost_ret (v := .tuple #[bmp 0 0 none 0 0, .int .i64 13]) (by simp [results, Tryd.results33, go_sem]) rfl ⟨rfl, hfin.out⟩
  · have hH : sideB H = false := by simpa [hW] using hb
    go_enter Tryd.func33, Tryd.ntmps33
    go_wp2_with (first | (go_at_call 43; refine (side2_any _ _).mono ?_; rintro e w' ⟨rfl, rfl⟩))
    exact bodyPost_ret (v := .tuple #[bmp 0 0 none 0 0, .int .i64 13]) (by simp [results, Tryd.results33, go_sem]) rfl ⟨rfl, hfin.out⟩

theorem New2_ok (W H : Int) (w : World) (hb : (sideB W && sideB H) = true) :
    Calls Tryd.prog 33 #[.int .i64 W, .int .i64 H] w (NewPost W H w) := by
  obtain ⟨i0, hi, hz0, hz1, hz2⟩ := info_parts info_bool
  simp only [Bool.and_eq_true] at hb
  obtain ⟨hW, hH⟩ := hb
  have hbd := area_bd (sideB_iff.1 hW) (sideB_iff.1 hH)
  obtain ⟨n, hn⟩ : ∃ n : Nat, W * H = n := ⟨(W * H).toNat, by omega⟩
  have hn' := Lib.hid hn
  clear hn
  go_enter Tryd.func33, Tryd.ntmps33
  go_wp2_with (first
    | (go_at_call 43; refine (side2_any _ _).mono ?_; rintro e w' ⟨rfl, rfl⟩)
    | (at_make; refine wpList_make rfl (.tmp 19) (.tmp 19) 28 rfl 4 i0 (.bool false) Tryd.underlying28 hi hz0 hz1 rfl _ _ _ _ n rfl rfl hn'.out hn'.out (by rw [hz2]; have := hn'.out; omega) (by have := hn'.out; omega) ?_))
  intro w1 hO hE
  obtain ⟨hBc, hBf, hBl⟩ := ((Blk.new w 30 #[.int .i64 0, .int .i64 0, .slice none 0 0]).ext hE).rules
  go_wp2
  refine bodyPost_ret (v := .tuple #[bmp W H (some ⟨w.heap.size + 1, 0, none⟩) n n, .int .i64 0]) (by simp [results, Tryd.results33, go_sem, *]) rfl
    ⟨w.heap.size + 1, n, rfl, hn'.out.symm, ((hO.far ?_ _).far ?_ _).far ?_ _, by omega, ((((Ext.refl w).alloc _).trans hE).setCell ?_ _ |>.setCell ?_ _ |>.setCell ?_ _)⟩ <;> simp
end Go.Proofs.YtfgcogkhnnflcaaDoor
