/- bound.Columns, bound.excess, bound.limited. No condition but those that each states. -/
import Derived.Test.YtfgcogkhnnflcaaDoorProg
import Derived.Test.YtfgcogkhnnflcaaDoorBdCount
namespace Go.Proofs.YtfgcogkhnnflcaaDoor
open Go.RowKit Go.Flow Go.Plain
open Go.Proofs
attribute [local go_sem] block_add
attribute [local go_sem ↓] Go.wp_at_zero Go.wp_at_succ

theorem Cts.ints {w : World} {g n : Nat} {f : Nat → Int} (h : Cts w g n f) (hn : n ≤ 96) : Ints w (some ⟨g, 0, none⟩) n f := fun k hk => ⟨_, rfl, by
  rw [show (⟨g, 0, none⟩ : Addr).add k = ⟨g, k, none⟩ by unfold Addr.add; split <;> simp_all]; exact h.at_ hk hn⟩
/-- What the package variable bound.sides holds. -/
abbrev sidesCells : Array Value := #[.func (.func 83) #[] #[], .func (.func 84) #[] #[], .bool true, .func (.func 85) #[] #[], .func (.func 86) #[] #[], .bool false]
structure Sides (w : World) : Prop where
  cell : ∀ i, i < 6 → w.cell? ⟨0, i, none⟩ = sidesCells[i]?
theorem Sides.lt {w : World} (h : Sides w) : 0 < w.heap.size := World.block_lt_of_cell? w ⟨0, 0, none⟩ (u := .func (.func 83) #[] #[]) (h.cell 0 (by omega))
theorem Sides.ext {w w' : World} (h : Sides w) (hE : Ext w w') : Sides w' := ⟨fun i hi => (hE.rules.1 ⟨0, i, none⟩ h.lt).trans (h.cell i hi)⟩

def ColsPost (W H : Int) (n : Nat) (dot : Nat → Bool) (w : World) (e : Ending) (w' : World) : Prop :=
  ∃ A B c d, e = .returned (.tuple #[.slice A W.toNat c, .slice B H.toNat d]) ∧ Ints w' A W.toNat (colF W n dot) ∧ Ints w' B H.toNat (rowF W n dot) ∧ Ext w w'

theorem Columns_bad (W H : Int) (A : Option Addr) (n c : Nat) (w : World) (hok : chk W H n ≠ 0) :
    Calls Tryd.prog 12 #[bmp W H A n c] w fun e w' => e = .returned (.tuple #[.slice none 0 0, .slice none 0 0]) ∧ Ext w w' := by
  have hne : (chk W H n != 0) = true := by simpa using hok
  go_enter Tryd.func12, Tryd.ntmps12
  go_wp2_with fail
  refine (Check2_any W H A n c _).mono ?_
  rintro e w1 ⟨rfl, hE1⟩
  go_wp2_with fail
  go_ret2
  exact ⟨rfl, ((Ext.refl w).alloc _).trans hE1⟩

set_option maxHeartbeats 1000000 in
theorem Columns_ok (W H : Int) (A : Option Addr) (n c : Nat) (dot : Nat → Bool) (w : World) (hok : chk W H n = 0) (hA : Bools w A n dot) (hS : Sides w) :
    Calls Tryd.prog 12 #[bmp W H A n c] w (ColsPost W H n dot w) := by
  have hne : (chk W H n != 0) = false := by simpa using hok
  replace hok := Lib.hid hok
  go_enter Tryd.func12, Tryd.ntmps12
  go_wp2_with fail
  refine (Check2_any W H A n c _).mono ?_
  rintro e w1 ⟨rfl, hE1⟩
  go_wp2_with fail
  have hB := (Blk.new w 30 #[.int .i64 W, .int .i64 H, .slice A n c]).ext hE1
  have hE01 := ((Ext.refl w).alloc _).trans hE1
  obtain ⟨hBc, hBf, hBl⟩ := hB.rules
  have hS1 := (hS.ext hE01).cell
  have hS0 := (hS.ext hE01).lt
  replace hE01 := Lib.hid hE01
  clear hE1
  refine Flow.wp_flow 10 [(0, true), (1, true), (2, true), (4, true), (5, true), (6, true), (3, false), (7, false), (8, true), (9, true)] (by kernel_rfl) (by kernel_rfl) ?_
  simp only [List.map_cons, List.map_nil, List.getD_cons_succ, List.getD_cons_zero]
  repeat (first
    | (refine Flow.WalkL.move rfl ?_
       simp only [Act.put, Act.eval, Array.getD_eq_getD_getElem?, List.getElem?_toArray, List.getElem?_cons_succ, List.getElem?_cons_zero, Option.getD_some, List.setIfInBounds_toArray, List.set_cons_zero, List.set_cons_succ])
    | (refine Flow.WalkL.assign rfl ?_
       simp only [Act.put, Act.eval, Array.getD_eq_getD_getElem?, List.getElem?_toArray, List.getElem?_cons_succ, List.getElem?_cons_zero, Option.getD_some, List.setIfInBounds_toArray, List.set_cons_zero, List.set_cons_succ])
    | (refine Flow.WalkL.run (v := ?_) rfl (fun w1 hC => ?_) ?_
       rotate_left
       · obtain ⟨hCc, hCf⟩ := hC.rules
         go_simp
         with_reducible rfl
       simp only [Act.put, List.setIfInBounds_toArray, List.set_cons_zero, List.set_cons_succ]))
  refine Flow.WalkL.openf Tryd.func27 rfl (by kernel_rfl) rfl rfl rfl (fun w2 hE2 => ?_)
  refine (count1_any W H A n c dot w2 hok.out ((hA.ext hE01.out).ext hE2)).mono ?_
  rintro e w3 ⟨g1, rfl, hC1, hg1, hE3⟩
  refine ⟨_, rfl, hE3, ?_⟩
  simp only [Act.put, List.setIfInBounds_toArray, List.set_cons_zero, List.set_cons_succ]
  refine Flow.WalkL.openf Tryd.func27 rfl (by kernel_rfl) rfl rfl rfl (fun w4 hE4 => ?_)
  refine (count2_any W H A n c dot w4 hok.out ((hA.ext hE01.out).ext (hE2.trans (hE3.trans hE4)))).mono ?_
  rintro e w5 ⟨g2, rfl, hC2, hg2, hE5⟩
  refine ⟨_, rfl, hE5, ?_⟩
  simp only [Act.put, List.setIfInBounds_toArray, List.set_cons_zero, List.set_cons_succ]
  repeat (first
    | (refine Flow.WalkL.move rfl ?_
       simp only [Act.put, Act.eval, Array.getD_eq_getD_getElem?, List.getElem?_toArray, List.getElem?_cons_succ, List.getElem?_cons_zero, Option.getD_some, List.setIfInBounds_toArray, List.set_cons_zero, List.set_cons_succ])
    | (refine Flow.WalkL.assign rfl ?_
       simp only [Act.put, Act.eval, Array.getD_eq_getD_getElem?, List.getElem?_toArray, List.getElem?_cons_succ, List.getElem?_cons_zero, Option.getD_some, List.setIfInBounds_toArray, List.set_cons_zero, List.set_cons_succ])
    | (refine Flow.WalkL.run (v := ?_) rfl (fun w1 hC => ?_) ?_
       rotate_left
       · obtain ⟨hCc, hCf⟩ := hC.rules
         go_simp
         with_reducible rfl
       simp only [Act.put, List.setIfInBounds_toArray, List.set_cons_zero, List.set_cons_succ]))
  refine Flow.WalkL.nil ?_
  simp only [List.drop_succ_cons, List.drop_zero, List.drop_nil]
  intro w6 hE6
  have hk := okB hok.out
  have hC1' : Cts w6 g1 W.toNat (colF W n dot) := Own.ext hC1 (hE4.trans (hE5.trans hE6))
  have hC2' : Cts w6 g2 H.toNat (rowF W n dot) := Own.ext hC2 hE6
  have hm1 := hC1'.many
  have hm2 := hC2'.many
  have hl1 := Own.lt hC1'
  have hl2 := Own.lt hC2'
  have hE06 := hE01.out.trans (hE2.trans (hE3.trans (hE4.trans (hE5.trans hE6))))
  clear hBc hBf hBl hS1 hS0 hC1 hC2 hE2 hE3 hE4 hE5 hE6 hB
  replace hE06 := Lib.hid hE06
  obtain ⟨Wn, rfl⟩ := Int.eq_ofNat_of_zero_le hk.1
  obtain ⟨Hn, rfl⟩ := Int.eq_ofNat_of_zero_le hk.2.2.1
  simp only [Int.toNat_natCast] at hC1' hC2' hm1 hm2
  have hW1 : Wn ≤ 96 := by omega
  have hH1 : Hn ≤ 96 := by omega
  go_wp2_with fail
  refine Flow.wp_flow 18 [(0, true), (1, true), (2, true), (3, true), (4, true), (5, true), (6, true), (7, true), (8, true), (9, true), (10, true), (11, true), (12, true), (13, true), (14, true), (15, true), (16, true), (17, true)] (by kernel_rfl) (by kernel_rfl) ?_
  simp only [List.map_cons, List.map_nil, List.getD_cons_succ, List.getD_cons_zero]
  repeat (first
    | (refine Flow.WalkL.move rfl ?_
       simp only [Act.put, Act.eval, Array.getD_eq_getD_getElem?, List.getElem?_toArray, List.getElem?_cons_succ, List.getElem?_cons_zero, Option.getD_some, List.setIfInBounds_toArray, List.set_cons_zero, List.set_cons_succ])
    | (refine Flow.WalkL.assign rfl ?_
       simp only [Act.put, Act.eval, Array.getD_eq_getD_getElem?, List.getElem?_toArray, List.getElem?_cons_succ, List.getElem?_cons_zero, Option.getD_some, List.setIfInBounds_toArray, List.set_cons_zero, List.set_cons_succ])
    | (refine Flow.WalkL.run (v := ?_) rfl (fun w1 hC => ?_) ?_
       rotate_left
       · obtain ⟨hCc, hCf⟩ := hC.rules
         go_simp
         with_reducible rfl
       simp only [Act.put, List.setIfInBounds_toArray, List.set_cons_zero, List.set_cons_succ]))
  refine Flow.WalkL.nil ?_
  simp only [List.drop_succ_cons, List.drop_zero, List.drop_nil]
  intro w7 hE7
  go_wp2_with fail
  go_ret2
  exact ⟨some ⟨g1, 0, none⟩, some ⟨g2, 0, none⟩, 96, 96, rfl, (hC1'.ints hW1).ext hE7, (hC2'.ints hH1).ext hE7, hE06.out.trans hE7⟩

/-- By how much the numbers of the first list exceed those of the second one, which is moved, outside of a strip. -/
def excT (f1 : Nat → Int) (m2 : Nat) (f2 : Nat → Int) (shift from_ till : Int) (k : Nat) : Int :=
  if (k : Int) < from_ ∨ till ≤ (k : Int) then max 0 (f1 k - extB m2 f2 ((k : Int) - shift)) else 0
def excS (m1 : Nat) (f1 : Nat → Int) (m2 : Nat) (f2 : Nat → Int) (shift from_ till : Int) : Int := sumTo (excT f1 m2 f2 shift from_ till) m1

theorem extB_bd {m : Nat} {f : Nat → Int} {M : Int} (h : ∀ k, 0 ≤ f k ∧ f k ≤ M) (hM : 0 ≤ M) (k : Int) : 0 ≤ extB m f k ∧ extB m f k ≤ M := by
  unfold extB
  split
  · exact h _
  · omega
theorem excT_bd {f1 : Nat → Int} {m2 : Nat} {f2 : Nat → Int} {shift from_ till M : Int} (h1 : ∀ k, 0 ≤ f1 k ∧ f1 k ≤ M) (h2 : ∀ k, 0 ≤ f2 k ∧ f2 k ≤ M) (k : Nat) : 0 ≤ excT f1 m2 f2 shift from_ till k ∧ excT f1 m2 f2 shift from_ till k ≤ M := by
  have := h1 k
  have := extB_bd (m := m2) h2 (by omega) ((k : Int) - shift)
  unfold excT
  split <;> omega
theorem excS_bd {m1 : Nat} {f1 : Nat → Int} {m2 : Nat} {f2 : Nat → Int} {shift from_ till M : Int} (h1 : ∀ k, 0 ≤ f1 k ∧ f1 k ≤ M) (h2 : ∀ k, 0 ≤ f2 k ∧ f2 k ≤ M) : 0 ≤ excS m1 f1 m2 f2 shift from_ till ∧ excS m1 f1 m2 f2 shift from_ till ≤ m1 * M := by
  refine ⟨sumTo_nonneg fun k _ => (excT_bd h1 h2 k).1, ?_⟩
  have := sumTo_le (f := excT f1 m2 f2 shift from_ till) (g := fun _ => M) (n := m1) fun k _ => (excT_bd h1 h2 k).2
  rwa [sumTo_const] at this

set_option maxHeartbeats 1000000 in
theorem excess_any (g1 g2 m1 m2 : Nat) (f1 f2 : Nat → Int) (shift from_ till : Int) (w : World) (hm1 : m1 ≤ 96) (hm2 : m2 ≤ 96) (hC1 : Cts w g1 m1 f1) (hC2 : Cts w g2 m2 f2)
    (h1 : ∀ k, 0 ≤ f1 k ∧ f1 k ≤ 9216) (h2 : ∀ k, 0 ≤ f2 k ∧ f2 k ≤ 9216) (hs : -1000 ≤ shift ∧ shift ≤ 1000) :
    Calls Tryd.prog 30 #[.pointer (some ⟨g1, 0, none⟩), .pointer (some ⟨g2, 0, none⟩), .int .i64 shift, .int .i64 from_, .int .i64 till] w fun e w' =>
      e = .returned (.int .i64 (excS m1 f1 m2 f2 shift from_ till)) ∧ Ext w w' := by
  have hmany := hC1.many
  obtain ⟨hs1, hs2⟩ := hs
  have hbd : ∀ k, k ≤ m1 → 0 ≤ sumTo (excT f1 m2 f2 shift from_ till) k ∧ sumTo (excT f1 m2 f2 shift from_ till) k ≤ 1000000 := fun k hk => by
    have := excS_bd (m1 := k) (m2 := m2) (shift := shift) (from_ := from_) (till := till) h1 h2
    unfold excS at this
    omega
  replace hbd := Lib.hid hbd
  go_enter Tryd.func30, Tryd.ntmps30
  go_wp2_with fail
  go_loopw [11, 17] (fun t i wr => ∃ k : Nat, k ≤ m1 ∧ i = .int .i64 k ∧ t = .int .i64 (sumTo (excT f1 m2 f2 shift from_ till) k) ∧ Ext w wr) (fun _ i _ => m1 - (intOf i).toNat)
  case atStart => exact ⟨0, by omega, rfl, rfl, Ext.refl w⟩
  case round =>
    obtain ⟨k, hk, rfl, rfl, hE⟩ := hrel
    by_cases hlt : k < m1
    · have hc := hE.cell (hC1.at_ hlt hm1)
      have hgl := Own.lt (Own.ext hC1 hE)
      have hb0 := (hbd.out k hk).1
      have hb1 := (hbd.out k hk).2
      have hf := h1 k
      have he := extB_bd (m := m2) h2 (by omega) ((k : Int) - shift)
      have hsk : IntKind.i64.wrap ((k : Int) - shift) = (k : Int) - shift := by rw [IntKind.wrap_i64]; omega
      have hss : sumTo (excT f1 m2 f2 shift from_ till) (k + 1) = sumTo (excT f1 m2 f2 shift from_ till) k + excT f1 m2 f2 shift from_ till k := rfl
      by_cases hin : (k : Int) < from_ ∨ till ≤ (k : Int)
      · have ht : excT f1 m2 f2 shift from_ till k = max 0 (f1 k - extB m2 f2 ((k : Int) - shift)) := by unfold excT; rw [if_pos hin]
        replace hss := Lib.hid hss
        replace ht := Lib.hid ht
        have hin' : (k : Int) < from_ ∨ (from_ ≤ (k : Int) ∧ till ≤ (k : Int)) := by omega
        clear hin
        obtain ⟨hf0, hf1⟩ := hf
        obtain ⟨he0, he1⟩ := he
        have hw1 : IntKind.i64.wrap (f1 k - extB m2 f2 ((k : Int) - shift)) = f1 k - extB m2 f2 ((k : Int) - shift) := by rw [IntKind.wrap_i64]; omega
        have hw2 : IntKind.i64.wrap (sumTo (excT f1 m2 f2 shift from_ till) k + max 0 (f1 k - extB m2 f2 ((k : Int) - shift))) = sumTo (excT f1 m2 f2 shift from_ till) k + max 0 (f1 k - extB m2 f2 ((k : Int) - shift)) := by rw [IntKind.wrap_i64]; omega
        have hk0 : (0 : Int) ≤ k := by omega
        have hk96 : (k : Int) < 96 := by omega
        rcases hin' with hin | ⟨hin1, hin2⟩
        · go_wp2_with fail
          refine Flow.wp_flow 16 [(0, true), (1, true), (2, true), (3, true), (4, true), (5, true), (6, true), (7, true), (8, true), (9, true), (10, true), (11, true), (12, true), (13, true), (14, true), (15, true)] (by kernel_rfl) (by kernel_rfl) ?_
          simp only [List.map_cons, List.map_nil, List.getD_cons_succ, List.getD_cons_zero]
          repeat (first
            | (refine Flow.WalkL.move rfl ?_
               simp only [Act.put, Act.eval, Array.getD_eq_getD_getElem?, List.getElem?_toArray, List.getElem?_cons_succ, List.getElem?_cons_zero, Option.getD_some, List.setIfInBounds_toArray, List.set_cons_zero, List.set_cons_succ])
            | (refine Flow.WalkL.assign rfl ?_
               simp only [Act.put, Act.eval, Array.getD_eq_getD_getElem?, List.getElem?_toArray, List.getElem?_cons_succ, List.getElem?_cons_zero, Option.getD_some, List.setIfInBounds_toArray, List.set_cons_zero, List.set_cons_succ])
            | (refine Flow.WalkL.callf Tryd.func45 rfl (by kernel_rfl) rfl (fun w1 hC => keep (get_any g2 m2 f2 _ _ hm2 (Own.ext hC2 (hE.trans hC)))) rfl rfl ?_
               simp only [Act.put, List.setIfInBounds_toArray, List.set_cons_zero, List.set_cons_succ])
            | (refine Flow.WalkL.run (v := ?_) rfl (fun w1 hC => ?_) ?_
               rotate_left
               · obtain ⟨hCc, hCf⟩ := hC.rules
                 go_simp
                 with_reducible rfl
               simp only [Act.put, List.setIfInBounds_toArray, List.set_cons_zero, List.set_cons_succ]))
          refine Flow.WalkL.nil ?_
          simp only [List.drop_succ_cons, List.drop_zero, List.drop_nil]
          intro w1 hE1
          go_wp2_with fail
          exact ⟨⟨k + 1, by omega, by go_num, by rw [hss.out, ht.out, IntKind.wrap_i64]; split <;> (apply congrArg; omega), hE.trans hE1⟩, by simp only [intOf]; omega⟩
        · go_wp2_with fail
          refine Flow.wp_flow 16 [(0, true), (1, true), (2, true), (3, true), (4, true), (5, true), (6, true), (7, true), (8, true), (9, true), (10, true), (11, true), (12, true), (13, true), (14, true), (15, true)] (by kernel_rfl) (by kernel_rfl) ?_
          simp only [List.map_cons, List.map_nil, List.getD_cons_succ, List.getD_cons_zero]
          repeat (first
            | (refine Flow.WalkL.move rfl ?_
               simp only [Act.put, Act.eval, Array.getD_eq_getD_getElem?, List.getElem?_toArray, List.getElem?_cons_succ, List.getElem?_cons_zero, Option.getD_some, List.setIfInBounds_toArray, List.set_cons_zero, List.set_cons_succ])
            | (refine Flow.WalkL.assign rfl ?_
               simp only [Act.put, Act.eval, Array.getD_eq_getD_getElem?, List.getElem?_toArray, List.getElem?_cons_succ, List.getElem?_cons_zero, Option.getD_some, List.setIfInBounds_toArray, List.set_cons_zero, List.set_cons_succ])
            | (refine Flow.WalkL.callf Tryd.func45 rfl (by kernel_rfl) rfl (fun w1 hC => keep (get_any g2 m2 f2 _ _ hm2 (Own.ext hC2 (hE.trans hC)))) rfl rfl ?_
               simp only [Act.put, List.setIfInBounds_toArray, List.set_cons_zero, List.set_cons_succ])
            | (refine Flow.WalkL.run (v := ?_) rfl (fun w1 hC => ?_) ?_
               rotate_left
               · obtain ⟨hCc, hCf⟩ := hC.rules
                 go_simp
                 with_reducible rfl
               simp only [Act.put, List.setIfInBounds_toArray, List.set_cons_zero, List.set_cons_succ]))
          refine Flow.WalkL.nil ?_
          simp only [List.drop_succ_cons, List.drop_zero, List.drop_nil]
          intro w1 hE1
          go_wp2_with fail
          exact ⟨⟨k + 1, by omega, by go_num, by rw [hss.out, ht.out, IntKind.wrap_i64]; split <;> (apply congrArg; omega), hE.trans hE1⟩, by simp only [intOf]; omega⟩
      · have ht : excT f1 m2 f2 shift from_ till k = 0 := by unfold excT; rw [if_neg hin]
        replace hss := Lib.hid hss
        replace ht := Lib.hid ht
        have hin1 : from_ ≤ (k : Int) := by omega
        have hin2 : (k : Int) < till := by omega
        clear hin
        go_wp2_with fail
        exact ⟨⟨k + 1, by omega, by go_num, by rw [hss.out, ht.out, Int.add_zero], hE⟩, by simp only [intOf]; omega⟩
    · go_wp2_with fail
      go_ret
      exact ⟨ret_int (by unfold excS; rw [show k = m1 by omega]), hE⟩
end Go.Proofs.YtfgcogkhnnflcaaDoor
