/- The reference's at, excess, least, Least. No condition but those that each states. -/
import Derived.Test.YtfgcogkhnnflcaaDoorProg
import Derived.Test.YtfgcogkhnnflcaaDoorBdRef
namespace Go.Proofs.YtfgcogkhnnflcaaDoor
open Go.RowKit Go.Flow Go.Plain
open Go.Proofs
attribute [local go_sem] block_add
attribute [local go_sem ↓] Go.wp_at_zero Go.wp_at_succ

theorem at_any (A : Option Addr) (n c : Nat) (f : Nat → Int) (k : Int) (w : World) (hn : n ≤ 96) (h : Ints w A n f) :
    Calls Tryd.prog 59 #[.slice A n c, .int .i64 k] w fun e w' => e = .returned (.int .i64 (extB n f k)) ∧ w = w' := by
  by_cases h0 : k < 0
  · go_enter Tryd.func59, Tryd.ntmps59
    go_wp2
    go_ret
    exact ⟨ret_int (by unfold extB; rw [if_neg (by omega)]), rfl⟩
  · by_cases h1 : k < n
    · obtain ⟨j, rfl⟩ := Int.eq_ofNat_of_zero_le (by omega : 0 ≤ k)
      obtain ⟨ad, rfl, hc⟩ := h j (by omega)
      go_enter Tryd.func59, Tryd.ntmps59
      go_wp2
      go_ret
      exact ⟨ret_int (by unfold extB; rw [if_pos (by omega)]; simp), rfl⟩
    · have h1' : (n : Int) ≤ k := by omega
      go_enter Tryd.func59, Tryd.ntmps59
      go_wp2
      go_ret
      exact ⟨ret_int (by unfold extB; rw [if_neg (by omega)]), rfl⟩

set_option maxHeartbeats 1000000 in
theorem excessR_any (A1 A2 : Option Addr) (m1 m2 c1 c2 : Nat) (f1 f2 : Nat → Int) (shift from_ till : Int) (w : World) (hm1 : m1 ≤ 96) (hm2 : m2 ≤ 96) (hC1 : Ints w A1 m1 f1) (hC2 : Ints w A2 m2 f2)
    (h1 : ∀ k, 0 ≤ f1 k ∧ f1 k ≤ 9216) (h2 : ∀ k, 0 ≤ f2 k ∧ f2 k ≤ 9216) (hs : -1000 ≤ shift ∧ shift ≤ 1000) :
    Calls Tryd.prog 47 #[.slice A1 m1 c1, .slice A2 m2 c2, .int .i64 shift, .int .i64 from_, .int .i64 till] w fun e w' =>
      e = .returned (.int .i64 (excS m1 f1 m2 f2 shift from_ till)) ∧ Ext w w' := by
  obtain ⟨hs1, hs2⟩ := hs
  have hbd : ∀ k, k ≤ m1 → 0 ≤ sumTo (excT f1 m2 f2 shift from_ till) k ∧ sumTo (excT f1 m2 f2 shift from_ till) k ≤ 1000000 := fun k hk => by
    have := excS_bd (m1 := k) (m2 := m2) (shift := shift) (from_ := from_) (till := till) h1 h2
    unfold excS at this
    omega
  replace hbd := Lib.hid hbd
  go_enter Tryd.func47, Tryd.ntmps47
  go_wp2_with fail
  go_loopw [11, 12] (fun t i wr => ∃ k : Nat, k ≤ m1 ∧ i = .int .i64 k ∧ t = .int .i64 (sumTo (excT f1 m2 f2 shift from_ till) k) ∧ Ext w wr) (fun _ i _ => m1 - (intOf i).toNat)
  case atStart => exact ⟨0, by omega, rfl, rfl, Ext.refl w⟩
  case round =>
    obtain ⟨k, hk, rfl, rfl, hE⟩ := hrel
    by_cases hlt : k < m1
    · obtain ⟨ad, rfl, hc⟩ := hC1.ext hE k hlt
      have hadl := lt_of_cell hc
      have hb0 := (hbd.out k hk).1
      have hb1 := (hbd.out k hk).2
      have hf := h1 k
      have he := extB_bd (m := m2) h2 (by omega) ((k : Int) - shift)
      have hsk : IntKind.i64.wrap ((k : Int) - shift) = (k : Int) - shift := by rw [IntKind.wrap_i64]; omega
      have hss : sumTo (excT f1 m2 f2 shift from_ till) (k + 1) = sumTo (excT f1 m2 f2 shift from_ till) k + excT f1 m2 f2 shift from_ till k := rfl
      by_cases hin : (k : Int) < from_ ∨ till ≤ (k : Int)
      · have ht : excT f1 m2 f2 shift from_ till k = max 0 (f1 k - extB m2 f2 ((k : Int) - shift)) := by unfold excT; rw [if_pos hin]
        replace hss := Lib.hid hss
        replace ht := Lib.hid ht
        have hin' : (k : Int) < from_ ∨ (from_ ≤ (k : Int) ∧ till ≤ (k : Int)) := by omega
        clear hin
        obtain ⟨hf0, hf1⟩ := hf
        obtain ⟨he0, he1⟩ := he
        have hw1 : IntKind.i64.wrap (f1 k - extB m2 f2 ((k : Int) - shift)) = f1 k - extB m2 f2 ((k : Int) - shift) := by rw [IntKind.wrap_i64]; omega
        have hk0 : (0 : Int) ≤ k := by omega
        have hkm : (k : Int) < m1 := by omega
        rcases hin' with hin | ⟨hin1, hin2⟩
        · go_wp2_with fail
          refine Flow.wp_flow 14 [(0, true), (1, true), (2, true), (3, true), (4, true), (5, true), (6, true), (7, true), (8, true), (9, true), (10, true), (11, true), (12, true), (13, true)] (by kernel_rfl) (by kernel_rfl) ?_
          simp only [List.map_cons, List.map_nil, List.getD_cons_succ, List.getD_cons_zero]
          repeat (first
            | (refine Flow.WalkL.move rfl ?_
               simp only [Act.put, Act.eval, Array.getD_eq_getD_getElem?, List.getElem?_toArray, List.getElem?_cons_succ, List.getElem?_cons_zero, Option.getD_some, List.setIfInBounds_toArray, List.set_cons_zero, List.set_cons_succ])
            | (refine Flow.WalkL.assign rfl ?_
               simp only [Act.put, Act.eval, Array.getD_eq_getD_getElem?, List.getElem?_toArray, List.getElem?_cons_succ, List.getElem?_cons_zero, Option.getD_some, List.setIfInBounds_toArray, List.set_cons_zero, List.set_cons_succ])
            | (refine Flow.WalkL.callf Tryd.func59 rfl (by kernel_rfl) rfl (fun w1 hC => keep (at_any A2 m2 _ f2 _ _ hm2 (hC2.ext (hE.trans hC)))) rfl rfl ?_
               simp only [Act.put, List.setIfInBounds_toArray, List.set_cons_zero, List.set_cons_succ])
            | (refine Flow.WalkL.run (v := ?_) rfl (fun w1 hC => ?_) ?_
               rotate_left
               · obtain ⟨hCc, hCf⟩ := hC.rules
                 go_simp
                 with_reducible rfl
               simp only [Act.put, List.setIfInBounds_toArray, List.set_cons_zero, List.set_cons_succ]))
          refine Flow.WalkL.nil ?_
          simp only [List.drop_succ_cons, List.drop_zero, List.drop_nil]
          intro w1 hE1
          go_wp2_with fail
          exact ⟨⟨k + 1, by omega, by go_num, by rw [hss.out, ht.out, IntKind.wrap_i64]; split <;> (apply congrArg; omega), hE.trans hE1⟩, by simp only [intOf]; omega⟩
        · go_wp2_with fail
          refine Flow.wp_flow 14 [(0, true), (1, true), (2, true), (3, true), (4, true), (5, true), (6, true), (7, true), (8, true), (9, true), (10, true), (11, true), (12, true), (13, true)] (by kernel_rfl) (by kernel_rfl) ?_
          simp only [List.map_cons, List.map_nil, List.getD_cons_succ, List.getD_cons_zero]
          repeat (first
            | (refine Flow.WalkL.move rfl ?_
               simp only [Act.put, Act.eval, Array.getD_eq_getD_getElem?, List.getElem?_toArray, List.getElem?_cons_succ, List.getElem?_cons_zero, Option.getD_some, List.setIfInBounds_toArray, List.set_cons_zero, List.set_cons_succ])
            | (refine Flow.WalkL.assign rfl ?_
               simp only [Act.put, Act.eval, Array.getD_eq_getD_getElem?, List.getElem?_toArray, List.getElem?_cons_succ, List.getElem?_cons_zero, Option.getD_some, List.setIfInBounds_toArray, List.set_cons_zero, List.set_cons_succ])
            | (refine Flow.WalkL.callf Tryd.func59 rfl (by kernel_rfl) rfl (fun w1 hC => keep (at_any A2 m2 _ f2 _ _ hm2 (hC2.ext (hE.trans hC)))) rfl rfl ?_
               simp only [Act.put, List.setIfInBounds_toArray, List.set_cons_zero, List.set_cons_succ])
            | (refine Flow.WalkL.run (v := ?_) rfl (fun w1 hC => ?_) ?_
               rotate_left
               · obtain ⟨hCc, hCf⟩ := hC.rules
                 go_simp
                 with_reducible rfl
               simp only [Act.put, List.setIfInBounds_toArray, List.set_cons_zero, List.set_cons_succ]))
          refine Flow.WalkL.nil ?_
          simp only [List.drop_succ_cons, List.drop_zero, List.drop_nil]
          intro w1 hE1
          go_wp2_with fail
          exact ⟨⟨k + 1, by omega, by go_num, by rw [hss.out, ht.out, IntKind.wrap_i64]; split <;> (apply congrArg; omega), hE.trans hE1⟩, by simp only [intOf]; omega⟩
      · have ht : excT f1 m2 f2 shift from_ till k = 0 := by unfold excT; rw [if_neg hin]
        replace hss := Lib.hid hss
        replace ht := Lib.hid ht
        have hin1 : from_ ≤ (k : Int) := by omega
        have hin2 : (k : Int) < till := by omega
        clear hin
        go_wp2_with fail
        exact ⟨⟨k + 1, by omega, by go_num, by rw [hss.out, ht.out, Int.add_zero], hE⟩, by simp only [intOf]; omega⟩
    · go_wp2_with fail
      go_ret
      exact ⟨ret_int (by unfold excS; rw [show k = m1 by omega]), hE⟩

/-- Where a strip has no columns the excess does not depend on where it lies. -/
theorem lG_strip0 (m : Nat) (f1 f2 : Nat → Int) (L1 L2 : Int) (s c c' : Int) : lG m f1 f2 0 L1 L2 (s, c) = lG m f1 f2 0 L1 L2 (s, c') := by
  have h : ∀ (g1 g2 : Nat → Int) (sh a b : Int), excS m g1 m g2 sh a (a + 0) = excS m g1 m g2 sh b (b + 0) := fun g1 g2 sh a b => sumTo_congr fun k _ => by
    unfold excT
    rw [if_pos (by omega), if_pos (by omega)]
  unfold lG
  simp only
  rw [h f1 f2 s c c', h f2 f1 (-s) (c - s) (c' - s)]

/-- The least so far, and whether there is one. -/
def RefMin (Q : Int × Int → Prop) (f : Int × Int → Int) (b : Int) (some_ : Bool) : Prop := (∀ p, Q p → some_ = true ∧ b ≤ f p) ∧ (some_ = true → ∃ p, Q p ∧ f p = b)
theorem RefMin.congr {Q Q' : Int × Int → Prop} {f : Int × Int → Int} {b : Int} {s : Bool} (h : RefMin Q f b s) (hQ : ∀ p, Q p ↔ Q' p) : RefMin Q' f b s :=
  ⟨fun p hp => h.1 p ((hQ p).2 hp), fun hs => let ⟨p, h1, h2⟩ := h.2 hs; ⟨p, (hQ p).1 h1, h2⟩⟩
theorem RefMin.isMin {Q : Int × Int → Prop} {f : Int × Int → Int} {b : Int} {s : Bool} (h : RefMin Q f b s) (q : Int × Int) (hq : Q q) : IsMin Q f b := ⟨h.2 (h.1 q hq).1, fun p hp => (h.1 p hp).2⟩
theorem RefMin.step {Q Q' : Int × Int → Prop} {f : Int × Int → Int} {b : Int} {s : Bool} {q : Int × Int} (h : RefMin Q f b s) (hQ : ∀ p, Q' p → Q p ∨ f p = f q) (hq : Q' q) (hsub : ∀ p, Q p → Q' p)
    (hc : s = false ∨ f q < b) : RefMin Q' f (f q) true := by
  refine ⟨fun p hp => ⟨rfl, ?_⟩, fun _ => ⟨q, hq, rfl⟩⟩
  rcases hQ p hp with h1 | h1
  · have := h.1 p h1
    rcases hc with hc | hc
    · rw [hc] at this; cases this.1
    · omega
  · omega
theorem RefMin.stay {Q Q' : Int × Int → Prop} {f : Int × Int → Int} {b : Int} {q : Int × Int} (h : RefMin Q f b true) (hQ : ∀ p, Q' p → Q p ∨ f p = f q) (hsub : ∀ p, Q p → Q' p)
    (hc : b ≤ f q) : RefMin Q' f b true := by
  refine ⟨fun p hp => ⟨rfl, ?_⟩, fun _ => let ⟨p, h1, h2⟩ := h.2 rfl; ⟨p, hsub p h1, h2⟩⟩
  rcases hQ p hp with h1 | h1
  · exact (h.1 p h1).2
  · omega
end Go.Proofs.YtfgcogkhnnflcaaDoor
