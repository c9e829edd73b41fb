/- Parts of the proof: RbParse, A33g. -/
import Derived.Test.YtcdnpnbjloaihaaProg
import Derived.Test.YtcdnpnbjloaihaaG11
import Derived.Test.YtcdnpnbjloaihaaG31
import Derived.Test.YtcdnpnbjloaihaaG32
set_option linter.unusedSimpArgs false
set_option linter.unusedVariables false
section
/- ref04.Parse of two strings of one row. No condition. -/
namespace Go.Proofs.Ytcdnpnbjloaihaa
open Go.RowKit Go.Flow
open Go.Proofs
attribute [local go_sem] block_add
attribute [local go_sem ↓] Go.wp_at_zero Go.wp_at_succ

def ParsePost (b : Bool) (w : World) (e : Ending) (W' : World) : Prop :=
  ∃ g, e = .returned (.tuple #[bmp 2 1 (some ⟨g, 0, none⟩) 2 2, .bool true]) ∧ Flow.Own W' g 4 2 (fun k => .bool (decide (k = 0) || b)) ∧ w.heap.size ≤ g ∧ Ext w W'


set_option maxHeartbeats 1000000 in
set_option maxRecDepth 100000 in
theorem Parse1 (w : World) : Calls Try.prog 25 #[.string ⟨#[35, 46, 10]⟩] w (ParsePost false w) := by
  have hP : ∀ (e : Ending) (W' : World), (∃ g, e = .returned (.tuple #[bmp 2 1 (some ⟨g, 0, none⟩) 2 2, .bool true]) ∧ Flow.Own W' g 4 2 (fun k => .bool (decide (k = 0) || false)) ∧ w.heap.size ≤ g ∧ Ext w W') → ParsePost false w e W' := fun _ _ h => h
  replace hP := Lib.hid hP
  have hsd : (sideB 2 && sideB 1) = true := by rfl
  replace hsd := Lib.hid hsd
  have hR0 := Lib.hid (Blk.new w 48 #[.int .i64 0, .int .i64 0, .slice none 0 0])
  have hE0 := Lib.hid ((Ext.refl w).alloc (.cells #[.int .i64 0, .int .i64 0, .slice none 0 0] 48))
  have hch0 : ∀ h, ((((⟨#[35, 46, 10]⟩ : ByteArray)[0]'h).toNat : Nat) : Int) = 35 := fun _ => rfl
  have hch1 : ∀ h, ((((⟨#[35, 46, 10]⟩ : ByteArray)[1]'h).toNat : Nat) : Int) = 46 := fun _ => rfl
  have hch2 : ∀ h, ((((⟨#[35, 46, 10]⟩ : ByteArray)[2]'h).toNat : Nat) : Int) = 10 := fun _ => rfl
  have hwr : ∀ z : Int, -10 ≤ z → z ≤ 10 → IntKind.i64.wrap z = z := fun z h1 h2 => by rw [IntKind.wrap_i64]; omega
  have hw0 := hwr 0 (by omega) (by omega)
  have hw1 := hwr 1 (by omega) (by omega)
  have hw2 := hwr 2 (by omega) (by omega)
  have hw3 := hwr 3 (by omega) (by omega)
  clear hwr
  go_enter Try.func25, Try.ntmps25
  go_wp2_with fail
  go_loopw [4] (fun i wr => (i = .int .i64 0 ∨ i = .int .i64 1 ∨ i = .int .i64 2) ∧ Blk wr w.heap.size 48 #[.int .i64 0, .int .i64 0, .slice none 0 0] ∧ Ext w wr) (fun i _ => 3 - (intOf i).toNat)
  case atStart => exact ⟨.inl rfl, hR0.out, hE0.out⟩
  case round =>
    clear hR0 hE0
    obtain ⟨rfl | rfl | rfl, hR, hE⟩ := hrel
    · replace hR := Lib.hid hR
      replace hE := Lib.hid hE
      go_wp2_with fail
      exact ⟨⟨.inr (.inl rfl), hR.out, hE.out⟩, by simp [intOf]⟩
    · replace hR := Lib.hid hR
      replace hE := Lib.hid hE
      go_wp2_with fail
      exact ⟨⟨.inr (.inr rfl), hR.out, hE.out⟩, by simp [intOf]⟩
    · replace hR := Lib.hid hR
      replace hE := Lib.hid hE
      go_wp2_with fail
      refine (New_ok 2 1 wr hsd.out).mono ?_
      rintro e w2 ⟨g, m, rfl, hm, hO, hg, hE2⟩
      obtain rfl : m = 2 := by omega
      have hR2 := Lib.hid (hR.out.ext hE2)
      have hgl := hO.lt
      have hl1 := hR.out.lt
      have hew := hE.out.size
      replace hE2 := Lib.hid (hE.out.trans hE2)
      replace hO := Lib.hid hO
      clear hR hE hm
      go_wp2_with fail
      go_loopw [7] (fun i wr => ∃ k : Nat, k ≤ 3 ∧ i = .int .i64 k ∧ Blk wr w.heap.size 48 #[.int .i64 0, .int .i64 0, .slice none 0 0] ∧ Blk wr w2.heap.size 48 #[.int .i64 2, .int .i64 1, .slice (some ⟨g, 0, none⟩) 2 2] ∧
        Flow.Own wr g 4 2 (fun j => .bool (if j < k then (decide (j = 0) || false) else false)) ∧ Ext w wr) (fun i _ => 3 - (intOf i).toNat)
      case atStart => exact ⟨0, by omega, rfl, hR2.out.alloc _, Blk.new _ _ _, (hO.out.ext ((Ext.refl _).alloc _)).congr (fun j _ => by simp), hE2.out.alloc _⟩
      case round =>
        clear hR2 hE2 hO
        obtain ⟨k, hk, rfl, hR, hT, hO, hE⟩ := hrel
        have hk4 : k = 0 ∨ k = 1 ∨ k = 2 ∨ k = 3 := by omega
        rcases hk4 with rfl | rfl | rfl | rfl
        · have hlk : 0 < 2 := by omega
          obtain ⟨tc, tf, tl⟩ := hT.rules
          have hgc := hO.cell hlk
          have hgf := hO.frozen 0
          have hgl := hO.lt
          replace hR := Lib.hid hR
          replace hT := Lib.hid hT
          replace hO := Lib.hid hO
          replace hE := Lib.hid hE
          go_wp2_with fail
          refine Flow.wp_flow 8 [(0, true), (1, true), (2, true), (3, true), (4, true), (5, true), (6, true), (7, true)] (by kernel_rfl) (by kernel_rfl) ?_
          simp only [List.map_cons, List.map_nil, List.getD_cons_succ, List.getD_cons_zero]
          repeat (first
            | (refine Flow.WalkL.move rfl ?_
               simp only [Act.put, Act.eval, Array.getD_eq_getD_getElem?, List.getElem?_toArray, List.getElem?_cons_succ, List.getElem?_cons_zero, Option.getD_some, List.setIfInBounds_toArray, List.set_cons_zero, List.set_cons_succ])
            | (refine Flow.WalkL.assign rfl ?_
               simp only [Act.put, Act.eval, Array.getD_eq_getD_getElem?, List.getElem?_toArray, List.getElem?_cons_succ, List.getElem?_cons_zero, Option.getD_some, List.setIfInBounds_toArray, List.set_cons_zero, List.set_cons_succ])
            | (refine Flow.WalkL.run (v := ?_) rfl (fun w1 hC => ?_) ?_
               rotate_left
               · obtain ⟨hCc, hCf⟩ := hC.rules
                 go_simp
                 with_reducible rfl
               simp only [Act.put, List.setIfInBounds_toArray, List.set_cons_zero, List.set_cons_succ]))
          refine Flow.WalkL.nil ?_
          simp only [List.drop]
          intro w5 hC
          have hR5 := Lib.hid (hR.out.ext hC)
          have hT5 := hT.out.ext hC
          have hO5 := hO.out.ext hC
          have hE5 := Lib.hid (hE.out.trans hC)
          clear tc tf tl hgc hgf hgl
          obtain ⟨tc, tf, tl⟩ := hT5.rules
          have hgc := hO5.cell hlk
          have hgf := hO5.frozen 0
          have hgl := hO5.lt
          replace hC := Lib.hid hC
          replace hT5 := Lib.hid hT5
          replace hO5 := Lib.hid hO5
          go_wp2_with fail
          refine Flow.wp_flow 12 [(0, true), (1, true), (2, true), (3, true), (4, true), (5, true), (6, true), (7, true), (8, true), (9, true), (10, true), (11, true)] (by kernel_rfl) (by kernel_rfl) ?_
          simp only [List.map_cons, List.map_nil, List.getD_cons_succ, List.getD_cons_zero]
          repeat (first
            | (refine Flow.WalkL.move rfl ?_
               simp only [Act.put, Act.eval, Array.getD_eq_getD_getElem?, List.getElem?_toArray, List.getElem?_cons_succ, List.getElem?_cons_zero, Option.getD_some, List.setIfInBounds_toArray, List.set_cons_zero, List.set_cons_succ])
            | (refine Flow.WalkL.assign rfl ?_
               simp only [Act.put, Act.eval, Array.getD_eq_getD_getElem?, List.getElem?_toArray, List.getElem?_cons_succ, List.getElem?_cons_zero, Option.getD_some, List.setIfInBounds_toArray, List.set_cons_zero, List.set_cons_succ])
            | (refine Flow.WalkL.run (v := ?_) rfl (fun w1 hC => ?_) ?_
               rotate_left
               · obtain ⟨hCc, hCf⟩ := hC.rules
                 go_simp
                 with_reducible rfl
               simp only [Act.put, List.setIfInBounds_toArray, List.set_cons_zero, List.set_cons_succ]))
          refine Flow.WalkL.nil ?_
          simp only [List.drop]
          intro w6 hC6
          have hR6 := Lib.hid (hR5.out.ext hC6)
          have hT6 := Lib.hid (hT5.out.ext hC6)
          have hO6 := hO5.out.ext hC6
          have hE6 := Lib.hid (hE5.out.trans hC6)
          clear tc tf tl hgc hgf hgl
          have hgc := hO6.cell hlk
          have hgf := hO6.frozen 0
          have hgl := hO6.lt
          have hrl := hR6.out.lt
          have htl := hT6.out.lt
          have hes := hE6.out.size
          replace hC6 := Lib.hid hC6
          replace hO6 := Lib.hid hO6
          go_wp2_with fail
          exact ⟨⟨0 + 1, by omega, rfl, hR6.out.far (by simp; omega) _, hT6.out.far (by simp; omega) _, (hO6.out.set_ 0 _).congr (fun j hj => by
            simp only [upd]
            have : j = 0 ∨ j = 1 := by omega
            rcases this with rfl | rfl <;> simp), hE6.out.setCell (by simp; omega) _⟩, by simp [intOf]⟩
        · have hlk : 1 < 2 := by omega
          obtain ⟨tc, tf, tl⟩ := hT.rules
          have hgc := hO.cell hlk
          have hgf := hO.frozen 1
          have hgl := hO.lt
          replace hR := Lib.hid hR
          replace hT := Lib.hid hT
          replace hO := Lib.hid hO
          replace hE := Lib.hid hE
          go_wp2_with fail
          refine Flow.wp_flow 8 [(0, true), (1, true), (2, true), (3, true), (4, true), (5, true), (6, true), (7, true)] (by kernel_rfl) (by kernel_rfl) ?_
          simp only [List.map_cons, List.map_nil, List.getD_cons_succ, List.getD_cons_zero]
          repeat (first
            | (refine Flow.WalkL.move rfl ?_
               simp only [Act.put, Act.eval, Array.getD_eq_getD_getElem?, List.getElem?_toArray, List.getElem?_cons_succ, List.getElem?_cons_zero, Option.getD_some, List.setIfInBounds_toArray, List.set_cons_zero, List.set_cons_succ])
            | (refine Flow.WalkL.assign rfl ?_
               simp only [Act.put, Act.eval, Array.getD_eq_getD_getElem?, List.getElem?_toArray, List.getElem?_cons_succ, List.getElem?_cons_zero, Option.getD_some, List.setIfInBounds_toArray, List.set_cons_zero, List.set_cons_succ])
            | (refine Flow.WalkL.run (v := ?_) rfl (fun w1 hC => ?_) ?_
               rotate_left
               · obtain ⟨hCc, hCf⟩ := hC.rules
                 go_simp
                 with_reducible rfl
               simp only [Act.put, List.setIfInBounds_toArray, List.set_cons_zero, List.set_cons_succ]))
          refine Flow.WalkL.nil ?_
          simp only [List.drop]
          intro w5 hC
          have hR5 := Lib.hid (hR.out.ext hC)
          have hT5 := hT.out.ext hC
          have hO5 := hO.out.ext hC
          have hE5 := Lib.hid (hE.out.trans hC)
          clear tc tf tl hgc hgf hgl
          obtain ⟨tc, tf, tl⟩ := hT5.rules
          have hgc := hO5.cell hlk
          have hgf := hO5.frozen 1
          have hgl := hO5.lt
          replace hC := Lib.hid hC
          replace hT5 := Lib.hid hT5
          replace hO5 := Lib.hid hO5
          go_wp2_with fail
          refine Flow.wp_flow 12 [(0, true), (1, true), (2, true), (3, true), (4, true), (5, true), (6, true), (7, true), (8, true), (9, true), (10, true), (11, true)] (by kernel_rfl) (by kernel_rfl) ?_
          simp only [List.map_cons, List.map_nil, List.getD_cons_succ, List.getD_cons_zero]
          repeat (first
            | (refine Flow.WalkL.move rfl ?_
               simp only [Act.put, Act.eval, Array.getD_eq_getD_getElem?, List.getElem?_toArray, List.getElem?_cons_succ, List.getElem?_cons_zero, Option.getD_some, List.setIfInBounds_toArray, List.set_cons_zero, List.set_cons_succ])
            | (refine Flow.WalkL.assign rfl ?_
               simp only [Act.put, Act.eval, Array.getD_eq_getD_getElem?, List.getElem?_toArray, List.getElem?_cons_succ, List.getElem?_cons_zero, Option.getD_some, List.setIfInBounds_toArray, List.set_cons_zero, List.set_cons_succ])
            | (refine Flow.WalkL.run (v := ?_) rfl (fun w1 hC => ?_) ?_
               rotate_left
               · obtain ⟨hCc, hCf⟩ := hC.rules
                 go_simp
                 with_reducible rfl
               simp only [Act.put, List.setIfInBounds_toArray, List.set_cons_zero, List.set_cons_succ]))
          refine Flow.WalkL.nil ?_
          simp only [List.drop]
          intro w6 hC6
          have hR6 := Lib.hid (hR5.out.ext hC6)
          have hT6 := Lib.hid (hT5.out.ext hC6)
          have hO6 := hO5.out.ext hC6
          have hE6 := Lib.hid (hE5.out.trans hC6)
          clear tc tf tl hgc hgf hgl
          have hgc := hO6.cell hlk
          have hgf := hO6.frozen 1
          have hgl := hO6.lt
          have hrl := hR6.out.lt
          have htl := hT6.out.lt
          have hes := hE6.out.size
          replace hC6 := Lib.hid hC6
          replace hO6 := Lib.hid hO6
          go_wp2_with fail
          exact ⟨⟨1 + 1, by omega, rfl, hR6.out.far (by simp; omega) _, hT6.out.far (by simp; omega) _, (hO6.out.set_ 1 _).congr (fun j hj => by
            simp only [upd]
            have : j = 0 ∨ j = 1 := by omega
            rcases this with rfl | rfl <;> simp), hE6.out.setCell (by simp; omega) _⟩, by simp [intOf]⟩
        · obtain ⟨tc, tf, tl⟩ := hT.rules
          replace hR := Lib.hid hR
          replace hT := Lib.hid hT
          replace hO := Lib.hid hO
          replace hE := Lib.hid hE
          go_wp2_with fail
          refine Flow.wp_flow 8 [(0, true), (1, true), (2, true), (3, true), (4, true), (5, true), (6, true), (7, true)] (by kernel_rfl) (by kernel_rfl) ?_
          simp only [List.map_cons, List.map_nil, List.getD_cons_succ, List.getD_cons_zero]
          repeat (first
            | (refine Flow.WalkL.move rfl ?_
               simp only [Act.put, Act.eval, Array.getD_eq_getD_getElem?, List.getElem?_toArray, List.getElem?_cons_succ, List.getElem?_cons_zero, Option.getD_some, List.setIfInBounds_toArray, List.set_cons_zero, List.set_cons_succ])
            | (refine Flow.WalkL.assign rfl ?_
               simp only [Act.put, Act.eval, Array.getD_eq_getD_getElem?, List.getElem?_toArray, List.getElem?_cons_succ, List.getElem?_cons_zero, Option.getD_some, List.setIfInBounds_toArray, List.set_cons_zero, List.set_cons_succ])
            | (refine Flow.WalkL.run (v := ?_) rfl (fun w1 hC => ?_) ?_
               rotate_left
               · obtain ⟨hCc, hCf⟩ := hC.rules
                 go_simp
                 with_reducible rfl
               simp only [Act.put, List.setIfInBounds_toArray, List.set_cons_zero, List.set_cons_succ]))
          refine Flow.WalkL.nil ?_
          simp only [List.drop]
          intro w5 hC
          replace hC := Lib.hid hC
          clear tc tf tl
          go_wp2_with fail
          exact ⟨⟨3, by omega, rfl, hR.out.ext hC.out, hT.out.ext hC.out, (hO.out.ext hC.out).congr (fun j hj => by rw [if_pos hj, if_pos (by omega)]), hE.out.trans hC.out⟩, by simp [intOf]⟩
        · obtain ⟨rc, rf, rl⟩ := hR.rules
          obtain ⟨tc, tf, tl⟩ := hT.rules
          have hfin := hP.out (.returned (.tuple #[bmp 2 1 (some ⟨g, 0, none⟩) 2 2, .bool true])) (((wr.setCell ⟨w.heap.size, 0, none⟩ (.int .i64 2)).setCell ⟨w.heap.size, 1, none⟩ (.int .i64 1)).setCell ⟨w.heap.size, 2, none⟩ (.slice (some ⟨g, 0, none⟩) 2 2))
            ⟨g, rfl, (((hO.congr (fun j hj => by rw [if_pos (by omega)])).far (by simp; omega) _).far (by simp; omega) _).far (by simp; omega) _, by omega, ((hE.setCell (by simp) _).setCell (by simp) _).setCell (by simp) _⟩
          replace hfin := Lib.hid hfin
          clear hP hE hO
          go_wp2_with fail
          exact bodyPost_ret (v := .tuple #[bmp 2 1 (some ⟨g, 0, none⟩) 2 2, .bool true]) (by simp [results, Try.results25, go_sem, *]) rfl hfin.out

set_option maxHeartbeats 1000000 in
set_option maxRecDepth 100000 in
theorem Parse2 (w : World) : Calls Try.prog 25 #[.string ⟨#[35, 35, 10]⟩] w (ParsePost true w) := by
  have hP : ∀ (e : Ending) (W' : World), (∃ g, e = .returned (.tuple #[bmp 2 1 (some ⟨g, 0, none⟩) 2 2, .bool true]) ∧ Flow.Own W' g 4 2 (fun k => .bool (decide (k = 0) || true)) ∧ w.heap.size ≤ g ∧ Ext w W') → ParsePost true w e W' := fun _ _ h => h
  replace hP := Lib.hid hP
  have hsd : (sideB 2 && sideB 1) = true := by rfl
  replace hsd := Lib.hid hsd
  have hR0 := Lib.hid (Blk.new w 48 #[.int .i64 0, .int .i64 0, .slice none 0 0])
  have hE0 := Lib.hid ((Ext.refl w).alloc (.cells #[.int .i64 0, .int .i64 0, .slice none 0 0] 48))
  have hch0 : ∀ h, ((((⟨#[35, 35, 10]⟩ : ByteArray)[0]'h).toNat : Nat) : Int) = 35 := fun _ => rfl
  have hch1 : ∀ h, ((((⟨#[35, 35, 10]⟩ : ByteArray)[1]'h).toNat : Nat) : Int) = 35 := fun _ => rfl
  have hch2 : ∀ h, ((((⟨#[35, 35, 10]⟩ : ByteArray)[2]'h).toNat : Nat) : Int) = 10 := fun _ => rfl
  have hwr : ∀ z : Int, -10 ≤ z → z ≤ 10 → IntKind.i64.wrap z = z := fun z h1 h2 => by rw [IntKind.wrap_i64]; omega
  have hw0 := hwr 0 (by omega) (by omega)
  have hw1 := hwr 1 (by omega) (by omega)
  have hw2 := hwr 2 (by omega) (by omega)
  have hw3 := hwr 3 (by omega) (by omega)
  clear hwr
  go_enter Try.func25, Try.ntmps25
  go_wp2_with fail
  go_loopw [4] (fun i wr => (i = .int .i64 0 ∨ i = .int .i64 1 ∨ i = .int .i64 2) ∧ Blk wr w.heap.size 48 #[.int .i64 0, .int .i64 0, .slice none 0 0] ∧ Ext w wr) (fun i _ => 3 - (intOf i).toNat)
  case atStart => exact ⟨.inl rfl, hR0.out, hE0.out⟩
  case round =>
    clear hR0 hE0
    obtain ⟨rfl | rfl | rfl, hR, hE⟩ := hrel
    · replace hR := Lib.hid hR
      replace hE := Lib.hid hE
      go_wp2_with fail
      exact ⟨⟨.inr (.inl rfl), hR.out, hE.out⟩, by simp [intOf]⟩
    · replace hR := Lib.hid hR
      replace hE := Lib.hid hE
      go_wp2_with fail
      exact ⟨⟨.inr (.inr rfl), hR.out, hE.out⟩, by simp [intOf]⟩
    · replace hR := Lib.hid hR
      replace hE := Lib.hid hE
      go_wp2_with fail
      refine (New_ok 2 1 wr hsd.out).mono ?_
      rintro e w2 ⟨g, m, rfl, hm, hO, hg, hE2⟩
      obtain rfl : m = 2 := by omega
      have hR2 := Lib.hid (hR.out.ext hE2)
      have hgl := hO.lt
      have hl1 := hR.out.lt
      have hew := hE.out.size
      replace hE2 := Lib.hid (hE.out.trans hE2)
      replace hO := Lib.hid hO
      clear hR hE hm
      go_wp2_with fail
      go_loopw [7] (fun i wr => ∃ k : Nat, k ≤ 3 ∧ i = .int .i64 k ∧ Blk wr w.heap.size 48 #[.int .i64 0, .int .i64 0, .slice none 0 0] ∧ Blk wr w2.heap.size 48 #[.int .i64 2, .int .i64 1, .slice (some ⟨g, 0, none⟩) 2 2] ∧
        Flow.Own wr g 4 2 (fun j => .bool (if j < k then (decide (j = 0) || true) else false)) ∧ Ext w wr) (fun i _ => 3 - (intOf i).toNat)
      case atStart => exact ⟨0, by omega, rfl, hR2.out.alloc _, Blk.new _ _ _, (hO.out.ext ((Ext.refl _).alloc _)).congr (fun j _ => by simp), hE2.out.alloc _⟩
      case round =>
        clear hR2 hE2 hO
        obtain ⟨k, hk, rfl, hR, hT, hO, hE⟩ := hrel
        have hk4 : k = 0 ∨ k = 1 ∨ k = 2 ∨ k = 3 := by omega
        rcases hk4 with rfl | rfl | rfl | rfl
        · have hlk : 0 < 2 := by omega
          obtain ⟨tc, tf, tl⟩ := hT.rules
          have hgc := hO.cell hlk
          have hgf := hO.frozen 0
          have hgl := hO.lt
          replace hR := Lib.hid hR
          replace hT := Lib.hid hT
          replace hO := Lib.hid hO
          replace hE := Lib.hid hE
          go_wp2_with fail
          refine Flow.wp_flow 8 [(0, true), (1, true), (2, true), (3, true), (4, true), (5, true), (6, true), (7, true)] (by kernel_rfl) (by kernel_rfl) ?_
          simp only [List.map_cons, List.map_nil, List.getD_cons_succ, List.getD_cons_zero]
          repeat (first
            | (refine Flow.WalkL.move rfl ?_
               simp only [Act.put, Act.eval, Array.getD_eq_getD_getElem?, List.getElem?_toArray, List.getElem?_cons_succ, List.getElem?_cons_zero, Option.getD_some, List.setIfInBounds_toArray, List.set_cons_zero, List.set_cons_succ])
            | (refine Flow.WalkL.assign rfl ?_
               simp only [Act.put, Act.eval, Array.getD_eq_getD_getElem?, List.getElem?_toArray, List.getElem?_cons_succ, List.getElem?_cons_zero, Option.getD_some, List.setIfInBounds_toArray, List.set_cons_zero, List.set_cons_succ])
            | (refine Flow.WalkL.run (v := ?_) rfl (fun w1 hC => ?_) ?_
               rotate_left
               · obtain ⟨hCc, hCf⟩ := hC.rules
                 go_simp
                 with_reducible rfl
               simp only [Act.put, List.setIfInBounds_toArray, List.set_cons_zero, List.set_cons_succ]))
          refine Flow.WalkL.nil ?_
          simp only [List.drop]
          intro w5 hC
          have hR5 := Lib.hid (hR.out.ext hC)
          have hT5 := hT.out.ext hC
          have hO5 := hO.out.ext hC
          have hE5 := Lib.hid (hE.out.trans hC)
          clear tc tf tl hgc hgf hgl
          obtain ⟨tc, tf, tl⟩ := hT5.rules
          have hgc := hO5.cell hlk
          have hgf := hO5.frozen 0
          have hgl := hO5.lt
          replace hC := Lib.hid hC
          replace hT5 := Lib.hid hT5
          replace hO5 := Lib.hid hO5
          go_wp2_with fail
          refine Flow.wp_flow 12 [(0, true), (1, true), (2, true), (3, true), (4, true), (5, true), (6, true), (7, true), (8, true), (9, true), (10, true), (11, true)] (by kernel_rfl) (by kernel_rfl) ?_
          simp only [List.map_cons, List.map_nil, List.getD_cons_succ, List.getD_cons_zero]
          repeat (first
            | (refine Flow.WalkL.move rfl ?_
               simp only [Act.put, Act.eval, Array.getD_eq_getD_getElem?, List.getElem?_toArray, List.getElem?_cons_succ, List.getElem?_cons_zero, Option.getD_some, List.setIfInBounds_toArray, List.set_cons_zero, List.set_cons_succ])
            | (refine Flow.WalkL.assign rfl ?_
               simp only [Act.put, Act.eval, Array.getD_eq_getD_getElem?, List.getElem?_toArray, List.getElem?_cons_succ, List.getElem?_cons_zero, Option.getD_some, List.setIfInBounds_toArray, List.set_cons_zero, List.set_cons_succ])
            | (refine Flow.WalkL.run (v := ?_) rfl (fun w1 hC => ?_) ?_
               rotate_left
               · obtain ⟨hCc, hCf⟩ := hC.rules
                 go_simp
                 with_reducible rfl
               simp only [Act.put, List.setIfInBounds_toArray, List.set_cons_zero, List.set_cons_succ]))
          refine Flow.WalkL.nil ?_
          simp only [List.drop]
          intro w6 hC6
          have hR6 := Lib.hid (hR5.out.ext hC6)
          have hT6 := Lib.hid (hT5.out.ext hC6)
          have hO6 := hO5.out.ext hC6
          have hE6 := Lib.hid (hE5.out.trans hC6)
          clear tc tf tl hgc hgf hgl
          have hgc := hO6.cell hlk
          have hgf := hO6.frozen 0
          have hgl := hO6.lt
          have hrl := hR6.out.lt
          have htl := hT6.out.lt
          have hes := hE6.out.size
          replace hC6 := Lib.hid hC6
          replace hO6 := Lib.hid hO6
          go_wp2_with fail
          exact ⟨⟨0 + 1, by omega, rfl, hR6.out.far (by simp; omega) _, hT6.out.far (by simp; omega) _, (hO6.out.set_ 0 _).congr (fun j hj => by
            simp only [upd]
            have : j = 0 ∨ j = 1 := by omega
            rcases this with rfl | rfl <;> simp), hE6.out.setCell (by simp; omega) _⟩, by simp [intOf]⟩
        · have hlk : 1 < 2 := by omega
          obtain ⟨tc, tf, tl⟩ := hT.rules
          have hgc := hO.cell hlk
          have hgf := hO.frozen 1
          have hgl := hO.lt
          replace hR := Lib.hid hR
          replace hT := Lib.hid hT
          replace hO := Lib.hid hO
          replace hE := Lib.hid hE
          go_wp2_with fail
          refine Flow.wp_flow 8 [(0, true), (1, true), (2, true), (3, true), (4, true), (5, true), (6, true), (7, true)] (by kernel_rfl) (by kernel_rfl) ?_
          simp only [List.map_cons, List.map_nil, List.getD_cons_succ, List.getD_cons_zero]
          repeat (first
            | (refine Flow.WalkL.move rfl ?_
               simp only [Act.put, Act.eval, Array.getD_eq_getD_getElem?, List.getElem?_toArray, List.getElem?_cons_succ, List.getElem?_cons_zero, Option.getD_some, List.setIfInBounds_toArray, List.set_cons_zero, List.set_cons_succ])
            | (refine Flow.WalkL.assign rfl ?_
               simp only [Act.put, Act.eval, Array.getD_eq_getD_getElem?, List.getElem?_toArray, List.getElem?_cons_succ, List.getElem?_cons_zero, Option.getD_some, List.setIfInBounds_toArray, List.set_cons_zero, List.set_cons_succ])
            | (refine Flow.WalkL.run (v := ?_) rfl (fun w1 hC => ?_) ?_
               rotate_left
               · obtain ⟨hCc, hCf⟩ := hC.rules
                 go_simp
                 with_reducible rfl
               simp only [Act.put, List.setIfInBounds_toArray, List.set_cons_zero, List.set_cons_succ]))
          refine Flow.WalkL.nil ?_
          simp only [List.drop]
          intro w5 hC
          have hR5 := Lib.hid (hR.out.ext hC)
          have hT5 := hT.out.ext hC
          have hO5 := hO.out.ext hC
          have hE5 := Lib.hid (hE.out.trans hC)
          clear tc tf tl hgc hgf hgl
          obtain ⟨tc, tf, tl⟩ := hT5.rules
          have hgc := hO5.cell hlk
          have hgf := hO5.frozen 1
          have hgl := hO5.lt
          replace hC := Lib.hid hC
          replace hT5 := Lib.hid hT5
          replace hO5 := Lib.hid hO5
          go_wp2_with fail
          refine Flow.wp_flow 12 [(0, true), (1, true), (2, true), (3, true), (4, true), (5, true), (6, true), (7, true), (8, true), (9, true), (10, true), (11, true)] (by kernel_rfl) (by kernel_rfl) ?_
          simp only [List.map_cons, List.map_nil, List.getD_cons_succ, List.getD_cons_zero]
          repeat (first
            | (refine Flow.WalkL.move rfl ?_
               simp only [Act.put, Act.eval, Array.getD_eq_getD_getElem?, List.getElem?_toArray, List.getElem?_cons_succ, List.getElem?_cons_zero, Option.getD_some, List.setIfInBounds_toArray, List.set_cons_zero, List.set_cons_succ])
            | (refine Flow.WalkL.assign rfl ?_
               simp only [Act.put, Act.eval, Array.getD_eq_getD_getElem?, List.getElem?_toArray, List.getElem?_cons_succ, List.getElem?_cons_zero, Option.getD_some, List.setIfInBounds_toArray, List.set_cons_zero, List.set_cons_succ])
            | (refine Flow.WalkL.run (v := ?_) rfl (fun w1 hC => ?_) ?_
               rotate_left
               · obtain ⟨hCc, hCf⟩ := hC.rules
                 go_simp
                 with_reducible rfl
               simp only [Act.put, List.setIfInBounds_toArray, List.set_cons_zero, List.set_cons_succ]))
          refine Flow.WalkL.nil ?_
          simp only [List.drop]
          intro w6 hC6
          have hR6 := Lib.hid (hR5.out.ext hC6)
          have hT6 := Lib.hid (hT5.out.ext hC6)
          have hO6 := hO5.out.ext hC6
          have hE6 := Lib.hid (hE5.out.trans hC6)
          clear tc tf tl hgc hgf hgl
          have hgc := hO6.cell hlk
          have hgf := hO6.frozen 1
          have hgl := hO6.lt
          have hrl := hR6.out.lt
          have htl := hT6.out.lt
          have hes := hE6.out.size
          replace hC6 := Lib.hid hC6
          replace hO6 := Lib.hid hO6
          go_wp2_with fail
          exact ⟨⟨1 + 1, by omega, rfl, hR6.out.far (by simp; omega) _, hT6.out.far (by simp; omega) _, (hO6.out.set_ 1 _).congr (fun j hj => by
            simp only [upd]
            have : j = 0 ∨ j = 1 := by omega
            rcases this with rfl | rfl <;> simp), hE6.out.setCell (by simp; omega) _⟩, by simp [intOf]⟩
        · obtain ⟨tc, tf, tl⟩ := hT.rules
          replace hR := Lib.hid hR
          replace hT := Lib.hid hT
          replace hO := Lib.hid hO
          replace hE := Lib.hid hE
          go_wp2_with fail
          refine Flow.wp_flow 8 [(0, true), (1, true), (2, true), (3, true), (4, true), (5, true), (6, true), (7, true)] (by kernel_rfl) (by kernel_rfl) ?_
          simp only [List.map_cons, List.map_nil, List.getD_cons_succ, List.getD_cons_zero]
          repeat (first
            | (refine Flow.WalkL.move rfl ?_
               simp only [Act.put, Act.eval, Array.getD_eq_getD_getElem?, List.getElem?_toArray, List.getElem?_cons_succ, List.getElem?_cons_zero, Option.getD_some, List.setIfInBounds_toArray, List.set_cons_zero, List.set_cons_succ])
            | (refine Flow.WalkL.assign rfl ?_
               simp only [Act.put, Act.eval, Array.getD_eq_getD_getElem?, List.getElem?_toArray, List.getElem?_cons_succ, List.getElem?_cons_zero, Option.getD_some, List.setIfInBounds_toArray, List.set_cons_zero, List.set_cons_succ])
            | (refine Flow.WalkL.run (v := ?_) rfl (fun w1 hC => ?_) ?_
               rotate_left
               · obtain ⟨hCc, hCf⟩ := hC.rules
                 go_simp
                 with_reducible rfl
               simp only [Act.put, List.setIfInBounds_toArray, List.set_cons_zero, List.set_cons_succ]))
          refine Flow.WalkL.nil ?_
          simp only [List.drop]
          intro w5 hC
          replace hC := Lib.hid hC
          clear tc tf tl
          go_wp2_with fail
          exact ⟨⟨3, by omega, rfl, hR.out.ext hC.out, hT.out.ext hC.out, (hO.out.ext hC.out).congr (fun j hj => by rw [if_pos hj, if_pos (by omega)]), hE.out.trans hC.out⟩, by simp [intOf]⟩
        · obtain ⟨rc, rf, rl⟩ := hR.rules
          obtain ⟨tc, tf, tl⟩ := hT.rules
          have hfin := hP.out (.returned (.tuple #[bmp 2 1 (some ⟨g, 0, none⟩) 2 2, .bool true])) (((wr.setCell ⟨w.heap.size, 0, none⟩ (.int .i64 2)).setCell ⟨w.heap.size, 1, none⟩ (.int .i64 1)).setCell ⟨w.heap.size, 2, none⟩ (.slice (some ⟨g, 0, none⟩) 2 2))
            ⟨g, rfl, (((hO.congr (fun j hj => by rw [if_pos (by omega)])).far (by simp; omega) _).far (by simp; omega) _).far (by simp; omega) _, by omega, ((hE.setCell (by simp) _).setCell (by simp) _).setCell (by simp) _⟩
          replace hfin := Lib.hid hfin
          clear hP hE hO
          go_wp2_with fail
          exact bodyPost_ret (v := .tuple #[bmp 2 1 (some ⟨g, 0, none⟩) 2 2, .bool true]) (by simp [results, Try.results25, go_sem, *]) rfl hfin.out
end Go.Proofs.Ytcdnpnbjloaihaa
end

section
/- Chapter 33 over plain values: the law's sanity. -/
namespace Go.Proofs.Ytcdnpnbjloaihaa
open Go.RowKit Go.Flow Go.AV Go.Plain
theorem Hide_A (Wn Hn n : Nat) (f : Nat → Int) (a b : Int) (hok : chkI Wn Hn n f = 0) : ACalls Try.prog 27 [.ag (imgV Wn Hn n f), .c (iC a), .c (iC b)] (.ag (imgV Wn Hn n (hideF Wn f a b))) :=
  ACalls.of fun O w vals hO h => by
    obtain ⟨x, y, z, rfl, h1, h2, h3⟩ := args3 h
    obtain ⟨A, c, rfl, -, hA⟩ := rep_img h1
    cases rep_c h2
    cases rep_c h3
    exact (Hide_ok Wn Hn A n c f a b w hA hok).mono fun e w' ⟨A', c', g1, g2, g3, g4⟩ => ⟨_, g1, img_rep hO g2 g3, g4⟩
theorem pNext_nil (W H : Int) (n : Nat) (f : Nat → Int) (hn : n ≤ 4611686018427387904) : ACalls Try.prog 19 [.ag (imgV W H n f), .c (.p (.slice none 0 0)), .c (.p (.slice none 0 0))] (nxV nx0) := by
  have e : nextL W H n f [] [] = nx0 := nextL_len (.inl rfl)
  rw [← e]
  exact (pNext_A W H n f [] [] hn (Nat.zero_le _)).conv fun σ O w vals h => by
    obtain ⟨x, y, z, rfl, h1, h2, h3⟩ := args3 h
    cases rep_c h2
    cases rep_c h3
    exact ⟨h1, nil_rep, nil_rep, trivial⟩
abbrev sdot (b : Bool) (k : Nat) : Bool := decide (k = 0) || b
theorem parse_rep {b : Bool} {O : Nat → Prop} {w w' : World} {e : Ending} (hO : ∀ b, O b → b < w.heap.size) (h : ParsePost b w e w') : ∃ v, e = .returned v ∧ RepA (fun _ => none) O w' (.tu [.ag (bmpV 2 1 2 (sdot b)), .c (bC true)]) v ∧ Ext w w' := by
  obtain ⟨g, g1, g2, g3, g4⟩ := h
  exact ⟨_, g1, ⟨[_, _], rfl, bmp_rep hO (Nat.le_refl _) (Mine.of_own g2 g3), ⟨rfl, rfl⟩, trivial⟩, g4⟩
theorem Parse1_A : ACalls Try.prog 25 [.c (.p (.string ⟨#[35, 46, 10]⟩))] (.tu [.ag (bmpV 2 1 2 (sdot false)), .c (bC true)]) :=
  ACalls.of fun O w vals hO h => by
    obtain ⟨x, rfl, h1⟩ := args1 h
    cases rep_c h1
    exact (Parse1 w).mono fun e w' h => parse_rep hO h
theorem Parse2_A : ACalls Try.prog 25 [.c (.p (.string ⟨#[35, 35, 10]⟩))] (.tu [.ag (bmpV 2 1 2 (sdot true)), .c (bC true)]) :=
  ACalls.of fun O w vals hO h => by
    obtain ⟨x, rfl, h1⟩ := args1 h
    cases rep_c h1
    exact (Parse2 w).mono fun e w' h => parse_rep hO h
def sfull : Nat → Int := putF 2 1 (sdot true) 0 0
def sx : Nat → Int := hideF 6 sfull 3 6
def sfill : Nat → Int := fillF 6 sx sfull (0, 0, 3, 3)
abbrev sb (b : Bool) : Bm := ⟨2, 1, 2, sdot b⟩
theorem s_chk1 : chkI ((6 : Nat) : Int) ((5 : Nat) : Int) 30 sfull = 0 := by kernel_rfl
theorem s_chk2 : chkI ((6 : Nat) : Int) ((5 : Nat) : Int) 30 sx = 0 := by kernel_rfl
theorem s_blk1 : blkL 6 5 30 sx = [(0, 0, 3, 3), (4, 0, 5, 3), (0, 4, 3, 4), (4, 4, 5, 4)] := by kernel_rfl
theorem s_blk2 : blkL 6 5 30 sfill = [(4, 0, 5, 3), (0, 4, 3, 4), (4, 4, 5, 4)] := by kernel_rfl
theorem s_blk3 : blkL 6 5 30 sfull = [] := by kernel_rfl
theorem s_fill : fillE 6 5 30 sx 6 5 30 sfull = 0 := by kernel_rfl
theorem s_gd0 (b c : Bool) : gdB 6 5 [sb b, sb c] [mtZ, mtZ] 0 = true := by kernel_rfl
theorem s_gd1 (b c : Bool) : gdB 6 5 [sb b, sb c] [mtZ, mtZ] 1 = true := by kernel_rfl
theorem s_gd (b c : Bool) (k : Nat) (hk : k < 2) : gdB 6 5 [sb b, sb c] [mtZ, mtZ] k = true := by
  have h : k = 0 ∨ k = 1 := by omega
  rcases h with rfl | rfl
  · exact s_gd0 b c
  · exact s_gd1 b c
theorem s_next (c : Bool) : nextL ((6 : Nat) : Int) ((5 : Nat) : Int) 30 sx [sb false, sb c] [mtZ, mtZ] = ((0, 0, 3, 3), (if c then 1 else 2), true) := by
  rw [nextL_all (L := [sb false, sb c]) (Y := [mtZ, mtZ]) s_chk2 rfl (show 0 < 2 by decide) (s_gd false c)]
  cases c <;> kernel_rfl
theorem Next_lit (W H : Int) (n : Nat) (f : Nat → Int) (b c : Bm) (V : Rc × Int × Bool) (hn : n ≤ 4611686018427387904) (hV : nextL W H n f [b, c] [mtZ, mtZ] = V) : ACalls Try.prog 19 [.ag (imgV W H n f), .c (.ls 2 3 (sF (bmC b ++ bmC c) 3)), .c (.ls 2 4 (rowF mtC mtZ [mtZ, mtZ]))] (nxV V) := by
  rw [← hV]
  exact (pNext_A W H n f [b, c] [mtZ, mtZ] hn (show 2 ≤ 100 by decide)).conv fun σ O w vals h => by
    obtain ⟨x, y, z, rfl, h1, h2, h3⟩ := args3 h
    refine ⟨h1, ls_conv (fun k hk => ?_) h2, h3, trivial⟩
    match k, hk with
    | 0, _ => exact cell3 rfl rfl rfl
    | 1, _ => exact cell3 rfl rfl rfl
theorem rect_self (r : Rc) (w : World) : (Go.binOp .eql 29 (.agg #[.int .i64 r.1, .int .i64 r.2.1, .int .i64 r.2.2.1, .int .i64 r.2.2.2]) (.agg #[.int .i64 r.1, .int .i64 r.2.1, .int .i64 r.2.2.1, .int .i64 r.2.2.2])).run Try.prog w = .ok (.bool true) w := by
  rw [rect_eq r r w, decide_eq_true rfl]
abbrev sR : List Rc := [(0, 0, 3, 3), (4, 0, 5, 3), (0, 4, 3, 4), (4, 4, 5, 4)]
abbrev sR1 : List Rc := [(4, 0, 5, 3), (0, 4, 3, 4), (4, 4, 5, 4)]
abbrev sL1 : List CV := rcC (4, 0, 5, 3) ++ rcC (0, 4, 3, 4) ++ rcC (4, 4, 5, 4)
theorem s_row : ∀ i, i < 4 → ∀ j, j < 4 → appF (sF (rcC (0, 0, 3, 3)) 4) 1 (sF sL1 4) i j = rcF sR i j ∧ immC (appF (sF (rcC (0, 0, 3, 3)) 4) 1 (sF sL1 4) i j) = true := fun i hi => by
  match i, hi with
  | 0, _ => exact cell4 ⟨rfl, rfl⟩ ⟨rfl, rfl⟩ ⟨rfl, rfl⟩ ⟨rfl, rfl⟩
  | 1, _ => exact cell4 ⟨rfl, rfl⟩ ⟨rfl, rfl⟩ ⟨rfl, rfl⟩ ⟨rfl, rfl⟩
  | 2, _ => exact cell4 ⟨rfl, rfl⟩ ⟨rfl, rfl⟩ ⟨rfl, rfl⟩ ⟨rfl, rfl⟩
  | 3, _ => exact cell4 ⟨rfl, rfl⟩ ⟨rfl, rfl⟩ ⟨rfl, rfl⟩ ⟨rfl, rfl⟩
set_option maxHeartbeats 1000000 in
set_option maxRecDepth 100000 in
theorem sanity_A : ACalls Try.prog 9 [] (.c (bC true)) := by
  have hPut : ACalls Try.prog 26 [.ag (bmC (sb true)), .c (iC 0), .c (iC 0)] (.tu [.ag (imgV 6 5 30 sfull), .c (iC 0)]) := rPut_A 2 1 2 (sdot true) 0 0
  have hHide : ACalls Try.prog 27 [.ag (imgV 6 5 30 sfull), .c (iC 3), .c (iC 6)] (.ag (imgV 6 5 30 sx)) := Hide_A 6 5 30 sfull 3 6 s_chk1
  have hN1 := Next_lit 6 5 30 sx (sb false) (sb true) ((0, 0, 3, 3), 1, true) (by decide) (s_next true)
  have hN2 := Next_lit 6 5 30 sx (sb false) (sb false) ((0, 0, 3, 3), 2, true) (by decide) (s_next false)
  have hN3 := pNext_nil 6 5 30 sx (by decide)
  have hN4 := Next_lit 6 5 30 sfull (sb false) (sb true) nx0 (by decide) (nextL_len (.inr (.inr s_blk3)))
  have hF : ACalls Try.prog 16 [.ag (imgV 6 5 30 sx), .ag (imgV 6 5 30 sfull), .ag (rcC (0, 0, 3, 3))] (.tu [.ag (imgV 6 5 30 sfill), .c (iC 0)]) := by
    have h := pFill_A 6 5 30 sx 6 5 30 sfull (0, 0, 3, 3) (by decide) (by decide)
    rw [fillV, if_pos s_fill] at h
    exact h
  have hB1 := pBlocks_A 6 5 30 sx (by decide)
  rw [s_blk1] at hB1
  have hB2 := pBlocks_A 6 5 30 sfill (by decide)
  rw [s_blk2] at hB2
  have hS1 : ACalls Try.prog 13 [.c (.ls 4 4 (rcF sR)), .c (.ls 4 4 (rcF sR))] (.c (bC true)) := by
    have h := SameRects_A sR sR (by decide) (by decide)
    rw [decide_eq_true rfl] at h
    exact h
  have hS2 : ACalls Try.prog 13 [.c (.ls 3 4 (rcF sR1)), .c (.ls 3 4 (sF sL1 4))] (.c (bC true)) := by
    have h := SameRects_A sR1 sR1 (by decide) (by decide)
    rw [decide_eq_true rfl] at h
    exact h.conv fun σ O w vals h => by
      obtain ⟨x, y, rfl, h1, h2⟩ := args2 h
      refine ⟨h1, ls_conv (fun k hk => ?_) h2, trivial⟩
      match k, hk with
      | 0, _ => exact cell4 rfl rfl rfl rfl
      | 1, _ => exact cell4 rfl rfl rfl rfl
      | 2, _ => exact cell4 rfl rfl rfl rfl
  refine acalls_at Try.func9 rfl rfl Try.ntmps9 rfl ?_
  repeat (first
    | refine AWp.seq ?_
    | (refine AWp.region (id := 0) ?_
       refine AList.assign rfl rfl rfl ?_
       refine AList.nil ?_)
    | (refine AWp.region (id := 1) ?_
       refine AList.call rfl rfl rfl rfl Try.func25 rfl (by kernel_rfl) (Parse1_A) ?_
       refine AList.move rfl rfl rfl ?_
       refine AList.extract rfl rfl rfl rfl ?_
       refine AList.extract rfl rfl rfl rfl ?_
       refine AList.alloc tyOk rfl rfl rfl rfl rfl ?_
       refine AList.store tyOk rfl rfl rfl rfl rfl rfl rfl rfl oM oM ?_
       refine AList.assign rfl rfl rfl ?_
       refine AList.nil ?_)
    | (refine AWp.region (id := 2) ?_
       refine AList.call rfl rfl rfl rfl Try.func25 rfl (by kernel_rfl) (Parse2_A) ?_
       refine AList.move rfl rfl rfl ?_
       refine AList.extract rfl rfl rfl rfl ?_
       refine AList.extract rfl rfl rfl rfl ?_
       refine AList.alloc tyOk rfl rfl rfl rfl rfl ?_
       refine AList.store tyOk rfl rfl rfl rfl rfl rfl rfl rfl oM oM ?_
       refine AList.assign rfl rfl rfl ?_
       refine AList.nil ?_)
    | (refine AWp.region (id := 3) ?_
       refine AList.loadA tyOk rfl rfl rfl rfl rfl rfl rfl oM oM ?_
       refine AList.call rfl rfl rfl rfl Try.func26 rfl (by kernel_rfl) (hPut) ?_
       refine AList.move rfl rfl rfl ?_
       refine AList.extract rfl rfl rfl rfl ?_
       refine AList.extract rfl rfl rfl rfl ?_
       refine AList.alloc tyOk rfl rfl rfl rfl rfl ?_
       refine AList.store tyOk rfl rfl rfl rfl rfl rfl rfl rfl oM oM ?_
       refine AList.assign rfl rfl rfl ?_
       refine AList.nil ?_)
    | (refine AWp.region (id := 4) ?_
       refine AList.loadA tyOk rfl rfl rfl rfl rfl rfl rfl oM oM ?_
       refine AList.call rfl rfl rfl rfl Try.func27 rfl (by kernel_rfl) (hHide) ?_
       refine AList.alloc tyOk rfl rfl rfl rfl rfl ?_
       refine AList.store tyOk rfl rfl rfl rfl rfl rfl rfl rfl oM oM ?_
       refine AList.nil ?_)
    | (refine AWp.region (id := 5) ?_
       refine AList.makeSl (n := 2) tyOk rfl rfl rfl rfl rfl rfl rfl rfl rfl (by first | rfl | omega) (by first | rfl | omega) oM oM ?_
       refine AList.assign rfl rfl rfl ?_
       refine AList.nil ?_))
  refine AWp.weak (S' := mkSt 140 [(1, .c (.pt 1 3 0 0)), (3, .c (.pt 3 3 0 0)), (5, .c (.pt 5 3 0 0)), (7, .c (.pt 7 3 0 0)), (8, .c (.ls 2 4 (rowF mtC mtZ [mtZ, mtZ])))]
    [(1, ⟨false, 1, 3, 48, lF (bmC (sb false))⟩), (3, ⟨false, 1, 3, 48, lF (bmC (sb true))⟩), (5, ⟨false, 1, 3, 27, lF (imgV 6 5 30 sfull)⟩), (7, ⟨false, 1, 3, 27, lF (imgV 6 5 30 sx)⟩)] [1, 3, 5, 7]) (Wk.mk [(1, some 1), (3, some 3), (5, some 5), (7, some 7)] rfl rfl rfl ?_ ?_) ?_
  · repeat (first | exact trivial | refine ⟨⟨_, rfl, by first | exact LeA.c (LeC.refl _ rfl) | exact LeA.c (LeC.ow _ _ rfl) | exact LeA.c (LeC.pt _ _ _ _ _ rfl) | exact LeA.c (LeC.nil _ rfl) | exact LeA.c (LeC.nils _ _) | (refine LeA.int ?_; omega) | (refine LeA.int ?_; dsimp only; omega) | exact LeA.c (LeC.fz rfl rfl (by first | rfl | omega) (fun i _ j _ => ⟨rfl, by first | rfl | exact rowN_imm (fun _ => rfl) _ i j | exact rowF_imm (fun _ => rfl) _ i j⟩))⟩, ?_⟩)
    refine ⟨⟨_, rfl, LeA.c (LeC.fz rfl rfl rfl fun i hi => ?_)⟩, trivial⟩
    match i, hi with
    | 0, _ => exact cell4 ⟨rfl, rfl⟩ ⟨rfl, rfl⟩ ⟨rfl, rfl⟩ ⟨rfl, rfl⟩
    | 1, _ => exact cell4 ⟨rfl, rfl⟩ ⟨rfl, rfl⟩ ⟨rfl, rfl⟩ ⟨rfl, rfl⟩
  · repeat (first | exact trivial | refine ⟨by first | exact HeapOk.same rfl rfl rfl rfl | exact HeapOk.lent rfl rfl rfl rfl | exact HeapOk.nil rfl rfl | exact HeapOk.row rfl rfl (by first | rfl | omega) (fun i _ j _ => ⟨rfl, by first | rfl | exact rowN_imm (fun _ => rfl) _ i j | exact rowF_imm (fun _ => rfl) _ i j⟩) | exact HeapOk.box rfl rfl (by repeat (first | exact trivial | refine ⟨by first | exact LeC.refl _ rfl | exact LeC.ow _ _ rfl | exact LeC.nil _ rfl | exact LeC.nils _ _ | exact LeC.fz rfl rfl (by first | rfl | omega) (fun i _ j _ => ⟨rfl, by first | rfl | exact rowN_imm (fun _ => rfl) _ i j | exact rowF_imm (fun _ => rfl) _ i j⟩) | exact LeC.int (by omega), ?_⟩)) rfl, ?_⟩)
  repeat (first
    | refine AWp.seq ?_
    | (refine AWp.region (id := 6) ?_
       refine AList.loadA tyOk rfl rfl rfl rfl rfl rfl rfl oM oM ?_
       refine AList.loadA tyOk rfl rfl rfl rfl rfl rfl rfl oM oM ?_
       refine AList.loadA tyOk rfl rfl rfl rfl rfl rfl rfl oM oM ?_
       refine AList.litSl tyOk rfl rfl rfl rfl rfl rfl rfl rfl rfl rfl rfl ?_
       refine AList.move rfl rfl rfl ?_
       refine AList.call rfl rfl rfl rfl Try.func19 rfl (by kernel_rfl) (hN1) ?_
       refine AList.move rfl rfl rfl ?_
       refine AList.extract rfl rfl rfl rfl ?_
       refine AList.extract rfl rfl rfl rfl ?_
       refine AList.extract rfl rfl rfl rfl ?_
       refine AList.alloc tyOk rfl rfl rfl rfl rfl ?_
       refine AList.store tyOk rfl rfl rfl rfl rfl rfl rfl rfl oM oM ?_
       refine AList.assign rfl rfl rfl ?_
       refine AList.assign rfl rfl rfl ?_
       refine AList.nil ?_)
    | (refine AWp.region (id := 7) ?_
       refine AList.loadA tyOk rfl rfl rfl rfl rfl rfl rfl oM oM ?_
       refine AList.loadA tyOk rfl rfl rfl rfl rfl rfl rfl oM oM ?_
       refine AList.loadA tyOk rfl rfl rfl rfl rfl rfl rfl oM oM ?_
       refine AList.litSl tyOk rfl rfl rfl rfl rfl rfl rfl rfl rfl rfl rfl ?_
       refine AList.move rfl rfl rfl ?_
       refine AList.call rfl rfl rfl rfl Try.func19 rfl (by kernel_rfl) (hN2) ?_
       refine AList.move rfl rfl rfl ?_
       refine AList.extract rfl rfl rfl rfl ?_
       refine AList.extract rfl rfl rfl rfl ?_
       refine AList.extract rfl rfl rfl rfl ?_
       refine AList.alloc tyOk rfl rfl rfl rfl rfl ?_
       refine AList.store tyOk rfl rfl rfl rfl rfl rfl rfl rfl oM oM ?_
       refine AList.assign rfl rfl rfl ?_
       refine AList.assign rfl rfl rfl ?_
       refine AList.nil ?_)
    | (refine AWp.region (id := 8) ?_
       refine AList.loadA tyOk rfl rfl rfl rfl rfl rfl rfl oM oM ?_
       refine AList.call rfl rfl rfl rfl Try.func19 rfl (by kernel_rfl) (hN3) ?_
       refine AList.move rfl rfl rfl ?_
       refine AList.extract rfl rfl rfl rfl ?_
       refine AList.extract rfl rfl rfl rfl ?_
       refine AList.extract rfl rfl rfl rfl ?_
       refine AList.alloc tyOk rfl rfl rfl rfl rfl ?_
       refine AList.store tyOk rfl rfl rfl rfl rfl rfl rfl rfl oM oM ?_
       refine AList.assign rfl rfl rfl ?_
       refine AList.assign rfl rfl rfl ?_
       refine AList.nil ?_)
    | (refine AWp.region (id := 9) ?_
       refine AList.loadA tyOk rfl rfl rfl rfl rfl rfl rfl oM oM ?_
       refine AList.loadA tyOk rfl rfl rfl rfl rfl rfl rfl oM oM ?_
       refine AList.loadA tyOk rfl rfl rfl rfl rfl rfl rfl oM oM ?_
       refine AList.litSl tyOk rfl rfl rfl rfl rfl rfl rfl rfl rfl rfl rfl ?_
       refine AList.move rfl rfl rfl ?_
       refine AList.call rfl rfl rfl rfl Try.func19 rfl (by kernel_rfl) (hN4) ?_
       refine AList.move rfl rfl rfl ?_
       refine AList.extract rfl rfl rfl rfl ?_
       refine AList.extract rfl rfl rfl rfl ?_
       refine AList.extract rfl rfl rfl rfl ?_
       refine AList.alloc tyOk rfl rfl rfl rfl rfl ?_
       refine AList.store tyOk rfl rfl rfl rfl rfl rfl rfl rfl oM oM ?_
       refine AList.assign rfl rfl rfl ?_
       refine AList.assign rfl rfl rfl ?_
       refine AList.nil ?_)
    | (refine AWp.region (id := 10) ?_
       refine AList.buildSt tyOk rfl rfl rfl rfl rfl rfl rfl rfl ?_
       refine AList.alloc tyOk rfl rfl rfl rfl rfl ?_
       refine AList.store tyOk rfl rfl rfl rfl rfl rfl rfl rfl oM oM ?_
       refine AList.nil ?_)
    | (refine AWp.region (id := 11) ?_
       refine AList.buildSt tyOk rfl rfl rfl rfl rfl rfl rfl rfl ?_
       refine AList.buildSt tyOk rfl rfl rfl rfl rfl rfl rfl rfl ?_
       refine AList.buildSt tyOk rfl rfl rfl rfl rfl rfl rfl rfl ?_
       refine AList.litSl tyOk rfl rfl rfl rfl rfl rfl rfl rfl rfl rfl rfl ?_
       refine AList.assign rfl rfl rfl ?_
       refine AList.nil ?_)
    | (refine AWp.region (id := 12) ?_
       refine AList.loadA tyOk rfl rfl rfl rfl rfl rfl rfl oM oM ?_
       refine AList.loadA tyOk rfl rfl rfl rfl rfl rfl rfl oM oM ?_
       refine AList.loadA tyOk rfl rfl rfl rfl rfl rfl rfl oM oM ?_
       refine AList.call rfl rfl rfl rfl Try.func16 rfl (by kernel_rfl) (hF) ?_
       refine AList.move rfl rfl rfl ?_
       refine AList.extract rfl rfl rfl rfl ?_
       refine AList.extract rfl rfl rfl rfl ?_
       refine AList.alloc tyOk rfl rfl rfl rfl rfl ?_
       refine AList.store tyOk rfl rfl rfl rfl rfl rfl rfl rfl oM oM ?_
       refine AList.assign rfl rfl rfl ?_
       refine AList.nil ?_)
    | (refine AWp.region (id := 13) ?_
       refine AList.move rfl rfl rfl ?_
       refine AList.move rfl rfl rfl ?_
       refine AList.move rfl rfl rfl ?_
       refine AList.pickT rfl rfl rfl rfl ?_
       refine AList.move rfl rfl rfl ?_
       refine AList.move rfl rfl rfl ?_
       refine AList.notB rfl rfl rfl ?_
       refine AList.pickT rfl rfl rfl rfl ?_
       refine AList.move rfl rfl rfl ?_
       refine AList.move rfl rfl rfl ?_
       refine AList.notB rfl rfl rfl ?_
       refine AList.pickT rfl rfl rfl rfl ?_
       refine AList.move rfl rfl rfl ?_
       refine AList.loadA tyOk rfl rfl rfl rfl rfl rfl rfl oM oM ?_
       refine AList.loadA tyOk rfl rfl rfl rfl rfl rfl rfl oM oM ?_
       refine AList.binAg rfl rfl rfl rfl rfl rfl (by kernel_rfl) (rect_self (0, 0, 3, 3)) ?_
       refine AList.pickT rfl rfl rfl rfl ?_
       refine AList.move rfl rfl rfl ?_
       refine AList.move rfl rfl rfl ?_
       refine AList.cmp rfl rfl rfl rfl rfl ?_
       refine AList.pickT rfl rfl rfl rfl ?_
       refine AList.move rfl rfl rfl ?_
       refine AList.loadA tyOk rfl rfl rfl rfl rfl rfl rfl oM oM ?_
       refine AList.loadA tyOk rfl rfl rfl rfl rfl rfl rfl oM oM ?_
       refine AList.binAg rfl rfl rfl rfl rfl rfl (by kernel_rfl) (rect_self (0, 0, 3, 3)) ?_
       refine AList.pickT rfl rfl rfl rfl ?_
       refine AList.move rfl rfl rfl ?_
       refine AList.move rfl rfl rfl ?_
       refine AList.cmp rfl rfl rfl rfl rfl ?_
       refine AList.pickT rfl rfl rfl rfl ?_
       refine AList.move rfl rfl rfl ?_
       refine AList.move rfl rfl rfl ?_
       refine AList.cmp rfl rfl rfl rfl rfl ?_
       refine AList.pickT rfl rfl rfl rfl ?_
       refine AList.assign rfl rfl rfl ?_
       refine AList.nil ?_))
  refine AWp.draw mixed ?_
  refine AList.move rfl rfl rfl ?_
  refine AList.move rfl rfl rfl ?_
  refine AList.loadA tyOk rfl rfl rfl rfl rfl rfl rfl oM oM ?_
  refine AList.call rfl rfl rfl rfl Try.func14 rfl (by kernel_rfl) (hB1) ?_
  refine AList.loadA tyOk rfl rfl rfl rfl rfl rfl rfl oM oM ?_
  refine AList.litOw tyOk rfl rfl rfl rfl rfl rfl rfl rfl rfl rfl rfl ?_
  refine AList.move rfl rfl rfl ?_
  refine AList.appL tyOk rfl rfl rfl rfl rfl rfl rfl rfl rfl rfl oM oM ?_
  refine AList.callP [131] rfl rfl rfl Try.func13 rfl (by kernel_rfl) (hS1) (⟨.inl ⟨rfl, rfl⟩, .inr ⟨131, 4, 4, _, _, rcF sR, rfl, rfl, by simp, rfl, s_row⟩, trivial⟩) ?_
  refine AList.pickT rfl rfl rfl rfl ?_
  refine AList.move rfl rfl rfl ?_
  refine AList.loadA tyOk rfl rfl rfl rfl rfl rfl rfl oM oM ?_
  refine AList.call rfl rfl rfl rfl Try.func14 rfl (by kernel_rfl) (hB2) ?_
  refine AList.move rfl rfl rfl ?_
  refine AList.call rfl rfl rfl rfl Try.func13 rfl (by kernel_rfl) (hS2) ?_
  refine AList.pickT rfl rfl rfl rfl ?_
  refine AList.assign rfl rfl rfl ?_
  refine AList.nil ⟨by kernel_rfl, ?_⟩
  repeat (first
    | refine thenA_n ?_
    | refine AWp.ret ?_)
  refine ⟨mkSt 140 [(0, .c (bC true))] [] [], [], Wk.mk [] rfl rfl rfl ?_ ?_, rfl, rfl, ARets.one (x := .c _) (ARes.tmp rfl rfl)⟩
  · repeat (first | exact trivial | refine ⟨⟨_, rfl, by first | exact LeA.c (LeC.refl _ rfl) | exact LeA.c (LeC.ow _ _ rfl) | exact LeA.c (LeC.pt _ _ _ _ _ rfl) | exact LeA.c (LeC.nil _ rfl) | exact LeA.c (LeC.nils _ _) | (refine LeA.int ?_; omega) | (refine LeA.int ?_; dsimp only; omega) | exact LeA.c (LeC.fz rfl rfl (by first | rfl | omega) (fun i _ j _ => ⟨rfl, by first | rfl | exact rowN_imm (fun _ => rfl) _ i j | exact rowF_imm (fun _ => rfl) _ i j⟩))⟩, ?_⟩)
  · exact trivial
end Go.Proofs.Ytcdnpnbjloaihaa
end
