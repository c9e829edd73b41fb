/- Parts of the proof: Made, BdLaw1, BdSym. -/
import Derived.Test.YtfgcogkhnnflcaaDoorG05
import Derived.Test.YtfgcogkhnnflcaaDoorProg
import Derived.Test.YtfgcogkhnnflcaaDoorG01
import Derived.Test.YtfgcogkhnnflcaaDoorHBdColCard01
import Derived.Lib.Hide
import Derived.Deep.QuietTactic
import Derived.BigQuiet
import Derived.Deep.DrawnRows
import Derived.StillTail
import Derived.Below
import Derived.Deep.Draws
import Derived.WalkKit
import Derived.KernelRfl
import Derived.Test.YtfgcogkhnnflcaaDoorG03
import Derived.Deep.DeepCutAuto
import Derived.Test.YtfgcogkhnnflcaaDoorG02
import Derived.Laws.EntriesVeiled
import Derived.Test.YtfgcogkhnnflcaaDoorHBdColCard02
import Derived.Test.YtfgcogkhnnflcaaDoorG06
import Derived.Test.YtfgcogkhnnflcaaDoorG04
import Derived.Deep.AppendLies
import Derived.Maps.AppendAt
import Derived.OwnWalk
set_option linter.unusedSimpArgs false
set_option linter.unusedVariables false
section
namespace Go.Proofs.YtfgcogkhnnflcaaDoor
open Go.RowKit Go.Flow
open Go.Proofs
attribute [local go_sem] block_add

section
variable {w wr w' : World} {gr gd go g : Nat} {A : Option Addr} {N c : Nat} {W H : Int} {n at_ : Nat}
theorem dat_le {N at_ : Nat} (h : at_ ≤ N) : dat N at_ ≤ N := by unfold dat; split <;> omega
theorem MI.next (h : MI w gr gd go g A N c W H n at_ wr) (h1 : w.heap.size ≤ gr) (h2 : gr < gd) (h3 : gd < g) (h4 : g < go) {b : Nat} (hb : b ≤ N)
    (hB : Blk w' gd 61 #[.slice A N c, .int .i64 (b : Int)]) (hO : Only wr w' gd) : MI w gr gd go g A N c W H n b w' :=
  ⟨hO.blk h.res (by omega), hB, hO.blk h.out (by omega), let ⟨F, hF⟩ := h.own; ⟨F, hO.own hF (by omega)⟩, hO.ext h.ext (by omega), hb⟩
end

/-- What Made returns. -/
def MadePost (w : World) (e : Ending) (w' : World) : Prop :=
  ∃ (W H : Int) (g n : Nat) (f : Nat → Bool), e = .returned (bmp W H (some ⟨g, 0, none⟩) n n) ∧ 0 ≤ W ∧ W ≤ 16 ∧ 0 ≤ H ∧ H ≤ 12 ∧ (n : Int) = W * H ∧
    Flow.Own w' g 4 n (fun k => .bool (f k)) ∧ w.heap.size ≤ g ∧ Ext w w'

theorem dval_bd (N : Nat) (f : Nat → Int) (at_ : Nat) (m : Int) (hm : 0 < m) : 0 ≤ dval N f at_ m ∧ dval N f at_ m < m := by
  unfold dval
  split
  · exact ⟨Int.emod_nonneg _ (by omega), Int.emod_lt_of_pos _ hm⟩
  · omega

set_option maxHeartbeats 1000000 in
set_option maxRecDepth 100000 in
theorem Made_any (A : Option Addr) (N c : Nat) (f : Nat → Int) (w : World) (hN : N ≤ 4611686018427387904) (hf : Ints w A N f) :
    Calls Tryd.prog 9 #[.slice A N c] w (MadePost w) := by
  have hw17 := dval_bd N f 0 17 (by omega)
  have hw13 := dval_bd N f (dat N 0) 13 (by omega)
  go_enter Tryd.func9, Tryd.ntmps9
  go_wp2_with fail
  refine (Next_any w (w.heap.size + 1) A N c f 0 17 (by omega) (by omega) _ hN (by omega) (((Ext.refl w).alloc _).alloc _) hf (by omega) (Blk.new' (by simp) _ _)).mono ?_
  rintro e w1 ⟨rfl, hB1, hO1⟩
  have hE1 := hO1.ext (((Ext.refl w).alloc _).alloc _) (by omega)
  have hR1 := hO1.blk ((Blk.new w 30 #[.int .i64 0, .int .i64 0, .slice none 0 0]).alloc _) (by omega)
  generalize dval N f 0 17 = W at *
  go_wp2_with fail
  refine (Next_any w (w.heap.size + 1) A N c f (dat N 0) 13 (by omega) (by omega) _ hN (dat_le (by omega)) hE1 hf (by omega) hB1).mono ?_
  rintro e w2 ⟨rfl, hB2, hO2⟩
  have hE2 := hO2.ext hE1 (by omega)
  have hR2 := hO2.blk hR1 (by omega)
  generalize dval N f (dat N 0) 13 = H at *
  go_wp2_with fail
  refine (New_ok W H _ (by simp [sideB]; omega)).mono ?_
  rintro e w3 ⟨g, n, rfl, hn, hO3, hg3, hE3⟩
  have hE03 := hE2.trans hE3
  have hB3 := hB2.ext hE3
  have hR3 := hR2.ext hE3
  have hl3 := hB2.lt
  have hl4 := hO3.lt
  have hb := dat_le (N := N) (dat_le (N := N) (at_ := 0) (by omega))
  generalize dat N (dat N 0) = b at *
  clear hO1 hB1 hE1 hR1 hO2 hB2 hE2 hR2 hE3
  replace hn := Lib.hid hn
  go_wp2
  go_loopw [6] (fun i wr => ∃ (k : Nat) (b : Nat), k ≤ 12 ∧ i = .int .i64 k ∧ MI w w.heap.size (w.heap.size + 1) w3.heap.size g A N c W H n b wr) (fun i _ => 12 - (intOf i).toNat)
  case atStart =>
    exact ⟨0, b, by omega, rfl, hR3.alloc _, hB3.alloc _, Blk.new _ _ _, ⟨fun _ => false, Flow.Own.ext hO3 ((Ext.refl _).alloc _)⟩, hE03.alloc _, hb⟩
  case round =>
    obtain ⟨k, b, hk, rfl, hI⟩ := hrel
    have hlg : w3.heap.size < wr.heap.size := hI.out.lt
    have hlr : w.heap.size < wr.heap.size := hI.res.lt
    obtain ⟨hrc, hrf, hrl⟩ := hI.res.rules
    obtain ⟨hdc, hdf, hdl⟩ := hI.draw.rules
    obtain ⟨hoc, hof, hol⟩ := hI.out.rules
    by_cases hc : k < 12 ∧ b < N ∧ 0 < n
    · obtain ⟨hc1, hc2, hc3⟩ := hc
      have hbN : (b : Int) < N := by omega
      have hn0 : (0 : Int) < n := by omega
      have hWH : 0 < W ∧ 0 < H := by
        have h := hn.out
        rcases Int.lt_or_le 0 W with h1 | h1
        · rcases Int.lt_or_le 0 H with h2 | h2
          · exact ⟨h1, h2⟩
          · rw [show H = 0 by omega, Int.mul_zero] at h; omega
        · rw [show W = 0 by omega, Int.zero_mul] at h; omega
      obtain ⟨hW0, hH0⟩ := hWH
      go_wp2_with fail
      refine (Next_any w (w.heap.size + 1) A N c f b W hW0 (by omega) _ hN hI.le hI.ext hf (by omega) hI.draw).mono ?_
      rintro e v1 ⟨rfl, hB1, hO1⟩
      have hI1 := hI.next (by omega) (by omega) (by omega) (by omega) (dat_le hI.le) hB1 hO1
      clear hrc hrf hrl hdc hdf hdl hoc hof hol hB1 hO1 hI
      have hx := dval_bd N f b W hW0
      generalize dval N f b W = x at *
      generalize dat N b = b1 at *
      obtain ⟨hoc, hof, hol⟩ := hI1.out.rules
      go_wp2_with fail
      refine (Next_any w (w.heap.size + 1) A N c f b1 H hH0 (by omega) _ hN hI1.le hI1.ext hf (by omega) hI1.draw).mono ?_
      rintro e v2 ⟨rfl, hB1, hO1⟩
      have hI2 := hI1.next (by omega) (by omega) (by omega) (by omega) (dat_le hI1.le) hB1 hO1
      clear hoc hof hol hB1 hO1 hI1
      have hy := dval_bd N f b1 H hH0
      generalize dval N f b1 H = y at *
      generalize dat N b1 = b2 at *
      go_wp2_with fail
      refine (Next_any w (w.heap.size + 1) A N c f b2 16 (by omega) (by omega) _ hN hI2.le hI2.ext hf (by omega) hI2.draw).mono ?_
      rintro e v3 ⟨rfl, hB1, hO1⟩
      have hI3 := hI2.next (by omega) (by omega) (by omega) (by omega) (dat_le hI2.le) hB1 hO1
      clear hB1 hO1 hI2
      have hz := dval_bd N f b2 16 (by omega)
      generalize dval N f b2 16 = z at *
      generalize dat N b2 = b3 at *
      go_wp2_with fail
      refine (Next_any w (w.heap.size + 1) A N c f b3 4 (by omega) (by omega) _ hN hI3.le hI3.ext hf (by omega) hI3.draw).mono ?_
      rintro e v4 ⟨rfl, hB1, hO1⟩
      have hI4 := hI3.next (by omega) (by omega) (by omega) (by omega) (dat_le hI3.le) hB1 hO1
      clear hB1 hO1 hI3
      generalize dval N f b3 4 = t at *
      generalize dat N b3 = b4 at *
      go_wp2_with fail
      generalize decide (0 < t) = on at *
      go_loopw [11] (fun i wr => ∃ p : Int, x ≤ p ∧ p ≤ 100 ∧ i = .int .i64 p ∧ MI w w.heap.size (w.heap.size + 1) w3.heap.size g A N c W H n b4 wr) (fun i _ => (W - intOf i).toNat)
      case atStart => exact ⟨x, by omega, by omega, rfl, hI4⟩
      case round =>
        clear hI4
        obtain ⟨p, hp1, hp2, rfl, hI⟩ := hrel
        obtain ⟨hoc, hof, hol⟩ := hI.out.rules
        by_cases hc : p < W ∧ p ≤ x + z % 4
        · obtain ⟨hc1, hc2⟩ := hc
          go_wp2_with fail
          clear hoc hof hol
          go_loopw [12] (fun j wr => ∃ q : Int, y ≤ q ∧ q ≤ 100 ∧ j = .int .i64 q ∧ MI w w.heap.size (w.heap.size + 1) w3.heap.size g A N c W H n b4 wr) (fun j _ => (H - intOf j).toNat)
          case atStart => exact ⟨y, by omega, by omega, rfl, hI⟩
          case round =>
            clear hI
            obtain ⟨q, hq1, hq2, rfl, hI⟩ := hrel
            obtain ⟨hoc, hof, hol⟩ := hI.out.rules
            by_cases hd : q < H ∧ q ≤ y + z / 4
            · obtain ⟨hd1, hd2⟩ := hd
              have hq0 : 0 ≤ q * W := Int.mul_nonneg (by omega) (by omega)
              have hqW : q * W ≤ 12 * W := Int.mul_le_mul_of_nonneg_right (by omega) (by omega)
              have hqn : q * W + W ≤ n := by
                have h1 : (q + 1) * W ≤ H * W := Int.mul_le_mul_of_nonneg_right (by omega) (by omega)
                have h2 := hn.out
                rw [Int.add_mul, Int.mul_comm H W] at h1
                omega
              obtain ⟨m, hm⟩ : ∃ m : Nat, q * W + p = m := ⟨(q * W + p).toNat, by omega⟩
              have hmn : m < n := by omega
              obtain ⟨F, hF⟩ := hI.own
              have hgc := hF.cell hmn
              have hgf := hF.frozen m
              go_wp2_with fail
              exact ⟨⟨q + 1, by omega, by omega, rfl, hI.set_ (by omega) (by omega) (by omega) (by omega) m on⟩, by simp only [intOf]; omega⟩
            · have hex : H ≤ q ∨ (q < H ∧ y + z / 4 < q) := by omega
              clear hd
              rcases hex with hd1 | ⟨hd1, hd2⟩
              · go_wp2_with fail
                exact ⟨⟨p + 1, by omega, by omega, rfl, hI⟩, by simp only [intOf]; omega⟩
              · go_wp2_with fail
                exact ⟨⟨p + 1, by omega, by omega, rfl, hI⟩, by simp only [intOf]; omega⟩
        · have hex : W ≤ p ∨ (p < W ∧ x + z % 4 < p) := by omega
          clear hc
          rcases hex with hc1' | ⟨hc1', hc2'⟩
          · go_wp2_with fail
            exact ⟨⟨k + 1, b4, by omega, by go_num, hI⟩, by simp only [intOf]; omega⟩
          · go_wp2_with fail
            exact ⟨⟨k + 1, b4, by omega, by go_num, hI⟩, by simp only [intOf]; omega⟩
    · have hex : (12 ≤ k) ∨ (k < 12 ∧ (N : Int) ≤ b) ∨ (k < 12 ∧ (b : Int) < N ∧ n = 0) := by omega
      clear hc
      obtain ⟨F, hF⟩ := hI.own
      have hfin : MadePost w (.returned (bmp W H (some ⟨g, 0, none⟩) n n)) (((wr.setCell ⟨w.heap.size, 0, none⟩ (.int .i64 W)).setCell ⟨w.heap.size, 1, none⟩ (.int .i64 H)).setCell ⟨w.heap.size, 2, none⟩ (.slice (some ⟨g, 0, none⟩) n n)) :=
        ⟨W, H, g, n, F, rfl, by omega, by omega, by omega, by omega, hn.out, ((hF.far (by simp; omega) _).far (by simp; omega) _).far (by simp; omega) _, by omega,
          ((hI.ext.setCell (by simp) _).setCell (by simp) _).setCell (by simp) _⟩
      replace hfin := Lib.hid hfin
      rcases hex with hc1 | ⟨hc1, hc2⟩ | ⟨hc1, hc2, hc3⟩
      · go_wp2_with fail
        exact bodyPost_ret (v := bmp W H (some ⟨g, 0, none⟩) n n) (by simp [results, Tryd.results9, go_sem, *]) rfl hfin.out
      · go_wp2_with fail
        exact bodyPost_ret (v := bmp W H (some ⟨g, 0, none⟩) n n) (by simp [results, Tryd.results9, go_sem, *]) rfl hfin.out
      · subst hc3
        go_wp2_with fail
        exact bodyPost_ret (v := bmp W H (some ⟨g, 0, none⟩) 0 0) (by simp [results, Tryd.results9, go_sem, *]) rfl hfin.out
end Go.Proofs.YtfgcogkhnnflcaaDoor
end

section
namespace Go.Proofs.YtfgcogkhnnflcaaDoor
open Go.RowKit Go.Flow Go.Plain
open Go.Proofs
attribute [local go_sem] block_add
attribute [local go_sem ↓] Go.wp_at_zero Go.wp_at_succ

theorem cut_any (A : Option Addr) (n c : Nat) (w : World) (hn : n ≤ c) (hc : c ≤ 4611686018427387904) :
    Calls Tryd.prog 10 #[.slice A n c] w fun e w' => e = .returned (.slice A (few n 60) c) ∧ w = w' := by
  rcases Nat.lt_trichotomy n 60 with h | rfl | h
  · have hf : few n 60 = n := by simp [few, h]
    replace hf := Lib.hid hf
    have h1 : (n : Int) < 60 := by omega
    go_enter Tryd.func10, Tryd.ntmps10
    go_wp2_with fail
    go_ret
    exact ⟨by rw [hf.out]; rfl, rfl⟩
  · have hf : few 60 60 = 60 := rfl
    replace hf := Lib.hid hf
    go_enter Tryd.func10, Tryd.ntmps10
    go_wp2_with fail
    go_ret
    exact ⟨by rw [hf.out]; rfl, rfl⟩
  · have hf : few n 60 = 60 := by simp [few]; omega
    replace hf := Lib.hid hf
    have h1 : (60 : Int) < n := by omega
    go_enter Tryd.func10, Tryd.ntmps10
    go_wp2_with fail
    go_ret
    exact ⟨by rw [hf.out]; rfl, rfl⟩

theorem few_le (n m : Nat) : few n m ≤ n := by unfold few; split <;> omega
end Go.Proofs.YtfgcogkhnnflcaaDoor
end

section
namespace Go.Proofs.YtfgcogkhnnflcaaDoor
open Go.RowKit Go.Flow Go.Plain
open Go.Proofs
attribute [local go_sem] block_add
attribute [local go_sem ↓] Go.wp_at_zero Go.wp_at_succ

theorem made_chk {W H : Int} {n : Nat} (h1 : 0 ≤ W) (h2 : W ≤ 16) (h3 : 0 ≤ H) (h4 : H ≤ 12) (hn : (n : Int) = W * H) : chk W H n = 0 := by
  unfold chk
  rw [sideB_iff.2 ⟨h1, by omega⟩, sideB_iff.2 ⟨h3, by omega⟩]
  simp [hn]
end Go.Proofs.YtfgcogkhnnflcaaDoor
end
