/- Parts of the proof: Made, BdLaw1, BdLea. -/
import Derived.Test.YtfgcogkhnnflcaaDoorG05
import Derived.Test.YtfgcogkhnnflcaaDoorProg
import Derived.Test.YtfgcogkhnnflcaaDoorG01
import Derived.Test.YtfgcogkhnnflcaaDoorHBdLeaCard01
import Derived.Lib.Hide
import Derived.Deep.QuietTactic
import Derived.BigQuiet
import Derived.Deep.DrawnRows
import Derived.StillTail
import Derived.Below
import Derived.Deep.Draws
import Derived.WalkKit
import Derived.KernelRfl
import Derived.Test.YtfgcogkhnnflcaaDoorHBdLeaCard02
import Derived.Test.YtfgcogkhnnflcaaDoorG03
import Derived.Deep.DeepCutAuto
import Derived.Test.YtfgcogkhnnflcaaDoorG02
import Derived.Laws.EntriesVeiled
import Derived.Test.YtfgcogkhnnflcaaDoorG06
import Derived.Test.YtfgcogkhnnflcaaDoorG04
import Derived.Deep.AppendLies
import Derived.Maps.AppendAt
import Derived.OwnWalk
set_option linter.unusedSimpArgs false
set_option linter.unusedVariables false
section
namespace Go.Proofs.YtfgcogkhnnflcaaDoor
open Go.RowKit Go.Flow
open Go.Proofs
attribute [local go_sem] block_add

section
variable {w wr w' : World} {gr gd go g : Nat} {A : Option Addr} {N c : Nat} {W H : Int} {n at_ : Nat}
theorem dat_le {N at_ : Nat} (h : at_ ≤ N) : dat N at_ ≤ N := by unfold dat; split <;> omega
theorem MI.next (h : MI w gr gd go g A N c W H n at_ wr) (h1 : w.heap.size ≤ gr) (h2 : gr < gd) (h3 : gd < g) (h4 : g < go) {b : Nat} (hb : b ≤ N)
    (hB : Blk w' gd 61 #[.slice A N c, .int .i64 (b : Int)]) (hO : Only wr w' gd) : MI w gr gd go g A N c W H n b w' :=
  ⟨hO.blk h.res (by omega), hB, hO.blk h.out (by omega), let ⟨F, hF⟩ := h.own; ⟨F, hO.own hF (by omega)⟩, hO.ext h.ext (by omega), hb⟩
end

/-- What Made returns. -/
def MadePost (w : World) (e : Ending) (w' : World) : Prop :=
  ∃ (W H : Int) (g n : Nat) (f : Nat → Bool), e = .returned (bmp W H (some ⟨g, 0, none⟩) n n) ∧ 0 ≤ W ∧ W ≤ 16 ∧ 0 ≤ H ∧ H ≤ 12 ∧ (n : Int) = W * H ∧
    Flow.Own w' g 4 n (fun k => .bool (f k)) ∧ w.heap.size ≤ g ∧ Ext w w'

theorem dval_bd (N : Nat) (f : Nat → Int) (at_ : Nat) (m : Int) (hm : 0 < m) : 0 ≤ dval N f at_ m ∧ dval N f at_ m < m := by
  unfold dval
  split
  · exact ⟨Int.emod_nonneg _ (by omega), Int.emod_lt_of_pos _ hm⟩
  · omega

set_option maxHeartbeats 1000000 in
set_option maxRecDepth 100000 in
theorem Made_any (A : Option Addr) (N c : Nat) (f : Nat → Int) (w : World) (hN : N ≤ 4611686018427387904) (hf : Ints w A N f) :
    Calls Tryd.prog 9 #[.slice A N c] w (MadePost w) := by
  have hw17 := dval_bd N f 0 17 (by omega)
  have hw13 := dval_bd N f (dat N 0) 13 (by omega)
  go_enter Tryd.func9, Tryd.ntmps9
  go_wp2_with fail
  refine (Next_any w (w.heap.size + 1) A N c f 0 17 (by omega) (by omega) _ hN (by omega) (((Ext.refl w).alloc _).alloc _) hf (by omega) (Blk.new' (by simp) _ _)).mono ?_
  rintro e w1 ⟨rfl, hB1, hO1⟩
  have hE1 := hO1.ext (((Ext.refl w).alloc _).alloc _) (by omega)
  have hR1 := hO1.blk ((Blk.new w 30 #[.int .i64 0, .int .i64 0, .slice none 0 0]).alloc _) (by omega)
  generalize dval N f 0 17 = W at *
  go_wp2_with fail
  refine (Next_any w (w.heap.size + 1) A N c f (dat N 0) 13 (by omega) (by omega) _ hN (dat_le (by omega)) hE1 hf (by omega) hB1).mono ?_
  rintro e w2 ⟨rfl, hB2, hO2⟩
  have hE2 := hO2.ext hE1 (by omega)
  have hR2 := hO2.blk hR1 (by omega)
  generalize dval N f (dat N 0) 13 = H at *
  go_wp2_with fail
  refine (New_ok W H _ (by simp [sideB]; omega)).mono ?_
  rintro e w3 ⟨g, n, rfl, hn, hO3, hg3, hE3⟩
  have hE03 := hE2.trans hE3
  have hB3 := hB2.ext hE3
  have hR3 := hR2.ext hE3
  have hl3 := hB2.lt
  have hl4 := hO3.lt
  have hb := dat_le (N := N) (dat_le (N := N) (at_ := 0) (by omega))
  generalize dat N (dat N 0) = b at *
  clear hO1 hB1 hE1 hR1 hO2 hB2 hE2 hR2 hE3
  replace hn := Lib.hid hn
  go_wp2
  go_loopw [6] (fun i wr => ∃ (k : Nat) (b : Nat), k ≤ 12 ∧ i = .int .i64 k ∧ MI w w.heap.size (w.heap.size + 1) w3.heap.size g A N c W H n b wr) (fun i _ => 12 - (intOf i).toNat)
  case atStart =>
    exact ⟨0, b, by omega, rfl, hR3.alloc _, hB3.alloc _, Blk.new _ _ _, ⟨fun _ => false, Flow.Own.ext hO3 ((Ext.refl _).alloc _)⟩, hE03.alloc _, hb⟩
  case round =>
    obtain ⟨k, b, hk, rfl, hI⟩ := hrel
    have hlg : w3.heap.size < wr.heap.size := hI.out.lt
    have hlr : w.heap.size < wr.heap.size := hI.res.lt
    obtain ⟨hrc, hrf, hrl⟩ := hI.res.rules
    obtain ⟨hdc, hdf, hdl⟩ := hI.draw.rules
    obtain ⟨hoc, hof, hol⟩ := hI.out.rules
    by_cases hc : k < 12 ∧ b < N ∧ 0 < n
    · obtain ⟨hc1, hc2, hc3⟩ := hc
      have hbN : (b : Int) < N := by omega
      have hn0 : (0 : Int) < n := by omega
      have hWH : 0 < W ∧ 0 < H := by
        have h := hn.out
        rcases Int.lt_or_le 0 W with h1 | h1
        · rcases Int.lt_or_le 0 H with h2 | h2
          · exact ⟨h1, h2⟩
          · rw [show H = 0 by omega, Int.mul_zero] at h; omega
        · rw [show W = 0 by omega, Int.zero_mul] at h; omega
      obtain ⟨hW0, hH0⟩ := hWH
      go_wp2_with fail
      refine (Next_any w (w.heap.size + 1) A N c f b W hW0 (by omega) _ hN hI.le hI.ext hf (by omega) hI.draw).mono ?_
      rintro e v1 ⟨rfl, hB1, hO1⟩
      have hI1 := hI.next (by omega) (by omega) (by omega) (by omega) (dat_le hI.le) hB1 hO1
      clear hrc hrf hrl hdc hdf hdl hoc hof hol hB1 hO1 hI
      have hx := dval_bd N f b W hW0
      generalize dval N f b W = x at *
      generalize dat N b = b1 at *
      obtain ⟨hoc, hof, hol⟩ := hI1.out.rules
      go_wp2_with fail
      refine (Next_any w (w.heap.size + 1) A N c f b1 H hH0 (by omega) _ hN hI1.le hI1.ext hf (by omega) hI1.draw).mono ?_
      rintro e v2 ⟨rfl, hB1, hO1⟩
      have hI2 := hI1.next (by omega) (by omega) (by omega) (by omega) (dat_le hI1.le) hB1 hO1
      clear hoc hof hol hB1 hO1 hI1
      have hy := dval_bd N f b1 H hH0
      generalize dval N f b1 H = y at *
      generalize dat N b1 = b2 at *
      go_wp2_with fail
      refine (Next_any w (w.heap.size + 1) A N c f b2 16 (by omega) (by omega) _ hN hI2.le hI2.ext hf (by omega) hI2.draw).mono ?_
      rintro e v3 ⟨rfl, hB1, hO1⟩
      have hI3 := hI2.next (by omega) (by omega) (by omega) (by omega) (dat_le hI2.le) hB1 hO1
      clear hB1 hO1 hI2
      have hz := dval_bd N f b2 16 (by omega)
      generalize dval N f b2 16 = z at *
      generalize dat N b2 = b3 at *
      go_wp2_with fail
      refine (Next_any w (w.heap.size + 1) A N c f b3 4 (by omega) (by omega) _ hN hI3.le hI3.ext hf (by omega) hI3.draw).mono ?_
      rintro e v4 ⟨rfl, hB1, hO1⟩
      have hI4 := hI3.next (by omega) (by omega) (by omega) (by omega) (dat_le hI3.le) hB1 hO1
      clear hB1 hO1 hI3
      generalize dval N f b3 4 = t at *
      generalize dat N b3 = b4 at *
      go_wp2_with fail
      generalize decide (0 < t) = on at *
      go_loopw [11] (fun i wr => ∃ p : Int, x ≤ p ∧ p ≤ 100 ∧ i = .int .i64 p ∧ MI w w.heap.size (w.heap.size + 1) w3.heap.size g A N c W H n b4 wr) (fun i _ => (W - intOf i).toNat)
      case atStart => exact ⟨x, by omega, by omega, rfl, hI4⟩
      case round =>
        clear hI4
        obtain ⟨p, hp1, hp2, rfl, hI⟩ := hrel
        obtain ⟨hoc, hof, hol⟩ := hI.out.rules
        by_cases hc : p < W ∧ p ≤ x + z % 4
        · obtain ⟨hc1, hc2⟩ := hc
          go_wp2_with fail
          clear hoc hof hol
          go_loopw [12] (fun j wr => ∃ q : Int, y ≤ q ∧ q ≤ 100 ∧ j = .int .i64 q ∧ MI w w.heap.size (w.heap.size + 1) w3.heap.size g A N c W H n b4 wr) (fun j _ => (H - intOf j).toNat)
          case atStart => exact ⟨y, by omega, by omega, rfl, hI⟩
          case round =>
            clear hI
            obtain ⟨q, hq1, hq2, rfl, hI⟩ := hrel
            obtain ⟨hoc, hof, hol⟩ := hI.out.rules
            by_cases hd : q < H ∧ q ≤ y + z / 4
            · obtain ⟨hd1, hd2⟩ := hd
              have hq0 : 0 ≤ q * W := Int.mul_nonneg (by omega) (by omega)
              have hqW : q * W ≤ 12 * W := Int.mul_le_mul_of_nonneg_right (by omega) (by omega)
              have hqn : q * W + W ≤ n := by
                have h1 : (q + 1) * W ≤ H * W := Int.mul_le_mul_of_nonneg_right (by omega) (by omega)
                have h2 := hn.out
                rw [Int.add_mul, Int.mul_comm H W] at h1
                omega
              obtain ⟨m, hm⟩ : ∃ m : Nat, q * W + p = m := ⟨(q * W + p).toNat, by omega⟩
              have hmn : m < n := by omega
              obtain ⟨F, hF⟩ := hI.own
              have hgc := hF.cell hmn
              have hgf := hF.frozen m
              go_wp2_with fail
              exact ⟨⟨q + 1, by omega, by omega, rfl, hI.set_ (by omega) (by omega) (by omega) (by omega) m on⟩, by simp only [intOf]; omega⟩
            · have hex : H ≤ q ∨ (q < H ∧ y + z / 4 < q) := by omega
              clear hd
              rcases hex with hd1 | ⟨hd1, hd2⟩
              · go_wp2_with fail
                exact ⟨⟨p + 1, by omega, by omega, rfl, hI⟩, by simp only [intOf]; omega⟩
              · go_wp2_with fail
                exact ⟨⟨p + 1, by omega, by omega, rfl, hI⟩, by simp only [intOf]; omega⟩
        · have hex : W ≤ p ∨ (p < W ∧ x + z % 4 < p) := by omega
          clear hc
          rcases hex with hc1' | ⟨hc1', hc2'⟩
          · go_wp2_with fail
            exact ⟨⟨k + 1, b4, by omega, by go_num, hI⟩, by simp only [intOf]; omega⟩
          · go_wp2_with fail
            exact ⟨⟨k + 1, b4, by omega, by go_num, hI⟩, by simp only [intOf]; omega⟩
    · have hex : (12 ≤ k) ∨ (k < 12 ∧ (N : Int) ≤ b) ∨ (k < 12 ∧ (b : Int) < N ∧ n = 0) := by omega
      clear hc
      obtain ⟨F, hF⟩ := hI.own
      have hfin : MadePost w (.returned (bmp W H (some ⟨g, 0, none⟩) n n)) (((wr.setCell ⟨w.heap.size, 0, none⟩ (.int .i64 W)).setCell ⟨w.heap.size, 1, none⟩ (.int .i64 H)).setCell ⟨w.heap.size, 2, none⟩ (.slice (some ⟨g, 0, none⟩) n n)) :=
        ⟨W, H, g, n, F, rfl, by omega, by omega, by omega, by omega, hn.out, ((hF.far (by simp; omega) _).far (by simp; omega) _).far (by simp; omega) _, by omega,
          ((hI.ext.setCell (by simp) _).setCell (by simp) _).setCell (by simp) _⟩
      replace hfin := Lib.hid hfin
      rcases hex with hc1 | ⟨hc1, hc2⟩ | ⟨hc1, hc2, hc3⟩
      · go_wp2_with fail
        exact bodyPost_ret (v := bmp W H (some ⟨g, 0, none⟩) n n) (by simp [results, Tryd.results9, go_sem, *]) rfl hfin.out
      · go_wp2_with fail
        exact bodyPost_ret (v := bmp W H (some ⟨g, 0, none⟩) n n) (by simp [results, Tryd.results9, go_sem, *]) rfl hfin.out
      · subst hc3
        go_wp2_with fail
        exact bodyPost_ret (v := bmp W H (some ⟨g, 0, none⟩) 0 0) (by simp [results, Tryd.results9, go_sem, *]) rfl hfin.out
end Go.Proofs.YtfgcogkhnnflcaaDoor
end

section
namespace Go.Proofs.YtfgcogkhnnflcaaDoor
open Go.RowKit Go.Flow Go.Plain
open Go.Proofs
attribute [local go_sem] block_add
attribute [local go_sem ↓] Go.wp_at_zero Go.wp_at_succ

theorem cut_any (A : Option Addr) (n c : Nat) (w : World) (hn : n ≤ c) (hc : c ≤ 4611686018427387904) :
    Calls Tryd.prog 10 #[.slice A n c] w fun e w' => e = .returned (.slice A (few n 60) c) ∧ w = w' := by
  rcases Nat.lt_trichotomy n 60 with h | rfl | h
  · have hf : few n 60 = n := by simp [few, h]
    replace hf := Lib.hid hf
    have h1 : (n : Int) < 60 := by omega
    go_enter Tryd.func10, Tryd.ntmps10
    go_wp2_with fail
    go_ret
    exact ⟨by rw [hf.out]; rfl, rfl⟩
  · have hf : few 60 60 = 60 := rfl
    replace hf := Lib.hid hf
    go_enter Tryd.func10, Tryd.ntmps10
    go_wp2_with fail
    go_ret
    exact ⟨by rw [hf.out]; rfl, rfl⟩
  · have hf : few n 60 = 60 := by simp [few]; omega
    replace hf := Lib.hid hf
    have h1 : (60 : Int) < n := by omega
    go_enter Tryd.func10, Tryd.ntmps10
    go_wp2_with fail
    go_ret
    exact ⟨by rw [hf.out]; rfl, rfl⟩

def bd0 (N : Nat) (f : Nat → Int) : Int := dval N f 0 5
def bd1 (N : Nat) (f : Nat → Int) : Int := dval N f (dat N 0) 4
def bd2 (N : Nat) (f : Nat → Int) : Int := dval N f (dat N (dat N 0)) 2
def bd3 (N : Nat) (f : Nat → Int) : Int := dval N f (dat N (dat N (dat N 0))) 4

theorem Budget_any (A : Option Addr) (N c : Nat) (f : Nat → Int) (w : World) (hN : N ≤ 4611686018427387904) (hf : Ints w A N f) :
    Calls Tryd.prog 20 #[.slice A N c] w fun e w' => e = .returned (bud (bd0 N f) (bd1 N f) (bd2 N f) (bd3 N f)) ∧ Ext w w' := by
  go_enter Tryd.func20, Tryd.ntmps20
  go_wp2_with fail
  refine (Next_any w (w.heap.size + 1) A N c f 0 5 (by omega) (by omega) _ hN (by omega) (((Ext.refl w).alloc _).alloc _) hf (by omega) (Blk.new' (by simp) _ _)).mono ?_
  rintro e w1 ⟨rfl, hB1, hO1⟩
  have hE1 := hO1.ext (((Ext.refl w).alloc _).alloc _) (by omega)
  have hR1 := hO1.blk ((Blk.new w 25 #[.int .i64 0, .int .i64 0, .int .i64 0, .int .i64 0]).alloc _) (by omega)
  replace hE1 := Lib.hid hE1
  replace hR1 := Lib.hid hR1
  rw [← bd0]
  have hb := dat_le (N := N) (at_ := 0) (by omega)
  go_wp2_with fail
  refine (Next_any w (w.heap.size + 1) A N c f (dat N 0) 4 (by omega) (by omega) _ hN hb hE1.out hf (by omega) hB1).mono ?_
  rintro e w2 ⟨rfl, hB2, hO2⟩
  have hE2 := Lib.hid (hO2.ext hE1.out (by omega))
  have hR2 := Lib.hid (hO2.blk hR1.out (by omega))
  rw [← bd1]
  replace hb := dat_le hb
  clear hE1 hR1 hB1 hO1 hO2
  go_wp2_with fail
  refine (Next_any w (w.heap.size + 1) A N c f (dat N (dat N 0)) 2 (by omega) (by omega) _ hN hb hE2.out hf (by omega) hB2).mono ?_
  rintro e w3 ⟨rfl, hB3, hO3⟩
  have hE3 := Lib.hid (hO3.ext hE2.out (by omega))
  have hR3 := Lib.hid (hO3.blk hR2.out (by omega))
  rw [← bd2]
  replace hb := dat_le hb
  clear hE2 hR2 hB2 hO3
  go_wp2_with fail
  refine (Next_any w (w.heap.size + 1) A N c f (dat N (dat N (dat N 0))) 4 (by omega) (by omega) _ hN hb hE3.out hf (by omega) hB3).mono ?_
  rintro e w4 ⟨rfl, hB4, hO4⟩
  have hE4 := Lib.hid (hO4.ext hE3.out (by omega))
  have hR4 := (hO4.blk hR3.out (by omega))
  rw [← bd3]
  clear hE3 hR3 hB3 hO4 hB4
  obtain ⟨hRc, hRf, hRl⟩ := hR4.rules
  go_wp2_with fail
  exact bodyPost_ret (v := bud (bd0 N f) (bd1 N f) (bd2 N f) (bd3 N f)) (by simp [results, Tryd.results20, go_sem, *]) rfl ⟨rfl, hE4.out.set4 (by omega)⟩

theorem few_le (n m : Nat) : few n m ≤ n := by unfold few; split <;> omega
theorem few_if (n m : Nat) : (if (m : Int) < n then (m : Int) else n) = (few n m : Nat) := by unfold few; split <;> split <;> omega

theorem budgets_any (A : Option Addr) (N c : Nat) (f : Nat → Int) (A' : Option Addr) (N' c' : Nat) (f' : Nat → Int) (w : World) (hN : N ≤ c) (hc : c ≤ 4611686018427387904) (hN' : N' ≤ c') (hc' : c' ≤ 4611686018427387904)
    (hf : Ints w A N f) (hf' : Ints w A' N' f') :
    Calls Tryd.prog 11 #[.slice A N c, .slice A' N' c'] w fun e w' =>
      e = .returned (.tuple #[bud (bd0 (few N 4) f) (bd1 (few N 4) f) (bd2 (few N 4) f) (bd3 (few N 4) f), bud (bd0 (few N' 4) f') (bd1 (few N' 4) f') (bd2 (few N' 4) f') (bd3 (few N' 4) f')]) ∧ Ext w w' := by
  have hk : (if (4 : Int) < N then (4 : Int) else N) = (few N 4 : Nat) := few_if N 4
  have hk' : (if (4 : Int) < N' then (4 : Int) else N') = (few N' 4 : Nat) := few_if N' 4
  have hl := few_le N 4
  have hl' := few_le N' 4
  replace hf : Ints w A (few N 4) f := hf.take hl
  replace hf' : Ints w A' (few N' 4) f' := hf'.take hl'
  have hg : few N 4 ≤ 4611686018427387904 := by omega
  have hg' : few N' 4 ≤ 4611686018427387904 := by omega
  have hnl : few N 4 ≤ c := by omega
  have hnl' : few N' 4 ≤ c' := by omega
  generalize few N 4 = M at *
  generalize few N' 4 = M' at *
  have hE := ((Ext.refl w).alloc (.cells #[.int .i64 0, .int .i64 0, .int .i64 0, .int .i64 0] 25)).alloc (.cells #[.int .i64 0, .int .i64 0, .int .i64 0, .int .i64 0] 25)
  have hA := hf.ext hE
  have hA' := hf'.ext hE
  replace hE := Lib.hid hE
  go_enter Tryd.func11, Tryd.ntmps11
  go_wp2_with fail
  refine Flow.wp_flow 12 [(0, true), (1, true), (2, true), (3, true), (4, true), (5, true), (6, true), (7, true), (8, true), (9, true), (10, true), (11, true)] (by kernel_rfl) (by kernel_rfl) ?_
  simp only [List.map_cons, List.map_nil, List.getD_cons_succ, List.getD_cons_zero]
  repeat (first
    | (refine Flow.WalkL.move rfl ?_
       simp only [Act.put, Act.eval, Array.getD_eq_getD_getElem?, List.getElem?_toArray, List.getElem?_cons_succ, List.getElem?_cons_zero, Option.getD_some, List.setIfInBounds_toArray, List.set_cons_zero, List.set_cons_succ])
    | (refine Flow.WalkL.assign rfl ?_
       simp only [Act.put, Act.eval, Array.getD_eq_getD_getElem?, List.getElem?_toArray, List.getElem?_cons_succ, List.getElem?_cons_zero, Option.getD_some, List.setIfInBounds_toArray, List.set_cons_zero, List.set_cons_succ])
    | (refine Flow.WalkL.callf Tryd.func20 rfl (by kernel_rfl) rfl (fun w1 hC => Budget_any A M c f _ hg (hA.ext hC)) rfl rfl ?_
       simp only [Act.put, List.setIfInBounds_toArray, List.set_cons_zero, List.set_cons_succ])
    | (refine Flow.WalkL.callf Tryd.func20 rfl (by kernel_rfl) rfl (fun w1 hC => Budget_any A' M' c' f' _ hg' (hA'.ext hC)) rfl rfl ?_
       simp only [Act.put, List.setIfInBounds_toArray, List.set_cons_zero, List.set_cons_succ])
    | (refine Flow.WalkL.run (v := ?_) rfl (fun w1 hC => ?_) ?_
       rotate_left
       · obtain ⟨hCc, hCf⟩ := hC.rules
         go_simp
         with_reducible rfl
       simp only [Act.put, List.setIfInBounds_toArray, List.set_cons_zero, List.set_cons_succ]))
  refine Flow.WalkL.nil ?_
  simp only [List.drop]
  intro w1 hE1
  have hR1 := ((Blk.new w 25 #[.int .i64 0, .int .i64 0, .int .i64 0, .int .i64 0]).alloc (.cells #[.int .i64 0, .int .i64 0, .int .i64 0, .int .i64 0] 25)).ext hE1
  have hR2 := (Blk.new' (g := w.heap.size + 1) (w := w.alloc (.cells #[.int .i64 0, .int .i64 0, .int .i64 0, .int .i64 0] 25)) (by simp) 25 #[.int .i64 0, .int .i64 0, .int .i64 0, .int .i64 0]).ext hE1
  obtain ⟨hRc, hRf, hRl⟩ := hR1.rules
  obtain ⟨hSc, hSf, hSl⟩ := hR2.rules
  have hfin := ((hE.out.trans hE1).set4 (k := w.heap.size) (a' := .int .i64 (bd0 M f)) (b' := .int .i64 (bd1 M f)) (c' := .int .i64 (bd2 M f)) (d' := .int .i64 (bd3 M f)) (by omega)).set4 (k := w.heap.size + 1) (a' := .int .i64 (bd0 M' f')) (b' := .int .i64 (bd1 M' f')) (c' := .int .i64 (bd2 M' f')) (d' := .int .i64 (bd3 M' f')) (by omega)
  replace hfin := Lib.hid hfin
  replace hE1 := Lib.hid hE1
  clear hR1 hR2
  go_wp2_with fail
  exact bodyPost_ret (v := .tuple #[bud (bd0 M f) (bd1 M f) (bd2 M f) (bd3 M f), bud (bd0 M' f') (bd1 M' f') (bd2 M' f') (bd3 M' f')]) (by simp [results, Tryd.results11, go_sem, *]) rfl ⟨rfl, hfin.out⟩
end Go.Proofs.YtfgcogkhnnflcaaDoor
end

section
namespace Go.Proofs.YtfgcogkhnnflcaaDoor
open Go.RowKit Go.Flow Go.Plain
open Go.Proofs
attribute [local go_sem] block_add
attribute [local go_sem ↓] Go.wp_at_zero Go.wp_at_succ

/-- The numbers of columns and of rows that both sides return. -/
def colLen (W H : Int) (n : Nat) : Nat := if chk W H n = 0 then W.toNat else 0
def rowLen (W H : Int) (n : Nat) : Nat := if chk W H n = 0 then H.toNat else 0
def ColsAny (W H : Int) (n : Nat) (dot : Nat → Bool) (w : World) (e : Ending) (w' : World) : Prop :=
  ∃ A B c d, e = .returned (.tuple #[.slice A (colLen W H n) c, .slice B (rowLen W H n) d]) ∧ Ints w' A (colLen W H n) (colF W n dot) ∧ Ints w' B (rowLen W H n) (rowBd W n dot) ∧ Ext w w'
theorem Columns_any (W H : Int) (A : Option Addr) (n c : Nat) (dot : Nat → Bool) (w : World) (hA : Bools w A n dot) (hS : Sides w) :
    Calls Tryd.prog 12 #[bmp W H A n c] w (ColsAny W H n dot w) := by
  by_cases h : chk W H n = 0
  · refine (Columns_ok W H A n c dot w h hA hS).mono fun e w' hp => ?_
    unfold ColsAny colLen rowLen
    rw [if_pos h, if_pos h]
    exact hp
  · refine (Columns_bad W H A n c w h).mono fun e w' ⟨he, hE⟩ => ?_
    unfold ColsAny colLen rowLen
    rw [if_neg h, if_neg h]
    exact ⟨none, none, 0, 0, he, Arr.zero _ _ _, Arr.zero _ _ _, hE⟩
theorem ColumnsR_any (W H : Int) (A : Option Addr) (n c : Nat) (dot : Nat → Bool) (w : World) (hA : Bools w A n dot) :
    Calls Tryd.prog 13 #[bmp W H A n c] w (ColsAny W H n dot w) := by
  by_cases h : chk W H n = 0
  · refine (ColumnsR_ok W H A n c dot w h hA).mono fun e w' hp => ?_
    unfold ColsAny colLen rowLen
    rw [if_pos h, if_pos h]
    exact hp
  · refine (ColumnsR_bad W H A n c w h).mono fun e w' ⟨he, hE⟩ => ?_
    unfold ColsAny colLen rowLen
    rw [if_neg h, if_neg h]
    exact ⟨none, none, 0, 0, he, Arr.zero _ _ _, Arr.zero _ _ _, hE⟩
theorem colLen_bd (W H : Int) (n : Nat) : colLen W H n ≤ 96 ∧ rowLen W H n ≤ 96 := by
  unfold colLen rowLen
  by_cases h : chk W H n = 0
  · have := okB h; rw [if_pos h, if_pos h]; omega
  · rw [if_neg h, if_neg h]; omega
theorem sameB_self (n : Nat) (f : Nat → Int) : sameB n n f f = true := by unfold sameB; simp

def pz (j : Nat) (a b : Int) : Int := if j = 0 then a else b
/-- Two pairs of budgets in a row. -/
structure Pairs (w : World) (g : Nat) (x0 x1 x2 x3 y0 y1 y2 y3 : Nat → Int) : Prop where
  a : ∀ k, k < 2 → w.cell? ⟨g, k * 8, none⟩ = some (.int .i64 (x0 k))
  b : ∀ k, k < 2 → w.cell? ⟨g, k * 8 + 1, none⟩ = some (.int .i64 (x1 k))
  c : ∀ k, k < 2 → w.cell? ⟨g, k * 8 + 2, none⟩ = some (.int .i64 (x2 k))
  d : ∀ k, k < 2 → w.cell? ⟨g, k * 8 + 3, none⟩ = some (.int .i64 (x3 k))
  e : ∀ k, k < 2 → w.cell? ⟨g, k * 8 + 4, none⟩ = some (.int .i64 (y0 k))
  f : ∀ k, k < 2 → w.cell? ⟨g, k * 8 + 5, none⟩ = some (.int .i64 (y1 k))
  h : ∀ k, k < 2 → w.cell? ⟨g, k * 8 + 6, none⟩ = some (.int .i64 (y2 k))
  i : ∀ k, k < 2 → w.cell? ⟨g, k * 8 + 7, none⟩ = some (.int .i64 (y3 k))
theorem Pairs.ext {w w' : World} {g : Nat} {x0 x1 x2 x3 y0 y1 y2 y3 : Nat → Int} (h : Pairs w g x0 x1 x2 x3 y0 y1 y2 y3) (hE : Ext w w') : Pairs w' g x0 x1 x2 x3 y0 y1 y2 y3 :=
  ⟨fun k hk => Ext.cell_ hE (h.a k hk), fun k hk => Ext.cell_ hE (h.b k hk), fun k hk => Ext.cell_ hE (h.c k hk), fun k hk => Ext.cell_ hE (h.d k hk),
   fun k hk => Ext.cell_ hE (h.e k hk), fun k hk => Ext.cell_ hE (h.f k hk), fun k hk => Ext.cell_ hE (h.h k hk), fun k hk => Ext.cell_ hE (h.i k hk)⟩
theorem pairs_of {w : World} {g : Nat} {t : TypeId} {x0 x1 x2 x3 y0 y1 y2 y3 r0 r1 r2 r3 s0 s1 s2 s3 : Int} (h : Blk w g t #[.int .i64 x0, .int .i64 x1, .int .i64 x2, .int .i64 x3, .int .i64 y0, .int .i64 y1, .int .i64 y2, .int .i64 y3,
      .int .i64 r0, .int .i64 r1, .int .i64 r2, .int .i64 r3, .int .i64 s0, .int .i64 s1, .int .i64 s2, .int .i64 s3]) :
    Pairs w g (fun k => pz k x0 r0) (fun k => pz k x1 r1) (fun k => pz k x2 r2) (fun k => pz k x3 r3) (fun k => pz k y0 s0) (fun k => pz k y1 s1) (fun k => pz k y2 s2) (fun k => pz k y3 s3) :=
  ⟨fun k hk => by rw [h.cell]; match k, hk with | 0, _ => rfl | 1, _ => rfl, fun k hk => by rw [h.cell]; match k, hk with | 0, _ => rfl | 1, _ => rfl,
   fun k hk => by rw [h.cell]; match k, hk with | 0, _ => rfl | 1, _ => rfl, fun k hk => by rw [h.cell]; match k, hk with | 0, _ => rfl | 1, _ => rfl,
   fun k hk => by rw [h.cell]; match k, hk with | 0, _ => rfl | 1, _ => rfl, fun k hk => by rw [h.cell]; match k, hk with | 0, _ => rfl | 1, _ => rfl,
   fun k hk => by rw [h.cell]; match k, hk with | 0, _ => rfl | 1, _ => rfl, fun k hk => by rw [h.cell]; match k, hk with | 0, _ => rfl | 1, _ => rfl⟩
/-- Three bitmaps in a row. -/
def p3 {α : Type} (k : Nat) (a b c : α) : α := if k = 0 then a else if k = 1 then b else c
theorem bmps_of {w : World} {g : Nat} {t : TypeId} {Wa Ha Wb Hb V : Int} {A B : Option Addr} {na nb : Nat} {fa fb : Nat → Bool}
    (h : Blk w g t #[.int .i64 Wa, .int .i64 Ha, .slice A na na, .int .i64 Wb, .int .i64 Hb, .slice B nb nb, .int .i64 V, .int .i64 Hb, .slice B nb nb]) (hA : Bools w A na fa) (hB : Bools w B nb fb) :
    Bmps w g 0 3 (fun k => p3 k Wa Wb V) (fun k => p3 k Ha Hb Hb) (fun k => p3 k A B B) (fun k => p3 k na nb nb) (fun k => p3 k na nb nb) (fun k => p3 k fa fb fb) :=
  ⟨fun k hk => by rw [h.cell]; match k, hk with | 0, _ => rfl | 1, _ => rfl | 2, _ => rfl, fun k hk => by rw [h.cell]; match k, hk with | 0, _ => rfl | 1, _ => rfl | 2, _ => rfl,
   fun k hk => by rw [h.cell]; match k, hk with | 0, _ => rfl | 1, _ => rfl | 2, _ => rfl, fun k hk => match k, hk with | 0, _ => hA | 1, _ => hB | 2, _ => hB⟩

set_option maxHeartbeats 1000000 in
set_option maxRecDepth 100000 in
theorem BoundLeast_any (A : Option Addr) (N c : Nat) (f : Nat → Int) (A' : Option Addr) (N' c' : Nat) (f' : Nat → Int) (B : Option Addr) (M d : Nat) (g : Nat → Int) (B' : Option Addr) (M' d' : Nat) (g' : Nat → Int)
    (r0 r1 r2 r3 s0 s1 s2 s3 V : Int) (w : World)
    (hN : N ≤ c) (hc : c ≤ 4611686018427387904) (hN' : N' ≤ c') (hc' : c' ≤ 4611686018427387904) (hM : M ≤ d) (hd : d ≤ 4611686018427387904) (hM' : M' ≤ d') (hd' : d' ≤ 4611686018427387904)
    (hA : Ints w A N f) (hA' : Ints w A' N' f') (hB : Ints w B M g) (hB' : Ints w B' M' g') (hS : Sides w) :
    Calls Tryd.prog 3 #[.slice A N c, .slice A' N' c', .agg #[.slice B M d, .slice B' M' d'], .agg #[.int .i64 r0, .int .i64 r1, .int .i64 r2, .int .i64 r3, .int .i64 s0, .int .i64 s1, .int .i64 s2, .int .i64 s3], .int .i64 V] w
      fun e w' => e = .returned (.bool true) ∧ Ext w w' := by
  have hE0 := Lib.hid (((Ext.refl w).alloc (.cells #[.slice B M d, .slice B' M' d'] 23)).alloc (.cells #[.int .i64 r0, .int .i64 r1, .int .i64 r2, .int .i64 r3, .int .i64 s0, .int .i64 s1, .int .i64 s2, .int .i64 s3] 26))
  have hX0 := Lib.hid ((Blk.new w 23 #[.slice B M d, .slice B' M' d']).alloc (.cells #[.int .i64 r0, .int .i64 r1, .int .i64 r2, .int .i64 r3, .int .i64 s0, .int .i64 s1, .int .i64 s2, .int .i64 s3] 26))
  have hZ0 := Lib.hid (Blk.new' (g := w.heap.size + 1) (w := w.alloc (.cells #[.slice B M d, .slice B' M' d'] 23)) (by simp) 26 #[.int .i64 r0, .int .i64 r1, .int .i64 r2, .int .i64 r3, .int .i64 s0, .int .i64 s1, .int .i64 s2, .int .i64 s3])
  go_enter Tryd.func3, Tryd.ntmps3
  go_wp2_with fail
  refine (sanity_any _ (hS.ext hE0.out)).mono ?_
  rintro e w1 ⟨rfl, hE1⟩
  have hX1 := Lib.hid (hX0.out.ext hE1)
  have hZ1 := Lib.hid (hZ0.out.ext hE1)
  replace hE1 := Lib.hid (hE0.out.trans hE1)
  clear hE0 hX0 hZ0
  go_wp2_with fail
  refine (cut_any A N c w1 hN hc).mono ?_
  rintro e w2 ⟨rfl, rfl⟩
  have hl := few_le N 60
  go_wp2_with fail
  refine (Made_any A (few N 60) c f w1 (by omega) ((hA.take hl).ext hE1.out)).mono ?_
  rintro e w2 ⟨Wa, Ha, ga, na, fa, rfl, ha1, ha2, ha3, ha4, han, hOa, hga, hE2⟩
  have hX2 := Lib.hid (hX1.out.ext hE2)
  have hZ2 := Lib.hid (hZ1.out.ext hE2)
  replace hE2 := Lib.hid (hE1.out.trans hE2)
  clear hE1 hX1 hZ1 hl hga
  go_wp2_with fail
  refine (cut_any A' N' c' w2 hN' hc').mono ?_
  rintro e w3 ⟨rfl, rfl⟩
  have hl := few_le N' 60
  go_wp2_with fail
  refine (Made_any A' (few N' 60) c' f' w2 (by omega) ((hA'.take hl).ext hE2.out)).mono ?_
  rintro e w3 ⟨Wb, Hb, gb, nb, fb, rfl, hb1, hb2, hb3, hb4, hbn, hOb, hgb, hE3⟩
  have hOa' := Lib.hid ((hOa.ext hE3).arr)
  have hOb' := Lib.hid hOb.arr
  have hX3 := Lib.hid (hX2.out.ext hE3)
  have hZ3 := Lib.hid (hZ2.out.ext hE3)
  replace hE3 := Lib.hid (hE2.out.trans hE3)
  clear hE2 hX2 hZ2 hl hgb hOa hOb ha1 ha2 ha3 ha4 han hb1 hb2 hb3 hb4 hbn
  obtain ⟨W4, hW4⟩ : ∃ W4, ((((w3.alloc (.cells #[.int .i64 Wa, .int .i64 Ha, .slice (some ⟨ga, 0, none⟩) na na] 30)).alloc (.cells #[.int .i64 Wb, .int .i64 Hb, .slice (some ⟨gb, 0, none⟩) nb nb] 30)).alloc
      (.cells #[.int .i64 Wb, .int .i64 Hb, .slice (some ⟨gb, 0, none⟩) nb nb] 30)).setCell ⟨w3.heap.size + 1 + 1, 0, none⟩ (.int .i64 V)) = W4 := ⟨_, rfl⟩
  have hR : ∀ w', Ext W4 w' → Blk w' w3.heap.size 30 #[.int .i64 Wa, .int .i64 Ha, .slice (some ⟨ga, 0, none⟩) na na] ∧ Blk w' (w3.heap.size + 1) 30 #[.int .i64 Wb, .int .i64 Hb, .slice (some ⟨gb, 0, none⟩) nb nb] ∧
      Blk w' (w3.heap.size + 1 + 1) 30 #[.int .i64 V, .int .i64 Hb, .slice (some ⟨gb, 0, none⟩) nb nb] ∧ Ext w3 w' := by
    intro w' h
    subst hW4
    refine ⟨Blk.ext (((((Blk.new _ _ _).alloc _).alloc _).far ?_ _)) h, Blk.ext (((Blk.new' (by simp) _ _).alloc _).far ?_ _) h, ?_, ((((((Ext.refl w3).alloc _).alloc _).alloc _).setCell ?_ _)).trans h⟩
    · simp; omega
    · simp
    · have := (Blk.new' (g := w3.heap.size + 1 + 1) (w := (w3.alloc (.cells #[.int .i64 Wa, .int .i64 Ha, .slice (some ⟨ga, 0, none⟩) na na] 30)).alloc (.cells #[.int .i64 Wb, .int .i64 Hb, .slice (some ⟨gb, 0, none⟩) nb nb] 30)) (by simp) 30
        #[.int .i64 Wb, .int .i64 Hb, .slice (some ⟨gb, 0, none⟩) nb nb]).set_ 0 (.int .i64 V)
      exact Blk.ext (by simpa using this) h
    · simp; omega
  replace hR := Lib.hid hR
  obtain ⟨r1', r2', r3', r4'⟩ := hR.out W4 (Ext.refl _)
  obtain ⟨xc, xf, xl⟩ := (hX3.out.ext r4').rules
  replace r4' := Lib.hid r4'
  clear r1' r2' r3'
  obtain ⟨u1c, u1f, u1l⟩ := hX3.out.rules
  go_wp2_with fail
  refine (budgets_any B M d g B' M' d' g' W4 hM hd hM' hd' (hB.ext (hE3.out.trans r4'.out)) (hB'.ext (hE3.out.trans r4'.out))).mono ?_
  rintro e w5 ⟨rfl, hE5⟩
  generalize bd0 (few M 4) g = x0 at *
  generalize bd1 (few M 4) g = x1 at *
  generalize bd2 (few M 4) g = x2 at *
  generalize bd3 (few M 4) g = x3 at *
  generalize bd0 (few M' 4) g' = y0 at *
  generalize bd1 (few M' 4) g' = y1 at *
  generalize bd2 (few M' 4) g' = y2 at *
  generalize bd3 (few M' 4) g' = y3 at *
  clear hW4 xc xf xl u1c u1f u1l
  obtain ⟨W6, hW6⟩ : ∃ W6, (w5.alloc (.cells #[.int .i64 x0, .int .i64 x1, .int .i64 x2, .int .i64 x3] 25)).alloc (.cells #[.int .i64 y0, .int .i64 y1, .int .i64 y2, .int .i64 y3] 25) = W6 := ⟨_, rfl⟩
  have hE6 : Ext w5 W6 := by rw [← hW6]; exact ((Ext.refl w5).alloc _).alloc _
  have hx6 : Blk W6 w5.heap.size 25 #[.int .i64 x0, .int .i64 x1, .int .i64 x2, .int .i64 x3] := by rw [← hW6]; exact (Blk.new _ _ _).alloc _
  have hy6 : Blk W6 (w5.heap.size + 1) 25 #[.int .i64 y0, .int .i64 y1, .int .i64 y2, .int .i64 y3] := by rw [← hW6]; exact Blk.new' (by simp) _ _
  obtain ⟨W7, hW7⟩ : ∃ W7, W6.alloc (.cells #[.int .i64 Wa, .int .i64 Ha, .slice (some ⟨ga, 0, none⟩) na na, .int .i64 Wb, .int .i64 Hb, .slice (some ⟨gb, 0, none⟩) nb nb, .int .i64 V, .int .i64 Hb, .slice (some ⟨gb, 0, none⟩) nb nb] 30) = W7 := ⟨_, rfl⟩
  have hQ : ∀ w', Ext W7 w' → Blk w' w3.heap.size 30 #[.int .i64 Wa, .int .i64 Ha, .slice (some ⟨ga, 0, none⟩) na na] ∧
      Blk w' w5.heap.size 25 #[.int .i64 x0, .int .i64 x1, .int .i64 x2, .int .i64 x3] ∧ Blk w' (w5.heap.size + 1) 25 #[.int .i64 y0, .int .i64 y1, .int .i64 y2, .int .i64 y3] ∧
      Blk w' (w.heap.size + 1) 26 #[.int .i64 r0, .int .i64 r1, .int .i64 r2, .int .i64 r3, .int .i64 s0, .int .i64 s1, .int .i64 s2, .int .i64 s3] ∧
      Bmps w' W6.heap.size 0 3 (fun k => p3 k Wa Wb V) (fun k => p3 k Ha Hb Hb) (fun k => p3 k (some ⟨ga, 0, none⟩) (some ⟨gb, 0, none⟩) (some ⟨gb, 0, none⟩)) (fun k => p3 k na nb nb) (fun k => p3 k na nb nb) (fun k => p3 k fa fb fb) ∧
      Bools w' (some ⟨ga, 0, none⟩) na fa ∧ Sides w' ∧ Ext w w' := by
    intro w' h
    subst hW7
    have h6 := ((Ext.refl W6).alloc _).trans h
    have h4 := hE5.trans (hE6.trans h6)
    obtain ⟨q1, q2, q3, q4⟩ := hR.out w' h4
    exact ⟨q1, hx6.ext h6, hy6.ext h6, hZ3.out.ext q4, bmps_of ((Blk.new _ _ _).ext h) (hOa'.out.ext q4) (hOb'.out.ext q4), hOa'.out.ext q4, hS.ext (hE3.out.trans q4), hE3.out.trans q4⟩
  obtain ⟨q1, q2, q3, q4⟩ := hR.out W6 (hE5.trans hE6)
  obtain ⟨q1c, q1f, q1l⟩ := q1.rules
  obtain ⟨q2c, q2f, q2l⟩ := q2.rules
  obtain ⟨q3c, q3f, q3l⟩ := q3.rules
  replace hQ := Lib.hid hQ
  clear q1 q2 q3 q4 hR hE5 hE6 hx6 hy6 hZ3 hX3 hOa' hOb' hE3 r4'
  go_wp2_with fail
  go_loopw [52] (fun i wr => ∃ k : Nat, k ≤ 3 ∧ i = .int .i64 k ∧ Ext W7 wr) (fun i _ => 3 - (intOf i).toNat)
  case atStart => exact ⟨0, by omega, rfl, Ext.refl _⟩
  case round =>
    clear q1c q1f q1l q2c q2f q2l q3c q3f q3l hW6 hW7
    obtain ⟨k, hk, rfl, hE⟩ := hrel
    by_cases hlt : k < 3
    · have hlt' : (k : Int) < 3 := by omega
      obtain ⟨b1, b2, b3, b4, b5, b6, b7, b8⟩ := hQ.out wr hE
      have hD := b5.dots k hlt
      have l1 := b5.w_ k hlt
      have l2 := b5.h_ k hlt
      have l3 := b5.d_ k hlt
      rw [Nat.zero_add] at l1 l2 l3
      have hg1 : W6.heap.size < wr.heap.size := World.block_lt_of_cell? wr _ l1
      generalize p3 k Wa Wb V = Wk at *
      generalize p3 k Ha Hb Hb = Hk at *
      generalize p3 k (some (⟨ga, 0, none⟩ : Addr)) (some ⟨gb, 0, none⟩) (some ⟨gb, 0, none⟩) = Ak at *
      generalize p3 k na nb nb = nk at *
      generalize p3 k fa fb fb = dk at *
      replace b7 := Lib.hid b7
      replace hD := Lib.hid hD
      replace hE := Lib.hid hE
      clear b1 b2 b3 b4 b5 b6 b8
      go_wp2_with fail
      refine (Columns_any Wk Hk Ak nk nk dk _ (hD.out.ext ((Ext.refl wr).alloc _)) (b7.out.ext ((Ext.refl wr).alloc _))).mono ?_
      rintro e v1 ⟨A1, B1, c1, d1, rfl, hC1, hD1, hF1⟩
      have hT1 := (Blk.new wr 30 #[.int .i64 Wk, .int .i64 Hk, .slice Ak nk nk]).ext hF1
      replace hF1 := Lib.hid (((Ext.refl wr).alloc _).trans hF1)
      obtain ⟨tc, tf, tl⟩ := hT1.rules
      clear l1 l2 l3 hg1
      go_wp2_with fail
      refine (ColumnsR_any Wk Hk Ak nk nk dk v1 (hD.out.ext hF1.out)).mono ?_
      rintro e v2 ⟨A2, B2, c2, d2, rfl, hC2, hD2, hF2⟩
      obtain ⟨hlb1, hlb2⟩ := colLen_bd Wk Hk nk
      generalize colLen Wk Hk nk = cl at *
      generalize rowLen Wk Hk nk = rl at *
      replace hT1 := Lib.hid (hT1.ext hF2)
      replace hC1 := Lib.hid (hC1.ext hF2)
      replace hD1 := Lib.hid (hD1.ext hF2)
      replace hF2 := Lib.hid (hF1.out.trans hF2)
      clear hF1 tc tf tl
      go_wp2_with fail
      refine (SameInts_any A1 A2 cl cl c1 c2 _ _ v2 (by omega) hC1.out hC2).mono ?_
      rintro e v3 ⟨rfl, hF3⟩
      rw [sameB_self]
      replace hD1 := Lib.hid (hD1.out.ext hF3)
      replace hD2 := Lib.hid (hD2.ext hF3)
      replace hT1 := Lib.hid (hT1.out.ext hF3)
      replace hF3 := Lib.hid (hF2.out.trans hF3)
      clear hF2 hC1 hC2
      go_wp2_with fail
      refine (SameInts_any B1 B2 rl rl d1 d2 _ _ v3 (by omega) hD1.out hD2.out).mono ?_
      rintro e v4 ⟨rfl, hF4⟩
      rw [sameB_self]
      replace hT1 := Lib.hid (hT1.out.ext hF4)
      replace hF4 := Lib.hid (hF3.out.trans hF4)
      clear hF3 hD1 hD2
      obtain ⟨b1, b2, b3, b4, b5, b6, b8, b9⟩ := hQ.out v4 (hE.out.trans hF4.out)
      obtain ⟨b2c, b2f, b2l⟩ := b2.rules
      obtain ⟨b3c, b3f, b3l⟩ := b3.rules
      obtain ⟨b4c, b4f, b4l⟩ := b4.rules
      clear b1 b2 b3 b4 b5 b6 b8 b9
      obtain ⟨W9, hW9⟩ : ∃ W9, v4.alloc (.cells #[.int .i64 x0, .int .i64 x1, .int .i64 x2, .int .i64 x3, .int .i64 y0, .int .i64 y1, .int .i64 y2, .int .i64 y3,
        .int .i64 r0, .int .i64 r1, .int .i64 r2, .int .i64 r3, .int .i64 s0, .int .i64 s1, .int .i64 s2, .int .i64 s3] 26) = W9 := ⟨_, rfl⟩
      have hP9 := pairs_of (Blk.new v4 26 #[.int .i64 x0, .int .i64 x1, .int .i64 x2, .int .i64 x3, .int .i64 y0, .int .i64 y1, .int .i64 y2, .int .i64 y3,
        .int .i64 r0, .int .i64 r1, .int .i64 r2, .int .i64 r3, .int .i64 s0, .int .i64 s1, .int .i64 s2, .int .i64 s3])
      rw [hW9] at hP9
      have hF9 : Ext v4 W9 := by rw [← hW9]; exact (Ext.refl v4).alloc _
      have hT9 := Lib.hid (hT1.out.ext hF9)
      replace hP9 := Lib.hid hP9
      replace hF9 := Lib.hid (hF4.out.trans hF9)
      clear hT1 hF4
      go_wp2_with fail
      go_loopw [82] (fun i wr => ∃ j : Nat, j ≤ 2 ∧ i = .int .i64 j ∧ Ext W9 wr) (fun i _ => 2 - (intOf i).toNat)
      case atStart => exact ⟨0, by omega, rfl, Ext.refl _⟩
      case round =>
        clear b2c b2f b2l b3c b3f b3l b4c b4f b4l hW9
        obtain ⟨j, hj, rfl, hG⟩ := hrel
        by_cases hjt : j < 2
        · have hjt' : (j : Int) < 2 := by omega
          obtain ⟨b1, b2, b3, b4, b5, b6, b8, b9⟩ := hQ.out wr (hE.out.trans (hF9.out.trans hG))
          obtain ⟨b1c, b1f, b1l⟩ := b1.rules
          obtain ⟨tc, tf, tl⟩ := (hT9.out.ext hG).rules
          have hP := hP9.out.ext hG
          have m0 := hP.a j hjt
          have m1 := hP.b j hjt
          have m2 := hP.c j hjt
          have m3 := hP.d j hjt
          have m4 := hP.e j hjt
          have m5 := hP.f j hjt
          have m6 := hP.h j hjt
          have m7 := hP.i j hjt
          have hgz : v4.heap.size < wr.heap.size := World.block_lt_of_cell? wr _ m0
          generalize pz j x0 r0 = z0 at *
          generalize pz j x1 r1 = z1 at *
          generalize pz j x2 r2 = z2 at *
          generalize pz j x3 r3 = z3 at *
          generalize pz j y0 s0 = z4 at *
          generalize pz j y1 s1 = z5 at *
          generalize pz j y2 s2 = z6 at *
          generalize pz j y3 s3 = z7 at *
          have hDq := Lib.hid (hD.out.ext (hF9.out.trans hG))
          replace b6 := Lib.hid b6
          replace b8 := Lib.hid b8
          replace hG := Lib.hid hG
          have b1' := Lib.hid b1
          clear b1 b2 b3 b4 b5 b9 hP
          go_wp2_with fail
          refine (Least_any Wa Ha _ na na fa Wk Hk Ak nk nk dk z0 z1 z2 z3 z4 z5 z6 z7 _ (b6.out.ext ((Ext.refl wr).alloc _)) (hDq.out.ext ((Ext.refl wr).alloc _)) (b8.out.ext ((Ext.refl wr).alloc _))).mono ?_
          rintro e u1 ⟨rfl, hG1⟩
          have hZ := (Blk.new wr 26 #[.int .i64 z0, .int .i64 z1, .int .i64 z2, .int .i64 z3, .int .i64 z4, .int .i64 z5, .int .i64 z6, .int .i64 z7]).ext hG1
          replace hG1 := ((Ext.refl wr).alloc (.cells #[.int .i64 z0, .int .i64 z1, .int .i64 z2, .int .i64 z3, .int .i64 z4, .int .i64 z5, .int .i64 z6, .int .i64 z7] 26)).trans hG1
          clear b1c b1f b1l tc tf tl m0 m1 m2 m3 m4 m5 m6 m7 hgz
          obtain ⟨b1c, b1f, b1l⟩ := (b1'.out.ext hG1).rules
          obtain ⟨tc, tf, tl⟩ := (hT9.out.ext (hG.out.trans hG1)).rules
          obtain ⟨zc, zf, zl⟩ := hZ.rules
          replace hG1 := Lib.hid hG1
          clear hZ
          go_wp2_with fail
          refine (LeastR_any Wa Ha _ na na fa Wk Hk Ak nk nk dk z0 z1 z2 z3 z4 z5 z6 z7 u1 (b6.out.ext hG1.out) (hDq.out.ext hG1.out)).mono ?_
          rintro e u2 ⟨rfl, hG2⟩
          generalize leastN Wa Ha na fa Wk Hk nk dk z0 z1 z2 z3 z4 z5 z6 z7 = lv
          generalize okN Wa Ha na Wk Hk nk = oo
          have e1 : (oo != oo) = false := by simp
          have e2 : (lv != lv) = false := by simp
          replace hG2 := Lib.hid (hG.out.trans (hG1.out.trans hG2))
          clear b1c b1f b1l tc tf tl zc zf zl
          go_wp2_with fail
          exact ⟨⟨j + 1, by omega, by go_num, hG2.out⟩, by simp only [intOf]; omega⟩
        · have hG' := Lib.hid (hE.out.trans (hF9.out.trans hG))
          clear hG
          go_wp2_with fail
          exact ⟨⟨k + 1, by omega, by go_num, hG'.out⟩, by simp only [intOf]; omega⟩
    · go_wp2_with fail
      go_ret
      exact ⟨rfl, (hQ.out wr hE).2.2.2.2.2.2.2⟩
end Go.Proofs.YtfgcogkhnnflcaaDoor
end
