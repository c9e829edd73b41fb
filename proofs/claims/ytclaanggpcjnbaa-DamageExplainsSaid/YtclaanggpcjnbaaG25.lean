/- Parts of the proof: Made, A23l, A23m. -/
import Derived.Test.YtclaanggpcjnbaaProg
import Derived.Test.YtclaanggpcjnbaaG12
import Derived.Test.YtclaanggpcjnbaaG24
set_option linter.unusedSimpArgs false
set_option linter.unusedVariables false
section
/- ref04.Made: a well-formed bitmap, whatever its dots. No condition but the length of the list (a slice of ints that is read has fewer than 2^62 elements). -/
namespace Go.Proofs.Ytclaanggpcjnbaa
open Go.RowKit Go.Flow
open Go.Proofs
attribute [local go_sem] block_add

/-- What Made keeps: its own four blocks. -/
structure MI (w : World) (gr gd go g : Nat) (A : Option Addr) (N c : Nat) (W H : Int) (n at_ : Nat) (wr : World) : Prop where
  res : Blk wr gr 39 #[.int .i64 0, .int .i64 0, .slice none 0 0]
  draw : Blk wr gd 73 #[.slice A N c, .int .i64 (at_ : Int)]
  out : Blk wr go 39 #[.int .i64 W, .int .i64 H, .slice (some ⟨g, 0, none⟩) n n]
  own : ∃ F : Nat → Bool, Flow.Own wr g 4 n (fun k => .bool (F k))
  ext : Ext w wr
  le : at_ ≤ N

section
variable {w wr w' : World} {gr gd go g : Nat} {A : Option Addr} {N c : Nat} {W H : Int} {n at_ : Nat}
theorem dat_le {N at_ : Nat} (h : at_ ≤ N) : dat N at_ ≤ N := by unfold dat; split <;> omega
theorem MI.next (h : MI w gr gd go g A N c W H n at_ wr) (h1 : w.heap.size ≤ gr) (h2 : gr < gd) (h3 : gd < g) (h4 : g < go) {b : Nat} (hb : b ≤ N)
    (hB : Blk w' gd 73 #[.slice A N c, .int .i64 (b : Int)]) (hO : Only wr w' gd) : MI w gr gd go g A N c W H n b w' :=
  ⟨hO.blk h.res (by omega), hB, hO.blk h.out (by omega), let ⟨F, hF⟩ := h.own; ⟨F, hO.own hF (by omega)⟩, hO.ext h.ext (by omega), hb⟩
theorem MI.set_ (h : MI w gr gd go g A N c W H n at_ wr) (h1 : w.heap.size ≤ gr) (h2 : gr < gd) (h3 : gd < g) (h4 : g < go) (i : Nat) (b : Bool) : MI w gr gd go g A N c W H n at_ (wr.setCell ⟨g, i, none⟩ (.bool b)) := by
  obtain ⟨F, hF⟩ := h.own
  refine ⟨h.res.far ?_ _, h.draw.far ?_ _, h.out.far ?_ _, ⟨fun k => if k = i then b else F k, (hF.set_ i (.bool b)).congr fun k _ => ?_⟩, h.ext.setCell ?_ _, h.le⟩ <;> try (simp; omega)
  by_cases e : k = i <;> simp [upd, e]
end

/-- What Made returns. -/
def MadePost (w : World) (e : Ending) (w' : World) : Prop :=
  ∃ (W H : Int) (g n : Nat) (f : Nat → Bool), e = .returned (bmp W H (some ⟨g, 0, none⟩) n n) ∧ 0 ≤ W ∧ W ≤ 16 ∧ 0 ≤ H ∧ H ≤ 12 ∧ (n : Int) = W * H ∧
    Flow.Own w' g 4 n (fun k => .bool (f k)) ∧ w.heap.size ≤ g ∧ Ext w w'

theorem dval_bd (N : Nat) (f : Nat → Int) (at_ : Nat) (m : Int) (hm : 0 < m) : 0 ≤ dval N f at_ m ∧ dval N f at_ m < m := by
  unfold dval
  split
  · exact ⟨Int.emod_nonneg _ (by omega), Int.emod_lt_of_pos _ hm⟩
  · omega

set_option maxHeartbeats 1000000 in
set_option maxRecDepth 100000 in
theorem Made_any (A : Option Addr) (N c : Nat) (f : Nat → Int) (w : World) (hN : N ≤ 4611686018427387904) (hf : Ints w A N f) :
    Calls Try.prog 16 #[.slice A N c] w (MadePost w) := by
  have hw17 := dval_bd N f 0 17 (by omega)
  have hw13 := dval_bd N f (dat N 0) 13 (by omega)
  go_enter Try.func16, Try.ntmps16
  go_wp2_with fail
  refine (Next_any w (w.heap.size + 1) A N c f 0 17 (by omega) (by omega) _ hN (by omega) (((Ext.refl w).alloc _).alloc _) hf (by omega) (Blk.new' (by simp) _ _)).mono ?_
  rintro e w1 ⟨rfl, hB1, hO1⟩
  have hE1 := hO1.ext (((Ext.refl w).alloc _).alloc _) (by omega)
  have hR1 := hO1.blk ((Blk.new w 39 #[.int .i64 0, .int .i64 0, .slice none 0 0]).alloc _) (by omega)
  generalize dval N f 0 17 = W at *
  go_wp2_with fail
  refine (Next_any w (w.heap.size + 1) A N c f (dat N 0) 13 (by omega) (by omega) _ hN (dat_le (by omega)) hE1 hf (by omega) hB1).mono ?_
  rintro e w2 ⟨rfl, hB2, hO2⟩
  have hE2 := hO2.ext hE1 (by omega)
  have hR2 := hO2.blk hR1 (by omega)
  generalize dval N f (dat N 0) 13 = H at *
  go_wp2_with fail
  refine (New_ok W H _ (by simp [sideB]; omega)).mono ?_
  rintro e w3 ⟨g, n, rfl, hn, hO3, hg3, hE3⟩
  have hE03 := hE2.trans hE3
  have hB3 := hB2.ext hE3
  have hR3 := hR2.ext hE3
  have hl3 := hB2.lt
  have hl4 := hO3.lt
  have hb := dat_le (N := N) (dat_le (N := N) (at_ := 0) (by omega))
  generalize dat N (dat N 0) = b at *
  clear hO1 hB1 hE1 hR1 hO2 hB2 hE2 hR2 hE3
  replace hn := Lib.hid hn
  go_wp2
  go_loopw [6] (fun i wr => ∃ (k : Nat) (b : Nat), k ≤ 12 ∧ i = .int .i64 k ∧ MI w w.heap.size (w.heap.size + 1) w3.heap.size g A N c W H n b wr) (fun i _ => 12 - (intOf i).toNat)
  case atStart =>
    exact ⟨0, b, by omega, rfl, hR3.alloc _, hB3.alloc _, Blk.new _ _ _, ⟨fun _ => false, Flow.Own.ext hO3 ((Ext.refl _).alloc _)⟩, hE03.alloc _, hb⟩
  case round =>
    obtain ⟨k, b, hk, rfl, hI⟩ := hrel
    have hlg : w3.heap.size < wr.heap.size := hI.out.lt
    have hlr : w.heap.size < wr.heap.size := hI.res.lt
    obtain ⟨hrc, hrf, hrl⟩ := hI.res.rules
    obtain ⟨hdc, hdf, hdl⟩ := hI.draw.rules
    obtain ⟨hoc, hof, hol⟩ := hI.out.rules
    by_cases hc : k < 12 ∧ b < N ∧ 0 < n
    · obtain ⟨hc1, hc2, hc3⟩ := hc
      have hbN : (b : Int) < N := by omega
      have hn0 : (0 : Int) < n := by omega
      have hWH : 0 < W ∧ 0 < H := by
        have h := hn.out
        rcases Int.lt_or_le 0 W with h1 | h1
        · rcases Int.lt_or_le 0 H with h2 | h2
          · exact ⟨h1, h2⟩
          · rw [show H = 0 by omega, Int.mul_zero] at h; omega
        · rw [show W = 0 by omega, Int.zero_mul] at h; omega
      obtain ⟨hW0, hH0⟩ := hWH
      go_wp2_with fail
      refine (Next_any w (w.heap.size + 1) A N c f b W hW0 (by omega) _ hN hI.le hI.ext hf (by omega) hI.draw).mono ?_
      rintro e v1 ⟨rfl, hB1, hO1⟩
      have hI1 := hI.next (by omega) (by omega) (by omega) (by omega) (dat_le hI.le) hB1 hO1
      clear hrc hrf hrl hdc hdf hdl hoc hof hol hB1 hO1 hI
      have hx := dval_bd N f b W hW0
      generalize dval N f b W = x at *
      generalize dat N b = b1 at *
      obtain ⟨hoc, hof, hol⟩ := hI1.out.rules
      go_wp2_with fail
      refine (Next_any w (w.heap.size + 1) A N c f b1 H hH0 (by omega) _ hN hI1.le hI1.ext hf (by omega) hI1.draw).mono ?_
      rintro e v2 ⟨rfl, hB1, hO1⟩
      have hI2 := hI1.next (by omega) (by omega) (by omega) (by omega) (dat_le hI1.le) hB1 hO1
      clear hoc hof hol hB1 hO1 hI1
      have hy := dval_bd N f b1 H hH0
      generalize dval N f b1 H = y at *
      generalize dat N b1 = b2 at *
      go_wp2_with fail
      refine (Next_any w (w.heap.size + 1) A N c f b2 16 (by omega) (by omega) _ hN hI2.le hI2.ext hf (by omega) hI2.draw).mono ?_
      rintro e v3 ⟨rfl, hB1, hO1⟩
      have hI3 := hI2.next (by omega) (by omega) (by omega) (by omega) (dat_le hI2.le) hB1 hO1
      clear hB1 hO1 hI2
      have hz := dval_bd N f b2 16 (by omega)
      generalize dval N f b2 16 = z at *
      generalize dat N b2 = b3 at *
      go_wp2_with fail
      refine (Next_any w (w.heap.size + 1) A N c f b3 4 (by omega) (by omega) _ hN hI3.le hI3.ext hf (by omega) hI3.draw).mono ?_
      rintro e v4 ⟨rfl, hB1, hO1⟩
      have hI4 := hI3.next (by omega) (by omega) (by omega) (by omega) (dat_le hI3.le) hB1 hO1
      clear hB1 hO1 hI3
      generalize dval N f b3 4 = t at *
      generalize dat N b3 = b4 at *
      go_wp2_with fail
      generalize decide (0 < t) = on at *
      go_loopw [11] (fun i wr => ∃ p : Int, x ≤ p ∧ p ≤ 100 ∧ i = .int .i64 p ∧ MI w w.heap.size (w.heap.size + 1) w3.heap.size g A N c W H n b4 wr) (fun i _ => (W - intOf i).toNat)
      case atStart => exact ⟨x, by omega, by omega, rfl, hI4⟩
      case round =>
        clear hI4
        obtain ⟨p, hp1, hp2, rfl, hI⟩ := hrel
        obtain ⟨hoc, hof, hol⟩ := hI.out.rules
        by_cases hc : p < W ∧ p ≤ x + z % 4
        · obtain ⟨hc1, hc2⟩ := hc
          go_wp2_with fail
          clear hoc hof hol
          go_loopw [12] (fun j wr => ∃ q : Int, y ≤ q ∧ q ≤ 100 ∧ j = .int .i64 q ∧ MI w w.heap.size (w.heap.size + 1) w3.heap.size g A N c W H n b4 wr) (fun j _ => (H - intOf j).toNat)
          case atStart => exact ⟨y, by omega, by omega, rfl, hI⟩
          case round =>
            clear hI
            obtain ⟨q, hq1, hq2, rfl, hI⟩ := hrel
            obtain ⟨hoc, hof, hol⟩ := hI.out.rules
            by_cases hd : q < H ∧ q ≤ y + z / 4
            · obtain ⟨hd1, hd2⟩ := hd
              have hq0 : 0 ≤ q * W := Int.mul_nonneg (by omega) (by omega)
              have hqW : q * W ≤ 12 * W := Int.mul_le_mul_of_nonneg_right (by omega) (by omega)
              have hqn : q * W + W ≤ n := by
                have h1 : (q + 1) * W ≤ H * W := Int.mul_le_mul_of_nonneg_right (by omega) (by omega)
                have h2 := hn.out
                rw [Int.add_mul, Int.mul_comm H W] at h1
                omega
              obtain ⟨m, hm⟩ : ∃ m : Nat, q * W + p = m := ⟨(q * W + p).toNat, by omega⟩
              have hmn : m < n := by omega
              obtain ⟨F, hF⟩ := hI.own
              have hgc := hF.cell hmn
              have hgf := hF.frozen m
              go_wp2_with fail
              exact ⟨⟨q + 1, by omega, by omega, rfl, hI.set_ (by omega) (by omega) (by omega) (by omega) m on⟩, by simp only [intOf]; omega⟩
            · have hex : H ≤ q ∨ (q < H ∧ y + z / 4 < q) := by omega
              clear hd
              rcases hex with hd1 | ⟨hd1, hd2⟩
              · go_wp2_with fail
                exact ⟨⟨p + 1, by omega, by omega, rfl, hI⟩, by simp only [intOf]; omega⟩
              · go_wp2_with fail
                exact ⟨⟨p + 1, by omega, by omega, rfl, hI⟩, by simp only [intOf]; omega⟩
        · have hex : W ≤ p ∨ (p < W ∧ x + z % 4 < p) := by omega
          clear hc
          rcases hex with hc1' | ⟨hc1', hc2'⟩
          · go_wp2_with fail
            exact ⟨⟨k + 1, b4, by omega, by go_num, hI⟩, by simp only [intOf]; omega⟩
          · go_wp2_with fail
            exact ⟨⟨k + 1, b4, by omega, by go_num, hI⟩, by simp only [intOf]; omega⟩
    · have hex : (12 ≤ k) ∨ (k < 12 ∧ (N : Int) ≤ b) ∨ (k < 12 ∧ (b : Int) < N ∧ n = 0) := by omega
      clear hc
      obtain ⟨F, hF⟩ := hI.own
      have hfin : MadePost w (.returned (bmp W H (some ⟨g, 0, none⟩) n n)) (((wr.setCell ⟨w.heap.size, 0, none⟩ (.int .i64 W)).setCell ⟨w.heap.size, 1, none⟩ (.int .i64 H)).setCell ⟨w.heap.size, 2, none⟩ (.slice (some ⟨g, 0, none⟩) n n)) :=
        ⟨W, H, g, n, F, rfl, by omega, by omega, by omega, by omega, hn.out, ((hF.far (by simp; omega) _).far (by simp; omega) _).far (by simp; omega) _, by omega,
          ((hI.ext.setCell (by simp) _).setCell (by simp) _).setCell (by simp) _⟩
      replace hfin := Lib.hid hfin
      rcases hex with hc1 | ⟨hc1, hc2⟩ | ⟨hc1, hc2, hc3⟩
      · go_wp2_with fail
        exact bodyPost_ret (v := bmp W H (some ⟨g, 0, none⟩) n n) (by simp [results, Try.results16, go_sem, *]) rfl hfin.out
      · go_wp2_with fail
        exact bodyPost_ret (v := bmp W H (some ⟨g, 0, none⟩) n n) (by simp [results, Try.results16, go_sem, *]) rfl hfin.out
      · subst hc3
        go_wp2_with fail
        exact bodyPost_ret (v := bmp W H (some ⟨g, 0, none⟩) 0 0) (by simp [results, Try.results16, go_sem, *]) rfl hfin.out
end Go.Proofs.Ytclaanggpcjnbaa
end

section
/- Chapter 23 over plain values: Budget of numbers; the law's cut. -/
namespace Go.Proofs.Ytclaanggpcjnbaa
open Go.RowKit Go.Flow Go.AV Go.Plain
def bgN (N : Nat) (f : Nat → Int) : Bg := ⟨dval N f 0 5, dval N f (dat N 0) 4, dval N f (dat N (dat N 0)) 2, dval N f (dat N (dat N (dat N 0))) 4⟩
theorem bgN_bd (N : Nat) (f : Nat → Int) : (0 ≤ (bgN N f).lo ∧ (bgN N f).lo < 5) ∧ (0 ≤ (bgN N f).bl ∧ (bgN N f).bl < 4) ∧ (0 ≤ (bgN N f).sh ∧ (bgN N f).sh < 2) ∧ 0 ≤ (bgN N f).st ∧ (bgN N f).st < 4 :=
  ⟨dval_bd _ _ _ _ (by omega), dval_bd _ _ _ _ (by omega), dval_bd _ _ _ _ (by omega), dval_bd _ _ _ _ (by omega)⟩
set_option maxRecDepth 100000 in
theorem Budget_A (N : Nat) (f : Nat → Int) (hN : N ≤ 4611686018427387904) : ACalls Try.prog 17 [.c (.ls N 1 (iF f))] (.ag (bgC (bgN N f))) := by
  have h1 := dat_le (N := N) (Nat.zero_le N)
  have h2 := dat_le (N := N) h1
  have h3 := dat_le (N := N) h2
  have n1 := Next_A N f 0 5 (Nat.zero_le N) hN (by omega) (by omega)
  have n2 := Next_A N f (dat N 0) 4 h1 hN (by omega) (by omega)
  have n3 := Next_A N f (dat N (dat N 0)) 2 h2 hN (by omega) (by omega)
  have n4 := Next_A N f (dat N (dat N (dat N 0))) 4 h3 hN (by omega) (by omega)
  refine acalls_at Try.func17 rfl rfl Try.ntmps17 rfl ?_
  repeat (first
    | refine AWp.seq ?_
    | refine thenA_n ?_
    | refine AWp.ret ?_
    | (refine AWp.region (id := 0) ?_
       refine AList.alloc tyOk rfl rfl rfl rfl rfl ?_
       refine AList.nil ?_)
    | (refine AWp.region (id := 1) ?_
       refine AList.move rfl rfl rfl ?_
       refine AList.buildSt tyOk rfl rfl rfl rfl rfl rfl rfl rfl ?_
       refine AList.box rfl rfl rfl rfl rfl ?_
       refine AList.assign rfl rfl rfl ?_
       refine AList.nil ?_)
    | (refine AWp.region (id := 2) ?_
       refine AList.move rfl rfl rfl ?_
       refine AList.callH [6] [drawB N f 0] [drawB N f (dat N 0)] rfl rfl rfl Try.func29 rfl (by kernel_rfl) (LendOk.box rfl rfl rfl trivial) rfl (LendImm.box rfl trivial) (n1) ?_
       refine AList.move rfl rfl rfl ?_
       refine AList.callH [6] [drawB N f (dat N 0)] [drawB N f (dat N (dat N 0))] rfl rfl rfl Try.func29 rfl (by kernel_rfl) (LendOk.box rfl rfl rfl trivial) rfl (LendImm.box rfl trivial) (n2) ?_
       refine AList.move rfl rfl rfl ?_
       refine AList.callH [6] [drawB N f (dat N (dat N 0))] [drawB N f (dat N (dat N (dat N 0)))] rfl rfl rfl Try.func29 rfl (by kernel_rfl) (LendOk.box rfl rfl rfl trivial) rfl (LendImm.box rfl trivial) (n3) ?_
       refine AList.move rfl rfl rfl ?_
       refine AList.callH [6] [drawB N f (dat N (dat N (dat N 0)))] [drawB N f (dat N (dat N (dat N (dat N 0))))] rfl rfl rfl Try.func29 rfl (by kernel_rfl) (LendOk.box rfl rfl rfl trivial) rfl (LendImm.box rfl trivial) (n4) ?_
       refine AList.buildSt tyOk rfl rfl rfl rfl rfl rfl rfl rfl ?_
       refine AList.store tyOk rfl rfl rfl rfl rfl rfl rfl rfl oM oM ?_
       refine AList.nil ?_))
  refine ⟨mkSt 16 [(2, .c (.pt 2 4 0 0))] [(2, ⟨false, 1, 4, 24, lF (bgC (bgN N f))⟩)] [2], [(2, ⟨false, 1, 4, 24, lF (bgC (bgN N f))⟩)], Wk.mk [(2, some 2)] rfl rfl rfl ?_ ?_, rfl, rfl, ARets.one (x := .ag _) (ARes.box tyOk rfl rfl rfl rfl rfl rfl rfl)⟩
  · repeat (first | exact trivial | refine ⟨⟨_, rfl, by first | exact LeA.c (LeC.refl _ rfl) | exact LeA.c (LeC.ow _ _ rfl) | exact LeA.c (LeC.pt _ _ _ _ _ rfl) | exact LeA.c (LeC.nil _ rfl) | exact LeA.c (LeC.nils _ _) | (refine LeA.int ?_; omega) | (refine LeA.int ?_; dsimp only; omega) | exact LeA.c (LeC.fz rfl rfl (by first | rfl | omega) (fun i _ j _ => ⟨rfl, by first | rfl | exact rowN_imm (fun _ => rfl) _ i j | exact rowF_imm (fun _ => rfl) _ i j⟩))⟩, ?_⟩)
  · repeat (first | exact trivial | refine ⟨by first | exact HeapOk.same rfl rfl rfl rfl | exact HeapOk.lent rfl rfl rfl rfl | exact HeapOk.nil rfl rfl | exact HeapOk.row rfl rfl (by first | rfl | omega) (fun i _ j _ => ⟨rfl, by first | rfl | exact rowN_imm (fun _ => rfl) _ i j | exact rowF_imm (fun _ => rfl) _ i j⟩) | exact HeapOk.box rfl rfl (by repeat (first | exact trivial | refine ⟨by first | exact LeC.refl _ rfl | exact LeC.ow _ _ rfl | exact LeC.nil _ rfl | exact LeC.nils _ _ | exact LeC.fz rfl rfl (by first | rfl | omega) (fun i _ j _ => ⟨rfl, by first | rfl | exact rowN_imm (fun _ => rfl) _ i j | exact rowF_imm (fun _ => rfl) _ i j⟩) | exact LeC.int (by omega), ?_⟩)) rfl, ?_⟩)
set_option maxRecDepth 100000 in
theorem cutL_A (N : Nat) (f : Nat → Int) (m : Nat) (hN : N ≤ 4611686018427387904) (hm : m ≤ 1000) : ACalls Try.prog 11 [.c (.ls N 1 (iF f)), .c (iC m)] (.c (.ls (min N m) 1 (iF f))) := by
  have e2 : min (N : Int) (m : Int) = ((min N m : Nat) : Int) := by omega
  have e3 : min N m ≤ N := by omega
  generalize min N m = k at e2 e3
  refine acalls_at Try.func11 rfl rfl Try.ntmps11 rfl ?_
  repeat (first
    | refine AWp.seq ?_
    | refine thenA_n ?_
    | refine AWp.ret ?_
    | (refine AWp.region (id := 0) ?_
       refine AList.assign rfl rfl rfl ?_
       refine AList.nil ?_)
    | (refine AWp.region (id := 1) ?_
       refine AList.move rfl rfl rfl ?_
       refine AList.move rfl rfl rfl ?_
       refine AList.lenLs tyOk rfl rfl rfl rfl rfl ?_
       refine AList.move rfl rfl rfl ?_
       refine AList.minI rfl rfl rfl rfl ?_
       refine AList.cut (l := 0) (h := k) tyOk rfl rfl rfl rfl rfl rfl rfl rfl ⟨_, _, rfl, by first | rfl | omega⟩ (by omega) (by omega) ?_
       refine AList.assign rfl rfl rfl ?_
       refine AList.nil ?_))
  refine ⟨mkSt 11 [(4, .c (.ls k 1 (iF f)))] [] [], [], Wk.mk [] rfl rfl rfl ?_ trivial, rfl, rfl, ARets.one (x := .c _) (ARes.tmp rfl rfl)⟩
  exact ⟨⟨_, rfl, LeA.c (LeC.lz (by omega) (fun _ _ _ _ => by simp only [Nat.zero_add]))⟩, trivial⟩
end Go.Proofs.Ytclaanggpcjnbaa
end

section
/- Chapter 23 over plain values: Material of numbers. -/
namespace Go.Proofs.Ytclaanggpcjnbaa
open Go.RowKit Go.Flow Go.AV Go.Plain
def dt (N : Nat) : Nat → Nat
  | 0 => 0
  | k + 1 => dat N (dt N k)
theorem dt_le (N : Nat) : ∀ k, dt N k ≤ N
  | 0 => Nat.zero_le _
  | k + 1 => dat_le (dt_le N k)
abbrev nx (N : Nat) (f : Nat → Int) (k : Nat) (m : Int) : Int := dval N f (dt N k) m
theorem Next_k (N : Nat) (f : Nat → Int) (k : Nat) (m : Int) (hN : N ≤ 4611686018427387904) (hm : 0 < m) (hM : m ≤ 1000000) : HCalls Try.prog 29 [.c (.pt 1000 2 0 0), .c (iC m)] [(1000, drawB N f (dt N k))] (.c (iC (nx N f k m))) [(1000, drawB N f (dt N (k + 1)))] := Next_A N f (dt N k) m (dt_le N k) hN hm hM
def matN (N : Nat) (f : Nat → Int) : Mat := ⟨nx N f 0 60, 1 + nx N f 1 30, ⟨nx N f 2 3, nx N f 3 2, 0, nx N f 4 2⟩, ⟨nx N f 5 2, nx N f 6 2, if nx N f 7 4 = 3 then 1 else 0, nx N f 8 2⟩⟩
set_option maxHeartbeats 1000000 in
set_option maxRecDepth 100000 in
theorem Material_A (N : Nat) (f : Nat → Int) (hN : N ≤ 4611686018427387904) : ACalls Try.prog 10 [.c (.ls N 1 (iF f))] (.ag (matC (matN N f))) := by
  have n0 := Next_k N f 0 60 hN (by omega) (by omega)
  have n1 := Next_k N f 1 30 hN (by omega) (by omega)
  have n2 := Next_k N f 2 3 hN (by omega) (by omega)
  have n3 := Next_k N f 3 2 hN (by omega) (by omega)
  have n4 := Next_k N f 4 2 hN (by omega) (by omega)
  have n5 := Next_k N f 5 2 hN (by omega) (by omega)
  have n6 := Next_k N f 6 2 hN (by omega) (by omega)
  have n7 := Next_k N f 7 4 hN (by omega) (by omega)
  have n8 := Next_k N f 8 2 hN (by omega) (by omega)
  have b0 : 0 ≤ nx N f 0 60 ∧ nx N f 0 60 < 60 := dval_bd N f (dt N 0) 60 (by omega)
  have b1 : 0 ≤ nx N f 1 30 ∧ nx N f 1 30 < 30 := dval_bd N f (dt N 1) 30 (by omega)
  have b2 : 0 ≤ nx N f 2 3 ∧ nx N f 2 3 < 3 := dval_bd N f (dt N 2) 3 (by omega)
  have b3 : 0 ≤ nx N f 3 2 ∧ nx N f 3 2 < 2 := dval_bd N f (dt N 3) 2 (by omega)
  have b4 : 0 ≤ nx N f 4 2 ∧ nx N f 4 2 < 2 := dval_bd N f (dt N 4) 2 (by omega)
  have b5 : 0 ≤ nx N f 5 2 ∧ nx N f 5 2 < 2 := dval_bd N f (dt N 5) 2 (by omega)
  have b6 : 0 ≤ nx N f 6 2 ∧ nx N f 6 2 < 2 := dval_bd N f (dt N 6) 2 (by omega)
  have b7 : 0 ≤ nx N f 7 4 ∧ nx N f 7 4 < 4 := dval_bd N f (dt N 7) 4 (by omega)
  have b8 : 0 ≤ nx N f 8 2 ∧ nx N f 8 2 < 2 := dval_bd N f (dt N 8) 2 (by omega)
  have hv : nx N f 7 4 = 0 ∨ nx N f 7 4 = 1 ∨ nx N f 7 4 = 2 ∨ nx N f 7 4 = 3 := by omega
  rcases hv with hv | hv | hv | hv
  · have hs : (matN N f).s.sh = 0 := by show (if nx N f 7 4 = 3 then (1 : Int) else 0) = 0; rw [hv]; rfl
    have hM : matC (matN N f) = [iC (nx N f 0 60), iC (1 + nx N f 1 30), iC (nx N f 2 3), iC (nx N f 3 2), iC 0, iC (nx N f 4 2), iC (nx N f 5 2), iC (nx N f 6 2), iC 0, iC (nx N f 8 2)] := by rw [matC, hs]; rfl
    rw [hv] at n7
    rw [hM]
    refine acalls_at Try.func10 rfl rfl Try.ntmps10 rfl ?_
    repeat (first
      | refine AWp.seq ?_
      | refine thenA_n ?_
      | refine AWp.ret ?_
      | (refine AWp.region (id := 0) ?_
         refine AList.alloc tyOk rfl rfl rfl rfl rfl ?_
         refine AList.nil ?_)
      | (refine AWp.region (id := 1) ?_
         refine AList.move rfl rfl rfl ?_
         refine AList.buildSt tyOk rfl rfl rfl rfl rfl rfl rfl rfl ?_
         refine AList.box rfl rfl rfl rfl rfl ?_
         refine AList.assign rfl rfl rfl ?_
         refine AList.nil ?_)
      | (refine AWp.region (id := 2) ?_
         refine AList.move rfl rfl rfl ?_
         refine AList.callH [7] [drawB N f (dt N 0)] [drawB N f (dt N 1)] rfl rfl rfl Try.func29 rfl (by kernel_rfl) (LendOk.box rfl rfl rfl trivial) rfl (LendImm.box rfl trivial) (n0) ?_
         refine AList.move rfl rfl rfl ?_
         refine AList.callH [7] [drawB N f (dt N 1)] [drawB N f (dt N 2)] rfl rfl rfl Try.func29 rfl (by kernel_rfl) (LendOk.box rfl rfl rfl trivial) rfl (LendImm.box rfl trivial) (n1) ?_
         refine AList.add rfl rfl rfl rfl (by omega) (by omega) ?_
         refine AList.buildSt tyOk rfl rfl rfl rfl rfl rfl rfl rfl ?_
         refine AList.alloc tyOk rfl rfl rfl rfl rfl ?_
         refine AList.store tyOk rfl rfl rfl rfl rfl rfl rfl rfl oM oM ?_
         refine AList.nil ?_)
      | (refine AWp.region (id := 3) ?_
         refine AList.move rfl rfl rfl ?_
         refine AList.callH [7] [drawB N f (dt N 2)] [drawB N f (dt N 3)] rfl rfl rfl Try.func29 rfl (by kernel_rfl) (LendOk.box rfl rfl rfl trivial) rfl (LendImm.box rfl trivial) (n2) ?_
         refine AList.move rfl rfl rfl ?_
         refine AList.callH [7] [drawB N f (dt N 3)] [drawB N f (dt N 4)] rfl rfl rfl Try.func29 rfl (by kernel_rfl) (LendOk.box rfl rfl rfl trivial) rfl (LendImm.box rfl trivial) (n3) ?_
         refine AList.move rfl rfl rfl ?_
         refine AList.callH [7] [drawB N f (dt N 4)] [drawB N f (dt N 5)] rfl rfl rfl Try.func29 rfl (by kernel_rfl) (LendOk.box rfl rfl rfl trivial) rfl (LendImm.box rfl trivial) (n4) ?_
         refine AList.buildSt tyOk rfl rfl rfl rfl rfl rfl rfl rfl ?_
         refine AList.fieldPt tyOk rfl rfl rfl rfl rfl rfl rfl ?_
         refine AList.store tyOk rfl rfl rfl rfl rfl rfl rfl rfl oM oM ?_
         refine AList.nil ?_)
      | (refine AWp.draw (id := 4) mixed ?_
         refine AList.move rfl rfl rfl ?_
         refine AList.callH [7] [drawB N f (dt N 5)] [drawB N f (dt N 6)] rfl rfl rfl Try.func29 rfl (by kernel_rfl) (LendOk.box rfl rfl rfl trivial) rfl (LendImm.box rfl trivial) (n5) ?_
         refine AList.move rfl rfl rfl ?_
         refine AList.callH [7] [drawB N f (dt N 6)] [drawB N f (dt N 7)] rfl rfl rfl Try.func29 rfl (by kernel_rfl) (LendOk.box rfl rfl rfl trivial) rfl (LendImm.box rfl trivial) (n6) ?_
         refine AList.litSl tyOk rfl rfl rfl rfl rfl rfl rfl rfl rfl rfl rfl ?_
         refine AList.move rfl rfl rfl ?_
         refine AList.callH [7] [drawB N f (dt N 7)] [drawB N f (dt N 8)] rfl rfl rfl Try.func29 rfl (by kernel_rfl) (LendOk.box rfl rfl rfl trivial) rfl (LendImm.box rfl trivial) (n7) ?_
         refine AList.idx (k := 0) tyOk rfl rfl rfl rfl rfl rfl rfl rfl (by first | rfl | omega) oM oM ?_
         refine AList.load1l tyOk rfl rfl rfl rfl rfl oM ?_
         refine AList.move rfl rfl rfl ?_
         refine AList.callH [7] [drawB N f (dt N 8)] [drawB N f (dt N 9)] rfl rfl rfl Try.func29 rfl (by kernel_rfl) (LendOk.box rfl rfl rfl trivial) rfl (LendImm.box rfl trivial) (n8) ?_
         refine AList.buildSt tyOk rfl rfl rfl rfl rfl rfl rfl rfl ?_
         refine AList.fieldPt tyOk rfl rfl rfl rfl rfl rfl rfl ?_
         refine AList.store tyOk rfl rfl rfl rfl rfl rfl rfl rfl oM oM ?_
         refine AList.nil ⟨by kernel_rfl, ?_⟩)
      | (refine AWp.region (id := 5) ?_
         refine AList.loadA tyOk rfl rfl rfl rfl rfl rfl rfl oM oM ?_
         refine AList.store tyOk rfl rfl rfl rfl rfl rfl rfl rfl oM oM ?_
         refine AList.nil ?_))
    refine ⟨mkSt 36 [(2, .c (.pt 2 10 0 0))] [(2, ⟨false, 1, 10, 26, lF [iC (nx N f 0 60), iC (1 + nx N f 1 30), iC (nx N f 2 3), iC (nx N f 3 2), iC 0, iC (nx N f 4 2), iC (nx N f 5 2), iC (nx N f 6 2), iC 0, iC (nx N f 8 2)]⟩)] [2], [(2, ⟨false, 1, 10, 26, lF [iC (nx N f 0 60), iC (1 + nx N f 1 30), iC (nx N f 2 3), iC (nx N f 3 2), iC 0, iC (nx N f 4 2), iC (nx N f 5 2), iC (nx N f 6 2), iC 0, iC (nx N f 8 2)]⟩)], Wk.mk [(2, some 2)] rfl rfl rfl ?_ ?_, rfl, rfl, ARets.one (x := .ag _) (ARes.box tyOk rfl rfl rfl rfl rfl rfl rfl)⟩
    · repeat (first | exact trivial | refine ⟨⟨_, rfl, by first | exact LeA.c (LeC.refl _ rfl) | exact LeA.c (LeC.ow _ _ rfl) | exact LeA.c (LeC.pt _ _ _ _ _ rfl) | exact LeA.c (LeC.nil _ rfl) | exact LeA.c (LeC.nils _ _) | (refine LeA.int ?_; omega) | (refine LeA.int ?_; dsimp only; omega) | exact LeA.c (LeC.fz rfl rfl (by first | rfl | omega) (fun i _ j _ => ⟨rfl, by first | rfl | exact rowN_imm (fun _ => rfl) _ i j | exact rowF_imm (fun _ => rfl) _ i j⟩))⟩, ?_⟩)
    · repeat (first | exact trivial | refine ⟨by first | exact HeapOk.same rfl rfl rfl rfl | exact HeapOk.lent rfl rfl rfl rfl | exact HeapOk.nil rfl rfl | exact HeapOk.row rfl rfl (by first | rfl | omega) (fun i _ j _ => ⟨rfl, by first | rfl | exact rowN_imm (fun _ => rfl) _ i j | exact rowF_imm (fun _ => rfl) _ i j⟩) | exact HeapOk.box rfl rfl (by repeat (first | exact trivial | refine ⟨by first | exact LeC.refl _ rfl | exact LeC.ow _ _ rfl | exact LeC.nil _ rfl | exact LeC.nils _ _ | exact LeC.fz rfl rfl (by first | rfl | omega) (fun i _ j _ => ⟨rfl, by first | rfl | exact rowN_imm (fun _ => rfl) _ i j | exact rowF_imm (fun _ => rfl) _ i j⟩) | exact LeC.int (by omega), ?_⟩)) rfl, ?_⟩)
  · have hs : (matN N f).s.sh = 0 := by show (if nx N f 7 4 = 3 then (1 : Int) else 0) = 0; rw [hv]; rfl
    have hM : matC (matN N f) = [iC (nx N f 0 60), iC (1 + nx N f 1 30), iC (nx N f 2 3), iC (nx N f 3 2), iC 0, iC (nx N f 4 2), iC (nx N f 5 2), iC (nx N f 6 2), iC 0, iC (nx N f 8 2)] := by rw [matC, hs]; rfl
    rw [hv] at n7
    rw [hM]
    refine acalls_at Try.func10 rfl rfl Try.ntmps10 rfl ?_
    repeat (first
      | refine AWp.seq ?_
      | refine thenA_n ?_
      | refine AWp.ret ?_
      | (refine AWp.region (id := 0) ?_
         refine AList.alloc tyOk rfl rfl rfl rfl rfl ?_
         refine AList.nil ?_)
      | (refine AWp.region (id := 1) ?_
         refine AList.move rfl rfl rfl ?_
         refine AList.buildSt tyOk rfl rfl rfl rfl rfl rfl rfl rfl ?_
         refine AList.box rfl rfl rfl rfl rfl ?_
         refine AList.assign rfl rfl rfl ?_
         refine AList.nil ?_)
      | (refine AWp.region (id := 2) ?_
         refine AList.move rfl rfl rfl ?_
         refine AList.callH [7] [drawB N f (dt N 0)] [drawB N f (dt N 1)] rfl rfl rfl Try.func29 rfl (by kernel_rfl) (LendOk.box rfl rfl rfl trivial) rfl (LendImm.box rfl trivial) (n0) ?_
         refine AList.move rfl rfl rfl ?_
         refine AList.callH [7] [drawB N f (dt N 1)] [drawB N f (dt N 2)] rfl rfl rfl Try.func29 rfl (by kernel_rfl) (LendOk.box rfl rfl rfl trivial) rfl (LendImm.box rfl trivial) (n1) ?_
         refine AList.add rfl rfl rfl rfl (by omega) (by omega) ?_
         refine AList.buildSt tyOk rfl rfl rfl rfl rfl rfl rfl rfl ?_
         refine AList.alloc tyOk rfl rfl rfl rfl rfl ?_
         refine AList.store tyOk rfl rfl rfl rfl rfl rfl rfl rfl oM oM ?_
         refine AList.nil ?_)
      | (refine AWp.region (id := 3) ?_
         refine AList.move rfl rfl rfl ?_
         refine AList.callH [7] [drawB N f (dt N 2)] [drawB N f (dt N 3)] rfl rfl rfl Try.func29 rfl (by kernel_rfl) (LendOk.box rfl rfl rfl trivial) rfl (LendImm.box rfl trivial) (n2) ?_
         refine AList.move rfl rfl rfl ?_
         refine AList.callH [7] [drawB N f (dt N 3)] [drawB N f (dt N 4)] rfl rfl rfl Try.func29 rfl (by kernel_rfl) (LendOk.box rfl rfl rfl trivial) rfl (LendImm.box rfl trivial) (n3) ?_
         refine AList.move rfl rfl rfl ?_
         refine AList.callH [7] [drawB N f (dt N 4)] [drawB N f (dt N 5)] rfl rfl rfl Try.func29 rfl (by kernel_rfl) (LendOk.box rfl rfl rfl trivial) rfl (LendImm.box rfl trivial) (n4) ?_
         refine AList.buildSt tyOk rfl rfl rfl rfl rfl rfl rfl rfl ?_
         refine AList.fieldPt tyOk rfl rfl rfl rfl rfl rfl rfl ?_
         refine AList.store tyOk rfl rfl rfl rfl rfl rfl rfl rfl oM oM ?_
         refine AList.nil ?_)
      | (refine AWp.draw (id := 4) mixed ?_
         refine AList.move rfl rfl rfl ?_
         refine AList.callH [7] [drawB N f (dt N 5)] [drawB N f (dt N 6)] rfl rfl rfl Try.func29 rfl (by kernel_rfl) (LendOk.box rfl rfl rfl trivial) rfl (LendImm.box rfl trivial) (n5) ?_
         refine AList.move rfl rfl rfl ?_
         refine AList.callH [7] [drawB N f (dt N 6)] [drawB N f (dt N 7)] rfl rfl rfl Try.func29 rfl (by kernel_rfl) (LendOk.box rfl rfl rfl trivial) rfl (LendImm.box rfl trivial) (n6) ?_
         refine AList.litSl tyOk rfl rfl rfl rfl rfl rfl rfl rfl rfl rfl rfl ?_
         refine AList.move rfl rfl rfl ?_
         refine AList.callH [7] [drawB N f (dt N 7)] [drawB N f (dt N 8)] rfl rfl rfl Try.func29 rfl (by kernel_rfl) (LendOk.box rfl rfl rfl trivial) rfl (LendImm.box rfl trivial) (n7) ?_
         refine AList.idx (k := 1) tyOk rfl rfl rfl rfl rfl rfl rfl rfl (by first | rfl | omega) oM oM ?_
         refine AList.load1l tyOk rfl rfl rfl rfl rfl oM ?_
         refine AList.move rfl rfl rfl ?_
         refine AList.callH [7] [drawB N f (dt N 8)] [drawB N f (dt N 9)] rfl rfl rfl Try.func29 rfl (by kernel_rfl) (LendOk.box rfl rfl rfl trivial) rfl (LendImm.box rfl trivial) (n8) ?_
         refine AList.buildSt tyOk rfl rfl rfl rfl rfl rfl rfl rfl ?_
         refine AList.fieldPt tyOk rfl rfl rfl rfl rfl rfl rfl ?_
         refine AList.store tyOk rfl rfl rfl rfl rfl rfl rfl rfl oM oM ?_
         refine AList.nil ⟨by kernel_rfl, ?_⟩)
      | (refine AWp.region (id := 5) ?_
         refine AList.loadA tyOk rfl rfl rfl rfl rfl rfl rfl oM oM ?_
         refine AList.store tyOk rfl rfl rfl rfl rfl rfl rfl rfl oM oM ?_
         refine AList.nil ?_))
    refine ⟨mkSt 36 [(2, .c (.pt 2 10 0 0))] [(2, ⟨false, 1, 10, 26, lF [iC (nx N f 0 60), iC (1 + nx N f 1 30), iC (nx N f 2 3), iC (nx N f 3 2), iC 0, iC (nx N f 4 2), iC (nx N f 5 2), iC (nx N f 6 2), iC 0, iC (nx N f 8 2)]⟩)] [2], [(2, ⟨false, 1, 10, 26, lF [iC (nx N f 0 60), iC (1 + nx N f 1 30), iC (nx N f 2 3), iC (nx N f 3 2), iC 0, iC (nx N f 4 2), iC (nx N f 5 2), iC (nx N f 6 2), iC 0, iC (nx N f 8 2)]⟩)], Wk.mk [(2, some 2)] rfl rfl rfl ?_ ?_, rfl, rfl, ARets.one (x := .ag _) (ARes.box tyOk rfl rfl rfl rfl rfl rfl rfl)⟩
    · repeat (first | exact trivial | refine ⟨⟨_, rfl, by first | exact LeA.c (LeC.refl _ rfl) | exact LeA.c (LeC.ow _ _ rfl) | exact LeA.c (LeC.pt _ _ _ _ _ rfl) | exact LeA.c (LeC.nil _ rfl) | exact LeA.c (LeC.nils _ _) | (refine LeA.int ?_; omega) | (refine LeA.int ?_; dsimp only; omega) | exact LeA.c (LeC.fz rfl rfl (by first | rfl | omega) (fun i _ j _ => ⟨rfl, by first | rfl | exact rowN_imm (fun _ => rfl) _ i j | exact rowF_imm (fun _ => rfl) _ i j⟩))⟩, ?_⟩)
    · repeat (first | exact trivial | refine ⟨by first | exact HeapOk.same rfl rfl rfl rfl | exact HeapOk.lent rfl rfl rfl rfl | exact HeapOk.nil rfl rfl | exact HeapOk.row rfl rfl (by first | rfl | omega) (fun i _ j _ => ⟨rfl, by first | rfl | exact rowN_imm (fun _ => rfl) _ i j | exact rowF_imm (fun _ => rfl) _ i j⟩) | exact HeapOk.box rfl rfl (by repeat (first | exact trivial | refine ⟨by first | exact LeC.refl _ rfl | exact LeC.ow _ _ rfl | exact LeC.nil _ rfl | exact LeC.nils _ _ | exact LeC.fz rfl rfl (by first | rfl | omega) (fun i _ j _ => ⟨rfl, by first | rfl | exact rowN_imm (fun _ => rfl) _ i j | exact rowF_imm (fun _ => rfl) _ i j⟩) | exact LeC.int (by omega), ?_⟩)) rfl, ?_⟩)
  · have hs : (matN N f).s.sh = 0 := by show (if nx N f 7 4 = 3 then (1 : Int) else 0) = 0; rw [hv]; rfl
    have hM : matC (matN N f) = [iC (nx N f 0 60), iC (1 + nx N f 1 30), iC (nx N f 2 3), iC (nx N f 3 2), iC 0, iC (nx N f 4 2), iC (nx N f 5 2), iC (nx N f 6 2), iC 0, iC (nx N f 8 2)] := by rw [matC, hs]; rfl
    rw [hv] at n7
    rw [hM]
    refine acalls_at Try.func10 rfl rfl Try.ntmps10 rfl ?_
    repeat (first
      | refine AWp.seq ?_
      | refine thenA_n ?_
      | refine AWp.ret ?_
      | (refine AWp.region (id := 0) ?_
         refine AList.alloc tyOk rfl rfl rfl rfl rfl ?_
         refine AList.nil ?_)
      | (refine AWp.region (id := 1) ?_
         refine AList.move rfl rfl rfl ?_
         refine AList.buildSt tyOk rfl rfl rfl rfl rfl rfl rfl rfl ?_
         refine AList.box rfl rfl rfl rfl rfl ?_
         refine AList.assign rfl rfl rfl ?_
         refine AList.nil ?_)
      | (refine AWp.region (id := 2) ?_
         refine AList.move rfl rfl rfl ?_
         refine AList.callH [7] [drawB N f (dt N 0)] [drawB N f (dt N 1)] rfl rfl rfl Try.func29 rfl (by kernel_rfl) (LendOk.box rfl rfl rfl trivial) rfl (LendImm.box rfl trivial) (n0) ?_
         refine AList.move rfl rfl rfl ?_
         refine AList.callH [7] [drawB N f (dt N 1)] [drawB N f (dt N 2)] rfl rfl rfl Try.func29 rfl (by kernel_rfl) (LendOk.box rfl rfl rfl trivial) rfl (LendImm.box rfl trivial) (n1) ?_
         refine AList.add rfl rfl rfl rfl (by omega) (by omega) ?_
         refine AList.buildSt tyOk rfl rfl rfl rfl rfl rfl rfl rfl ?_
         refine AList.alloc tyOk rfl rfl rfl rfl rfl ?_
         refine AList.store tyOk rfl rfl rfl rfl rfl rfl rfl rfl oM oM ?_
         refine AList.nil ?_)
      | (refine AWp.region (id := 3) ?_
         refine AList.move rfl rfl rfl ?_
         refine AList.callH [7] [drawB N f (dt N 2)] [drawB N f (dt N 3)] rfl rfl rfl Try.func29 rfl (by kernel_rfl) (LendOk.box rfl rfl rfl trivial) rfl (LendImm.box rfl trivial) (n2) ?_
         refine AList.move rfl rfl rfl ?_
         refine AList.callH [7] [drawB N f (dt N 3)] [drawB N f (dt N 4)] rfl rfl rfl Try.func29 rfl (by kernel_rfl) (LendOk.box rfl rfl rfl trivial) rfl (LendImm.box rfl trivial) (n3) ?_
         refine AList.move rfl rfl rfl ?_
         refine AList.callH [7] [drawB N f (dt N 4)] [drawB N f (dt N 5)] rfl rfl rfl Try.func29 rfl (by kernel_rfl) (LendOk.box rfl rfl rfl trivial) rfl (LendImm.box rfl trivial) (n4) ?_
         refine AList.buildSt tyOk rfl rfl rfl rfl rfl rfl rfl rfl ?_
         refine AList.fieldPt tyOk rfl rfl rfl rfl rfl rfl rfl ?_
         refine AList.store tyOk rfl rfl rfl rfl rfl rfl rfl rfl oM oM ?_
         refine AList.nil ?_)
      | (refine AWp.draw (id := 4) mixed ?_
         refine AList.move rfl rfl rfl ?_
         refine AList.callH [7] [drawB N f (dt N 5)] [drawB N f (dt N 6)] rfl rfl rfl Try.func29 rfl (by kernel_rfl) (LendOk.box rfl rfl rfl trivial) rfl (LendImm.box rfl trivial) (n5) ?_
         refine AList.move rfl rfl rfl ?_
         refine AList.callH [7] [drawB N f (dt N 6)] [drawB N f (dt N 7)] rfl rfl rfl Try.func29 rfl (by kernel_rfl) (LendOk.box rfl rfl rfl trivial) rfl (LendImm.box rfl trivial) (n6) ?_
         refine AList.litSl tyOk rfl rfl rfl rfl rfl rfl rfl rfl rfl rfl rfl ?_
         refine AList.move rfl rfl rfl ?_
         refine AList.callH [7] [drawB N f (dt N 7)] [drawB N f (dt N 8)] rfl rfl rfl Try.func29 rfl (by kernel_rfl) (LendOk.box rfl rfl rfl trivial) rfl (LendImm.box rfl trivial) (n7) ?_
         refine AList.idx (k := 2) tyOk rfl rfl rfl rfl rfl rfl rfl rfl (by first | rfl | omega) oM oM ?_
         refine AList.load1l tyOk rfl rfl rfl rfl rfl oM ?_
         refine AList.move rfl rfl rfl ?_
         refine AList.callH [7] [drawB N f (dt N 8)] [drawB N f (dt N 9)] rfl rfl rfl Try.func29 rfl (by kernel_rfl) (LendOk.box rfl rfl rfl trivial) rfl (LendImm.box rfl trivial) (n8) ?_
         refine AList.buildSt tyOk rfl rfl rfl rfl rfl rfl rfl rfl ?_
         refine AList.fieldPt tyOk rfl rfl rfl rfl rfl rfl rfl ?_
         refine AList.store tyOk rfl rfl rfl rfl rfl rfl rfl rfl oM oM ?_
         refine AList.nil ⟨by kernel_rfl, ?_⟩)
      | (refine AWp.region (id := 5) ?_
         refine AList.loadA tyOk rfl rfl rfl rfl rfl rfl rfl oM oM ?_
         refine AList.store tyOk rfl rfl rfl rfl rfl rfl rfl rfl oM oM ?_
         refine AList.nil ?_))
    refine ⟨mkSt 36 [(2, .c (.pt 2 10 0 0))] [(2, ⟨false, 1, 10, 26, lF [iC (nx N f 0 60), iC (1 + nx N f 1 30), iC (nx N f 2 3), iC (nx N f 3 2), iC 0, iC (nx N f 4 2), iC (nx N f 5 2), iC (nx N f 6 2), iC 0, iC (nx N f 8 2)]⟩)] [2], [(2, ⟨false, 1, 10, 26, lF [iC (nx N f 0 60), iC (1 + nx N f 1 30), iC (nx N f 2 3), iC (nx N f 3 2), iC 0, iC (nx N f 4 2), iC (nx N f 5 2), iC (nx N f 6 2), iC 0, iC (nx N f 8 2)]⟩)], Wk.mk [(2, some 2)] rfl rfl rfl ?_ ?_, rfl, rfl, ARets.one (x := .ag _) (ARes.box tyOk rfl rfl rfl rfl rfl rfl rfl)⟩
    · repeat (first | exact trivial | refine ⟨⟨_, rfl, by first | exact LeA.c (LeC.refl _ rfl) | exact LeA.c (LeC.ow _ _ rfl) | exact LeA.c (LeC.pt _ _ _ _ _ rfl) | exact LeA.c (LeC.nil _ rfl) | exact LeA.c (LeC.nils _ _) | (refine LeA.int ?_; omega) | (refine LeA.int ?_; dsimp only; omega) | exact LeA.c (LeC.fz rfl rfl (by first | rfl | omega) (fun i _ j _ => ⟨rfl, by first | rfl | exact rowN_imm (fun _ => rfl) _ i j | exact rowF_imm (fun _ => rfl) _ i j⟩))⟩, ?_⟩)
    · repeat (first | exact trivial | refine ⟨by first | exact HeapOk.same rfl rfl rfl rfl | exact HeapOk.lent rfl rfl rfl rfl | exact HeapOk.nil rfl rfl | exact HeapOk.row rfl rfl (by first | rfl | omega) (fun i _ j _ => ⟨rfl, by first | rfl | exact rowN_imm (fun _ => rfl) _ i j | exact rowF_imm (fun _ => rfl) _ i j⟩) | exact HeapOk.box rfl rfl (by repeat (first | exact trivial | refine ⟨by first | exact LeC.refl _ rfl | exact LeC.ow _ _ rfl | exact LeC.nil _ rfl | exact LeC.nils _ _ | exact LeC.fz rfl rfl (by first | rfl | omega) (fun i _ j _ => ⟨rfl, by first | rfl | exact rowN_imm (fun _ => rfl) _ i j | exact rowF_imm (fun _ => rfl) _ i j⟩) | exact LeC.int (by omega), ?_⟩)) rfl, ?_⟩)
  · have hs : (matN N f).s.sh = 1 := by show (if nx N f 7 4 = 3 then (1 : Int) else 0) = 1; rw [hv]; rfl
    have hM : matC (matN N f) = [iC (nx N f 0 60), iC (1 + nx N f 1 30), iC (nx N f 2 3), iC (nx N f 3 2), iC 0, iC (nx N f 4 2), iC (nx N f 5 2), iC (nx N f 6 2), iC 1, iC (nx N f 8 2)] := by rw [matC, hs]; rfl
    rw [hv] at n7
    rw [hM]
    refine acalls_at Try.func10 rfl rfl Try.ntmps10 rfl ?_
    repeat (first
      | refine AWp.seq ?_
      | refine thenA_n ?_
      | refine AWp.ret ?_
      | (refine AWp.region (id := 0) ?_
         refine AList.alloc tyOk rfl rfl rfl rfl rfl ?_
         refine AList.nil ?_)
      | (refine AWp.region (id := 1) ?_
         refine AList.move rfl rfl rfl ?_
         refine AList.buildSt tyOk rfl rfl rfl rfl rfl rfl rfl rfl ?_
         refine AList.box rfl rfl rfl rfl rfl ?_
         refine AList.assign rfl rfl rfl ?_
         refine AList.nil ?_)
      | (refine AWp.region (id := 2) ?_
         refine AList.move rfl rfl rfl ?_
         refine AList.callH [7] [drawB N f (dt N 0)] [drawB N f (dt N 1)] rfl rfl rfl Try.func29 rfl (by kernel_rfl) (LendOk.box rfl rfl rfl trivial) rfl (LendImm.box rfl trivial) (n0) ?_
         refine AList.move rfl rfl rfl ?_
         refine AList.callH [7] [drawB N f (dt N 1)] [drawB N f (dt N 2)] rfl rfl rfl Try.func29 rfl (by kernel_rfl) (LendOk.box rfl rfl rfl trivial) rfl (LendImm.box rfl trivial) (n1) ?_
         refine AList.add rfl rfl rfl rfl (by omega) (by omega) ?_
         refine AList.buildSt tyOk rfl rfl rfl rfl rfl rfl rfl rfl ?_
         refine AList.alloc tyOk rfl rfl rfl rfl rfl ?_
         refine AList.store tyOk rfl rfl rfl rfl rfl rfl rfl rfl oM oM ?_
         refine AList.nil ?_)
      | (refine AWp.region (id := 3) ?_
         refine AList.move rfl rfl rfl ?_
         refine AList.callH [7] [drawB N f (dt N 2)] [drawB N f (dt N 3)] rfl rfl rfl Try.func29 rfl (by kernel_rfl) (LendOk.box rfl rfl rfl trivial) rfl (LendImm.box rfl trivial) (n2) ?_
         refine AList.move rfl rfl rfl ?_
         refine AList.callH [7] [drawB N f (dt N 3)] [drawB N f (dt N 4)] rfl rfl rfl Try.func29 rfl (by kernel_rfl) (LendOk.box rfl rfl rfl trivial) rfl (LendImm.box rfl trivial) (n3) ?_
         refine AList.move rfl rfl rfl ?_
         refine AList.callH [7] [drawB N f (dt N 4)] [drawB N f (dt N 5)] rfl rfl rfl Try.func29 rfl (by kernel_rfl) (LendOk.box rfl rfl rfl trivial) rfl (LendImm.box rfl trivial) (n4) ?_
         refine AList.buildSt tyOk rfl rfl rfl rfl rfl rfl rfl rfl ?_
         refine AList.fieldPt tyOk rfl rfl rfl rfl rfl rfl rfl ?_
         refine AList.store tyOk rfl rfl rfl rfl rfl rfl rfl rfl oM oM ?_
         refine AList.nil ?_)
      | (refine AWp.draw (id := 4) mixed ?_
         refine AList.move rfl rfl rfl ?_
         refine AList.callH [7] [drawB N f (dt N 5)] [drawB N f (dt N 6)] rfl rfl rfl Try.func29 rfl (by kernel_rfl) (LendOk.box rfl rfl rfl trivial) rfl (LendImm.box rfl trivial) (n5) ?_
         refine AList.move rfl rfl rfl ?_
         refine AList.callH [7] [drawB N f (dt N 6)] [drawB N f (dt N 7)] rfl rfl rfl Try.func29 rfl (by kernel_rfl) (LendOk.box rfl rfl rfl trivial) rfl (LendImm.box rfl trivial) (n6) ?_
         refine AList.litSl tyOk rfl rfl rfl rfl rfl rfl rfl rfl rfl rfl rfl ?_
         refine AList.move rfl rfl rfl ?_
         refine AList.callH [7] [drawB N f (dt N 7)] [drawB N f (dt N 8)] rfl rfl rfl Try.func29 rfl (by kernel_rfl) (LendOk.box rfl rfl rfl trivial) rfl (LendImm.box rfl trivial) (n7) ?_
         refine AList.idx (k := 3) tyOk rfl rfl rfl rfl rfl rfl rfl rfl (by first | rfl | omega) oM oM ?_
         refine AList.load1l tyOk rfl rfl rfl rfl rfl oM ?_
         refine AList.move rfl rfl rfl ?_
         refine AList.callH [7] [drawB N f (dt N 8)] [drawB N f (dt N 9)] rfl rfl rfl Try.func29 rfl (by kernel_rfl) (LendOk.box rfl rfl rfl trivial) rfl (LendImm.box rfl trivial) (n8) ?_
         refine AList.buildSt tyOk rfl rfl rfl rfl rfl rfl rfl rfl ?_
         refine AList.fieldPt tyOk rfl rfl rfl rfl rfl rfl rfl ?_
         refine AList.store tyOk rfl rfl rfl rfl rfl rfl rfl rfl oM oM ?_
         refine AList.nil ⟨by kernel_rfl, ?_⟩)
      | (refine AWp.region (id := 5) ?_
         refine AList.loadA tyOk rfl rfl rfl rfl rfl rfl rfl oM oM ?_
         refine AList.store tyOk rfl rfl rfl rfl rfl rfl rfl rfl oM oM ?_
         refine AList.nil ?_))
    refine ⟨mkSt 36 [(2, .c (.pt 2 10 0 0))] [(2, ⟨false, 1, 10, 26, lF [iC (nx N f 0 60), iC (1 + nx N f 1 30), iC (nx N f 2 3), iC (nx N f 3 2), iC 0, iC (nx N f 4 2), iC (nx N f 5 2), iC (nx N f 6 2), iC 1, iC (nx N f 8 2)]⟩)] [2], [(2, ⟨false, 1, 10, 26, lF [iC (nx N f 0 60), iC (1 + nx N f 1 30), iC (nx N f 2 3), iC (nx N f 3 2), iC 0, iC (nx N f 4 2), iC (nx N f 5 2), iC (nx N f 6 2), iC 1, iC (nx N f 8 2)]⟩)], Wk.mk [(2, some 2)] rfl rfl rfl ?_ ?_, rfl, rfl, ARets.one (x := .ag _) (ARes.box tyOk rfl rfl rfl rfl rfl rfl rfl)⟩
    · repeat (first | exact trivial | refine ⟨⟨_, rfl, by first | exact LeA.c (LeC.refl _ rfl) | exact LeA.c (LeC.ow _ _ rfl) | exact LeA.c (LeC.pt _ _ _ _ _ rfl) | exact LeA.c (LeC.nil _ rfl) | exact LeA.c (LeC.nils _ _) | (refine LeA.int ?_; omega) | (refine LeA.int ?_; dsimp only; omega) | exact LeA.c (LeC.fz rfl rfl (by first | rfl | omega) (fun i _ j _ => ⟨rfl, by first | rfl | exact rowN_imm (fun _ => rfl) _ i j | exact rowF_imm (fun _ => rfl) _ i j⟩))⟩, ?_⟩)
    · repeat (first | exact trivial | refine ⟨by first | exact HeapOk.same rfl rfl rfl rfl | exact HeapOk.lent rfl rfl rfl rfl | exact HeapOk.nil rfl rfl | exact HeapOk.row rfl rfl (by first | rfl | omega) (fun i _ j _ => ⟨rfl, by first | rfl | exact rowN_imm (fun _ => rfl) _ i j | exact rowF_imm (fun _ => rfl) _ i j⟩) | exact HeapOk.box rfl rfl (by repeat (first | exact trivial | refine ⟨by first | exact LeC.refl _ rfl | exact LeC.ow _ _ rfl | exact LeC.nil _ rfl | exact LeC.nils _ _ | exact LeC.fz rfl rfl (by first | rfl | omega) (fun i _ j _ => ⟨rfl, by first | rfl | exact rowN_imm (fun _ => rfl) _ i j | exact rowF_imm (fun _ => rfl) _ i j⟩) | exact LeC.int (by omega), ?_⟩)) rfl, ?_⟩)
end Go.Proofs.Ytclaanggpcjnbaa
end
