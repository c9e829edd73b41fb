/- Parts of the proof: BmHas, BmCrop. -/
import Derived.Test.YtfgcogkhnnflcaaDoorProg
import Derived.Test.YtfgcogkhnnflcaaDoorG02
import Derived.Test.YtfgcogkhnnflcaaDoorG01
import Derived.Test.YtfgcogkhnnflcaaDoorHBdColCard01
import Derived.Test.YtfgcogkhnnflcaaDoorHBdColCard02
import Derived.WalkKit
import Derived.Lib.Hide
import Derived.Deep.QuietTactic
import Derived.BigQuiet
import Derived.Deep.DrawnRows
import Derived.StillTail
import Derived.Below
import Derived.Deep.Draws
import Derived.KernelRfl
set_option linter.unusedSimpArgs false
set_option linter.unusedVariables false
section
namespace Go.Proofs.YtfgcogkhnnflcaaDoor
open Go.RowKit Go.Flow Go.Plain
open Go.Proofs
attribute [local go_sem] block_add
attribute [local go_sem ↓] Go.wp_at_zero Go.wp_at_succ

theorem has_any (W H : Int) (A : Option Addr) (n c : Nat) (dot : Nat → Bool) (x y : Int) (w : World) (hok : chk W H n = 0) (hA : Bools w A n dot) :
    Calls Tryd.prog 34 #[bmp W H A n c, .agg #[.int .i64 x, .int .i64 y]] w fun e w' => e = .returned (.bool (hasB W H dot x y)) ∧ Ext w w' := by
  have hE := Lib.hid (((Ext.refl w).alloc (.cells #[.int .i64 W, .int .i64 H, .slice A n c] 30)).alloc (.cells #[.int .i64 x, .int .i64 y] 80))
  have hk := okB hok
  clear hok
  by_cases h1 : 0 ≤ x
  · by_cases h2 : x < W
    · by_cases h3 : 0 ≤ y
      · by_cases h4 : y < H
        · have hp0 : 0 ≤ y * W := Int.mul_nonneg h3 (by omega)
          have hp1 : y * W + W ≤ W * H := by
            have : (y + 1) * W ≤ H * W := Int.mul_le_mul_of_nonneg_right (by omega) (by omega)
            rw [Int.add_mul, Int.mul_comm H W] at this
            omega
          have hbd := area_bd ⟨hk.1, hk.2.1⟩ ⟨hk.2.2.1, hk.2.2.2.1⟩
          obtain ⟨hk1, hk2, hk3, hk4, hk5⟩ := hk
          have hlt : y * W + x < n := by omega
          have hub : n ≤ 9216 := by omega
          have e0 : hasB W H dot x y = dot (y * W + x).toNat := by unfold hasB; rw [if_pos ⟨h1, h2, h3, h4⟩]
          rw [e0]
          clear hk5 hbd hp1 e0
          obtain ⟨m, hm⟩ : ∃ m : Nat, y * W + x = m := ⟨(y * W + x).toNat, by omega⟩
          have hmn : m < n := by omega
          obtain ⟨ad, rfl, hc⟩ := hA.ext hE.out m hmn
          have hw1 : IntKind.i64.wrap (y * W) = y * W := by rw [IntKind.wrap_i64]; omega
          have hw2 : IntKind.i64.wrap (y * W + x) = m := by rw [IntKind.wrap_i64]; omega
          have hmn' : (m : Int) < n := by omega
          have e1 : (y * W + x).toNat = m := by omega
          rw [e1]
          clear e1 hm hlt
          go_enter Tryd.func34, Tryd.ntmps34
          go_wp2_with fail
          go_ret
          exact ⟨rfl, hE.out⟩
        · have e0 : hasB W H dot x y = false := by unfold hasB; rw [if_neg (by omega)]
          rw [e0]
          clear e0 hk
          go_enter Tryd.func34, Tryd.ntmps34
          go_wp2_with fail
          go_ret
          exact ⟨rfl, hE.out⟩
      · have e0 : hasB W H dot x y = false := by unfold hasB; rw [if_neg (by omega)]
        rw [e0]
        clear e0 hk
        go_enter Tryd.func34, Tryd.ntmps34
        go_wp2_with fail
        go_ret
        exact ⟨rfl, hE.out⟩
    · have e0 : hasB W H dot x y = false := by unfold hasB; rw [if_neg (by omega)]
      rw [e0]
      clear e0 hk
      go_enter Tryd.func34, Tryd.ntmps34
      go_wp2_with fail
      go_ret
      exact ⟨rfl, hE.out⟩
  · have e0 : hasB W H dot x y = false := by unfold hasB; rw [if_neg (by omega)]
    rw [e0]
    clear e0 hk
    go_enter Tryd.func34, Tryd.ntmps34
    go_wp2_with fail
    go_ret
    exact ⟨rfl, hE.out⟩
end Go.Proofs.YtfgcogkhnnflcaaDoor
end

section
namespace Go.Proofs.YtfgcogkhnnflcaaDoor
open Go.RowKit Go.Flow Go.Plain
open Go.Proofs
attribute [local go_sem] block_add
attribute [local go_sem ↓] Go.wp_at_zero Go.wp_at_succ

def cropB (W H : Int) (dot : Nat → Bool) (x y w' : Int) (k : Nat) : Bool := hasB W H dot (x + (k : Int) % w') (y + (k : Int) / w')
def CropPost (W H : Int) (dot : Nat → Bool) (x y w' h' : Int) (w : World) (e : Ending) (W' : World) : Prop :=
  ∃ g m, e = .returned (.tuple #[bmp w' h' (some ⟨g, 0, none⟩) m m, .int .i64 0]) ∧ (m : Int) = w' * h' ∧ Own W' g 4 m (fun k => .bool (cropB W H dot x y w' k)) ∧ Ext w W'

set_option maxHeartbeats 1000000 in
set_option maxRecDepth 100000 in
theorem Crop_any (W H : Int) (A : Option Addr) (n c : Nat) (dot : Nat → Bool) (x y w' h' : Int) (w : World) (hok : chk W H n = 0) (hA : Bools w A n dot) (hx : -1000 ≤ x ∧ x ≤ 1000) (hy : -1000 ≤ y ∧ y ≤ 1000)
    (hw : 0 ≤ w' ∧ w' ≤ 96) (hh : 0 ≤ h' ∧ h' ≤ 96) :
    Calls Tryd.prog 17 #[bmp W H A n c, .int .i64 x, .int .i64 y, .int .i64 w', .int .i64 h'] w (CropPost W H dot x y w' h' w) := by
  have hP : ∀ (e : Ending) (W' : World), (∃ g m, e = .returned (.tuple #[bmp w' h' (some ⟨g, 0, none⟩) m m, .int .i64 0]) ∧ (m : Int) = w' * h' ∧ Own W' g 4 m (fun k => .bool (cropB W H dot x y w' k)) ∧ Ext w W') → CropPost W H dot x y w' h' w e W' := fun _ _ h => h
  replace hP := Lib.hid hP
  obtain ⟨hx1, hx2⟩ := hx
  obtain ⟨hy1, hy2⟩ := hy
  have hbd := area_bd hw hh
  have hsd : (sideB w' && sideB h') = true := by rw [sideB_iff.2 hw, sideB_iff.2 hh]; rfl
  replace hsd := Lib.hid hsd
  obtain ⟨hw1, hw2⟩ := hw
  obtain ⟨hh1, hh2⟩ := hh
  obtain ⟨wn, rfl⟩ := Int.eq_ofNat_of_zero_le hw1
  obtain ⟨hn, rfl⟩ := Int.eq_ofNat_of_zero_le hh1
  have e1 : (chk W H n != 0) = false := by simp [hok]
  replace hok := Lib.hid hok
  go_enter Tryd.func17, Tryd.ntmps17
  go_wp2_with fail
  refine (Check2_any W H A n c _).mono ?_
  rintro e w1 ⟨rfl, hE1⟩
  have hP1 := Lib.hid (((Blk.new w 30 #[.int .i64 W, .int .i64 H, .slice A n c]).alloc (.cells #[.int .i64 0, .int .i64 0, .slice none 0 0] 30)).ext hE1)
  have hR1 := Lib.hid ((Blk.new' (g := w.heap.size + 1) (w := w.alloc (.cells #[.int .i64 W, .int .i64 H, .slice A n c] 30)) (by simp) 30 #[.int .i64 0, .int .i64 0, .slice none 0 0]).ext hE1)
  replace hE1 := Lib.hid ((((Ext.refl w).alloc _).alloc _).trans hE1)
  go_wp2_with fail
  refine (New2_ok wn hn w1 hsd.out).mono ?_
  rintro e w2 ⟨g, m, rfl, hm, hO, hg, hE2⟩
  have hP2 := Lib.hid (hP1.out.ext hE2)
  have hR2 := Lib.hid (hR1.out.ext hE2)
  have hgl := hO.lt
  have hl1 := hP1.out.lt
  have hl2 := hR1.out.lt
  replace hE2 := Lib.hid (hE1.out.trans hE2)
  have hm1 : m ≤ 9216 := by omega
  replace hm := Lib.hid hm
  clear hP1 hR1 hE1 hbd
  go_wp2_with fail
  go_loopw [31] (fun i wr => ∃ k : Nat, k ≤ m ∧ i = .int .i64 k ∧ Blk wr w.heap.size 30 #[.int .i64 W, .int .i64 H, .slice A n c] ∧ Blk wr (w.heap.size + 1) 30 #[.int .i64 0, .int .i64 0, .slice none 0 0] ∧
      Blk wr w2.heap.size 30 #[.int .i64 wn, .int .i64 hn, .slice (some ⟨g, 0, none⟩) m m] ∧ Own wr g 4 m (fun j => .bool (if j < k then cropB W H dot x y wn j else false)) ∧ Ext w wr) (fun i _ => m - (intOf i).toNat)
  case atStart => exact ⟨0, by omega, rfl, hP2.out.alloc _, hR2.out.alloc _, Blk.new _ _ _, (hO.ext ((Ext.refl _).alloc _)).congr (fun j _ => by simp), hE2.out.alloc _⟩
  case round =>
    clear hO hP2 hR2 hE2
    obtain ⟨k, hk, rfl, hPb, hRb, hTb, hO, hE⟩ := hrel
    obtain ⟨pc, pf, pl⟩ := hPb.rules
    obtain ⟨rc, rf, rl⟩ := hRb.rules
    obtain ⟨tc, tf, tl⟩ := hTb.rules
    by_cases hlt : k < m
    · have hlt' : (k : Int) < m := by omega
      have hw0 : (0 : Int) < (wn : Int) := by
        rcases Int.lt_or_le 0 (wn : Int) with h1 | h1
        · exact h1
        · have h := hm.out; rw [show (wn : Int) = 0 by omega, Int.zero_mul] at h; omega
      have hr0 := Int.emod_nonneg (k : Int) (show (wn : Int) ≠ 0 by omega)
      have hr1 := Int.emod_lt_of_pos (k : Int) hw0
      have hq0 : 0 ≤ (k : Int) / wn := Int.ediv_nonneg (by omega) (by omega)
      have hq1 : (k : Int) / wn ≤ k := Int.ediv_le_self _ (by omega)
      have hgc := hO.cell hlt
      have hgf := hO.frozen k
      have hgl' := hO.lt
      have hwx : IntKind.i64.wrap (x + (k : Int) % wn) = x + (k : Int) % wn := by rw [IntKind.wrap_i64]; omega
      have hwy : IntKind.i64.wrap (y + (k : Int) / wn) = y + (k : Int) / wn := by rw [IntKind.wrap_i64]; omega
      have hcr : cropB W H dot x y wn k = hasB W H dot (x + (k : Int) % wn) (y + (k : Int) / wn) := rfl
      replace hcr := Lib.hid hcr
      have hmd : (k : Int).tmod wn = (k : Int) % wn := Int.tmod_eq_emod_of_nonneg (by omega)
      have hdv : (k : Int).tdiv wn = (k : Int) / wn := Int.tdiv_eq_ediv_of_nonneg (by omega)
      have hwn : wn ≠ 0 := by omega
      have hwq : IntKind.i64.wrap ((k : Int) / wn) = (k : Int) / wn := by rw [IntKind.wrap_i64]; omega
      have hAr := Lib.hid (hA.ext hE)
      replace hE := Lib.hid hE
      clear rc rf rl
      go_wp2_with fail
      refine Flow.wp_flow 17 [(0, true), (1, true), (2, true), (3, true), (4, true), (5, true), (6, true), (7, true), (8, true), (9, true), (10, true), (11, true), (12, true), (13, true), (14, true), (15, true), (16, true)] (by kernel_rfl) (by kernel_rfl) ?_
      simp only [List.map_cons, List.map_nil, List.getD_cons_succ, List.getD_cons_zero]
      repeat (first
        | (refine Flow.WalkL.move rfl ?_
           simp only [Act.put, Act.eval, Array.getD_eq_getD_getElem?, List.getElem?_toArray, List.getElem?_cons_succ, List.getElem?_cons_zero, Option.getD_some, List.setIfInBounds_toArray, List.set_cons_zero, List.set_cons_succ])
        | (refine Flow.WalkL.assign rfl ?_
           simp only [Act.put, Act.eval, Array.getD_eq_getD_getElem?, List.getElem?_toArray, List.getElem?_cons_succ, List.getElem?_cons_zero, Option.getD_some, List.setIfInBounds_toArray, List.set_cons_zero, List.set_cons_succ])
        | (refine Flow.WalkL.callf Tryd.func34 rfl (by kernel_rfl) rfl (fun w1 hC => has_any W H A n c dot (x + (k : Int) % wn) (y + (k : Int) / wn) w1 hok.out (hAr.out.ext hC)) rfl rfl ?_
           simp only [Act.put, List.setIfInBounds_toArray, List.set_cons_zero, List.set_cons_succ])
        | (refine Flow.WalkL.run (v := ?_) rfl (fun w1 hC => ?_) ?_
           rotate_left
           · obtain ⟨hCc, hCf⟩ := hC.rules
             go_simp
             with_reducible rfl
           simp only [Act.put, List.setIfInBounds_toArray, List.set_cons_zero, List.set_cons_succ]))
      refine Flow.WalkL.nil ?_
      simp only [List.drop]
      intro v1 hv1
      have hO1 := hO.ext hv1
      have hgc1 := hO1.cell hlt
      have hgf1 := hO1.frozen k
      have hgl1 := hO1.lt
      replace hE := Lib.hid (hE.out.trans hv1)
      have hP1 := Lib.hid (hPb.ext hv1)
      have hR1 := Lib.hid (hRb.ext hv1)
      have hT1 := Lib.hid (hTb.ext hv1)
      clear hgc hgf pc pf pl tc tf tl
      go_wp2_with fail
      exact ⟨⟨k + 1, by omega, by go_num, hP1.out.far (by simp; omega) _, hR1.out.far (by simp; omega) _, hT1.out.far (by simp; omega) _,
        (hO1.set_ k _).congr (fun j hj => by
          simp only [upd]
          by_cases e : j = k
          · subst e; rw [if_pos rfl, if_pos (by omega), hcr.out]
          · rw [if_neg e]; by_cases e2 : j < k
            · rw [if_pos e2, if_pos (by omega)]
            · rw [if_neg e2, if_neg (by omega)]),
        hE.out.setCell (by simp; omega) _⟩, by simp only [intOf]; omega⟩
    · obtain rfl : k = m := by omega
      have hfin : CropPost W H dot x y wn hn w (.returned (.tuple #[bmp wn hn (some ⟨g, 0, none⟩) k k, .int .i64 0])) (((wr.setCell ⟨w.heap.size + 1, 0, none⟩ (.int .i64 wn)).setCell ⟨w.heap.size + 1, 1, none⟩ (.int .i64 hn)).setCell ⟨w.heap.size + 1, 2, none⟩ (.slice (some ⟨g, 0, none⟩) k k)) :=
        hP.out _ _ ⟨g, k, rfl, hm.out, (((hO.congr (fun j hj => by rw [if_pos hj])).far (by simp; omega) _).far (by simp; omega) _).far (by simp; omega) _,
          ((hE.setCell (by simp) _).setCell (by simp) _).setCell (by simp) _⟩
      replace hfin := Lib.hid hfin
      clear hP hE
      go_wp2_with fail
      exact bodyPost_ret (v := .tuple #[bmp wn hn (some ⟨g, 0, none⟩) k k, .int .i64 0]) (by simp [results, Tryd.results17, go_sem, *]) rfl hfin.out
end Go.Proofs.YtfgcogkhnnflcaaDoor
end
