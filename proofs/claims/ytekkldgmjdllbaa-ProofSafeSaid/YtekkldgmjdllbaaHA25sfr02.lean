/- Parts of the proof: ImgPutR, RbHide. -/
import Derived.Test.YtekkldgmjdllbaaG15
import Derived.Test.YtekkldgmjdllbaaProg
import Derived.Test.YtekkldgmjdllbaaG11
import Derived.Test.YtekkldgmjdllbaaHA25sfr01
import Derived.Test.YtekkldgmjdllbaaG01
import Derived.Lib.Hide
import Derived.Deep.QuietTactic
import Derived.BigQuiet
import Derived.Deep.DrawnRows
import Derived.Deep.AppendLies
import Derived.Maps.AppendAt
import Derived.OwnWalk
import Derived.StillTail
import Derived.Below
import Derived.Deep.Draws
import Derived.WalkKit
import Derived.KernelRfl
set_option linter.unusedSimpArgs false
set_option linter.unusedVariables false
section
namespace Go.Proofs.Ytekkldgmjdllbaa
open Go.RowKit Go.Flow
open Go.Proofs
attribute [local go_sem] block_add
attribute [local go_sem ↓] Go.wp_at_zero Go.wp_at_succ

theorem shift_any (dx dy : Int) (w : World) : Calls Try.prog 127 #[.int .i64 dx, .int .i64 dy] w fun e w' => e = .returned (.bool (shiftB dx dy)) ∧ w = w' := by
 by_cases h1 : -2 ≤ dx
 ·by_cases h2 : dx ≤ 2
  ·by_cases h3 : -2 ≤ dy
   ·by_cases h4 : dy ≤ 2
    ·go_enter Try.func127, Try.ntmps127
     go_wp2
     go_ret
     exact ⟨ret_bool (by simp [shiftB]; omega), rfl⟩
    ·go_enter Try.func127, Try.ntmps127
     go_wp2
     go_ret
     exact ⟨ret_bool (by simp [shiftB]; omega), rfl⟩
   ·go_enter Try.func127, Try.ntmps127
    go_wp2
    go_ret
    exact ⟨ret_bool (by simp [shiftB]; omega), rfl⟩
  ·go_enter Try.func127, Try.ntmps127
   go_wp2
   go_ret
   exact ⟨ret_bool (by simp [shiftB]; omega), rfl⟩
 ·go_enter Try.func127, Try.ntmps127
  go_wp2
  go_ret
  exact ⟨ret_bool (by simp [shiftB]; omega), rfl⟩


theorem RPut_bad1 (W H : Int) (A : Option Addr) (n c : Nat) (dx dy : Int) (w : World) (hok : chk W H n ≠ 0) :
 Calls Try.prog 88 #[bmp W H A n c, .int .i64 dx, .int .i64 dy] w fun e w' => e = .returned (.tuple #[img 0 0 none 0 0, .int .i64 (chk W H n)]) ∧ Ext w w' := by
 have hne : (chk W H n != 0) = true := by simpa using hok
 replace hok := Lib.hid hok
 have hP := Lib.hid ((Ext.refl w).alloc (.cells #[.int .i64 W, .int .i64 H, .slice A n c] 31) |>.alloc (.cells #[.int .i64 0, .int .i64 0, .slice none 0 0] 75))
 have hR := Lib.hid (Blk.new' (g := w.heap.size + 1) (w := w.alloc (.cells #[.int .i64 W, .int .i64 H, .slice A n c] 31)) (by simp) 75 #[.int .i64 0, .int .i64 0, .slice none 0 0])
 go_enter Try.func88, Try.ntmps88
 go_wp2_with fail
 refine (Check_any W H A n c _).mono ?_
 rintro e w1 ⟨rfl, hE1⟩
 obtain ⟨rc, rf, rl⟩ := (hR.out.ext hE1).rules
 replace hE1 := Lib.hid (hP.out.trans hE1)
 go_wp2_with fail
 refine bodyPost_ret (v := .tuple #[img 0 0 none 0 0, .int .i64 (chk W H n)]) (by simp [results, Try.results88, go_sem, *]) rfl ⟨rfl, ?_⟩
 exact ((hE1.out.setCell (by simp) _).setCell (by simp) _).setCell (by simp) _

theorem RPut_bad2 (W H : Int) (A : Option Addr) (n c : Nat) (dx dy : Int) (w : World) (hok : chk W H n = 0) (hs : shiftB dx dy = false) :
 Calls Try.prog 88 #[bmp W H A n c, .int .i64 dx, .int .i64 dy] w fun e w' => e = .returned (.tuple #[img 0 0 none 0 0, .int .i64 3]) ∧ Ext w w' := by
 have hne : (chk W H n != 0) = false := by simpa using hok
 replace hok := Lib.hid hok
 have hP := Lib.hid ((Ext.refl w).alloc (.cells #[.int .i64 W, .int .i64 H, .slice A n c] 31) |>.alloc (.cells #[.int .i64 0, .int .i64 0, .slice none 0 0] 75))
 have hR := Lib.hid (Blk.new' (g := w.heap.size + 1) (w := w.alloc (.cells #[.int .i64 W, .int .i64 H, .slice A n c] 31)) (by simp) 75 #[.int .i64 0, .int .i64 0, .slice none 0 0])
 replace hs := Lib.hid hs
 go_enter Try.func88, Try.ntmps88
 go_wp2_with fail
 refine (Check_any W H A n c _).mono ?_
 rintro e w1 ⟨rfl, hE1⟩
 obtain ⟨rc, rf, rl⟩ := (hR.out.ext hE1).rules
 replace hE1 := Lib.hid (hP.out.trans hE1)
 go_wp2_with fail
 refine (shift_any dx dy _).mono ?_
 rintro e w2 ⟨rfl, rfl⟩
 rw [hs.out]
 go_wp2_with fail
 refine bodyPost_ret (v := .tuple #[img 0 0 none 0 0, .int .i64 3]) (by simp [results, Try.results88, go_sem, *]) rfl ⟨rfl, ?_⟩
 exact ((hE1.out.setCell (by simp) _).setCell (by simp) _).setCell (by simp) _


set_option maxHeartbeats 1000000 in
set_option maxRecDepth 100000 in
theorem RPut_ok (Wn Hn : Nat) (A : Option Addr) (n c : Nat) (dot : Nat → Bool) (dx dy : Int) (w : World) (hok : chk Wn Hn n = 0) (hs : shiftB dx dy = true) (hA : Bools w A n dot) :
 Calls Try.prog 88 #[bmp Wn Hn A n c, .int .i64 dx, .int .i64 dy] w (PutOk Wn Hn dot dx dy w) := by
 have hpost : ∀ e w', (∃ A c, ∃ m : Nat, e = .returned (.tuple #[img ((Wn : Int) + 4) ((Hn : Int) + 4) A m c, .int .i64 0]) ∧ (m ≤ c ∧ (m : Int) = ((Wn : Int) + 4) * ((Hn : Int) + 4)) ∧ Mine w' w.heap.size A 3 m (fun k => .int .i64 (putF Wn Hn dot dx dy k)) ∧ Ext w w') → PutOk Wn Hn dot dx dy w e w' := fun _ _ h => h
 replace hpost := Lib.hid hpost
 obtain ⟨i0, hi, hz0, hz1, hz2⟩ := info_parts info_int
 have hne : (chk Wn Hn n != 0) = false := by simpa using hok
 have hk := okB hok
 obtain ⟨-, hw2, -, hh2, hn⟩ := hk
 have hs' := shiftB_iff.1 hs
 obtain ⟨hx1, hx2, hy1, hy2⟩ := hs'
 replace hok := Lib.hid hok
 replace hn := Lib.hid hn
 replace hs := Lib.hid hs
 have hE0 := Lib.hid (((Ext.refl w).alloc (.cells #[.int .i64 Wn, .int .i64 Hn, .slice A n c] 31)).alloc (.cells #[.int .i64 0, .int .i64 0, .slice none 0 0] 75))
 have hB0 := Lib.hid ((Blk.new w 31 #[.int .i64 Wn, .int .i64 Hn, .slice A n c]).alloc (.cells #[.int .i64 0, .int .i64 0, .slice none 0 0] 75))
 have hR0 := Lib.hid (Blk.new' (g := w.heap.size + 1) (w := w.alloc (.cells #[.int .i64 Wn, .int .i64 Hn, .slice A n c] 31)) (by simp) 75 #[.int .i64 0, .int .i64 0, .slice none 0 0])
 obtain ⟨G, hG⟩ : ∃ G : Nat → Value, (fun j => Value.int .i64 (putF Wn Hn dot dx dy j)) = G := ⟨_, rfl⟩
 rw [hG] at hpost
 replace hG := Lib.hid hG
 go_enter Try.func88, Try.ntmps88
 go_wp2_with fail
 refine (Check_any Wn Hn A n c _).mono ?_
 rintro e w1 ⟨rfl, hE1⟩
 have hB1 := hB0.out.ext hE1
 have hR1 := hR0.out.ext hE1
 have hws := hR1.lt
 replace hE1 := Lib.hid (hE0.out.trans hE1)
 obtain ⟨bc, bf, bl⟩ := hB1.rules
 replace hB1 := Lib.hid hB1
 replace hR1 := Lib.hid hR1
 go_wp2_with fail
 refine (shift_any dx dy _).mono ?_
 rintro e w2 ⟨rfl, rfl⟩
 rw [hs.out]
 go_wp2_with fail
 go_loopw [10] (fun i wr => ∃ y : Nat, y ≤ Hn + 4 ∧ i = .int .i64 y ∧ Blk wr w.heap.size 31 #[.int .i64 Wn, .int .i64 Hn, .slice A n c] ∧ Blk wr (w.heap.size + 1) 75 #[.int .i64 0, .int .i64 0, .slice none 0 0] ∧
  (∃ v, Blk wr w1.heap.size 75 #[.int .i64 ((Wn : Int) + 4), .int .i64 ((Hn : Int) + 4), v] ∧ wr.ownsRow (w1.heap.size + 1) 3 1 v (y * (Wn + 4)) ((List.range (y * (Wn + 4))).map G)) ∧ Ext w wr) (fun i _ => Hn + 4 - (intOf i).toNat)
 case atStart =>
  exact ⟨0, by omega, rfl, hB1.out.alloc _, hR1.out.alloc _, ⟨_, Blk.new _ _ _, by rw [Nat.zero_mul]; exact World.ownsRow_nil _ _ _ _⟩, hE1.out.alloc _⟩
 case round =>
  clear hB1 hR1 hE1 bc bf bl
  obtain ⟨y, hy, rfl, hB, hR, ⟨v, hT, hrow⟩, hE⟩ := hrel
  obtain ⟨tc, tf, tl⟩ := hT.rules
  by_cases hlt : y < Hn + 4
  ·have hlt' : (y : Int) < (Hn : Int) + 4 := by omega
   have hyW : y * (Wn + 4) + (Wn + 4) ≤ 10000 := by
    have h1 : (y + 1) * (Wn + 4) ≤ 100 * 100 := Nat.mul_le_mul (by omega) (by omega)
    rw [Nat.add_mul] at h1; omega
   replace hB := Lib.hid hB
   replace hR := Lib.hid hR
   replace hT := Lib.hid hT
   replace hrow := Lib.hid hrow
   replace hE := Lib.hid hE
   go_wp2_with fail
   obtain ⟨w9, rfl⟩ : ∃ w9 : World, w9 = wr := ⟨_, rfl⟩
   go_loopw [11] (fun i wr => ∃ x : Nat, x ≤ Wn + 4 ∧ i = .int .i64 x ∧ Blk wr w.heap.size 31 #[.int .i64 Wn, .int .i64 Hn, .slice A n c] ∧ Blk wr (w.heap.size + 1) 75 #[.int .i64 0, .int .i64 0, .slice none 0 0] ∧
    (∃ v, Blk wr w1.heap.size 75 #[.int .i64 ((Wn : Int) + 4), .int .i64 ((Hn : Int) + 4), v] ∧ wr.ownsRow (w1.heap.size + 1) 3 1 v (y * (Wn + 4) + x) ((List.range (y * (Wn + 4) + x)).map G)) ∧ Ext w wr) (fun i _ => Wn + 4 - (intOf i).toNat)
   case atStart => exact ⟨0, by omega, rfl, hB.out, hR.out, ⟨v, hT.out, hrow.out⟩, hE.out⟩
   case round =>
    clear hB hR hT hrow hE tc tf tl
    obtain ⟨x, hx, rfl, hB, hR, ⟨v1, hT, hrow⟩, hE⟩ := hrel
    obtain ⟨tc, tf, tl⟩ := hT.rules
    obtain ⟨bc, bf, bl⟩ := hB.rules
    by_cases hxt : x < Wn + 4
    ·have hxt' : (x : Int) < (Wn : Int) + 4 := by omega
     have hA1 := Lib.hid (hA.ext hE)
     replace hB := Lib.hid hB
     replace hR := Lib.hid hR
     replace hT := Lib.hid hT
     replace hrow := Lib.hid hrow
     replace hE := Lib.hid hE
     have hGx : G (y * (Wn + 4) + x) = .int .i64 (if hasB Wn Hn dot ((x : Int) - 2 - dx) ((y : Int) - 2 - dy) then 1 else 0) := by rw [← hG.out, ← putF_at hxt]
     replace hGx := Lib.hid hGx
     go_wp2_with fail
     refine (Get_any Wn Hn A n c dot ((x : Int) - 2 - dx) ((y : Int) - 2 - dy) wr hok.out hA1.out).mono ?_
     rintro e w5 ⟨rfl, hE5⟩
     have hB5 := Lib.hid (hB.out.ext hE5)
     have hR5 := Lib.hid (hR.out.ext hE5)
     have hT5 := hT.out.ext hE5
     have hrow5 := Lib.hid (own_ext hrow.out hE5)
     replace hE5 := Lib.hid (hE.out.trans hE5)
     clear hA1 hB hR hT hrow hE tc tf tl bc bf bl
     obtain ⟨tc, tf, tl⟩ := hT5.rules
     replace hT5 := Lib.hid hT5
     obtain ⟨hb, hhb⟩ : ∃ hb, hasB Wn Hn dot ((x : Int) - 2 - dx) ((y : Int) - 2 - dy) = hb := ⟨_, rfl⟩
     rw [hhb]
     have hGv : G (y * (Wn + 4) + x) = .int .i64 (if hb then 1 else 0) := by rw [← hhb]; exact hGx.out
     replace hGv := Lib.hid hGv
     clear hhb hGx
     cases hb
     ·go_wp2_with (first
       | (at_builtin; refine wpList_app1 rfl (.tmp 54) (.tmp 56) 22 rfl i0 (.int .i64 0) 8 Try.underlying22 hi hz0 hz1 hz2 rfl rfl (own_ext hrow5.out ((Ext.refl w5).alloc _)) w5.heap.size (.int .i64 0) #[.int .i64 0] 3 rfl (Blk.new _ _ _) rfl rfl (by omega) (by omega) (by simp; omega) ?_))
      intro v' w6 hr2 hg2 hk2
      have hE6 := Lib.hid (hk2 w (by have := hE5.out.size; omega) (hE5.out.alloc _))
      have hg6 : Ext w5 w6 ∨ True := .inr trivial
      have hkp : ∀ k : Nat, ∀ t cs, k < w1.heap.size + 1 → Blk w5 k t cs → Blk w6 k t cs := fun k t cs hk hb => (hg2.block k (by have := hb.lt; simp; omega) (fun e => by
       have := hrow5.out.lt k e.symm; omega)).trans (hb.alloc _)
      have hT6 := hkp _ _ _ (by omega) hT5.out
      have hB6 := hkp _ _ _ (by omega) hB5.out
      have hR6 := hkp _ _ _ (by omega) hR5.out
      clear hg2 hk2 hkp tc tf tl hg6
      obtain ⟨tc, tf, tl⟩ := hT6.rules
      replace hT6 := Lib.hid hT6
      replace hB6 := Lib.hid hB6
      replace hR6 := Lib.hid hR6
      obtain ⟨gg, cap, rfl⟩ := row_succ hr2
      replace hr2 := Lib.hid hr2
      go_wp2_with fail
      exact ⟨⟨x + 1, by omega, by go_num, hB6.out.far (by simp; omega) _, hR6.out.far (by simp; omega) _, ⟨_, by simpa using hT6.out.set_ 2 _, by
       have h := own_set_ (p := ⟨w1.heap.size, 2, none⟩) hr2.out (by simp) (.slice (some ⟨gg, 0, none⟩) (y * (Wn + 4) + x + 1) cap)
       rw [show y * (Wn + 4) + (x + 1) = y * (Wn + 4) + x + 1 by omega, List.range_succ, List.map_append, List.map_cons, List.map_nil, hGv.out]
       exact h⟩, hE6.out.setCell (by simp; omega) _⟩, by simp only [intOf]; omega⟩
     ·go_wp2_with (first
       | (at_builtin; refine wpList_app1 rfl (.tmp 54) (.tmp 56) 22 rfl i0 (.int .i64 0) 8 Try.underlying22 hi hz0 hz1 hz2 rfl rfl (own_ext hrow5.out ((Ext.refl w5).alloc _)) w5.heap.size (.int .i64 1) #[.int .i64 1] 3 rfl (Blk.new _ _ _) rfl rfl (by omega) (by omega) (by simp; omega) ?_))
      intro v' w6 hr2 hg2 hk2
      have hE6 := Lib.hid (hk2 w (by have := hE5.out.size; omega) (hE5.out.alloc _))
      have hg6 : Ext w5 w6 ∨ True := .inr trivial
      have hkp : ∀ k : Nat, ∀ t cs, k < w1.heap.size + 1 → Blk w5 k t cs → Blk w6 k t cs := fun k t cs hk hb => (hg2.block k (by have := hb.lt; simp; omega) (fun e => by
       have := hrow5.out.lt k e.symm; omega)).trans (hb.alloc _)
      have hT6 := hkp _ _ _ (by omega) hT5.out
      have hB6 := hkp _ _ _ (by omega) hB5.out
      have hR6 := hkp _ _ _ (by omega) hR5.out
      clear hg2 hk2 hkp tc tf tl hg6
      obtain ⟨tc, tf, tl⟩ := hT6.rules
      replace hT6 := Lib.hid hT6
      replace hB6 := Lib.hid hB6
      replace hR6 := Lib.hid hR6
      obtain ⟨gg, cap, rfl⟩ := row_succ hr2
      replace hr2 := Lib.hid hr2
      go_wp2_with fail
      exact ⟨⟨x + 1, by omega, by go_num, hB6.out.far (by simp; omega) _, hR6.out.far (by simp; omega) _, ⟨_, by simpa using hT6.out.set_ 2 _, by
       have h := own_set_ (p := ⟨w1.heap.size, 2, none⟩) hr2.out (by simp) (.slice (some ⟨gg, 0, none⟩) (y * (Wn + 4) + x + 1) cap)
       rw [show y * (Wn + 4) + (x + 1) = y * (Wn + 4) + x + 1 by omega, List.range_succ, List.map_append, List.map_cons, List.map_nil, hGv.out]
       exact h⟩, hE6.out.setCell (by simp; omega) _⟩, by simp only [intOf]; omega⟩
    ·obtain rfl : x = Wn + 4 := by omega
     go_wp2_with fail
     exact ⟨⟨y + 1, by omega, by go_num, hB, hR, ⟨v1, hT, by rw [show (y + 1) * (Wn + 4) = y * (Wn + 4) + (Wn + 4) by rw [Nat.add_mul]; omega]; exact hrow⟩, hE⟩, by simp only [intOf]; omega⟩
  ·obtain rfl : y = Hn + 4 := by omega
   obtain ⟨A', c', rfl, hcap, hM⟩ := Mine.of_row hrow (F := G) (fun k hk => row_get hk)
   have hfin := hpost.out (.returned (.tuple #[img ((Wn : Int) + 4) ((Hn : Int) + 4) A' ((Hn + 4) * (Wn + 4)) c', .int .i64 0])) (((wr.setCell ⟨w.heap.size + 1, 0, none⟩ (.int .i64 ((Wn : Int) + 4))).setCell ⟨w.heap.size + 1, 1, none⟩ (.int .i64 ((Hn : Int) + 4))).setCell ⟨w.heap.size + 1, 2, none⟩ (.slice A' ((Hn + 4) * (Wn + 4)) c'))
    ⟨A', c', _, rfl, ⟨hcap, by rw [Int.natCast_mul, Int.mul_comm, Int.natCast_add, Int.natCast_add]; rfl⟩, ((hM.set_ (p := ⟨w.heap.size + 1, 0, none⟩) (by simp; omega) _).set_ (p := ⟨w.heap.size + 1, 1, none⟩) (by simp; omega) _).set_ (p := ⟨w.heap.size + 1, 2, none⟩) (by simp; omega) _ |>.less (by omega),
      ((hE.setCell (by simp) _).setCell (by simp) _).setCell (by simp) _⟩
   replace hfin := Lib.hid hfin
   obtain ⟨rc, rf, rl'⟩ := hR.rules
   clear hpost hE hM hrow
   go_wp2_with fail
   exact bodyPost_ret (v := .tuple #[img ((Wn : Int) + 4) ((Hn : Int) + 4) A' ((Hn + 4) * (Wn + 4)) c', .int .i64 0]) (by simp [results, Try.results88, go_sem, *]) rfl hfin.out

theorem IPut_any (W H : Int) (A : Option Addr) (n c : Nat) (dot : Nat → Bool) (dx dy : Int) (w : World) (hA : Bools w A n dot) :
 Calls Try.prog 82 #[bmp W H A n c, .int .i64 dx, .int .i64 dy] w (PutPost W H n dot dx dy w) := by
 by_cases h : chk W H n = 0
 ·have hk := okB h
  obtain ⟨Wn, rfl⟩ := Int.eq_ofNat_of_zero_le hk.1
  obtain ⟨Hn, rfl⟩ := Int.eq_ofNat_of_zero_le hk.2.2.1
  cases hs : shiftB dx dy
  ·have he : putE Wn Hn n dx dy = 3 := by unfold putE; rw [if_pos h, hs]; rfl
   exact (IPut_bad2 Wn Hn A n c dx dy w h hs).mono fun e w' hp => .inl ⟨by rw [he]; omega, by rw [he]; exact hp.1, hp.2⟩
  ·have he : putE Wn Hn n dx dy = 0 := by unfold putE; rw [if_pos h, hs]; rfl
   exact (IPut_ok Wn Hn A n c dot dx dy w h hs hA).mono fun e w' hp => .inr ⟨he, hp⟩
 ·have he : putE W H n dx dy = chk W H n := by unfold putE; rw [if_neg h]
  exact (IPut_bad1 W H A n c dx dy w h).mono fun e w' hp => .inl ⟨by rw [he]; exact h, by rw [he]; exact hp.1, hp.2⟩
theorem RPut_any (W H : Int) (A : Option Addr) (n c : Nat) (dot : Nat → Bool) (dx dy : Int) (w : World) (hA : Bools w A n dot) :
 Calls Try.prog 88 #[bmp W H A n c, .int .i64 dx, .int .i64 dy] w (PutPost W H n dot dx dy w) := by
 by_cases h : chk W H n = 0
 ·have hk := okB h
  obtain ⟨Wn, rfl⟩ := Int.eq_ofNat_of_zero_le hk.1
  obtain ⟨Hn, rfl⟩ := Int.eq_ofNat_of_zero_le hk.2.2.1
  cases hs : shiftB dx dy
  ·have he : putE Wn Hn n dx dy = 3 := by unfold putE; rw [if_pos h, hs]; rfl
   exact (RPut_bad2 Wn Hn A n c dx dy w h hs).mono fun e w' hp => .inl ⟨by rw [he]; omega, by rw [he]; exact hp.1, hp.2⟩
  ·have he : putE Wn Hn n dx dy = 0 := by unfold putE; rw [if_pos h, hs]; rfl
   exact (RPut_ok Wn Hn A n c dot dx dy w h hs hA).mono fun e w' hp => .inr ⟨he, hp⟩
 ·have he : putE W H n dx dy = chk W H n := by unfold putE; rw [if_neg h]
  exact (RPut_bad1 W H A n c dx dy w h).mono fun e w' hp => .inl ⟨by rw [he]; exact h, by rw [he]; exact hp.1, hp.2⟩
attribute [local go_sem] block_add
attribute [local go_sem ↓] Go.wp_at_zero Go.wp_at_succ

def hideF (W : Int) (f : Nat → Int) (a b : Int) (k : Nat) : Int := if a ≤ (k : Int) % W ∧ (k : Int) % W < b then 2 else f k
end Go.Proofs.Ytekkldgmjdllbaa
end
