/- Parts of the proof: ImgFits, ImgFitsA, ImgFitsB, A23k, A23l, A23m, A23o, A23y, A23q, A23s, A23t. -/
import Derived.Test.YtekkldgmjdllbaaProg
import Derived.Test.YtekkldgmjdllbaaG11
import Derived.Test.YtekkldgmjdllbaaHA25sfr01
import Derived.Test.YtekkldgmjdllbaaG16
import Derived.Test.YtekkldgmjdllbaaHA25sfr03
import Derived.Test.YtekkldgmjdllbaaG01
import Derived.WalkKit
import Derived.Lib.Hide
import Derived.Deep.QuietTactic
import Derived.BigQuiet
import Derived.Deep.DrawnRows
import Derived.Deep.AppendLies
import Derived.Maps.AppendAt
import Derived.OwnWalk
import Derived.StillTail
import Derived.Below
import Derived.Deep.Draws
import Derived.KernelRfl
import Derived.Test.YtekkldgmjdllbaaG15
import Derived.Test.YtekkldgmjdllbaaHA25sfr02
import Derived.Test.YtekkldgmjdllbaaHA25sfr04
import Derived.Test.YtekkldgmjdllbaaG08
import Derived.Test.YtekkldgmjdllbaaG10
import Derived.Laws.Cover3
import Derived.Test.YtekkldgmjdllbaaG14
import Derived.Laws.StructEq
import Derived.Test.YtekkldgmjdllbaaG07
import Derived.Test.YtekkldgmjdllbaaG06
import Derived.Test.YtekkldgmjdllbaaG05
import Derived.Great.BuildSlice
import Derived.Test.YtekkldgmjdllbaaG04
import Derived.Test.YtekkldgmjdllbaaG03
import Derived.RangeFuncLeaves
import Derived.RangeFuncRecord
import Derived.Test.YtekkldgmjdllbaaG02
import Derived.OrdersIn
import Derived.TacticsIn
import Derived.RangeFuncCalls
import Derived.Test.YtekkldgmjdllbaaG17
import Derived.Test.YtekkldgmjdllbaaG09
import Derived.Shelf.Abstract
import Derived.RangeFuncNested
import Derived.Test.YtekkldgmjdllbaaG18
set_option linter.unusedSimpArgs false
set_option linter.unusedVariables false
section
namespace Go.Proofs.Ytekkldgmjdllbaa
open Go.RowKit Go.Flow Go.Plain
open Go.Proofs
attribute [local go_sem] block_add
attribute [local go_sem ↓] Go.wp_at_zero Go.wp_at_succ

def bothB (a b : Int) (f g : Nat → Int) (k : Nat) : Bool := f k == a && g k == b
set_option maxHeartbeats 1000000 in
set_option maxRecDepth 100000 in
theorem fits1_any (k n m gf d : Nat) (W H : Int) (B : Option Addr) (f g : Nat → Int) (w : World) (hk : k < m) (hm : m ≤ 1000000) (hG : Blk w gf 75 #[.int .i64 W, .int .i64 H, .slice B m d]) (hB : Ints w B m g) :
 Calls Try.prog 131 #[.int .i64 k, .int .i64 (f k), .pointer (some ⟨gf, 0, none⟩)] w fun e w' => e = .returned (.bool (bothB 0 1 f g k)) ∧ w = w' := by
 obtain ⟨v, hv⟩ : ∃ v, bothB 0 1 f g k = v := ⟨_, rfl⟩
 rw [hv]
 replace hv := Lib.hid hv
 obtain ⟨gc, gff, gfl⟩ := hG.rules
 have hk' : (k : Int) < m := by omega
 obtain ⟨ad, rfl, hc⟩ := hB k hk
 obtain ⟨p, hp⟩ : ∃ p, f k = p := ⟨_, rfl⟩
 obtain ⟨q, hq⟩ : ∃ q, g k = q := ⟨_, rfl⟩
 rw [hp]
 simp only [hq] at hc
 by_cases h1 : p = 0
 ·have h1' : (p == 0) = true := by simpa using h1
  have hv2 : (q == 1) = v := by have := hv.out; unfold bothB at this; rw [hp, hq, h1'] at this; simpa using this
  replace hp := Lib.hid hp
  replace hq := Lib.hid hq
  replace hG := Lib.hid hG
  clear h1
  go_enter Try.func131, Try.ntmps131
  go_wp2_with fail
  go_ret
  exact ⟨by first | rfl | (rw [← hv2]), rfl⟩
 ·have h1' : (p == 0) = false := by simpa using h1
  have hv2 : v = false := by have := hv.out; unfold bothB at this; rw [hp, h1'] at this; simpa using this.symm
  subst hv2
  replace hp := Lib.hid hp
  replace hq := Lib.hid hq
  replace hG := Lib.hid hG
  clear h1
  go_enter Try.func131, Try.ntmps131
  go_wp2_with fail
  go_ret
  exact ⟨rfl, rfl⟩

set_option maxHeartbeats 1000000 in
set_option maxRecDepth 100000 in
theorem fits2_any (k n m gf d : Nat) (W H : Int) (B : Option Addr) (f g : Nat → Int) (w : World) (hk : k < m) (hm : m ≤ 1000000) (hG : Blk w gf 75 #[.int .i64 W, .int .i64 H, .slice B m d]) (hB : Ints w B m g) :
 Calls Try.prog 132 #[.int .i64 k, .int .i64 (f k), .pointer (some ⟨gf, 0, none⟩)] w fun e w' => e = .returned (.bool (bothB 1 0 f g k)) ∧ w = w' := by
 obtain ⟨v, hv⟩ : ∃ v, bothB 1 0 f g k = v := ⟨_, rfl⟩
 rw [hv]
 replace hv := Lib.hid hv
 obtain ⟨gc, gff, gfl⟩ := hG.rules
 have hk' : (k : Int) < m := by omega
 obtain ⟨ad, rfl, hc⟩ := hB k hk
 obtain ⟨p, hp⟩ : ∃ p, f k = p := ⟨_, rfl⟩
 obtain ⟨q, hq⟩ : ∃ q, g k = q := ⟨_, rfl⟩
 rw [hp]
 simp only [hq] at hc
 by_cases h1 : p = 1
 ·have h1' : (p == 1) = true := by simpa using h1
  have hv2 : (q == 0) = v := by have := hv.out; unfold bothB at this; rw [hp, hq, h1'] at this; simpa using this
  replace hp := Lib.hid hp
  replace hq := Lib.hid hq
  replace hG := Lib.hid hG
  clear h1
  go_enter Try.func132, Try.ntmps132
  go_wp2_with fail
  go_ret
  exact ⟨by first | rfl | (rw [← hv2]), rfl⟩
 ·have h1' : (p == 1) = false := by simpa using h1
  have hv2 : v = false := by have := hv.out; unfold bothB at this; rw [hp, h1'] at this; simpa using this.symm
  subst hv2
  replace hp := Lib.hid hp
  replace hq := Lib.hid hq
  replace hG := Lib.hid hG
  clear h1
  go_enter Try.func132, Try.ntmps132
  go_wp2_with fail
  go_ret
  exact ⟨rfl, rfl⟩

set_option maxHeartbeats 1000000 in
set_option maxRecDepth 100000 in
theorem countFits1_any (A : Option Addr) (n c m gf d : Nat) (W H : Int) (B : Option Addr) (f g : Nat → Int) (w : World) (hn : n ≤ 1000000) (hm : m ≤ 1000000) (hnm : n ≤ m) (hA : Ints w A n f) (hG : Blk w gf 75 #[.int .i64 W, .int .i64 H, .slice B m d]) (hB : Ints w B m g) :
 Calls Try.prog 130 #[.slice A n c, .func (.func 131) #[] #[.pointer (some ⟨gf, 0, none⟩)]] w fun e w' => e = .returned (.int .i64 (cnt (bothB 0 1 f g) n)) ∧ w = w' := by
 replace hG := Lib.hid hG
 replace hB := Lib.hid hB
 go_enter Try.func130, Try.ntmps130
 go_wp2_with fail
 go_loopw [5, 10] (fun x i wr => ∃ k : Nat, k ≤ n ∧ i = .int .i64 k ∧ x = .int .i64 (cnt (bothB 0 1 f g) k) ∧ w = wr) (fun _ i _ => n - (intOf i).toNat)
 case atStart => exact ⟨0, by omega, rfl, rfl, rfl⟩
 case round =>
  obtain ⟨k, hk, rfl, rfl, rfl⟩ := hrel
  have hc0 := cnt_nonneg (bothB 0 1 f g) k
  have hc1 := cnt_le (bothB 0 1 f g) k
  by_cases hlt : k < n
  ·have hlt' : (k : Int) < n := by omega
   obtain ⟨ad, rfl, hc⟩ := hA k hlt
   have hal := lt_of_cell hc
   have hs := cnt_succ (bothB 0 1 f g) k
   have hlw := fits1_any k n m gf d W H B f g w (by omega) hm hG.out hB.out
   obtain ⟨p, hp⟩ : ∃ p, f k = p := ⟨_, rfl⟩
   obtain ⟨v, hv⟩ : ∃ v, bothB 0 1 f g k = v := ⟨_, rfl⟩
   rw [hv] at hs hlw
   rw [hp] at hlw
   simp only [hp] at hc
   replace hp := Lib.hid hp
   replace hv := Lib.hid hv
   replace hlw := Lib.hid hlw
   cases v
   ·simp only [Bool.false_eq_true, if_false, Int.add_zero] at hs
    replace hs := Lib.hid hs
    go_wp2_with (go_at_call 131; refine hlw.out.mono ?_; rintro e w' ⟨rfl, rfl⟩)
    exact ⟨⟨k + 1, by omega, by go_num, by rw [hs.out], trivial⟩, by simp only [intOf]; omega⟩
   ·simp only [if_true] at hs
    replace hs := Lib.hid hs
    go_wp2_with (go_at_call 131; refine hlw.out.mono ?_; rintro e w' ⟨rfl, rfl⟩)
    exact ⟨⟨k + 1, by omega, by go_num, by rw [hs.out], trivial⟩, by simp only [intOf]; omega⟩
  ·obtain rfl : k = n := by omega
   have hlt' : ¬ ((k : Int) < k) := by omega
   go_wp2_with fail
   go_ret
   exact ⟨rfl, rfl⟩

set_option maxHeartbeats 1000000 in
set_option maxRecDepth 100000 in
theorem countFits2_any (A : Option Addr) (n c m gf d : Nat) (W H : Int) (B : Option Addr) (f g : Nat → Int) (w : World) (hn : n ≤ 1000000) (hm : m ≤ 1000000) (hnm : n ≤ m) (hA : Ints w A n f) (hG : Blk w gf 75 #[.int .i64 W, .int .i64 H, .slice B m d]) (hB : Ints w B m g) :
 Calls Try.prog 130 #[.slice A n c, .func (.func 132) #[] #[.pointer (some ⟨gf, 0, none⟩)]] w fun e w' => e = .returned (.int .i64 (cnt (bothB 1 0 f g) n)) ∧ w = w' := by
 replace hG := Lib.hid hG
 replace hB := Lib.hid hB
 go_enter Try.func130, Try.ntmps130
 go_wp2_with fail
 go_loopw [5, 10] (fun x i wr => ∃ k : Nat, k ≤ n ∧ i = .int .i64 k ∧ x = .int .i64 (cnt (bothB 1 0 f g) k) ∧ w = wr) (fun _ i _ => n - (intOf i).toNat)
 case atStart => exact ⟨0, by omega, rfl, rfl, rfl⟩
 case round =>
  obtain ⟨k, hk, rfl, rfl, rfl⟩ := hrel
  have hc0 := cnt_nonneg (bothB 1 0 f g) k
  have hc1 := cnt_le (bothB 1 0 f g) k
  by_cases hlt : k < n
  ·have hlt' : (k : Int) < n := by omega
   obtain ⟨ad, rfl, hc⟩ := hA k hlt
   have hal := lt_of_cell hc
   have hs := cnt_succ (bothB 1 0 f g) k
   have hlw := fits2_any k n m gf d W H B f g w (by omega) hm hG.out hB.out
   obtain ⟨p, hp⟩ : ∃ p, f k = p := ⟨_, rfl⟩
   obtain ⟨v, hv⟩ : ∃ v, bothB 1 0 f g k = v := ⟨_, rfl⟩
   rw [hv] at hs hlw
   rw [hp] at hlw
   simp only [hp] at hc
   replace hp := Lib.hid hp
   replace hv := Lib.hid hv
   replace hlw := Lib.hid hlw
   cases v
   ·simp only [Bool.false_eq_true, if_false, Int.add_zero] at hs
    replace hs := Lib.hid hs
    go_wp2_with (go_at_call 132; refine hlw.out.mono ?_; rintro e w' ⟨rfl, rfl⟩)
    exact ⟨⟨k + 1, by omega, by go_num, by rw [hs.out], trivial⟩, by simp only [intOf]; omega⟩
   ·simp only [if_true] at hs
    replace hs := Lib.hid hs
    go_wp2_with (go_at_call 132; refine hlw.out.mono ?_; rintro e w' ⟨rfl, rfl⟩)
    exact ⟨⟨k + 1, by omega, by go_num, by rw [hs.out], trivial⟩, by simp only [intOf]; omega⟩
  ·obtain rfl : k = n := by omega
   have hlt' : ¬ ((k : Int) < k) := by omega
   go_wp2_with fail
   go_ret
   exact ⟨rfl, rfl⟩
attribute [local go_sem] block_add
attribute [local go_sem ↓] Go.wp_at_zero Go.wp_at_succ

set_option maxHeartbeats 1000000 in
set_option maxRecDepth 100000 in
theorem Fits_ok (W H : Int) (A : Option Addr) (n c : Nat) (f : Nat → Int) (W' H' : Int) (B : Option Addr) (m d : Nat) (dot : Nat → Bool) (dx dy : Int) (w : World) (hA : Ints w A n f) (hB : Bools w B m dot) (hok : chkI W H n f = 0) (hp : putE W' H' m dx dy = 0) (hw : W = W' + 4) (hh : H = H' + 4) :
 Calls Try.prog 91 #[img W H A n c, bmp W' H' B m d, .int .i64 dx, .int .i64 dy] w fun e w' => e = .returned (.tuple #[.int .i64 (cnt (bothB 0 1 f (putF W' H' dot dx dy)) n), .int .i64 (cnt (bothB 1 0 f (putF W' H' dot dx dy)) n), .bool true]) ∧ Ext w w' := by
 have hsh := (chkI_ok.1 hok).1
 have hn := hsh.2.2.2.2
 have hnb : n ≤ 10000 := by
  have h1 := areaI ⟨hsh.1, hsh.2.1⟩ ⟨hsh.2.2.1, hsh.2.2.2.1⟩
  omega
 have hne : (chkI W H n f != 0) = false := by simpa using hok
 have d1 : (W != W' + 4) = false := by simpa using hw
 have d2 : (H != H' + 4) = false := by simpa using hh
 have hE0 := Lib.hid (((Ext.refl w).alloc (.cells #[.int .i64 W, .int .i64 H, .slice A n c] 75)).alloc (.cells #[.int .i64 W', .int .i64 H', .slice B m d] 31))
 have hX0 := Lib.hid ((Blk.new w 75 #[.int .i64 W, .int .i64 H, .slice A n c]).alloc (.cells #[.int .i64 W', .int .i64 H', .slice B m d] 31))
 replace hok := Lib.hid hok
 replace hp := Lib.hid hp
 replace hw := Lib.hid hw
 replace hh := Lib.hid hh
 replace hn := Lib.hid hn
 clear hsh
 go_enter Try.func91, Try.ntmps91
 go_wp2_with fail
 refine (IPut_any W' H' B m d dot dx dy _ (hB.ext hE0.out)).mono ?_
 rintro e w1 (⟨h0, -⟩ | ⟨-, C, cC, k, rfl, ⟨-, hk⟩, hM, hE1⟩)
 ·exact absurd hp.out h0
 have hkn : k = n := by
  have h1 := hn.out
  rw [hw.out, hh.out, ← hk] at h1
  omega
 subst hkn
 have hX1 := hX0.out.ext hE1
 have hE1' := hE0.out.trans hE1
 have hws := hX1.lt
 obtain ⟨xc, xf, xl⟩ := hX1.rules
 replace hX1 := Lib.hid hX1
 have hM2 := Lib.hid (hM.arr)
 clear hM hE1 hk
 replace hE1' := Lib.hid hE1'
 have hT1 := Lib.hid (Blk.new w1 75 #[.int .i64 (W' + 4), .int .i64 (H' + 4), .slice C k cC])
 go_wp2_with fail
 refine (ICheck_any W H A k c f _ (by omega) (hA.ext (hE1'.out.alloc _))).mono ?_
 rintro e w2 ⟨rfl, hE2⟩
 have hX2 := (hX1.out.alloc _).ext hE2
 have hT2 := hT1.out.ext hE2
 have hA2 := Lib.hid (hA.ext ((hE1'.out.alloc _).trans hE2))
 have hM3 := Lib.hid ((hM2.out.ext ((Ext.refl _).alloc _)).ext hE2)
 have hE3 := Lib.hid ((hE1'.out.alloc _).trans hE2)
 clear xc xf xl
 obtain ⟨xc, xf, xl⟩ := hX2.rules
 obtain ⟨tc, tf, tl⟩ := hT2.rules
 replace hT2 := Lib.hid hT2
 clear hE2 hX2 hT1 hX1 hM2
 go_wp2_with fail
 refine (countFits1_any A k c k w1.heap.size cC (W' + 4) (H' + 4) C f (putF W' H' dot dx dy) w2 (by omega) (by omega) (by omega) hA2.out hT2.out hM3.out).mono ?_
 rintro e w3 ⟨rfl, rfl⟩
 go_wp2_with fail
 refine (countFits2_any A k c k w1.heap.size cC (W' + 4) (H' + 4) C f (putF W' H' dot dx dy) w2 (by omega) (by omega) (by omega) hA2.out hT2.out hM3.out).mono ?_
 rintro e w3 ⟨rfl, rfl⟩
 go_wp2_with fail
 exact bodyPost_ret (v := .tuple #[.int .i64 (cnt (bothB 0 1 f (putF W' H' dot dx dy)) k), .int .i64 (cnt (bothB 1 0 f (putF W' H' dot dx dy)) k), .bool true]) (by simp [results, Try.results91, go_sem, *]) rfl ⟨rfl, hE3.out⟩
attribute [local go_sem] block_add
attribute [local go_sem ↓] Go.wp_at_zero Go.wp_at_succ

set_option maxHeartbeats 1000000 in
set_option maxRecDepth 100000 in
theorem Fits_bad (W H : Int) (A : Option Addr) (n c : Nat) (f : Nat → Int) (W' H' : Int) (B : Option Addr) (m d : Nat) (dot : Nat → Bool) (dx dy : Int) (w : World) (hA : Ints w A n f) (hB : Bools w B m dot) (hnn : n ≤ 4611686018427387904) (hbad : ¬ (putE W' H' m dx dy = 0 ∧ chkI W H n f = 0 ∧ W = W' + 4 ∧ H = H' + 4)) :
 Calls Try.prog 91 #[img W H A n c, bmp W' H' B m d, .int .i64 dx, .int .i64 dy] w fun e w' => e = .returned (.tuple #[.int .i64 0, .int .i64 0, .bool false]) ∧ Ext w w' := by
 have hE0 := Lib.hid (((Ext.refl w).alloc (.cells #[.int .i64 W, .int .i64 H, .slice A n c] 75)).alloc (.cells #[.int .i64 W', .int .i64 H', .slice B m d] 31))
 have hX0 := Lib.hid ((Blk.new w 75 #[.int .i64 W, .int .i64 H, .slice A n c]).alloc (.cells #[.int .i64 W', .int .i64 H', .slice B m d] 31))
 replace hbad := Lib.hid hbad
 go_enter Try.func91, Try.ntmps91
 go_wp2_with fail
 refine (IPut_any W' H' B m d dot dx dy _ (hB.ext hE0.out)).mono ?_
 rintro e w1 (⟨h0, rfl, hE1⟩ | ⟨hp, C, cC, k, rfl, ⟨-, hk⟩, hM, hE1⟩)
 ·have h0' : (putE W' H' m dx dy != 0) = true := by simpa using h0
  have hE3 := Lib.hid ((hE0.out.trans hE1).alloc (.cells #[.int .i64 0, .int .i64 0, .slice none 0 0] 75))
  replace h0 := Lib.hid h0
  clear hE1
  go_wp2_with fail
  exact bodyPost_ret (v := .tuple #[.int .i64 0, .int .i64 0, .bool false]) (by simp [results, Try.results91, go_sem, *]) rfl ⟨rfl, hE3.out⟩
 ·have hX1 := hX0.out.ext hE1
  have hE1' := hE0.out.trans hE1
  have hws := hX1.lt
  obtain ⟨xc, xf, xl⟩ := hX1.rules
  replace hX1 := Lib.hid hX1
  clear hM hE1 hk
  replace hp := Lib.hid hp
  replace hE1' := Lib.hid hE1'
  have hT1 := Lib.hid (Blk.new w1 75 #[.int .i64 (W' + 4), .int .i64 (H' + 4), .slice C k cC])
  go_wp2_with fail
  refine (ICheck_any W H A n c f _ hnn (hA.ext (hE1'.out.alloc _))).mono ?_
  rintro e w2 ⟨rfl, hE2⟩
  have hX2 := (hX1.out.alloc _).ext hE2
  have hT2 := hT1.out.ext hE2
  have hE3 := Lib.hid ((hE1'.out.alloc _).trans hE2)
  clear xc xf xl
  obtain ⟨xc, xf, xl⟩ := hX2.rules
  obtain ⟨tc, tf, tl⟩ := hT2.rules
  clear hE2 hX2 hT1 hX1 hT2
  by_cases hok : chkI W H n f = 0
  ·have hne : (chkI W H n f != 0) = false := by simpa using hok
   by_cases h1 : W = W' + 4
   ·have d1 : (W != W' + 4) = false := by simpa using h1
    have h2 : H ≠ H' + 4 := fun h2 => hbad.out ⟨hp.out, hok, h1, h2⟩
    have d2 : (H != H' + 4) = true := bne_iff_ne.mpr h2
    replace hok := Lib.hid hok
    replace h1 := Lib.hid h1
    replace h2 := Lib.hid h2
    go_wp2_with fail
    exact bodyPost_ret (v := .tuple #[.int .i64 0, .int .i64 0, .bool false]) (by simp [results, Try.results91, go_sem, *]) rfl ⟨rfl, hE3.out⟩
   ·have d1 : (W != W' + 4) = true := bne_iff_ne.mpr h1
    replace hok := Lib.hid hok
    replace h1 := Lib.hid h1
    go_wp2_with fail
    exact bodyPost_ret (v := .tuple #[.int .i64 0, .int .i64 0, .bool false]) (by simp [results, Try.results91, go_sem, *]) rfl ⟨rfl, hE3.out⟩
  ·have hne : (chkI W H n f != 0) = true := bne_iff_ne.mpr hok
   replace hok := Lib.hid hok
   go_wp2_with fail
   exact bodyPost_ret (v := .tuple #[.int .i64 0, .int .i64 0, .bool false]) (by simp [results, Try.results91, go_sem, *]) rfl ⟨rfl, hE3.out⟩
end Go.Proofs.Ytekkldgmjdllbaa
end
section
namespace Go.Proofs.Ytekkldgmjdllbaa
open Go.RowKit Go.Flow Go.AV Go.Plain
abbrev ipC (x : Ip) : List CV := imgV x.W x.H x.n x.f
abbrev bpF (b : Bp) (dx dy : Int) : Nat → Int := putF b.W b.H b.d dx dy
def fitN (x : Ip) (b : Bp) (dx dy : Int) (i j : Int) : Int := if fitOk x b dx dy then cnt (bothB i j x.f (bpF b dx dy)) x.n else 0
abbrev fitV (x : Ip) (b : Bp) (dx dy : Int) : AV := .tu [.c (iC (fitN x b dx dy 0 1)), .c (iC (fitN x b dx dy 1 0)), .c (bC (decide (fitOk x b dx dy)))]
theorem iFits_A (x : Ip) (b : Bp) (dx dy : Int) (hn : x.n ≤ 4611686018427387904) : ACalls Try.prog 91 [.ag (ipC x), .ag (bpC b), .c (iC dx), .c (iC dy)] (fitV x b dx dy) :=
 ACalls.of fun O w vals hO hv => by
  obtain ⟨v1, v2, v3, v4, rfl, h1, h2, h3, h4⟩ := args4 hv
  obtain ⟨A, c, rfl, -, hA⟩ := rep_img h1
  obtain ⟨B, d, rfl, -, hB⟩ := rep_bmp h2
  cases rep_c h3
  cases rep_c h4
  unfold fitV fitN
  by_cases hok : fitOk x b dx dy
  ·rw [if_pos hok, if_pos hok, decide_eq_true hok]
   exact (Fits_ok x.W x.H A x.n c x.f b.W b.H B b.n d b.d dx dy w hA hB hok.2.1 hok.1 hok.2.2.1 hok.2.2.2).mono fun e w' ⟨g1, g2⟩ => ⟨_, g1, ⟨[_, _, _], rfl, ⟨rfl, rfl⟩, ⟨rfl, rfl⟩, ⟨rfl, rfl⟩, trivial⟩, g2⟩
  ·rw [if_neg hok, if_neg hok, decide_eq_false hok]
   exact (Fits_bad x.W x.H A x.n c x.f b.W b.H B b.n d b.d dx dy w hA hB hn hok).mono fun e w' ⟨g1, g2⟩ => ⟨_, g1, ⟨[_, _, _], rfl, ⟨rfl, rfl⟩, ⟨rfl, rfl⟩, ⟨rfl, rfl⟩, trivial⟩, g2⟩
theorem bgN_bd (N : Nat) (f : Nat → Int) : (0 ≤ (bgN N f).lo ∧ (bgN N f).lo < 5) ∧ (0 ≤ (bgN N f).bl ∧ (bgN N f).bl < 4) ∧ (0 ≤ (bgN N f).sh ∧ (bgN N f).sh < 2) ∧ 0 ≤ (bgN N f).st ∧ (bgN N f).st < 4 :=
 ⟨dval_bd _ _ _ _ (by omega), dval_bd _ _ _ _ (by omega), dval_bd _ _ _ _ (by omega), dval_bd _ _ _ _ (by omega)⟩
def dt (N : Nat) : Nat → Nat
 | 0 => 0
 | k + 1 => dat N (dt N k)
theorem dt_le (N : Nat) : ∀ k, dt N k ≤ N
 | 0 => Nat.zero_le _
 | k + 1 => dat_le (dt_le N k)
abbrev nx (N : Nat) (f : Nat → Int) (k : Nat) (m : Int) : Int := dval N f (dt N k) m
theorem Next_k (N : Nat) (f : Nat → Int) (k : Nat) (m : Int) (hN : N ≤ 4611686018427387904) (hm : 0 < m) (hM : m ≤ 1000000) : HCalls Try.prog 87 [.c (.pt 1000 2 0 0), .c (iC m)] [(1000, drawB N f (dt N k))] (.c (iC (nx N f k m))) [(1000, drawB N f (dt N (k + 1)))] := Next_A N f (dt N k) m (dt_le N k) hN hm hM
abbrev mcC (x : Mc) : List CV := [iC x.dx, iC x.dy, iC x.lo, iC x.bl]
def exB (x : Ip) (b : Bp) (y : Bg) (p : Int × Int) : Bool := decide (fitOk x b p.1 p.2 ∧ fitN x b p.1 p.2 0 1 ≤ y.lo ∧ fitN x b p.1 p.2 1 0 ≤ y.bl)
def exL (x : Ip) (b : Bp) (y : Bg) : List (Int × Int) := shL (lim4 y).sh.toNat
def exV (x : Ip) (b : Bp) (y : Bg) : Mc × Bool := match (exL x b y).find? (exB x b (lim4 y)) with
 | some p => (⟨p.1, p.2, fitN x b p.1 p.2 0 1, fitN x b p.1 p.2 1 0⟩, true)
 | none => (⟨0, 0, 0, 0⟩, false)
theorem exV_hit {x : Ip} {b : Bp} {y : Bg} {k : Nat} (hk : k < (exL x b y).length) (h : exB x b (lim4 y) ((exL x b y).getD k mvZ) = true) (hn : ∀ i, i < k → exB x b (lim4 y) ((exL x b y).getD i mvZ) = false) :
 exV x b y = (⟨((exL x b y).getD k mvZ).1, ((exL x b y).getD k mvZ).2, fitN x b ((exL x b y).getD k mvZ).1 ((exL x b y).getD k mvZ).2 0 1, fitN x b ((exL x b y).getD k mvZ).1 ((exL x b y).getD k mvZ).2 1 0⟩, true) := by
 have hg : ∀ i (hi : i < (exL x b y).length), (exL x b y).getD i mvZ = (exL x b y)[i] := fun i hi => by rw [List.getD_eq_getElem?_getD, List.getElem?_eq_getElem hi]; rfl
 have : (exL x b y).find? (exB x b (lim4 y)) = some ((exL x b y).getD k mvZ) := by
  rw [List.find?_eq_some_iff_getElem]
  refine ⟨h, k, hk, (hg k hk).symm, fun j hj => ?_⟩
  rw [← hg j (by omega), hn j hj]
  rfl
 unfold exV
 rw [this]
theorem exV_miss {x : Ip} {b : Bp} {y : Bg} (hn : ∀ i, i < (exL x b y).length → exB x b (lim4 y) ((exL x b y).getD i mvZ) = false) : exV x b y = (⟨0, 0, 0, 0⟩, false) := by
 have : (exL x b y).find? (exB x b (lim4 y)) = none := by
  rw [List.find?_eq_none]
  intro p hp
  obtain ⟨i, hi, rfl⟩ := List.getElem_of_mem hp
  have := hn i hi
  rw [List.getD_eq_getElem?_getD, List.getElem?_eq_getElem hi] at this
  exact fun h => by rw [show exB x b (lim4 y) (exL x b y)[i] = false from this] at h; cases h
 unfold exV
 rw [this]
theorem lim_sh (y : Bg) : 0 ≤ (lim4 y).sh ∧ (lim4 y).sh ≤ 2 := by simp only [lim4, lim1]; omega
theorem cnt_none {q : Nat → Bool} {n : Nat} (h : ∀ k, k < n → q k = false) : cnt q n = 0 := by
 induction n with
 | zero => rfl
 | succ n ih => rw [cnt_succ, ih fun k hk => h k (by omega), h n (by omega)]; rfl
theorem cnt_but (q : Nat → Bool) (a : Nat) : ∀ n, cnt q n ≤ cnt (fun p => q p && !(Nat.beq p a)) n + (if a < n then 1 else 0)
 | 0 => by simp [cnt, sumTo]
 | n + 1 => by
   rw [cnt_succ, cnt_succ]
   have ih := cnt_but q a n
   by_cases h : n = a
   ·subst h
    rw [if_pos (by omega : n < n + 1)]
    rw [if_neg (by omega : ¬ n < n)] at ih
    rw [show Nat.beq n n = true from Nat.beq_refl n]
    cases q n <;> simp <;> omega
   ·rw [show Nat.beq n a = false from Bool.eq_false_iff.2 fun e => h (Nat.eq_of_beq_eq_true e)]
    have : (if a < n + 1 then (1 : Int) else 0) = if a < n then 1 else 0 := by split <;> split <;> omega
    rw [this]
    cases q n <;> simp <;> omega
theorem cnt_idx : ∀ (N : Nat) (q : Nat → Bool) (g : Nat → Nat) (n : Nat), (∀ p, p < n → q p = true → ∃ i, i < N ∧ g i = p) → cnt q n ≤ N
 | 0, q, g, n, h => by
   rw [cnt_none fun k hk => by
    cases hq : q k with
    | false => rfl
    | true => obtain ⟨i, hi, _⟩ := h k hk hq; omega]
   exact Int.le_refl _
 | N + 1, q, g, n, h => by
   have h1 := cnt_but q (g N) n
   have h2 := cnt_idx N (fun p => q p && !(Nat.beq p (g N))) g n fun p hp hq => by
    rw [Bool.and_eq_true, Bool.not_eq_true'] at hq
    obtain ⟨i, hi, rfl⟩ := h p hp hq.1
    refine ⟨i, ?_, rfl⟩
    by_cases e : i = N
    ·subst e
     rw [show Nat.beq (g i) (g i) = true from Nat.beq_refl _] at hq
     cases hq.2
    ·omega
   have : (if g N < n then (1 : Int) else 0) ≤ 1 := by split <;> omega
   have : ((N + 1 : Nat) : Int) = (N : Int) + 1 := by omega
   omega
theorem setL_in {px l : Nat → Int} {v : Int} {p : Nat} : ∀ {N : Nat}, setL px l v N p ≠ px p → ∃ i, i < N ∧ (l i).toNat = p
 | 0, h => absurd rfl h
 | N + 1, h => by
   by_cases e : p = (l N).toNat
   ·exact ⟨N, by omega, e.symm⟩
   ·have h' : setL px l v N p ≠ px p := by
     have : setL px l v (N + 1) p = setL px l v N p := if_neg e
     rw [this] at h
     exact h
    obtain ⟨i, hi, h2⟩ := setL_in h'
    exact ⟨i, by omega, h2⟩
theorem setL_val {px l : Nat → Int} {v : Int} {p : Nat} : ∀ {N : Nat}, setL px l v N p = px p ∨ setL px l v N p = v
 | 0 => .inl rfl
 | N + 1 => by
   by_cases e : p = (l N).toNat
   ·exact .inr (if_pos e)
   ·have : setL px l v (N + 1) p = setL px l v N p := if_neg e
    rw [this]
    exact setL_val
abbrev apP (b : Bp) (h : Ht) : Ip := ⟨b.W + 4, b.H + 4, bpm b, apF b h⟩
theorem ap_fit {b : Bp} {h : Ht} (he : apE b h = 0) : fitOk (apP b h) b h.dx h.dy := by
 obtain ⟨h1, -, h3, h4⟩ := apE_ok he
 have hc : chk b.W b.H b.n = 0 := by
  unfold putE at h1
  split at h1
  ·assumption
  ·rename_i h; exact absurd h1 h
 obtain ⟨k1, k2, k3, k4, -⟩ := okB hc
 refine ⟨h1, chkI_ok.2 ⟨?_, ?_⟩, rfl, rfl⟩
 ·have hm : 0 ≤ (b.W + 4) * (b.H + 4) := Int.mul_nonneg (by omega) (by omega)
  refine ⟨?_, ?_, ?_, ?_, ?_⟩
  all_goals first | (show (0 : Int) ≤ b.W + 4; omega) | (show b.W + 4 ≤ 100; omega) | (show (0 : Int) ≤ b.H + 4; omega) | (show b.H + 4 ≤ 100; omega) | (show ((bpm b : Nat) : Int) = (b.W + 4) * (b.H + 4); exact Int.toNat_of_nonneg hm)
 ·intro k _
  have := setL_bd (px := setL (bpx b h) h.lo 0 h.N) (l := h.bl) (v := 1) (by omega) (setL_bd (l := h.lo) (v := 0) (by omega) (putF_bd b.W b.H b.d h.dx h.dy) h.N) h.M k
  show 0 ≤ hideF _ _ _ _ k ∧ hideF _ _ _ _ k ≤ 2
  unfold hideF
  split <;> omega
theorem ap_lost {b : Bp} {h : Ht} (he : apE b h = 0) : fitN (apP b h) b h.dx h.dy 0 1 ≤ h.N := by
 unfold fitN
 rw [if_pos (ap_fit he)]
 refine cnt_idx h.N _ (fun i => (h.lo i).toNat) _ fun p _ hq => ?_
 unfold bothB at hq
 rw [Bool.and_eq_true, beq_iff_eq, beq_iff_eq] at hq
 obtain ⟨q1, q2⟩ := hq
 have q1' : hideF (b.W + 4) (setL (setL (bpx b h) h.lo 0 h.N) h.bl 1 h.M) h.fr h.ti p = 0 := q1
 have q2' : bpx b h p = 1 := q2
 unfold hideF at q1'
 split at q1'
 ·omega
 ·refine setL_in (px := bpx b h) (v := 0) fun e => ?_
  rcases setL_val (px := setL (bpx b h) h.lo 0 h.N) (l := h.bl) (v := 1) (N := h.M) (p := p) with h1 | h1
  ·rw [q1', e, q2'] at h1; omega
  ·rw [q1'] at h1; omega
theorem ap_blot {b : Bp} {h : Ht} (he : apE b h = 0) : fitN (apP b h) b h.dx h.dy 1 0 ≤ h.M := by
 unfold fitN
 rw [if_pos (ap_fit he)]
 refine cnt_idx h.M _ (fun i => (h.bl i).toNat) _ fun p _ hq => ?_
 unfold bothB at hq
 rw [Bool.and_eq_true, beq_iff_eq, beq_iff_eq] at hq
 obtain ⟨q1, q2⟩ := hq
 have q1' : hideF (b.W + 4) (setL (setL (bpx b h) h.lo 0 h.N) h.bl 1 h.M) h.fr h.ti p = 1 := q1
 have q2' : bpx b h p = 0 := q2
 unfold hideF at q1'
 split at q1'
 ·omega
 ·refine setL_in (px := setL (bpx b h) h.lo 0 h.N) (v := 1) fun e => ?_
  rcases setL_val (px := bpx b h) (l := h.lo) (v := 0) (N := h.N) (p := p) with h1 | h1
  ·rw [← e, q1', q2'] at h1; omega
  ·rw [← e, q1'] at h1; omega
theorem ex_iff {x : Ip} {b : Bp} {y : Bg} : (exV x b y).2 = true ↔ ∃ p ∈ exL x b y, exB x b (lim4 y) p = true := by
 unfold exV
 cases hf : (exL x b y).find? (exB x b (lim4 y)) with
 | none =>
   rw [List.find?_eq_none] at hf
   exact ⟨fun h => (by cases h), fun ⟨p, hp, h⟩ => absurd h (hf p hp)⟩
 | some p => exact ⟨fun _ => ⟨p, List.mem_of_find?_eq_some hf, List.find?_some hf⟩, fun _ => rfl⟩
def pJ (m s k : Nat) : List (Int × Int) := (List.range k).flatMap fun (j : Nat) =>
 let dy : Int := (j : Int) - min (s : Int) m
 let dx : Int := (s : Int) - max dy (-dy)
 if dx > m then [] else if dx > 0 then [(-dx, dy), (dx, dy)] else [(-dx, dy)]
def pS (m k : Nat) : List (Int × Int) := (List.range k).flatMap fun s => pJ m s (2 * min s m + 1)
def pN (m s j : Nat) : Nat := (pS m s).length + (pJ m s j).length
abbrev pdy (m s j : Nat) : Int := (j : Int) - min (s : Int) m
abbrev pdx (m s j : Nat) : Int := (s : Int) - max (pdy m s j) (-pdy m s j)
def pOk (m s j : Nat) : Bool :=
 if pdx m s j > m then decide (pN m s (j + 1) = pN m s j) else
  decide (pN m s j < (shL m).length ∧ (shL m).getD (pN m s j) mvZ = (-pdx m s j, pdy m s j)) && if pdx m s j > 0 then decide (pN m s j + 1 < (shL m).length ∧ (shL m).getD (pN m s j + 1) mvZ = (pdx m s j, pdy m s j) ∧ pN m s (j + 1) = pN m s j + 2) else decide (pN m s (j + 1) = pN m s j + 1)
def pAll : Bool := (List.range 3).all fun m => (List.range (2 * m + 1)).all fun s => decide (pN m s (2 * min s m + 1) = pN m (s + 1) 0) && (List.range (2 * min s m + 1)).all fun j => pOk m s j
set_option maxRecDepth 100000 in
theorem pAll_ok : pAll = true := by decide +kernel
theorem p_facts (m : Nat) (hm : m < 3) (s : Nat) (hs : s < 2 * m + 1) : pN m s (2 * min s m + 1) = pN m (s + 1) 0 ∧ ∀ j, j < 2 * min s m + 1 →
 (pdx m s j > m → pN m s (j + 1) = pN m s j) ∧
 (pdx m s j ≤ m → pN m s j < (shL m).length ∧ (shL m).getD (pN m s j) mvZ = (-pdx m s j, pdy m s j) ∧ (¬ pdx m s j > 0 → pN m s (j + 1) = pN m s j + 1) ∧
   (pdx m s j > 0 → pN m s j + 1 < (shL m).length ∧ (shL m).getD (pN m s j + 1) mvZ = (pdx m s j, pdy m s j) ∧ pN m s (j + 1) = pN m s j + 2)) := by
 have h := pAll_ok
 unfold pAll at h
 have h1 := List.all_eq_true.1 (List.all_eq_true.1 h m (List.mem_range.2 hm)) s (List.mem_range.2 hs)
 rw [Bool.and_eq_true] at h1
 refine ⟨of_decide_eq_true h1.1, fun j hj => ?_⟩
 have h2 := List.all_eq_true.1 h1.2 j (List.mem_range.2 hj)
 unfold pOk at h2
 by_cases hd : pdx m s j > m
 ·rw [if_pos hd] at h2
  exact ⟨fun _ => of_decide_eq_true h2, fun h => by omega⟩
 ·rw [if_neg hd, Bool.and_eq_true] at h2
  obtain ⟨q1, q2⟩ := of_decide_eq_true h2.1
  refine ⟨fun h => absurd h hd, fun _ => ⟨q1, q2, fun h0 => ?_, fun h0 => ?_⟩⟩
  ·have h3 := h2.2
   rw [if_neg h0] at h3
   exact of_decide_eq_true h3
  ·have h3 := h2.2
   rw [if_pos h0] at h3
   exact of_decide_eq_true h3
theorem p_end (m : Nat) (hm : m < 3) : pN m (2 * m + 1) 0 = (shL m).length ∧ pN m 0 0 = 0 := by
 obtain rfl | rfl | rfl : m = 0 ∨ m = 1 ∨ m = 2 := by omega
 all_goals decide +kernel
def shX (m i : Nat) : List Value := [.int .i64 ((shL m).getD i mvZ).1, .int .i64 ((shL m).getD i mvZ).2]
abbrev plI (i : Int) : CV := .pl 1 1 (fun _ _ => iC i) 0 0
theorem shifts_A (m : Int) : ACalls Try.prog 90 [.c (iC m)] (.c (.fn 129 1 fun i => [plI m].getD i .any)) := by
 refine acalls_at Try.func90 rfl rfl Try.ntmps90 rfl ?_
 repeat (first
  | refine uA ?_
  | refine uB ?_
  | refine AWp.ret ?_
  | (refine rG 0 ?_
     refine qr5 aQ ?_
     refine kC ?_
     refine aB ?_)
  | (refine rG 1 ?_
     refine qr5 AList.makeFn ?_
     refine kC ?_
     refine aB ?_))
 refine ⟨mkSt 4 [(2, .c (.fn 129 1 fun i => [plI m].getD i .any))] [] [], [], Wk.mk [] rfl rfl rfl ⟨⟨_, rfl, .c (LeC.fn _ _ _ _ (fun i hi => ?_) (fun i hi => ?_))⟩, trivial⟩ trivial, rfl, rfl, ARets.one (x := .c _) (ARes.fn rfl fun i hi => ?_)⟩
 all_goals
  have hi1 : i < 1 := hi
  obtain rfl : i = 0 := by omega
 ·exact ⟨trivial, trivial⟩
 ·refine LeC.frzP 1 1 1 0 0 false 3 (lF [iC m]) _ rfl (by omega) (fun k _ j hj => ?_) (fun k _ j hj => ?_) (fun _ h => by cases h) (by omega)
  ·obtain rfl : j = 0 := by omega
   rfl
  ·obtain rfl : j = 0 := by omega
   rfl
 ·rfl
set_option maxHeartbeats 1000000 in
set_option maxRecDepth 100000 in
theorem shiftsIt_A (m : Nat) (hm : m ≤ 2) : ItCalls Try.prog 129 [.c (plI m)] (shX m) (shL m).length := by
 refine itcalls_of Try.func129 rfl rfl Try.ntmps129 rfl fun l N stop hN1 hN2 => ?_
 have hF := p_facts m (by omega)
 obtain ⟨hE, h0⟩ := p_end m (by omega)
 repeat (first
  | refine uA ?_
  | refine uB ?_
  | refine uC ?_
  | (refine rG 0 ?_
     refine qr5o (aV tyOk) ?_
     refine qr4w2 AList.mul ?_
     refine qr4w2 aL ?_
     refine kA ?_
     refine aB ?_))
 refine AWp.round (fun s : Nat => mkG (itG Try.prog l (shX m) N stop) (pN m s 0) false 50 0 [(0, .c (.p (yv l))), (1, .c (plI m)), (8, .c (iC (2 * (m : Int) + 1))), (9, .c (iC s))] [] [])
  (fun s => s ≤ 2 * m + 1 ∧ (stop = true → pN m s 0 < N)) (fun s => 2 * m + 1 - s) 0 ⟨Nat.zero_le _, fun h => by rw [h0]; exact (hN1 h).1⟩ ?_ (fun s hs => ?_)
 ·refine Wk.mkG [] rfl rfl rfl rfl rfl ?_ trivial h0.symm
  exact allT
 ·obtain ⟨hs, hg⟩ := hs
  by_cases hlt : s < 2 * m + 1
  ·obtain ⟨hF1, hF2⟩ := hF s hlt
   repeat (first
    | refine uA ?_
    | refine uB ?_
    | refine uC ?_
    | refine uG ?_
    | refine kT ?_
    | (refine rG 1 ?_
       refine qr5t aK ?_
       refine aB ?_)
    | (refine rG 2 ?_
       refine kA ?_
       refine kC ?_
       refine aB ?_)
    | (refine rG 3 ?_
       refine kA ?_
       refine qr5o (aV tyOk) ?_
       refine qr4 AList.minI ?_
       refine qr3w2 AList.neg ?_
       refine kC ?_
       refine aB ?_))
   refine AWp.round (fun j : Nat => mkG (itG Try.prog l (shX m) N stop) (pN m s j) false 50 0 [(0, .c (.p (yv l))), (1, .c (plI m)), (3, .c (iC s)), (4, .c (iC ((j : Int) - min (s : Int) m))), (8, .c (iC (2 * (m : Int) + 1))), (9, .c (iC s))] [] [])
    (fun j => j ≤ 2 * min s m + 1 ∧ (stop = true → pN m s j < N)) (fun j => 2 * min s m + 1 - j) 0 ⟨Nat.zero_le _, hg⟩ ?_ (fun j hj => ?_)
   ·refine Wk.mkG [] rfl rfl rfl rfl rfl ?_ trivial
    exact allT
   ·obtain ⟨hj, hgj⟩ := hj
    by_cases hltj : j < 2 * min s m + 1
    ·obtain ⟨hA, hB⟩ := hF2 j hltj
     simp only [pdx, pdy] at hA hB
     by_cases hdx : (s : Int) - max ((j : Int) - min (s : Int) m) (-((j : Int) - min (s : Int) m)) > m
     ·repeat (first
       | refine uA ?_
       | refine uB ?_
       | refine uC ?_
       | refine uG ?_
       | refine uH ?_
       | refine thenA_e ?_
       | refine uF ?_
       | refine kT ?_
       | (refine rG 4 ?_
          (iterate 2 refine kA ?_)
          refine qr5o (aV tyOk) ?_
          refine qr4 AList.minI ?_
          refine qr5t aK ?_
          refine aB ?_)
       | (refine rG 5 ?_
          refine kA ?_
          refine qr4w2 aL ?_
          refine kC ?_
          refine aB ?_)
       | (refine rG 6 ?_
          (iterate 3 refine kA ?_)
          refine qr3w2 AList.neg ?_
          refine qr4 AList.maxI ?_
          refine qr4w2 AList.sub ?_
          refine kC ?_
          refine aB ?_)
       | (refine rG 7 ?_
          refine kA ?_
          refine qr5o (aV tyOk) ?_
          refine qr5t aK ?_
          refine aB ?_))
      refine ⟨j + 1, ⟨by omega, by rw [hA hdx]; exact hgj⟩, Wk.mkG [] rfl rfl rfl rfl rfl ?_ trivial (hA hdx).symm, by omega⟩
      exact allT
     ·obtain ⟨hB1, hB2, hB3, hB4⟩ := hB (by omega)
      have hiN : pN m s j < N := by
       cases stop with
       | true => exact hgj rfl
       | false => rw [hN2 rfl]; exact hB1
      repeat (first
       | refine uA ?_
       | refine uB ?_
       | refine uC ?_
       | refine uG ?_
       | refine kT ?_
       | refine kU ?_
       | (refine rG 4 ?_
          (iterate 2 refine kA ?_)
          refine qr5o (aV tyOk) ?_
          refine qr4 AList.minI ?_
          refine qr5t aK ?_
          refine aB ?_)
       | (refine rG 6 ?_
          (iterate 3 refine kA ?_)
          refine qr3w2 AList.neg ?_
          refine qr4 AList.maxI ?_
          refine qr4w2 AList.sub ?_
          refine kC ?_
          refine aB ?_)
       | (refine rG 7 ?_
          refine kA ?_
          refine qr5o (aV tyOk) ?_
          refine qr5f aJ ?_
          refine aB ?_))
      by_cases hd0 : (s : Int) - max ((j : Int) - min (s : Int) m) (-((j : Int) - min (s : Int) m)) > 0
      ·obtain ⟨hC1, hC2, hC3⟩ := hB4 hd0
       cases hg1 : goesB N stop (pN m s j) with
       | false =>
         obtain ⟨hst, hN⟩ := goes_false hg1
         refine AWp.text ?_
         refine AText.split 4 ?_
         (iterate 2 refine kA ?_)
         refine qr3w2 AList.neg ?_
         refine kA ?_
         refine aB ?_
         refine AText.yield (i := pN m s j) false rfl rfl rfl rfl (fun _ h => h) rfl rfl (hiN) ((by unfold shX; rw [hB2])) (hg1) ?_
         refine AText.all ?_
         refine qr3 AList.notB ?_
         refine kA ?_
         (iterate 9 refine qr2 aG ?_)
         refine qr4 aS ?_
         refine aB ?_
         repeat (first
          | refine uB ?_
          | refine AWp.ret ?_
          | refine thenA_r ?_
          | refine uE ?_
          | refine kT ?_)
         exact ⟨hN, hst.symm⟩
       | true =>
         have hi2 : pN m s j + 1 < N := by
          cases stop with
          | true => have := goes_true hg1 rfl; omega
          | false => rw [hN2 rfl]; exact hC1
         cases hg2 : goesB N stop (pN m s j + 1) with
         | false =>
           obtain ⟨hst, hN⟩ := goes_false hg2
           refine AWp.text ?_
           refine AText.split 4 ?_
           (iterate 2 refine kA ?_)
           refine qr3w2 AList.neg ?_
           refine kA ?_
           refine aB ?_
           refine AText.yield (i := pN m s j) true rfl rfl rfl rfl (fun _ h => h) rfl rfl (hiN) ((by unfold shX; rw [hB2])) (hg1) ?_
           refine AText.split 8 ?_
           refine qr3 AList.notB ?_
           (iterate 2 refine kA ?_)
           refine qr5t aK ?_
           (iterate 4 refine kA ?_)
           refine aB ?_
           refine AText.yield (i := pN m s j + 1) false rfl rfl rfl rfl (fun _ h => h) rfl rfl (hi2) ((by unfold shX; rw [hC2])) (hg2) ?_
           refine AText.all ?_
           refine qr3 AList.notB ?_
           refine qr4 aS ?_
           refine qr4 aR ?_
           refine aB ?_
           repeat (first
            | refine uB ?_
            | refine AWp.ret ?_
            | refine thenA_r ?_
            | refine uE ?_
            | refine kT ?_)
           exact ⟨hN, hst.symm⟩
         | true =>
           refine AWp.text ?_
           refine AText.split 4 ?_
           (iterate 2 refine kA ?_)
           refine qr3w2 AList.neg ?_
           refine kA ?_
           refine aB ?_
           refine AText.yield (i := pN m s j) true rfl rfl rfl rfl (fun _ h => h) rfl rfl (hiN) ((by unfold shX; rw [hB2])) (hg1) ?_
           refine AText.split 8 ?_
           refine qr3 AList.notB ?_
           (iterate 2 refine kA ?_)
           refine qr5t aK ?_
           (iterate 4 refine kA ?_)
           refine aB ?_
           refine AText.yield (i := pN m s j + 1) true rfl rfl rfl rfl (fun _ h => h) rfl rfl (hi2) ((by unfold shX; rw [hC2])) (hg2) ?_
           refine AText.all ?_
           refine qr3 AList.notB ?_
           refine qr4 aS ?_
           refine qr4 aR ?_
           refine aB ?_
           repeat (first
            | refine uB ?_
            | refine uG ?_
            | refine uD ?_
            | refine kU ?_
            | (refine rG 5 ?_
               refine kA ?_
               refine qr4w2 aL ?_
               refine kC ?_
               refine aB ?_))
           refine ⟨j + 1, ⟨by omega, fun h => ?_⟩, Wk.mkG [] rfl rfl rfl rfl rfl ?_ trivial hC3.symm, by omega⟩
           ·have := goes_true hg2 h; rw [hC3]; omega
           ·exact allT
      ·cases hg1 : goesB N stop (pN m s j) with
       | false =>
         obtain ⟨hst, hN⟩ := goes_false hg1
         refine AWp.text ?_
         refine AText.split 4 ?_
         (iterate 2 refine kA ?_)
         refine qr3w2 AList.neg ?_
         refine kA ?_
         refine aB ?_
         refine AText.yield (i := pN m s j) false rfl rfl rfl rfl (fun _ h => h) rfl rfl (hiN) ((by unfold shX; rw [hB2])) (hg1) ?_
         refine AText.all ?_
         refine qr3 AList.notB ?_
         refine kA ?_
         (iterate 9 refine qr2 aG ?_)
         refine qr4 aS ?_
         refine aB ?_
         repeat (first
          | refine uB ?_
          | refine AWp.ret ?_
          | refine thenA_r ?_
          | refine uE ?_
          | refine kT ?_)
         exact ⟨hN, hst.symm⟩
       | true =>
         refine AWp.text ?_
         refine AText.split 4 ?_
         (iterate 2 refine kA ?_)
         refine qr3w2 AList.neg ?_
         refine kA ?_
         refine aB ?_
         refine AText.yield (i := pN m s j) true rfl rfl rfl rfl (fun _ h => h) rfl rfl (hiN) ((by unfold shX; rw [hB2])) (hg1) ?_
         refine AText.all ?_
         refine qr3 AList.notB ?_
         (iterate 2 refine kA ?_)
         refine qr5f aJ ?_
         refine kA ?_
         (iterate 5 refine qr2 aG ?_)
         (iterate 2 refine qr4 aR ?_)
         refine aB ?_
         repeat (first
          | refine uB ?_
          | refine uG ?_
          | refine uD ?_
          | refine kU ?_
          | (refine rG 5 ?_
             refine kA ?_
             refine qr4w2 aL ?_
             refine kC ?_
             refine aB ?_))
         refine ⟨j + 1, ⟨by omega, fun h => ?_⟩, Wk.mkG [] rfl rfl rfl rfl rfl ?_ trivial (hB3 hd0).symm, by omega⟩
         ·have := goes_true hg1 h; rw [hB3 hd0]; omega
         ·exact allT
    ·obtain rfl : j = 2 * min s m + 1 := by omega
     repeat (first
      | refine uA ?_
      | refine uB ?_
      | refine uH ?_
      | refine thenA_e ?_
      | refine uD ?_
      | refine uF ?_
      | refine kU ?_
      | (refine rG 4 ?_
         (iterate 2 refine kA ?_)
         refine qr5o (aV tyOk) ?_
         refine qr4 AList.minI ?_
         refine qr5f aJ ?_
         refine aB ?_)
      | (refine rG 9 ?_
         refine qr4w2 aL ?_
         refine kA ?_
         refine aB ?_))
     refine ⟨s + 1, ⟨by omega, by rw [← hF1]; exact hgj⟩, Wk.mkG [] rfl rfl rfl rfl rfl ?_ trivial hF1, by omega⟩
     exact allT
  ·obtain rfl : s = 2 * m + 1 := by omega
   have hst : stop = false := by
    cases stop with
    | false => rfl
    | true => have := hg rfl; have := (hN1 rfl).2; omega
   repeat (first
    | refine uA ?_
    | refine uH ?_
    | refine thenA_e ?_
    | refine uF ?_
    | refine kU ?_
    | (refine rG 1 ?_
       refine qr5f aJ ?_
       refine aB ?_))
   exact ⟨by show pN m (2 * m + 1) 0 = N; rw [hE, hN2 hst], hst.symm⟩
def exB0 (m : Mc) (b : Bool) : List AB := [⟨false, 1, 4, 82, lF (mcC m)⟩, ⟨false, 1, 1, 4, lF [bC b]⟩]
abbrev exSl (x : Ip) (b : Bp) (y : Bg) : List (Nat × AV) := [(3, .c (.pl 1 3 (lF (ipC x)) 0 0)), (4, .c (.pl 1 3 (lF (bpC b)) 0 0)), (5, .c (.pl 1 4 (lF (bgC y)) 0 0)), (6, .c (.pt 1000 4 0 0)), (7, .c (.pt 1001 1 0 0))]
theorem exB0_plain (m : Mc) (b : Bool) : (exB0 m b).length = [6, 7].length ∧ ∀ B ∈ exB0 m b, PlainB B := ⟨rfl, fun B hB => by
 rcases List.mem_cons.1 hB with rfl | hB
 ·exact PlainB.box [.int .i64 m.dx, .int .i64 m.dy, .int .i64 m.lo, .int .i64 m.bl] rfl rfl
 ·rcases List.mem_cons.1 hB with rfl | hB
  ·exact PlainB.box [.bool b] rfl rfl
  ·cases hB⟩
theorem shX_one (m i : Nat) (v : Value) (hv : v ∈ shX m i) : v.oneCell' = true := by
 rcases List.mem_cons.1 hv with rfl | hv
 ·rfl
 ·rcases List.mem_cons.1 hv with rfl | hv
  ·rfl
  ·cases hv
theorem exB_cases {x : Ip} {b : Bp} {y : Bg} {p : Int × Int} (h : exB x b y p = false) : ¬ fitOk x b p.1 p.2 ∨ (fitOk x b p.1 p.2 ∧ ¬ fitN x b p.1 p.2 0 1 ≤ y.lo) ∨ (fitOk x b p.1 p.2 ∧ fitN x b p.1 p.2 0 1 ≤ y.lo ∧ ¬ fitN x b p.1 p.2 1 0 ≤ y.bl) := by
 have := of_decide_eq_false h
 by_cases q1 : fitOk x b p.1 p.2
 ·by_cases q2 : fitN x b p.1 p.2 0 1 ≤ y.lo
  ·exact .inr (.inr ⟨q1, q2, fun q3 => this ⟨q1, q2, q3⟩⟩)
  ·exact .inr (.inl ⟨q1, q2⟩)
 ·exact .inl q1
set_option maxHeartbeats 1000000 in
set_option maxRecDepth 100000 in
theorem pExplains_A (x : Ip) (b : Bp) (y : Bg) (hn : x.n ≤ 4611686018427387904) : ACalls Try.prog 33 [.ag (ipC x), .ag (bpC b), .ag (bgC y)] (.tu [.ag (mcC (exV x b y).1), .c (bC (exV x b y).2)]) := by
 have hL := plim_A y
 obtain ⟨s0, s1⟩ := lim_sh y
 obtain ⟨m, hm⟩ : ∃ m, (lim4 y).sh.toNat = m := ⟨_, rfl⟩
 have hse : (lim4 y).sh = (m : Int) := by omega
 have hSh := shifts_A (lim4 y).sh
 have hIt := shiftsIt_A m (by omega)
 rw [← hse] at hIt
 have hxl : exL x b y = shL m := by unfold exL; rw [hm]
 refine acalls_at Try.func33 rfl rfl Try.ntmps33 rfl ?_
 repeat (first
  | refine uA ?_
  | refine uB ?_
  | refine uC ?_
  | (refine rG 0 ?_
     (iterate 3 refine qr5 aQ ?_)
     (iterate 2 refine qr5 (aM tyOk) ?_)
     refine aB ?_)
  | (refine rG 1 ?_
     refine kF ?_
     refine aH rfl rfl rfl rfl Try.func89 rfl (by kernel_rfl) (hL) ?_
     refine kI ?_
     refine aB ?_)
  | (refine rG 2 ?_
     refine kD ?_
     refine kE ?_
     refine aH rfl rfl rfl rfl Try.func90 rfl (by kernel_rfl) (hSh) ?_
     refine aB ?_))
 rcases first_hit (fun i => exB x b (lim4 y) ((exL x b y).getD i mvZ)) (exL x b y).length with hno | ⟨k, hk, hb, hno⟩
 ·rw [exV_miss hno]
  refine AWp.range (N := (shL m).length) (stop := false) (eS := .ret) (ids := [6, 7]) (bsI := fun _ => exB0 ⟨0, 0, 0, 0⟩ false) (ts := exSl x b (lim4 y)) (ys := [plI (lim4 y).sh]) (xs := shX m) rfl (enters_of Try.func129 (by kernel_rfl) rfl) ⟨ViewC.imm _ rfl, trivial⟩ rfl hIt (fun _ h => h) (fun h => by cases h) (fun _ => rfl) rfl ?_ (fun i hi => exB0_plain _ _) ?_ rfl (fun i hi => ⟨rfl, shX_one m i⟩) (.inl rfl) (fun i hi => ?_) ?_
  ·exact LendOk.box rfl rfl rfl (LendOk.box rfl rfl rfl trivial)
  ·repeat (first | exact trivial | refine ⟨⟨_, rfl, by first | exact ViewA.c (ViewC.imm _ rfl) | exact ViewA.c (ViewC.lend _ _ _ _ _ rfl) | exact ViewA.c (ViewC.roBox rfl rfl rfl rfl)⟩, ?_⟩)
  ·have hfa := hno i (by rw [hxl]; exact hi)
   have hFt := iFits_A x b ((shL m).getD i mvZ).1 ((shL m).getD i mvZ).2 hn
   rw [hxl] at hfa
   have hcs := exB_cases hfa
   rcases hcs with g1 | ⟨g1, g2⟩ | ⟨g1, g2, g3⟩
   ·rw [fitV, decide_eq_false g1] at hFt
    repeat (first
     | refine uA ?_
     | refine uB ?_
     | (refine rG 3 ?_
        refine kC ?_
        refine aB ?_)
     | (refine rG 4 ?_
        refine kC ?_
        refine aB ?_))
    refine ⟨rfl, ?_⟩
    repeat (first
     | refine uA ?_
     | refine uB ?_
     | refine uC ?_
     | refine uG ?_
     | refine uD ?_
     | refine kU ?_
     | (refine rG 5 ?_
        (iterate 2 refine qr5o (aT tyOk) ?_)
        (iterate 2 refine kA ?_)
        refine aH rfl rfl rfl rfl Try.func91 rfl (by kernel_rfl) (hFt) ?_
        refine kA ?_
        (iterate 3 refine qr4 aN ?_)
        (iterate 3 refine kC ?_)
        refine aB ?_)
     | (refine rG 6 ?_
        (iterate 2 refine kA ?_)
        (iterate 4 refine qr2 aG ?_)
        refine qr4 aR ?_
        refine kA ?_
        (iterate 4 refine qr2 aG ?_)
        refine qr4 aR ?_
        refine aB ?_))
    refine ⟨rfl, mkG (fun _ => True) 0 true 48 2 [] (lentL 0 (exB0 ⟨0, 0, 0, 0⟩ false)) [], [], Wk.mkG [] rfl rfl rfl rfl rfl trivial ?_, rfl, rfl⟩
    exact allH
   all_goals
    rw [fitV, decide_eq_true g1] at hFt
    repeat (first
     | refine uA ?_
     | refine uB ?_
     | (refine rG 3 ?_
        refine kC ?_
        refine aB ?_)
     | (refine rG 4 ?_
        refine kC ?_
        refine aB ?_))
    refine ⟨rfl, ?_⟩
    repeat (first
     | refine uA ?_
     | refine uB ?_
     | refine uC ?_
     | refine uG ?_
     | refine uD ?_
     | refine kU ?_
     | (refine rG 5 ?_
        (iterate 2 refine qr5o (aT tyOk) ?_)
        (iterate 2 refine kA ?_)
        refine aH rfl rfl rfl rfl Try.func91 rfl (by kernel_rfl) (hFt) ?_
        refine kA ?_
        (iterate 3 refine qr4 aN ?_)
        (iterate 3 refine kC ?_)
        refine aB ?_)
     | (refine rG 6 ?_
        (iterate 3 refine kA ?_)
        refine qr7 (AList.fieldPl tyOk) ?_
        refine qr5o (aV tyOk) ?_
        first | refine qr5t aK ?_ | refine qr5f aJ ?_
        refine qr4 aS ?_
        refine kA ?_
        first | refine qr2 aG ?_ | refine kA ?_
        first | refine qr2 aG ?_ | refine qr7 (AList.fieldPl tyOk) ?_
        first | refine qr2 aG ?_ | refine qr5o (aV tyOk) ?_
        first | refine qr2 aG ?_ | refine qr5f aJ ?_
        first | refine qr4 aS ?_ | refine qr4 aR ?_
        refine aB ?_))
    refine ⟨rfl, mkG (fun _ => True) 0 true 48 2 [] (lentL 0 (exB0 ⟨0, 0, 0, 0⟩ false)) [], [], Wk.mkG [] rfl rfl rfl rfl rfl trivial ?_, rfl, rfl⟩
    exact allH
  ·repeat (first
    | refine uA ?_
    | refine uB ?_
    | refine AWp.ret ?_
    | (refine rG 8 ?_
       refine qr8 (aX tyOk) ?_
       (iterate 2 refine kI ?_)
       refine aB ?_))
   refine ⟨mkSt 48 [(6, .c (.pt 6 4 0 0)), (7, .c (.pt 7 1 0 0))] [(6, ⟨false, 1, 4, 82, lF [iC 0, iC 0, iC 0, iC 0]⟩), (7, ⟨false, 1, 1, 4, lF [bC false]⟩)] [6, 7], [(6, ⟨false, 1, 4, 82, lF [iC 0, iC 0, iC 0, iC 0]⟩), (7, ⟨false, 1, 1, 4, lF [bC false]⟩)], Wk.mk [(6, some 6), (7, some 7)] rfl rfl rfl ?_ ?_, rfl, rfl, ARets.two (x := .ag _) (y := .c _) (ARes.box tyOk rfl rfl rfl rfl rfl rfl rfl) (ARes.box1 tyOk rfl rfl rfl rfl rfl rfl)⟩
   ·exact allT
   ·exact allH
 ·rw [exV_hit hk hb hno]
  obtain ⟨mc, hmc⟩ : ∃ mc : Mc, mc = ⟨((exL x b y).getD k mvZ).1, ((exL x b y).getD k mvZ).2, fitN x b ((exL x b y).getD k mvZ).1 ((exL x b y).getD k mvZ).2 0 1, fitN x b ((exL x b y).getD k mvZ).1 ((exL x b y).getD k mvZ).2 1 0⟩ := ⟨_, rfl⟩
  rw [← hmc]
  refine AWp.range (N := k + 1) (stop := true) (eS := .ret) (ids := [6, 7]) (bsI := fun i => if i ≤ k then exB0 ⟨0, 0, 0, 0⟩ false else exB0 mc true) (ts := exSl x b (lim4 y)) (ys := [plI (lim4 y).sh]) (xs := shX m) rfl (enters_of Try.func129 (by kernel_rfl) rfl) ⟨ViewC.imm _ rfl, trivial⟩ rfl hIt (fun _ h => h) (fun _ => ⟨by omega, by rw [← hxl]; omega⟩) (fun h => by cases h) rfl ?_ (fun i hi => ?_) ?_ rfl (fun i hi => ⟨rfl, shX_one m i⟩) (.inl rfl) (fun i hi => ?_) ?_
  ·exact LendOk.box rfl rfl rfl (LendOk.box rfl rfl rfl trivial)
  ·by_cases h : i ≤ k
   ·rw [if_pos h]; exact exB0_plain _ _
   ·rw [if_neg h]; exact exB0_plain _ _
  ·repeat (first | exact trivial | refine ⟨⟨_, rfl, by first | exact ViewA.c (ViewC.imm _ rfl) | exact ViewA.c (ViewC.lend _ _ _ _ _ rfl) | exact ViewA.c (ViewC.roBox rfl rfl rfl rfl)⟩, ?_⟩)
  ·have hFt := iFits_A x b ((shL m).getD i mvZ).1 ((shL m).getD i mvZ).2 hn
   rw [if_pos (by omega : i ≤ k)]
   by_cases hik : i = k
   ·subst hik
    rw [hxl] at hb hmc
    obtain ⟨g1, g2, g3⟩ := of_decide_eq_true hb
    have hg : goesB (i + 1) true i = false := by unfold goesB; rw [show Nat.beq (i + 1) (i + 1) = true from Nat.beq_refl _]; rfl
    rw [hg, if_neg (by omega : ¬ i + 1 ≤ i), fitV, decide_eq_true g1] at *
    repeat (first
     | refine uA ?_
     | refine uB ?_
     | (refine rG 3 ?_
        refine kC ?_
        refine aB ?_)
     | (refine rG 4 ?_
        refine kC ?_
        refine aB ?_))
    refine ⟨rfl, ?_⟩
    repeat (first
     | refine uA ?_
     | refine uB ?_
     | refine uC ?_
     | refine AWp.ret ?_
     | refine uE ?_
     | refine kT ?_
     | (refine rG 5 ?_
        (iterate 2 refine qr5o (aT tyOk) ?_)
        (iterate 2 refine kA ?_)
        refine aH rfl rfl rfl rfl Try.func91 rfl (by kernel_rfl) (hFt) ?_
        refine kA ?_
        (iterate 3 refine qr4 aN ?_)
        (iterate 3 refine kC ?_)
        refine aB ?_)
     | (refine rG 6 ?_
        (iterate 3 refine kA ?_)
        refine qr7 (AList.fieldPl tyOk) ?_
        refine qr5o (aV tyOk) ?_
        refine qr5t aK ?_
        refine qr4 aS ?_
        (iterate 2 refine kA ?_)
        refine qr7 (AList.fieldPl tyOk) ?_
        refine qr5o (aV tyOk) ?_
        refine qr5t aK ?_
        refine qr4 aS ?_
        refine aB ?_)
     | (refine rG 7 ?_
        (iterate 4 refine kA ?_)
        refine qr8 (aX tyOk) ?_
        (iterate 2 refine kI ?_)
        refine aB ?_))
    subst hmc
    refine ⟨rfl, mkG (fun _ => True) 0 true 48 2 [] (lentL 0 (exB0 ⟨((shL m).getD i mvZ).1, ((shL m).getD i mvZ).2, fitN x b ((shL m).getD i mvZ).1 ((shL m).getD i mvZ).2 0 1, fitN x b ((shL m).getD i mvZ).1 ((shL m).getD i mvZ).2 1 0⟩ true)) [], [], Wk.mkG [] rfl rfl rfl rfl rfl trivial ?_, rfl, rfl⟩
    exact allH
   ·have hfa := hno i (by omega)
    rw [hxl] at hfa
    have hg : goesB (k + 1) true i = true := by
     unfold goesB
     rw [show Nat.beq (i + 1) (k + 1) = false from Bool.eq_false_iff.2 fun h => by have := Nat.eq_of_beq_eq_true h; omega]
     rfl
    rw [hg, if_pos (by omega : i + 1 ≤ k)]
    have hcs := exB_cases hfa
    rcases hcs with g1 | ⟨g1, g2⟩ | ⟨g1, g2, g3⟩
    ·rw [fitV, decide_eq_false g1] at hFt
     repeat (first
      | refine uA ?_
      | refine uB ?_
      | (refine rG 3 ?_
         refine kC ?_
         refine aB ?_)
      | (refine rG 4 ?_
         refine kC ?_
         refine aB ?_))
     refine ⟨rfl, ?_⟩
     repeat (first
      | refine uA ?_
      | refine uB ?_
      | refine uC ?_
      | refine uG ?_
      | refine uD ?_
      | refine kU ?_
      | (refine rG 5 ?_
         (iterate 2 refine qr5o (aT tyOk) ?_)
         (iterate 2 refine kA ?_)
         refine aH rfl rfl rfl rfl Try.func91 rfl (by kernel_rfl) (hFt) ?_
         refine kA ?_
         (iterate 3 refine qr4 aN ?_)
         (iterate 3 refine kC ?_)
         refine aB ?_)
      | (refine rG 6 ?_
         (iterate 2 refine kA ?_)
         (iterate 4 refine qr2 aG ?_)
         refine qr4 aR ?_
         refine kA ?_
         (iterate 4 refine qr2 aG ?_)
         refine qr4 aR ?_
         refine aB ?_))
     refine ⟨rfl, mkG (fun _ => True) 0 true 48 2 [] (lentL 0 (exB0 ⟨0, 0, 0, 0⟩ false)) [], [], Wk.mkG [] rfl rfl rfl rfl rfl trivial ?_, rfl, rfl⟩
     exact allH
    all_goals
     rw [fitV, decide_eq_true g1] at hFt
     repeat (first
      | refine uA ?_
      | refine uB ?_
      | (refine rG 3 ?_
         refine kC ?_
         refine aB ?_)
      | (refine rG 4 ?_
         refine kC ?_
         refine aB ?_))
     refine ⟨rfl, ?_⟩
     repeat (first
      | refine uA ?_
      | refine uB ?_
      | refine uC ?_
      | refine uG ?_
      | refine uD ?_
      | refine kU ?_
      | (refine rG 5 ?_
         (iterate 2 refine qr5o (aT tyOk) ?_)
         (iterate 2 refine kA ?_)
         refine aH rfl rfl rfl rfl Try.func91 rfl (by kernel_rfl) (hFt) ?_
         refine kA ?_
         (iterate 3 refine qr4 aN ?_)
         (iterate 3 refine kC ?_)
         refine aB ?_)
      | (refine rG 6 ?_
         (iterate 3 refine kA ?_)
         refine qr7 (AList.fieldPl tyOk) ?_
         refine qr5o (aV tyOk) ?_
         first | refine qr5t aK ?_ | refine qr5f aJ ?_
         refine qr4 aS ?_
         refine kA ?_
         first | refine qr2 aG ?_ | refine kA ?_
         first | refine qr2 aG ?_ | refine qr7 (AList.fieldPl tyOk) ?_
         first | refine qr2 aG ?_ | refine qr5o (aV tyOk) ?_
         first | refine qr2 aG ?_ | refine qr5f aJ ?_
         first | refine qr4 aS ?_ | refine qr4 aR ?_
         refine aB ?_))
     refine ⟨rfl, mkG (fun _ => True) 0 true 48 2 [] (lentL 0 (exB0 ⟨0, 0, 0, 0⟩ false)) [], [], Wk.mkG [] rfl rfl rfl rfl rfl trivial ?_, rfl, rfl⟩
     exact allH
  ·rw [if_neg (by omega : ¬ k + 1 ≤ k)]
   repeat (first
    | refine thenA_r ?_
    | refine uE ?_)
   refine ⟨mkSt 48 [(6, .c (.pt 6 4 0 0)), (7, .c (.pt 7 1 0 0))] [(6, ⟨false, 1, 4, 82, lF (mcC mc)⟩), (7, ⟨false, 1, 1, 4, lF [bC true]⟩)] [6, 7], [(6, ⟨false, 1, 4, 82, lF (mcC mc)⟩), (7, ⟨false, 1, 1, 4, lF [bC true]⟩)], Wk.mk [(6, some 6), (7, some 7)] rfl rfl rfl ?_ ?_, rfl, rfl, ARets.two (x := .ag _) (y := .c _) (ARes.box tyOk rfl rfl rfl rfl rfl rfl rfl) (ARes.box1 tyOk rfl rfl rfl rfl rfl rfl)⟩
   ·exact allT
   ·exact allH
abbrev nilC : CV := .p (.slice none 0 0)
end Go.Proofs.Ytekkldgmjdllbaa
end
