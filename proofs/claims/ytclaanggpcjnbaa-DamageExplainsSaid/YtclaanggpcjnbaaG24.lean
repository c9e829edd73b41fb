/- Parts of the proof: ImgKnown, ImgFits, ImgFitsA, ImgFitsB, A23k. -/
import Derived.Test.YtclaanggpcjnbaaProg
import Derived.Test.YtclaanggpcjnbaaG12
import Derived.Test.YtclaanggpcjnbaaG15
import Derived.Test.YtclaanggpcjnbaaG14
import Derived.Test.YtclaanggpcjnbaaG23
set_option linter.unusedSimpArgs false
set_option linter.unusedVariables false
section
/- image.Known: how many pixels are known. No condition but those that each states. -/
namespace Go.Proofs.Ytclaanggpcjnbaa
open Go.RowKit Go.Flow Go.Plain
open Go.Proofs
attribute [local go_sem] block_add
attribute [local go_sem ↓] Go.wp_at_zero Go.wp_at_succ

def knownB (f : Nat → Int) (k : Nat) : Bool := f k != 2
def knownV (W H : Int) (n : Nat) (f : Nat → Int) : Int := if chkI W H n f = 0 then cnt (knownB f) n else 0
end Go.Proofs.Ytclaanggpcjnbaa
end

section
/- The counts of image.Fits. No condition but those that each states. -/
namespace Go.Proofs.Ytclaanggpcjnbaa
open Go.RowKit Go.Flow Go.Plain
open Go.Proofs
attribute [local go_sem] block_add
attribute [local go_sem ↓] Go.wp_at_zero Go.wp_at_succ

def bothB (a b : Int) (f g : Nat → Int) (k : Nat) : Bool := f k == a && g k == b
set_option maxHeartbeats 1000000 in
set_option maxRecDepth 100000 in
theorem fits1_any (k n m gf d : Nat) (W H : Int) (B : Option Addr) (f g : Nat → Int) (w : World) (hk : k < m) (hm : m ≤ 1000000) (hG : Blk w gf 43 #[.int .i64 W, .int .i64 H, .slice B m d]) (hB : Ints w B m g) :
    Calls Try.prog 41 #[.int .i64 k, .int .i64 (f k), .pointer (some ⟨gf, 0, none⟩)] w fun e w' => e = .returned (.bool (bothB 0 1 f g k)) ∧ w = w' := by
  obtain ⟨v, hv⟩ : ∃ v, bothB 0 1 f g k = v := ⟨_, rfl⟩
  rw [hv]
  replace hv := Lib.hid hv
  obtain ⟨gc, gff, gfl⟩ := hG.rules
  have hk' : (k : Int) < m := by omega
  obtain ⟨ad, rfl, hc⟩ := hB k hk
  obtain ⟨p, hp⟩ : ∃ p, f k = p := ⟨_, rfl⟩
  obtain ⟨q, hq⟩ : ∃ q, g k = q := ⟨_, rfl⟩
  rw [hp]
  simp only [hq] at hc
  by_cases h1 : p = 0
  · have h1' : (p == 0) = true := by simpa using h1
    have hv2 : (q == 1) = v := by have := hv.out; unfold bothB at this; rw [hp, hq, h1'] at this; simpa using this
    replace hp := Lib.hid hp
    replace hq := Lib.hid hq
    replace hG := Lib.hid hG
    clear h1
    go_enter Try.func41, Try.ntmps41
    go_wp2_with fail
    go_ret
    exact ⟨by first | rfl | (rw [← hv2]), rfl⟩
  · have h1' : (p == 0) = false := by simpa using h1
    have hv2 : v = false := by have := hv.out; unfold bothB at this; rw [hp, h1'] at this; simpa using this.symm
    subst hv2
    replace hp := Lib.hid hp
    replace hq := Lib.hid hq
    replace hG := Lib.hid hG
    clear h1
    go_enter Try.func41, Try.ntmps41
    go_wp2_with fail
    go_ret
    exact ⟨rfl, rfl⟩

set_option maxHeartbeats 1000000 in
set_option maxRecDepth 100000 in
theorem fits2_any (k n m gf d : Nat) (W H : Int) (B : Option Addr) (f g : Nat → Int) (w : World) (hk : k < m) (hm : m ≤ 1000000) (hG : Blk w gf 43 #[.int .i64 W, .int .i64 H, .slice B m d]) (hB : Ints w B m g) :
    Calls Try.prog 42 #[.int .i64 k, .int .i64 (f k), .pointer (some ⟨gf, 0, none⟩)] w fun e w' => e = .returned (.bool (bothB 1 0 f g k)) ∧ w = w' := by
  obtain ⟨v, hv⟩ : ∃ v, bothB 1 0 f g k = v := ⟨_, rfl⟩
  rw [hv]
  replace hv := Lib.hid hv
  obtain ⟨gc, gff, gfl⟩ := hG.rules
  have hk' : (k : Int) < m := by omega
  obtain ⟨ad, rfl, hc⟩ := hB k hk
  obtain ⟨p, hp⟩ : ∃ p, f k = p := ⟨_, rfl⟩
  obtain ⟨q, hq⟩ : ∃ q, g k = q := ⟨_, rfl⟩
  rw [hp]
  simp only [hq] at hc
  by_cases h1 : p = 1
  · have h1' : (p == 1) = true := by simpa using h1
    have hv2 : (q == 0) = v := by have := hv.out; unfold bothB at this; rw [hp, hq, h1'] at this; simpa using this
    replace hp := Lib.hid hp
    replace hq := Lib.hid hq
    replace hG := Lib.hid hG
    clear h1
    go_enter Try.func42, Try.ntmps42
    go_wp2_with fail
    go_ret
    exact ⟨by first | rfl | (rw [← hv2]), rfl⟩
  · have h1' : (p == 1) = false := by simpa using h1
    have hv2 : v = false := by have := hv.out; unfold bothB at this; rw [hp, h1'] at this; simpa using this.symm
    subst hv2
    replace hp := Lib.hid hp
    replace hq := Lib.hid hq
    replace hG := Lib.hid hG
    clear h1
    go_enter Try.func42, Try.ntmps42
    go_wp2_with fail
    go_ret
    exact ⟨rfl, rfl⟩

set_option maxHeartbeats 1000000 in
set_option maxRecDepth 100000 in
theorem countFits1_any (A : Option Addr) (n c m gf d : Nat) (W H : Int) (B : Option Addr) (f g : Nat → Int) (w : World) (hn : n ≤ 1000000) (hm : m ≤ 1000000) (hnm : n ≤ m) (hA : Ints w A n f) (hG : Blk w gf 43 #[.int .i64 W, .int .i64 H, .slice B m d]) (hB : Ints w B m g) :
    Calls Try.prog 40 #[.slice A n c, .func (.func 41) #[] #[.pointer (some ⟨gf, 0, none⟩)]] w fun e w' => e = .returned (.int .i64 (cnt (bothB 0 1 f g) n)) ∧ w = w' := by
  replace hG := Lib.hid hG
  replace hB := Lib.hid hB
  go_enter Try.func40, Try.ntmps40
  go_wp2_with fail
  go_loopw [5, 10] (fun x i wr => ∃ k : Nat, k ≤ n ∧ i = .int .i64 k ∧ x = .int .i64 (cnt (bothB 0 1 f g) k) ∧ w = wr) (fun _ i _ => n - (intOf i).toNat)
  case atStart => exact ⟨0, by omega, rfl, rfl, rfl⟩
  case round =>
    obtain ⟨k, hk, rfl, rfl, rfl⟩ := hrel
    have hc0 := cnt_nonneg (bothB 0 1 f g) k
    have hc1 := cnt_le (bothB 0 1 f g) k
    by_cases hlt : k < n
    · have hlt' : (k : Int) < n := by omega
      obtain ⟨ad, rfl, hc⟩ := hA k hlt
      have hal := lt_of_cell hc
      have hs := cnt_succ (bothB 0 1 f g) k
      have hlw := fits1_any k n m gf d W H B f g w (by omega) hm hG.out hB.out
      obtain ⟨p, hp⟩ : ∃ p, f k = p := ⟨_, rfl⟩
      obtain ⟨v, hv⟩ : ∃ v, bothB 0 1 f g k = v := ⟨_, rfl⟩
      rw [hv] at hs hlw
      rw [hp] at hlw
      simp only [hp] at hc
      replace hp := Lib.hid hp
      replace hv := Lib.hid hv
      replace hlw := Lib.hid hlw
      cases v
      · simp only [Bool.false_eq_true, if_false, Int.add_zero] at hs
        replace hs := Lib.hid hs
        go_wp2_with (go_at_call 41; refine hlw.out.mono ?_; rintro e w' ⟨rfl, rfl⟩)
        exact ⟨⟨k + 1, by omega, by go_num, by rw [hs.out], trivial⟩, by simp only [intOf]; omega⟩
      · simp only [if_true] at hs
        replace hs := Lib.hid hs
        go_wp2_with (go_at_call 41; refine hlw.out.mono ?_; rintro e w' ⟨rfl, rfl⟩)
        exact ⟨⟨k + 1, by omega, by go_num, by rw [hs.out], trivial⟩, by simp only [intOf]; omega⟩
    · obtain rfl : k = n := by omega
      have hlt' : ¬ ((k : Int) < k) := by omega
      go_wp2_with fail
      go_ret
      exact ⟨rfl, rfl⟩

set_option maxHeartbeats 1000000 in
set_option maxRecDepth 100000 in
theorem countFits2_any (A : Option Addr) (n c m gf d : Nat) (W H : Int) (B : Option Addr) (f g : Nat → Int) (w : World) (hn : n ≤ 1000000) (hm : m ≤ 1000000) (hnm : n ≤ m) (hA : Ints w A n f) (hG : Blk w gf 43 #[.int .i64 W, .int .i64 H, .slice B m d]) (hB : Ints w B m g) :
    Calls Try.prog 40 #[.slice A n c, .func (.func 42) #[] #[.pointer (some ⟨gf, 0, none⟩)]] w fun e w' => e = .returned (.int .i64 (cnt (bothB 1 0 f g) n)) ∧ w = w' := by
  replace hG := Lib.hid hG
  replace hB := Lib.hid hB
  go_enter Try.func40, Try.ntmps40
  go_wp2_with fail
  go_loopw [5, 10] (fun x i wr => ∃ k : Nat, k ≤ n ∧ i = .int .i64 k ∧ x = .int .i64 (cnt (bothB 1 0 f g) k) ∧ w = wr) (fun _ i _ => n - (intOf i).toNat)
  case atStart => exact ⟨0, by omega, rfl, rfl, rfl⟩
  case round =>
    obtain ⟨k, hk, rfl, rfl, rfl⟩ := hrel
    have hc0 := cnt_nonneg (bothB 1 0 f g) k
    have hc1 := cnt_le (bothB 1 0 f g) k
    by_cases hlt : k < n
    · have hlt' : (k : Int) < n := by omega
      obtain ⟨ad, rfl, hc⟩ := hA k hlt
      have hal := lt_of_cell hc
      have hs := cnt_succ (bothB 1 0 f g) k
      have hlw := fits2_any k n m gf d W H B f g w (by omega) hm hG.out hB.out
      obtain ⟨p, hp⟩ : ∃ p, f k = p := ⟨_, rfl⟩
      obtain ⟨v, hv⟩ : ∃ v, bothB 1 0 f g k = v := ⟨_, rfl⟩
      rw [hv] at hs hlw
      rw [hp] at hlw
      simp only [hp] at hc
      replace hp := Lib.hid hp
      replace hv := Lib.hid hv
      replace hlw := Lib.hid hlw
      cases v
      · simp only [Bool.false_eq_true, if_false, Int.add_zero] at hs
        replace hs := Lib.hid hs
        go_wp2_with (go_at_call 42; refine hlw.out.mono ?_; rintro e w' ⟨rfl, rfl⟩)
        exact ⟨⟨k + 1, by omega, by go_num, by rw [hs.out], trivial⟩, by simp only [intOf]; omega⟩
      · simp only [if_true] at hs
        replace hs := Lib.hid hs
        go_wp2_with (go_at_call 42; refine hlw.out.mono ?_; rintro e w' ⟨rfl, rfl⟩)
        exact ⟨⟨k + 1, by omega, by go_num, by rw [hs.out], trivial⟩, by simp only [intOf]; omega⟩
    · obtain rfl : k = n := by omega
      have hlt' : ¬ ((k : Int) < k) := by omega
      go_wp2_with fail
      go_ret
      exact ⟨rfl, rfl⟩
end Go.Proofs.Ytclaanggpcjnbaa
end

section
/- image.Fits of an image and a bitmap of one size. No condition but those that each states. -/
namespace Go.Proofs.Ytclaanggpcjnbaa
open Go.RowKit Go.Flow Go.Plain
open Go.Proofs
attribute [local go_sem] block_add
attribute [local go_sem ↓] Go.wp_at_zero Go.wp_at_succ

set_option maxHeartbeats 1000000 in
set_option maxRecDepth 100000 in
theorem Fits_ok (W H : Int) (A : Option Addr) (n c : Nat) (f : Nat → Int) (W' H' : Int) (B : Option Addr) (m d : Nat) (dot : Nat → Bool) (dx dy : Int) (w : World) (hA : Ints w A n f) (hB : Bools w B m dot) (hok : chkI W H n f = 0) (hp : putE W' H' m dx dy = 0) (hw : W = W' + 4) (hh : H = H' + 4) :
    Calls Try.prog 23 #[img W H A n c, bmp W' H' B m d, .int .i64 dx, .int .i64 dy] w fun e w' => e = .returned (.tuple #[.int .i64 (cnt (bothB 0 1 f (putF W' H' dot dx dy)) n), .int .i64 (cnt (bothB 1 0 f (putF W' H' dot dx dy)) n), .bool true]) ∧ Ext w w' := by
  have hsh := (chkI_ok.1 hok).1
  have hn := hsh.2.2.2.2
  have hnb : n ≤ 10000 := by
    have h1 := areaI ⟨hsh.1, hsh.2.1⟩ ⟨hsh.2.2.1, hsh.2.2.2.1⟩
    omega
  have hne : (chkI W H n f != 0) = false := by simpa using hok
  have d1 : (W != W' + 4) = false := by simpa using hw
  have d2 : (H != H' + 4) = false := by simpa using hh
  have hE0 := Lib.hid (((Ext.refl w).alloc (.cells #[.int .i64 W, .int .i64 H, .slice A n c] 43)).alloc (.cells #[.int .i64 W', .int .i64 H', .slice B m d] 39))
  have hX0 := Lib.hid ((Blk.new w 43 #[.int .i64 W, .int .i64 H, .slice A n c]).alloc (.cells #[.int .i64 W', .int .i64 H', .slice B m d] 39))
  replace hok := Lib.hid hok
  replace hp := Lib.hid hp
  replace hw := Lib.hid hw
  replace hh := Lib.hid hh
  replace hn := Lib.hid hn
  clear hsh
  go_enter Try.func23, Try.ntmps23
  go_wp2_with fail
  refine (IPut_any W' H' B m d dot dx dy _ (hB.ext hE0.out)).mono ?_
  rintro e w1 (⟨h0, -⟩ | ⟨-, C, cC, k, rfl, ⟨-, hk⟩, hM, hE1⟩)
  · exact absurd hp.out h0
  have hkn : k = n := by
    have h1 := hn.out
    rw [hw.out, hh.out, ← hk] at h1
    omega
  subst hkn
  have hX1 := hX0.out.ext hE1
  have hE1' := hE0.out.trans hE1
  have hws := hX1.lt
  obtain ⟨xc, xf, xl⟩ := hX1.rules
  replace hX1 := Lib.hid hX1
  have hM2 := Lib.hid (hM.arr)
  clear hM hE1 hk
  replace hE1' := Lib.hid hE1'
  have hT1 := Lib.hid (Blk.new w1 43 #[.int .i64 (W' + 4), .int .i64 (H' + 4), .slice C k cC])
  go_wp2_with fail
  refine (ICheck_any W H A k c f _ (by omega) (hA.ext (hE1'.out.alloc _))).mono ?_
  rintro e w2 ⟨rfl, hE2⟩
  have hX2 := (hX1.out.alloc _).ext hE2
  have hT2 := hT1.out.ext hE2
  have hA2 := Lib.hid (hA.ext ((hE1'.out.alloc _).trans hE2))
  have hM3 := Lib.hid ((hM2.out.ext ((Ext.refl _).alloc _)).ext hE2)
  have hE3 := Lib.hid ((hE1'.out.alloc _).trans hE2)
  clear xc xf xl
  obtain ⟨xc, xf, xl⟩ := hX2.rules
  obtain ⟨tc, tf, tl⟩ := hT2.rules
  replace hT2 := Lib.hid hT2
  clear hE2 hX2 hT1 hX1 hM2
  go_wp2_with fail
  refine (countFits1_any A k c k w1.heap.size cC (W' + 4) (H' + 4) C f (putF W' H' dot dx dy) w2 (by omega) (by omega) (by omega) hA2.out hT2.out hM3.out).mono ?_
  rintro e w3 ⟨rfl, rfl⟩
  go_wp2_with fail
  refine (countFits2_any A k c k w1.heap.size cC (W' + 4) (H' + 4) C f (putF W' H' dot dx dy) w2 (by omega) (by omega) (by omega) hA2.out hT2.out hM3.out).mono ?_
  rintro e w3 ⟨rfl, rfl⟩
  go_wp2_with fail
  exact bodyPost_ret (v := .tuple #[.int .i64 (cnt (bothB 0 1 f (putF W' H' dot dx dy)) k), .int .i64 (cnt (bothB 1 0 f (putF W' H' dot dx dy)) k), .bool true]) (by simp [results, Try.results23, go_sem, *]) rfl ⟨rfl, hE3.out⟩
end Go.Proofs.Ytclaanggpcjnbaa
end

section
/- image.Fits: the answer 0, 0, false. No condition but those that each states. -/
namespace Go.Proofs.Ytclaanggpcjnbaa
open Go.RowKit Go.Flow Go.Plain
open Go.Proofs
attribute [local go_sem] block_add
attribute [local go_sem ↓] Go.wp_at_zero Go.wp_at_succ

set_option maxHeartbeats 1000000 in
set_option maxRecDepth 100000 in
theorem Fits_bad (W H : Int) (A : Option Addr) (n c : Nat) (f : Nat → Int) (W' H' : Int) (B : Option Addr) (m d : Nat) (dot : Nat → Bool) (dx dy : Int) (w : World) (hA : Ints w A n f) (hB : Bools w B m dot) (hnn : n ≤ 4611686018427387904) (hbad : ¬ (putE W' H' m dx dy = 0 ∧ chkI W H n f = 0 ∧ W = W' + 4 ∧ H = H' + 4)) :
    Calls Try.prog 23 #[img W H A n c, bmp W' H' B m d, .int .i64 dx, .int .i64 dy] w fun e w' => e = .returned (.tuple #[.int .i64 0, .int .i64 0, .bool false]) ∧ Ext w w' := by
  have hE0 := Lib.hid (((Ext.refl w).alloc (.cells #[.int .i64 W, .int .i64 H, .slice A n c] 43)).alloc (.cells #[.int .i64 W', .int .i64 H', .slice B m d] 39))
  have hX0 := Lib.hid ((Blk.new w 43 #[.int .i64 W, .int .i64 H, .slice A n c]).alloc (.cells #[.int .i64 W', .int .i64 H', .slice B m d] 39))
  replace hbad := Lib.hid hbad
  go_enter Try.func23, Try.ntmps23
  go_wp2_with fail
  refine (IPut_any W' H' B m d dot dx dy _ (hB.ext hE0.out)).mono ?_
  rintro e w1 (⟨h0, rfl, hE1⟩ | ⟨hp, C, cC, k, rfl, ⟨-, hk⟩, hM, hE1⟩)
  · have h0' : (putE W' H' m dx dy != 0) = true := by simpa using h0
    have hE3 := Lib.hid ((hE0.out.trans hE1).alloc (.cells #[.int .i64 0, .int .i64 0, .slice none 0 0] 43))
    replace h0 := Lib.hid h0
    clear hE1
    go_wp2_with fail
    exact bodyPost_ret (v := .tuple #[.int .i64 0, .int .i64 0, .bool false]) (by simp [results, Try.results23, go_sem, *]) rfl ⟨rfl, hE3.out⟩
  · have hX1 := hX0.out.ext hE1
    have hE1' := hE0.out.trans hE1
    have hws := hX1.lt
    obtain ⟨xc, xf, xl⟩ := hX1.rules
    replace hX1 := Lib.hid hX1
    clear hM hE1 hk
    replace hp := Lib.hid hp
    replace hE1' := Lib.hid hE1'
    have hT1 := Lib.hid (Blk.new w1 43 #[.int .i64 (W' + 4), .int .i64 (H' + 4), .slice C k cC])
    go_wp2_with fail
    refine (ICheck_any W H A n c f _ hnn (hA.ext (hE1'.out.alloc _))).mono ?_
    rintro e w2 ⟨rfl, hE2⟩
    have hX2 := (hX1.out.alloc _).ext hE2
    have hT2 := hT1.out.ext hE2
    have hE3 := Lib.hid ((hE1'.out.alloc _).trans hE2)
    clear xc xf xl
    obtain ⟨xc, xf, xl⟩ := hX2.rules
    obtain ⟨tc, tf, tl⟩ := hT2.rules
    clear hE2 hX2 hT1 hX1 hT2
    by_cases hok : chkI W H n f = 0
    · have hne : (chkI W H n f != 0) = false := by simpa using hok
      by_cases h1 : W = W' + 4
      · have d1 : (W != W' + 4) = false := by simpa using h1
        have h2 : H ≠ H' + 4 := fun h2 => hbad.out ⟨hp.out, hok, h1, h2⟩
        have d2 : (H != H' + 4) = true := bne_iff_ne.mpr h2
        replace hok := Lib.hid hok
        replace h1 := Lib.hid h1
        replace h2 := Lib.hid h2
        go_wp2_with fail
        exact bodyPost_ret (v := .tuple #[.int .i64 0, .int .i64 0, .bool false]) (by simp [results, Try.results23, go_sem, *]) rfl ⟨rfl, hE3.out⟩
      · have d1 : (W != W' + 4) = true := bne_iff_ne.mpr h1
        replace hok := Lib.hid hok
        replace h1 := Lib.hid h1
        go_wp2_with fail
        exact bodyPost_ret (v := .tuple #[.int .i64 0, .int .i64 0, .bool false]) (by simp [results, Try.results23, go_sem, *]) rfl ⟨rfl, hE3.out⟩
    · have hne : (chkI W H n f != 0) = true := bne_iff_ne.mpr hok
      replace hok := Lib.hid hok
      go_wp2_with fail
      exact bodyPost_ret (v := .tuple #[.int .i64 0, .int .i64 0, .bool false]) (by simp [results, Try.results23, go_sem, *]) rfl ⟨rfl, hE3.out⟩
end Go.Proofs.Ytclaanggpcjnbaa
end

section
/- Chapter 23 over plain values: image.Fits and ref22.Fits. -/
namespace Go.Proofs.Ytclaanggpcjnbaa
open Go.RowKit Go.Flow Go.AV Go.Plain
structure Ip where
  W : Int
  H : Int
  n : Nat
  f : Nat → Int
abbrev ipC (x : Ip) : List CV := imgV x.W x.H x.n x.f
abbrev bpF (b : Bp) (dx dy : Int) : Nat → Int := putF b.W b.H b.d dx dy
def fitOk (x : Ip) (b : Bp) (dx dy : Int) : Prop := putE b.W b.H b.n dx dy = 0 ∧ chkI x.W x.H x.n x.f = 0 ∧ x.W = b.W + 4 ∧ x.H = b.H + 4
instance (x : Ip) (b : Bp) (dx dy : Int) : Decidable (fitOk x b dx dy) := by unfold fitOk; infer_instance
def fitN (x : Ip) (b : Bp) (dx dy : Int) (i j : Int) : Int := if fitOk x b dx dy then cnt (bothB i j x.f (bpF b dx dy)) x.n else 0
abbrev fitV (x : Ip) (b : Bp) (dx dy : Int) : AV := .tu [.c (iC (fitN x b dx dy 0 1)), .c (iC (fitN x b dx dy 1 0)), .c (bC (decide (fitOk x b dx dy)))]
theorem iFits_A (x : Ip) (b : Bp) (dx dy : Int) (hn : x.n ≤ 4611686018427387904) : ACalls Try.prog 23 [.ag (ipC x), .ag (bpC b), .c (iC dx), .c (iC dy)] (fitV x b dx dy) :=
  ACalls.of fun O w vals hO hv => by
    obtain ⟨v1, v2, v3, v4, rfl, h1, h2, h3, h4⟩ := args4 hv
    obtain ⟨A, c, rfl, -, hA⟩ := rep_img h1
    obtain ⟨B, d, rfl, -, hB⟩ := rep_bmp h2
    cases rep_c h3
    cases rep_c h4
    unfold fitV fitN
    by_cases hok : fitOk x b dx dy
    · rw [if_pos hok, if_pos hok, decide_eq_true hok]
      exact (Fits_ok x.W x.H A x.n c x.f b.W b.H B b.n d b.d dx dy w hA hB hok.2.1 hok.1 hok.2.2.1 hok.2.2.2).mono fun e w' ⟨g1, g2⟩ => ⟨_, g1, ⟨[_, _, _], rfl, ⟨rfl, rfl⟩, ⟨rfl, rfl⟩, ⟨rfl, rfl⟩, trivial⟩, g2⟩
    · rw [if_neg hok, if_neg hok, decide_eq_false hok]
      exact (Fits_bad x.W x.H A x.n c x.f b.W b.H B b.n d b.d dx dy w hA hB hn hok).mono fun e w' ⟨g1, g2⟩ => ⟨_, g1, ⟨[_, _, _], rfl, ⟨rfl, rfl⟩, ⟨rfl, rfl⟩, ⟨rfl, rfl⟩, trivial⟩, g2⟩
set_option maxHeartbeats 1000000 in
set_option maxRecDepth 100000 in
theorem rFits_A (x : Ip) (b : Bp) (dx dy : Int) (hn : x.n ≤ 4611686018427387904) : ACalls Try.prog 37 [.ag (ipC x), .ag (bpC b), .c (iC dx), .c (iC dy)] (fitV x b dx dy) := by
  have hP := rPut_A b.W b.H b.n b.d dx dy
  have hC := rCheck_A x.W x.H x.n x.f hn
  unfold fitV fitN
  by_cases h1 : putE b.W b.H b.n dx dy = 0
  · rw [putV, if_pos h1] at hP
    by_cases h2 : chkI x.W x.H x.n x.f = 0
    · rw [h2] at hC
      by_cases h3 : x.W = b.W + 4
      · by_cases h4 : x.H = b.H + 4
        · have hok : fitOk x b dx dy := ⟨h1, h2, h3, h4⟩
          rw [if_pos hok, if_pos hok, decide_eq_true hok]
          have hsh := (chkI_ok.1 h2).1
          obtain ⟨s1, s2, s3, s4, s5⟩ := hsh
          have hmn : ((b.W + 4) * (b.H + 4)).toNat = x.n := by
            rw [← h3, ← h4, ← s5, Int.toNat_natCast]
          rw [hmn] at hP
          have hnb : x.n ≤ 10000 := by
            have := areaI ⟨s1, s2⟩ ⟨s3, s4⟩
            omega
          refine acalls_at Try.func37 rfl rfl Try.ntmps37 rfl ?_
          repeat (first
            | refine AWp.seq ?_
            | refine thenA_n ?_
            | refine AWp.block ?_
            | refine AWp.skip ?_
            | refine AWp.condF rfl (by first | rfl | assumption | exact cmF) ?_
            | (refine AWp.region (id := 0) ?_
               refine AList.box rfl rfl rfl rfl rfl ?_
               refine AList.box rfl rfl rfl rfl rfl ?_
               refine AList.assign rfl rfl rfl ?_
               refine AList.assign rfl rfl rfl ?_
               refine AList.assign rfl rfl rfl ?_
               refine AList.nil ?_)
            | (refine AWp.region (id := 1) ?_
               refine AList.loadA tyOk rfl rfl rfl rfl rfl rfl rfl oM oM ?_
               refine AList.move rfl rfl rfl ?_
               refine AList.move rfl rfl rfl ?_
               refine AList.call rfl rfl rfl rfl Try.func33 rfl (by kernel_rfl) (hP) ?_
               refine AList.move rfl rfl rfl ?_
               refine AList.extract rfl rfl rfl rfl ?_
               refine AList.extract rfl rfl rfl rfl ?_
               refine AList.alloc tyOk rfl rfl rfl rfl rfl ?_
               refine AList.store tyOk rfl rfl rfl rfl rfl rfl rfl rfl oM oM ?_
               refine AList.assign rfl rfl rfl ?_
               refine AList.nil ?_)
            | (refine AWp.region (id := 2) ?_
               refine AList.move rfl rfl rfl ?_
               refine AList.cmp rfl rfl rfl rfl rfl ?_
               refine AList.move rfl rfl rfl ?_
               refine AList.loadA tyOk rfl rfl rfl rfl rfl rfl rfl oM oM ?_
               refine AList.call rfl rfl rfl rfl Try.func53 rfl (by kernel_rfl) (hC) ?_
               refine AList.cmp rfl rfl rfl rfl rfl ?_
               refine AList.pickF rfl rfl rfl rfl ?_
               refine AList.move rfl rfl rfl ?_
               refine AList.fieldPt tyOk rfl rfl rfl rfl rfl rfl rfl ?_
               refine AList.load1 tyOk rfl rfl rfl rfl rfl rfl rfl oM oM ?_
               refine AList.fieldPt tyOk rfl rfl rfl rfl rfl rfl rfl ?_
               refine AList.load1 tyOk rfl rfl rfl rfl rfl rfl rfl oM oM ?_
               refine AList.cmpF rfl rfl rfl rfl rfl cmF ?_
               refine AList.pickF rfl rfl rfl rfl ?_
               refine AList.move rfl rfl rfl ?_
               refine AList.fieldPt tyOk rfl rfl rfl rfl rfl rfl rfl ?_
               refine AList.load1 tyOk rfl rfl rfl rfl rfl rfl rfl oM oM ?_
               refine AList.fieldPt tyOk rfl rfl rfl rfl rfl rfl rfl ?_
               refine AList.load1 tyOk rfl rfl rfl rfl rfl rfl rfl oM oM ?_
               refine AList.cmpF rfl rfl rfl rfl rfl cmF ?_
               refine AList.pickF rfl rfl rfl rfl ?_
               refine AList.nil ?_)
            | (refine AWp.region (id := 4) ?_
               refine AList.assign rfl rfl rfl ?_
               refine AList.nil ?_)
            | (refine AWp.region (id := 5) ?_
               refine AList.assign rfl rfl rfl ?_
               refine AList.nil ?_)
            | (refine AWp.region (id := 6) ?_
               refine AList.assign rfl rfl rfl ?_
               refine AList.nil ?_))
          refine AWp.round (fun k : Nat => mkSt 85 [(4, .c (.pt 4 3 0 0)), (11, .c (.pt 11 3 0 0)), (13, .c (iC (cnt (bothB 0 1 x.f (bpF b dx dy)) k))), (14, .c (iC (cnt (bothB 1 0 x.f (bpF b dx dy)) k))), (15, .c (iC k))]
            [(4, ⟨false, 1, 3, 43, lF (ipC x)⟩), (11, ⟨false, 1, 3, 43, lF (imgV (b.W + 4) (b.H + 4) x.n (bpF b dx dy))⟩)] [4, 11])
            (fun k => k ≤ x.n) (fun k => x.n - k) 0 (Nat.zero_le _) ?_ (fun k hk => ?_)
          · refine Wk.mk [(4, some 4), (11, some 11)] rfl rfl rfl ?_ ?_
            · repeat (first | exact trivial | refine ⟨⟨_, rfl, by first | exact LeA.c (LeC.refl _ rfl) | exact LeA.c (LeC.ow _ _ rfl) | exact LeA.c (LeC.pt _ _ _ _ _ rfl) | exact LeA.c (LeC.nil _ rfl) | exact LeA.c (LeC.nils _ _) | (refine LeA.int ?_; omega) | (refine LeA.int ?_; dsimp only; omega) | exact LeA.c (LeC.fz rfl rfl (by first | rfl | omega) (fun i _ j _ => ⟨rfl, by first | rfl | exact rowN_imm (fun _ => rfl) _ i j | exact rowF_imm (fun _ => rfl) _ i j⟩))⟩, ?_⟩)
            · repeat (first | exact trivial | refine ⟨by first | exact HeapOk.same rfl rfl rfl rfl | exact HeapOk.lent rfl rfl rfl rfl | exact HeapOk.nil rfl rfl | exact HeapOk.row rfl rfl (by first | rfl | omega) (fun i _ j _ => ⟨rfl, by first | rfl | exact rowN_imm (fun _ => rfl) _ i j | exact rowF_imm (fun _ => rfl) _ i j⟩) | exact HeapOk.box rfl rfl (by repeat (first | exact trivial | refine ⟨by first | exact LeC.refl _ rfl | exact LeC.ow _ _ rfl | exact LeC.nil _ rfl | exact LeC.nils _ _ | exact LeC.fz rfl rfl (by first | rfl | omega) (fun i _ j _ => ⟨rfl, by first | rfl | exact rowN_imm (fun _ => rfl) _ i j | exact rowF_imm (fun _ => rfl) _ i j⟩) | exact LeC.int (by omega), ?_⟩)) rfl, ?_⟩)
          · have c1 := cnt_nonneg (bothB 0 1 x.f (bpF b dx dy)) k
            have c2 := cnt_le (bothB 0 1 x.f (bpF b dx dy)) k
            have c3 := cnt_nonneg (bothB 1 0 x.f (bpF b dx dy)) k
            have c4 := cnt_le (bothB 1 0 x.f (bpF b dx dy)) k
            have e1 := cnt_succ (bothB 0 1 x.f (bpF b dx dy)) k
            have e2 := cnt_succ (bothB 1 0 x.f (bpF b dx dy)) k
            by_cases hlt : k < x.n
            · have hcs : (x.f k = 0 ∧ bpF b dx dy k = 1) ∨ (x.f k = 0 ∧ bpF b dx dy k ≠ 1) ∨ (x.f k = 1 ∧ bpF b dx dy k = 0) ∨ (x.f k = 1 ∧ bpF b dx dy k ≠ 0) ∨ (x.f k ≠ 0 ∧ x.f k ≠ 1) := by omega
              rcases hcs with ⟨g1, g2⟩ | ⟨g1, g2⟩ | ⟨g1, g2⟩ | ⟨g1, g2⟩ | ⟨g1, g2⟩
              all_goals
                simp [bothB, g1, g2] at e1 e2
                repeat (first
                  | refine AWp.seq ?_
                  | refine thenA_n ?_
                  | refine AWp.block ?_
                  | refine AWp.skip ?_
                  | refine inBlk_n ?_
                  | refine AWp.condT rfl (by first | rfl | assumption | exact cmT) ?_
                  | refine AWp.condF rfl (by first | rfl | assumption | exact cmF) ?_
                  | (refine AWp.region (id := 7) ?_
                     refine AList.move rfl rfl rfl ?_
                     refine AList.fieldPt tyOk rfl rfl rfl rfl rfl rfl rfl ?_
                     refine AList.load1 tyOk rfl rfl rfl rfl rfl rfl rfl oM oM ?_
                     refine AList.lenLs tyOk rfl rfl rfl rfl rfl ?_
                     refine AList.cmpT rfl rfl rfl rfl rfl cmT ?_
                     refine AList.nil ?_)
                  | (refine AWp.region (id := 8) ?_
                     refine AList.move rfl rfl rfl ?_
                     refine AList.add rfl rfl rfl rfl (by omega) (by omega) ?_
                     refine AList.assign rfl rfl rfl ?_
                     refine AList.nil ?_)
                  | (refine AWp.region (id := 9) ?_
                     refine AList.fieldPt tyOk rfl rfl rfl rfl rfl rfl rfl ?_
                     refine AList.load1 tyOk rfl rfl rfl rfl rfl rfl rfl oM oM ?_
                     refine AList.move rfl rfl rfl ?_
                     refine AList.idx (k := k) tyOk rfl rfl rfl rfl rfl rfl rfl rfl (by first | rfl | omega) oM oM ?_
                     refine AList.load1l tyOk rfl rfl rfl rfl rfl oM ?_
                     first | refine AList.cmpT rfl rfl rfl rfl rfl cmT ?_ | refine AList.cmpF rfl rfl rfl rfl rfl cmF ?_
                     refine AList.move rfl rfl rfl ?_
                     first | refine AList.skip rfl rfl ?_ | refine AList.fieldPt tyOk rfl rfl rfl rfl rfl rfl rfl ?_
                     first | refine AList.skip rfl rfl ?_ | refine AList.load1 tyOk rfl rfl rfl rfl rfl rfl rfl oM oM ?_
                     first | refine AList.skip rfl rfl ?_ | refine AList.move rfl rfl rfl ?_
                     first | refine AList.skip rfl rfl ?_ | refine AList.idx (k := k) tyOk rfl rfl rfl rfl rfl rfl rfl rfl (by first | rfl | omega) oM oM ?_
                     first | refine AList.skip rfl rfl ?_ | refine AList.load1l tyOk rfl rfl rfl rfl rfl oM ?_
                     first | refine AList.skip rfl rfl ?_ | refine AList.cmpT rfl rfl rfl rfl rfl cmT ?_ | refine AList.cmpF rfl rfl rfl rfl rfl cmF ?_
                     first | refine AList.pickT rfl rfl rfl rfl ?_ | refine AList.pickF rfl rfl rfl rfl ?_
                     refine AList.nil ?_)
                  | (refine AWp.region (id := 10) ?_
                     refine AList.move rfl rfl rfl ?_
                     refine AList.add rfl rfl rfl rfl (by omega) (by omega) ?_
                     refine AList.assign rfl rfl rfl ?_
                     refine AList.nil ?_)
                  | (refine AWp.region (id := 11) ?_
                     refine AList.fieldPt tyOk rfl rfl rfl rfl rfl rfl rfl ?_
                     refine AList.load1 tyOk rfl rfl rfl rfl rfl rfl rfl oM oM ?_
                     refine AList.move rfl rfl rfl ?_
                     refine AList.idx (k := k) tyOk rfl rfl rfl rfl rfl rfl rfl rfl (by first | rfl | omega) oM oM ?_
                     refine AList.load1l tyOk rfl rfl rfl rfl rfl oM ?_
                     first | refine AList.cmpT rfl rfl rfl rfl rfl cmT ?_ | refine AList.cmpF rfl rfl rfl rfl rfl cmF ?_
                     refine AList.move rfl rfl rfl ?_
                     first | refine AList.skip rfl rfl ?_ | refine AList.fieldPt tyOk rfl rfl rfl rfl rfl rfl rfl ?_
                     first | refine AList.skip rfl rfl ?_ | refine AList.load1 tyOk rfl rfl rfl rfl rfl rfl rfl oM oM ?_
                     first | refine AList.skip rfl rfl ?_ | refine AList.move rfl rfl rfl ?_
                     first | refine AList.skip rfl rfl ?_ | refine AList.idx (k := k) tyOk rfl rfl rfl rfl rfl rfl rfl rfl (by first | rfl | omega) oM oM ?_
                     first | refine AList.skip rfl rfl ?_ | refine AList.load1l tyOk rfl rfl rfl rfl rfl oM ?_
                     first | refine AList.skip rfl rfl ?_ | refine AList.cmpT rfl rfl rfl rfl rfl cmT ?_ | refine AList.cmpF rfl rfl rfl rfl rfl cmF ?_
                     first | refine AList.pickT rfl rfl rfl rfl ?_ | refine AList.pickF rfl rfl rfl rfl ?_
                     refine AList.nil ?_)
                  | (refine AWp.region (id := 12) ?_
                     refine AList.move rfl rfl rfl ?_
                     refine AList.add rfl rfl rfl rfl (by omega) (by omega) ?_
                     refine AList.assign rfl rfl rfl ?_
                     refine AList.nil ?_))
                refine ⟨k + 1, by omega, Wk.mk [(4, some 4), (11, some 11)] rfl rfl rfl ?_ ?_, by omega⟩
                · repeat (first | exact trivial | refine ⟨⟨_, rfl, by first | exact LeA.c (LeC.refl _ rfl) | exact LeA.c (LeC.ow _ _ rfl) | exact LeA.c (LeC.pt _ _ _ _ _ rfl) | exact LeA.c (LeC.nil _ rfl) | exact LeA.c (LeC.nils _ _) | (refine LeA.int ?_; omega) | (refine LeA.int ?_; dsimp only; omega) | exact LeA.c (LeC.fz rfl rfl (by first | rfl | omega) (fun i _ j _ => ⟨rfl, by first | rfl | exact rowN_imm (fun _ => rfl) _ i j | exact rowF_imm (fun _ => rfl) _ i j⟩))⟩, ?_⟩)
                · repeat (first | exact trivial | refine ⟨by first | exact HeapOk.same rfl rfl rfl rfl | exact HeapOk.lent rfl rfl rfl rfl | exact HeapOk.nil rfl rfl | exact HeapOk.row rfl rfl (by first | rfl | omega) (fun i _ j _ => ⟨rfl, by first | rfl | exact rowN_imm (fun _ => rfl) _ i j | exact rowF_imm (fun _ => rfl) _ i j⟩) | exact HeapOk.box rfl rfl (by repeat (first | exact trivial | refine ⟨by first | exact LeC.refl _ rfl | exact LeC.ow _ _ rfl | exact LeC.nil _ rfl | exact LeC.nils _ _ | exact LeC.fz rfl rfl (by first | rfl | omega) (fun i _ j _ => ⟨rfl, by first | rfl | exact rowN_imm (fun _ => rfl) _ i j | exact rowF_imm (fun _ => rfl) _ i j⟩) | exact LeC.int (by omega), ?_⟩)) rfl, ?_⟩)
            · obtain rfl : k = x.n := by omega
              repeat (first
                | refine AWp.seq ?_
                | refine thenA_n ?_
                | refine AWp.exit ?_
                | refine AWp.ret ?_
                | refine AWp.condF rfl (by first | rfl | assumption | exact cmF) ?_
                | (refine AWp.region (id := 7) ?_
                   refine AList.move rfl rfl rfl ?_
                   refine AList.fieldPt tyOk rfl rfl rfl rfl rfl rfl rfl ?_
                   refine AList.load1 tyOk rfl rfl rfl rfl rfl rfl rfl oM oM ?_
                   refine AList.lenLs tyOk rfl rfl rfl rfl rfl ?_
                   refine AList.cmpF rfl rfl rfl rfl rfl cmF ?_
                   refine AList.nil ?_)
                | (refine AWp.region (id := 13) ?_
                   refine AList.move rfl rfl rfl ?_
                   refine AList.move rfl rfl rfl ?_
                   refine AList.assign rfl rfl rfl ?_
                   refine AList.assign rfl rfl rfl ?_
                   refine AList.assign rfl rfl rfl ?_
                   refine AList.nil ?_))
              refine ⟨mkSt 85 [(8, .c (iC (cnt (bothB 0 1 x.f (bpF b dx dy)) x.n))), (9, .c (iC (cnt (bothB 1 0 x.f (bpF b dx dy)) x.n))), (10, .c (bC true))] [] [], [], Wk.mk [] rfl rfl rfl ?_ trivial, rfl, rfl, ARets.three (x := .c _) (y := .c _) (z := .c _) (ARes.tmp rfl rfl) (ARes.tmp rfl rfl) (ARes.tmp rfl rfl)⟩
              repeat (first | exact trivial | refine ⟨⟨_, rfl, by first | exact LeA.c (LeC.refl _ rfl) | exact LeA.c (LeC.ow _ _ rfl) | exact LeA.c (LeC.pt _ _ _ _ _ rfl) | exact LeA.c (LeC.nil _ rfl) | exact LeA.c (LeC.nils _ _) | (refine LeA.int ?_; omega) | (refine LeA.int ?_; dsimp only; omega) | exact LeA.c (LeC.fz rfl rfl (by first | rfl | omega) (fun i _ j _ => ⟨rfl, by first | rfl | exact rowN_imm (fun _ => rfl) _ i j | exact rowF_imm (fun _ => rfl) _ i j⟩))⟩, ?_⟩)
        · have hok : ¬ fitOk x b dx dy := fun h => h4 h.2.2.2
          rw [if_neg hok, if_neg hok, decide_eq_false hok]
          refine acalls_at Try.func37 rfl rfl Try.ntmps37 rfl ?_
          repeat (first
            | refine AWp.seq ?_
            | refine thenA_n ?_
            | refine AWp.ret ?_
            | refine thenA_r ?_
            | refine AWp.condT rfl (by first | rfl | assumption | exact cmT) ?_
            | (refine AWp.region (id := 0) ?_
               refine AList.box rfl rfl rfl rfl rfl ?_
               refine AList.box rfl rfl rfl rfl rfl ?_
               refine AList.assign rfl rfl rfl ?_
               refine AList.assign rfl rfl rfl ?_
               refine AList.assign rfl rfl rfl ?_
               refine AList.nil ?_)
            | (refine AWp.region (id := 1) ?_
               refine AList.loadA tyOk rfl rfl rfl rfl rfl rfl rfl oM oM ?_
               refine AList.move rfl rfl rfl ?_
               refine AList.move rfl rfl rfl ?_
               refine AList.call rfl rfl rfl rfl Try.func33 rfl (by kernel_rfl) (hP) ?_
               refine AList.move rfl rfl rfl ?_
               refine AList.extract rfl rfl rfl rfl ?_
               refine AList.extract rfl rfl rfl rfl ?_
               refine AList.alloc tyOk rfl rfl rfl rfl rfl ?_
               refine AList.store tyOk rfl rfl rfl rfl rfl rfl rfl rfl oM oM ?_
               refine AList.assign rfl rfl rfl ?_
               refine AList.nil ?_)
            | (refine AWp.region (id := 2) ?_
               refine AList.move rfl rfl rfl ?_
               refine AList.cmp rfl rfl rfl rfl rfl ?_
               refine AList.move rfl rfl rfl ?_
               refine AList.loadA tyOk rfl rfl rfl rfl rfl rfl rfl oM oM ?_
               refine AList.call rfl rfl rfl rfl Try.func53 rfl (by kernel_rfl) (hC) ?_
               refine AList.cmp rfl rfl rfl rfl rfl ?_
               refine AList.pickF rfl rfl rfl rfl ?_
               refine AList.move rfl rfl rfl ?_
               refine AList.fieldPt tyOk rfl rfl rfl rfl rfl rfl rfl ?_
               refine AList.load1 tyOk rfl rfl rfl rfl rfl rfl rfl oM oM ?_
               refine AList.fieldPt tyOk rfl rfl rfl rfl rfl rfl rfl ?_
               refine AList.load1 tyOk rfl rfl rfl rfl rfl rfl rfl oM oM ?_
               refine AList.cmpF rfl rfl rfl rfl rfl cmF ?_
               refine AList.pickF rfl rfl rfl rfl ?_
               refine AList.move rfl rfl rfl ?_
               refine AList.fieldPt tyOk rfl rfl rfl rfl rfl rfl rfl ?_
               refine AList.load1 tyOk rfl rfl rfl rfl rfl rfl rfl oM oM ?_
               refine AList.fieldPt tyOk rfl rfl rfl rfl rfl rfl rfl ?_
               refine AList.load1 tyOk rfl rfl rfl rfl rfl rfl rfl oM oM ?_
               refine AList.cmpT rfl rfl rfl rfl rfl cmT ?_
               refine AList.pickF rfl rfl rfl rfl ?_
               refine AList.nil ?_)
            | (refine AWp.region (id := 3) ?_
               refine AList.assign rfl rfl rfl ?_
               refine AList.assign rfl rfl rfl ?_
               refine AList.assign rfl rfl rfl ?_
               refine AList.nil ?_))
          refine ⟨mkSt 85 [(8, .c (iC 0)), (9, .c (iC 0)), (10, .c (bC false))] [] [], [], Wk.mk [] rfl rfl rfl ?_ trivial, rfl, rfl, ARets.three (x := .c _) (y := .c _) (z := .c _) (ARes.tmp rfl rfl) (ARes.tmp rfl rfl) (ARes.tmp rfl rfl)⟩
          repeat (first | exact trivial | refine ⟨⟨_, rfl, by first | exact LeA.c (LeC.refl _ rfl) | exact LeA.c (LeC.ow _ _ rfl) | exact LeA.c (LeC.pt _ _ _ _ _ rfl) | exact LeA.c (LeC.nil _ rfl) | exact LeA.c (LeC.nils _ _) | (refine LeA.int ?_; omega) | (refine LeA.int ?_; dsimp only; omega) | exact LeA.c (LeC.fz rfl rfl (by first | rfl | omega) (fun i _ j _ => ⟨rfl, by first | rfl | exact rowN_imm (fun _ => rfl) _ i j | exact rowF_imm (fun _ => rfl) _ i j⟩))⟩, ?_⟩)
      · have hok : ¬ fitOk x b dx dy := fun h => h3 h.2.2.1
        rw [if_neg hok, if_neg hok, decide_eq_false hok]
        refine acalls_at Try.func37 rfl rfl Try.ntmps37 rfl ?_
        repeat (first
          | refine AWp.seq ?_
          | refine thenA_n ?_
          | refine AWp.ret ?_
          | refine thenA_r ?_
          | refine AWp.condT rfl (by first | rfl | assumption | exact cmT) ?_
          | (refine AWp.region (id := 0) ?_
             refine AList.box rfl rfl rfl rfl rfl ?_
             refine AList.box rfl rfl rfl rfl rfl ?_
             refine AList.assign rfl rfl rfl ?_
             refine AList.assign rfl rfl rfl ?_
             refine AList.assign rfl rfl rfl ?_
             refine AList.nil ?_)
          | (refine AWp.region (id := 1) ?_
             refine AList.loadA tyOk rfl rfl rfl rfl rfl rfl rfl oM oM ?_
             refine AList.move rfl rfl rfl ?_
             refine AList.move rfl rfl rfl ?_
             refine AList.call rfl rfl rfl rfl Try.func33 rfl (by kernel_rfl) (hP) ?_
             refine AList.move rfl rfl rfl ?_
             refine AList.extract rfl rfl rfl rfl ?_
             refine AList.extract rfl rfl rfl rfl ?_
             refine AList.alloc tyOk rfl rfl rfl rfl rfl ?_
             refine AList.store tyOk rfl rfl rfl rfl rfl rfl rfl rfl oM oM ?_
             refine AList.assign rfl rfl rfl ?_
             refine AList.nil ?_)
          | (refine AWp.region (id := 2) ?_
             refine AList.move rfl rfl rfl ?_
             refine AList.cmp rfl rfl rfl rfl rfl ?_
             refine AList.move rfl rfl rfl ?_
             refine AList.loadA tyOk rfl rfl rfl rfl rfl rfl rfl oM oM ?_
             refine AList.call rfl rfl rfl rfl Try.func53 rfl (by kernel_rfl) (hC) ?_
             refine AList.cmp rfl rfl rfl rfl rfl ?_
             refine AList.pickF rfl rfl rfl rfl ?_
             refine AList.move rfl rfl rfl ?_
             refine AList.fieldPt tyOk rfl rfl rfl rfl rfl rfl rfl ?_
             refine AList.load1 tyOk rfl rfl rfl rfl rfl rfl rfl oM oM ?_
             refine AList.fieldPt tyOk rfl rfl rfl rfl rfl rfl rfl ?_
             refine AList.load1 tyOk rfl rfl rfl rfl rfl rfl rfl oM oM ?_
             refine AList.cmpT rfl rfl rfl rfl rfl cmT ?_
             refine AList.pickF rfl rfl rfl rfl ?_
             refine AList.move rfl rfl rfl ?_
             refine AList.skip rfl rfl ?_
             refine AList.skip rfl rfl ?_
             refine AList.skip rfl rfl ?_
             refine AList.skip rfl rfl ?_
             refine AList.skip rfl rfl ?_
             refine AList.pickT rfl rfl rfl rfl ?_
             refine AList.nil ?_)
          | (refine AWp.region (id := 3) ?_
             refine AList.assign rfl rfl rfl ?_
             refine AList.assign rfl rfl rfl ?_
             refine AList.assign rfl rfl rfl ?_
             refine AList.nil ?_))
        refine ⟨mkSt 85 [(8, .c (iC 0)), (9, .c (iC 0)), (10, .c (bC false))] [] [], [], Wk.mk [] rfl rfl rfl ?_ trivial, rfl, rfl, ARets.three (x := .c _) (y := .c _) (z := .c _) (ARes.tmp rfl rfl) (ARes.tmp rfl rfl) (ARes.tmp rfl rfl)⟩
        repeat (first | exact trivial | refine ⟨⟨_, rfl, by first | exact LeA.c (LeC.refl _ rfl) | exact LeA.c (LeC.ow _ _ rfl) | exact LeA.c (LeC.pt _ _ _ _ _ rfl) | exact LeA.c (LeC.nil _ rfl) | exact LeA.c (LeC.nils _ _) | (refine LeA.int ?_; omega) | (refine LeA.int ?_; dsimp only; omega) | exact LeA.c (LeC.fz rfl rfl (by first | rfl | omega) (fun i _ j _ => ⟨rfl, by first | rfl | exact rowN_imm (fun _ => rfl) _ i j | exact rowF_imm (fun _ => rfl) _ i j⟩))⟩, ?_⟩)
    · have hok : ¬ fitOk x b dx dy := fun h => h2 h.2.1
      rw [if_neg hok, if_neg hok, decide_eq_false hok]
      refine acalls_at Try.func37 rfl rfl Try.ntmps37 rfl ?_
      repeat (first
        | refine AWp.seq ?_
        | refine thenA_n ?_
        | refine AWp.ret ?_
        | refine thenA_r ?_
        | refine AWp.condT rfl (by first | rfl | assumption | exact cmT) ?_
        | (refine AWp.region (id := 0) ?_
           refine AList.box rfl rfl rfl rfl rfl ?_
           refine AList.box rfl rfl rfl rfl rfl ?_
           refine AList.assign rfl rfl rfl ?_
           refine AList.assign rfl rfl rfl ?_
           refine AList.assign rfl rfl rfl ?_
           refine AList.nil ?_)
        | (refine AWp.region (id := 1) ?_
           refine AList.loadA tyOk rfl rfl rfl rfl rfl rfl rfl oM oM ?_
           refine AList.move rfl rfl rfl ?_
           refine AList.move rfl rfl rfl ?_
           refine AList.call rfl rfl rfl rfl Try.func33 rfl (by kernel_rfl) (hP) ?_
           refine AList.move rfl rfl rfl ?_
           refine AList.extract rfl rfl rfl rfl ?_
           refine AList.extract rfl rfl rfl rfl ?_
           refine AList.alloc tyOk rfl rfl rfl rfl rfl ?_
           refine AList.store tyOk rfl rfl rfl rfl rfl rfl rfl rfl oM oM ?_
           refine AList.assign rfl rfl rfl ?_
           refine AList.nil ?_)
        | (refine AWp.region (id := 2) ?_
           refine AList.move rfl rfl rfl ?_
           refine AList.cmp rfl rfl rfl rfl rfl ?_
           refine AList.move rfl rfl rfl ?_
           refine AList.loadA tyOk rfl rfl rfl rfl rfl rfl rfl oM oM ?_
           refine AList.call rfl rfl rfl rfl Try.func53 rfl (by kernel_rfl) (hC) ?_
           refine AList.cmpT rfl rfl rfl rfl rfl cmT ?_
           refine AList.pickF rfl rfl rfl rfl ?_
           refine AList.move rfl rfl rfl ?_
           refine AList.skip rfl rfl ?_
           refine AList.skip rfl rfl ?_
           refine AList.skip rfl rfl ?_
           refine AList.skip rfl rfl ?_
           refine AList.skip rfl rfl ?_
           refine AList.pickT rfl rfl rfl rfl ?_
           refine AList.move rfl rfl rfl ?_
           refine AList.skip rfl rfl ?_
           refine AList.skip rfl rfl ?_
           refine AList.skip rfl rfl ?_
           refine AList.skip rfl rfl ?_
           refine AList.skip rfl rfl ?_
           refine AList.pickT rfl rfl rfl rfl ?_
           refine AList.nil ?_)
        | (refine AWp.region (id := 3) ?_
           refine AList.assign rfl rfl rfl ?_
           refine AList.assign rfl rfl rfl ?_
           refine AList.assign rfl rfl rfl ?_
           refine AList.nil ?_))
      refine ⟨mkSt 85 [(8, .c (iC 0)), (9, .c (iC 0)), (10, .c (bC false))] [] [], [], Wk.mk [] rfl rfl rfl ?_ trivial, rfl, rfl, ARets.three (x := .c _) (y := .c _) (z := .c _) (ARes.tmp rfl rfl) (ARes.tmp rfl rfl) (ARes.tmp rfl rfl)⟩
      repeat (first | exact trivial | refine ⟨⟨_, rfl, by first | exact LeA.c (LeC.refl _ rfl) | exact LeA.c (LeC.ow _ _ rfl) | exact LeA.c (LeC.pt _ _ _ _ _ rfl) | exact LeA.c (LeC.nil _ rfl) | exact LeA.c (LeC.nils _ _) | (refine LeA.int ?_; omega) | (refine LeA.int ?_; dsimp only; omega) | exact LeA.c (LeC.fz rfl rfl (by first | rfl | omega) (fun i _ j _ => ⟨rfl, by first | rfl | exact rowN_imm (fun _ => rfl) _ i j | exact rowF_imm (fun _ => rfl) _ i j⟩))⟩, ?_⟩)
  · have hok : ¬ fitOk x b dx dy := fun h => h1 h.1
    rw [if_neg hok, if_neg hok, decide_eq_false hok]
    rw [putV, if_neg h1] at hP
    refine acalls_at Try.func37 rfl rfl Try.ntmps37 rfl ?_
    repeat (first
      | refine AWp.seq ?_
      | refine thenA_n ?_
      | refine AWp.ret ?_
      | refine thenA_r ?_
      | refine AWp.condT rfl (by first | rfl | assumption | exact cmT) ?_
      | (refine AWp.region (id := 0) ?_
         refine AList.box rfl rfl rfl rfl rfl ?_
         refine AList.box rfl rfl rfl rfl rfl ?_
         refine AList.assign rfl rfl rfl ?_
         refine AList.assign rfl rfl rfl ?_
         refine AList.assign rfl rfl rfl ?_
         refine AList.nil ?_)
      | (refine AWp.region (id := 1) ?_
         refine AList.loadA tyOk rfl rfl rfl rfl rfl rfl rfl oM oM ?_
         refine AList.move rfl rfl rfl ?_
         refine AList.move rfl rfl rfl ?_
         refine AList.call rfl rfl rfl rfl Try.func33 rfl (by kernel_rfl) (hP) ?_
         refine AList.move rfl rfl rfl ?_
         refine AList.extract rfl rfl rfl rfl ?_
         refine AList.extract rfl rfl rfl rfl ?_
         refine AList.alloc tyOk rfl rfl rfl rfl rfl ?_
         refine AList.store tyOk rfl rfl rfl rfl rfl rfl rfl rfl oM oM ?_
         refine AList.assign rfl rfl rfl ?_
         refine AList.nil ?_)
      | (refine AWp.region (id := 2) ?_
         refine AList.move rfl rfl rfl ?_
         refine AList.cmpT rfl rfl rfl rfl rfl cmT ?_
         refine AList.move rfl rfl rfl ?_
         refine AList.skip rfl rfl ?_
         refine AList.skip rfl rfl ?_
         refine AList.skip rfl rfl ?_
         refine AList.pickT rfl rfl rfl rfl ?_
         refine AList.move rfl rfl rfl ?_
         refine AList.skip rfl rfl ?_
         refine AList.skip rfl rfl ?_
         refine AList.skip rfl rfl ?_
         refine AList.skip rfl rfl ?_
         refine AList.skip rfl rfl ?_
         refine AList.pickT rfl rfl rfl rfl ?_
         refine AList.move rfl rfl rfl ?_
         refine AList.skip rfl rfl ?_
         refine AList.skip rfl rfl ?_
         refine AList.skip rfl rfl ?_
         refine AList.skip rfl rfl ?_
         refine AList.skip rfl rfl ?_
         refine AList.pickT rfl rfl rfl rfl ?_
         refine AList.nil ?_)
      | (refine AWp.region (id := 3) ?_
         refine AList.assign rfl rfl rfl ?_
         refine AList.assign rfl rfl rfl ?_
         refine AList.assign rfl rfl rfl ?_
         refine AList.nil ?_))
    refine ⟨mkSt 85 [(8, .c (iC 0)), (9, .c (iC 0)), (10, .c (bC false))] [] [], [], Wk.mk [] rfl rfl rfl ?_ trivial, rfl, rfl, ARets.three (x := .c _) (y := .c _) (z := .c _) (ARes.tmp rfl rfl) (ARes.tmp rfl rfl) (ARes.tmp rfl rfl)⟩
    repeat (first | exact trivial | refine ⟨⟨_, rfl, by first | exact LeA.c (LeC.refl _ rfl) | exact LeA.c (LeC.ow _ _ rfl) | exact LeA.c (LeC.pt _ _ _ _ _ rfl) | exact LeA.c (LeC.nil _ rfl) | exact LeA.c (LeC.nils _ _) | (refine LeA.int ?_; omega) | (refine LeA.int ?_; dsimp only; omega) | exact LeA.c (LeC.fz rfl rfl (by first | rfl | omega) (fun i _ j _ => ⟨rfl, by first | rfl | exact rowN_imm (fun _ => rfl) _ i j | exact rowF_imm (fun _ => rfl) _ i j⟩))⟩, ?_⟩)
end Go.Proofs.Ytclaanggpcjnbaa
end
