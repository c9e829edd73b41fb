/- Parts of the proof: ImgKnown, ImgFits, A33a. -/
import Derived.Test.YtcdnpnbjloaihaaProg
import Derived.Test.YtcdnpnbjloaihaaG09
import Derived.Test.YtcdnpnbjloaihaaG13
import Derived.Test.YtcdnpnbjloaihaaG14
import Derived.Test.YtcdnpnbjloaihaaG15
import Derived.Test.YtcdnpnbjloaihaaG18
import Derived.Test.YtcdnpnbjloaihaaG19
import Derived.Test.YtcdnpnbjloaihaaG20
set_option linter.unusedSimpArgs false
set_option linter.unusedVariables false
section
/- image.Known: how many pixels are known. No condition but those that each states. -/
namespace Go.Proofs.Ytcdnpnbjloaihaa
open Go.RowKit Go.Flow Go.Plain
open Go.Proofs
attribute [local go_sem] block_add
attribute [local go_sem ↓] Go.wp_at_zero Go.wp_at_succ

def knownB (f : Nat → Int) (k : Nat) : Bool := f k != 2
theorem known1_any (i p : Int) (w : World) : Calls Try.prog 43 #[.int .i64 i, .int .i64 p] w fun e w' => e = .returned (.bool (p != 2)) ∧ w = w' := by
  go_enter Try.func43, Try.ntmps43
  go_wp2
  go_ret
  exact ⟨rfl, rfl⟩

set_option maxHeartbeats 1000000 in
set_option maxRecDepth 100000 in
theorem countKnown_any (A : Option Addr) (n c : Nat) (f : Nat → Int) (w : World) (hn : n ≤ 1000000) (hA : Ints w A n f) :
    Calls Try.prog 42 #[.slice A n c, .func (.func 43) #[] #[]] w fun e w' => e = .returned (.int .i64 (cnt (knownB f) n)) ∧ w = w' := by
  go_enter Try.func42, Try.ntmps42
  go_wp2_with fail
  go_loopw [5, 10] (fun x i wr => ∃ k : Nat, k ≤ n ∧ i = .int .i64 k ∧ x = .int .i64 (cnt (knownB f) k) ∧ w = wr) (fun _ i _ => n - (intOf i).toNat)
  case atStart => exact ⟨0, by omega, rfl, rfl, rfl⟩
  case round =>
    obtain ⟨k, hk, rfl, rfl, rfl⟩ := hrel
    have hc0 := cnt_nonneg (knownB f) k
    have hc1 := cnt_le (knownB f) k
    by_cases hlt : k < n
    · have hlt' : (k : Int) < n := by omega
      obtain ⟨ad, rfl, hc⟩ := hA k hlt
      have hal := lt_of_cell hc
      have hs := cnt_succ (knownB f) k
      obtain ⟨p, hp⟩ : ∃ p, f k = p := ⟨_, rfl⟩
      have hkb : knownB f k = (p != 2) := by rw [← hp]; rfl
      rw [hkb] at hs
      simp only [hp] at hc
      replace hp := Lib.hid hp
      replace hkb := Lib.hid hkb
      by_cases h : p = 2
      · have hb : (p != 2) = false := by simp [h]
        rw [hb] at hs
        simp only [Bool.false_eq_true, if_false, Int.add_zero] at hs
        replace hs := Lib.hid hs
        clear h
        go_wp2_with (go_at_call 43; refine (known1_any _ _ _).mono ?_; rintro e w' ⟨rfl, rfl⟩)
        exact ⟨⟨k + 1, by omega, by go_num, by rw [hs.out], trivial⟩, by simp only [intOf]; omega⟩
      · have hb : (p != 2) = true := by simp [h]
        rw [hb] at hs
        simp only [if_true] at hs
        replace hs := Lib.hid hs
        clear h
        go_wp2_with (go_at_call 43; refine (known1_any _ _ _).mono ?_; rintro e w' ⟨rfl, rfl⟩)
        exact ⟨⟨k + 1, by omega, by go_num, by rw [hs.out], trivial⟩, by simp only [intOf]; omega⟩
    · obtain rfl : k = n := by omega
      have hlt' : ¬ ((k : Int) < k) := by omega
      go_wp2_with fail
      go_ret
      exact ⟨rfl, rfl⟩

def knownV (W H : Int) (n : Nat) (f : Nat → Int) : Int := if chkI W H n f = 0 then cnt (knownB f) n else 0
theorem Known_any (W H : Int) (A : Option Addr) (n c : Nat) (f : Nat → Int) (w : World) (hn : n ≤ 1000000) (hA : Ints w A n f) :
    Calls Try.prog 24 #[img W H A n c] w fun e w' => e = .returned (.int .i64 (knownV W H n f)) ∧ Ext w w' := by
  have hE := Lib.hid ((Ext.refl w).alloc (.cells #[.int .i64 W, .int .i64 H, .slice A n c] 27))
  have hB := Lib.hid (Blk.new w 27 #[.int .i64 W, .int .i64 H, .slice A n c])
  have hA1 := Lib.hid (hA.ext hE.out)
  by_cases hok : chkI W H n f = 0
  · have hne : (chkI W H n f != 0) = false := by simpa using hok
    have hv : knownV W H n f = cnt (knownB f) n := by unfold knownV; rw [if_pos hok]
    rw [hv]
    clear hv
    replace hok := Lib.hid hok
    go_enter Try.func24, Try.ntmps24
    go_wp2_with fail
    refine (ICheck_any W H A n c f _ (by omega) hA1.out).mono ?_
    rintro e w1 ⟨rfl, hE1⟩
    obtain ⟨bc, bf, bl⟩ := (hB.out.ext hE1).rules
    have hA2 := Lib.hid (hA1.out.ext hE1)
    replace hE1 := Lib.hid (hE.out.trans hE1)
    go_wp2_with fail
    refine (countKnown_any A n c f _ hn hA2.out).mono ?_
    rintro e w2 ⟨rfl, rfl⟩
    go_wp2_with fail
    go_ret
    exact ⟨rfl, hE1.out⟩
  · have hne : (chkI W H n f != 0) = true := by simpa using hok
    have hv : knownV W H n f = 0 := by unfold knownV; rw [if_neg hok]
    rw [hv]
    clear hv
    replace hok := Lib.hid hok
    go_enter Try.func24, Try.ntmps24
    go_wp2_with fail
    refine (ICheck_any W H A n c f _ (by omega) hA1.out).mono ?_
    rintro e w1 ⟨rfl, hE1⟩
    replace hE1 := Lib.hid (hE.out.trans hE1)
    go_wp2_with fail
    go_ret
    exact ⟨rfl, hE1.out⟩
end Go.Proofs.Ytcdnpnbjloaihaa
end

section
/- The counts of image.Fits. No condition but those that each states. -/
namespace Go.Proofs.Ytcdnpnbjloaihaa
open Go.RowKit Go.Flow Go.Plain
open Go.Proofs
attribute [local go_sem] block_add
attribute [local go_sem ↓] Go.wp_at_zero Go.wp_at_succ

def bothB (a b : Int) (f g : Nat → Int) (k : Nat) : Bool := f k == a && g k == b
set_option maxHeartbeats 1000000 in
set_option maxRecDepth 100000 in
theorem fits1_any (k n m gf d : Nat) (W H : Int) (B : Option Addr) (f g : Nat → Int) (w : World) (hk : k < m) (hm : m ≤ 1000000) (hG : Blk w gf 27 #[.int .i64 W, .int .i64 H, .slice B m d]) (hB : Ints w B m g) :
    Calls Try.prog 53 #[.int .i64 k, .int .i64 (f k), .pointer (some ⟨gf, 0, none⟩)] w fun e w' => e = .returned (.bool (bothB 0 1 f g k)) ∧ w = w' := by
  obtain ⟨v, hv⟩ : ∃ v, bothB 0 1 f g k = v := ⟨_, rfl⟩
  rw [hv]
  replace hv := Lib.hid hv
  obtain ⟨gc, gff, gfl⟩ := hG.rules
  have hk' : (k : Int) < m := by omega
  obtain ⟨ad, rfl, hc⟩ := hB k hk
  obtain ⟨p, hp⟩ : ∃ p, f k = p := ⟨_, rfl⟩
  obtain ⟨q, hq⟩ : ∃ q, g k = q := ⟨_, rfl⟩
  rw [hp]
  simp only [hq] at hc
  by_cases h1 : p = 0
  · have h1' : (p == 0) = true := by simpa using h1
    have hv2 : (q == 1) = v := by have := hv.out; unfold bothB at this; rw [hp, hq, h1'] at this; simpa using this
    replace hp := Lib.hid hp
    replace hq := Lib.hid hq
    replace hG := Lib.hid hG
    clear h1
    go_enter Try.func53, Try.ntmps53
    go_wp2_with fail
    go_ret
    exact ⟨by first | rfl | (rw [← hv2]), rfl⟩
  · have h1' : (p == 0) = false := by simpa using h1
    have hv2 : v = false := by have := hv.out; unfold bothB at this; rw [hp, h1'] at this; simpa using this.symm
    subst hv2
    replace hp := Lib.hid hp
    replace hq := Lib.hid hq
    replace hG := Lib.hid hG
    clear h1
    go_enter Try.func53, Try.ntmps53
    go_wp2_with fail
    go_ret
    exact ⟨rfl, rfl⟩

set_option maxHeartbeats 1000000 in
set_option maxRecDepth 100000 in
theorem fits2_any (k n m gf d : Nat) (W H : Int) (B : Option Addr) (f g : Nat → Int) (w : World) (hk : k < m) (hm : m ≤ 1000000) (hG : Blk w gf 27 #[.int .i64 W, .int .i64 H, .slice B m d]) (hB : Ints w B m g) :
    Calls Try.prog 54 #[.int .i64 k, .int .i64 (f k), .pointer (some ⟨gf, 0, none⟩)] w fun e w' => e = .returned (.bool (bothB 1 0 f g k)) ∧ w = w' := by
  obtain ⟨v, hv⟩ : ∃ v, bothB 1 0 f g k = v := ⟨_, rfl⟩
  rw [hv]
  replace hv := Lib.hid hv
  obtain ⟨gc, gff, gfl⟩ := hG.rules
  have hk' : (k : Int) < m := by omega
  obtain ⟨ad, rfl, hc⟩ := hB k hk
  obtain ⟨p, hp⟩ : ∃ p, f k = p := ⟨_, rfl⟩
  obtain ⟨q, hq⟩ : ∃ q, g k = q := ⟨_, rfl⟩
  rw [hp]
  simp only [hq] at hc
  by_cases h1 : p = 1
  · have h1' : (p == 1) = true := by simpa using h1
    have hv2 : (q == 0) = v := by have := hv.out; unfold bothB at this; rw [hp, hq, h1'] at this; simpa using this
    replace hp := Lib.hid hp
    replace hq := Lib.hid hq
    replace hG := Lib.hid hG
    clear h1
    go_enter Try.func54, Try.ntmps54
    go_wp2_with fail
    go_ret
    exact ⟨by first | rfl | (rw [← hv2]), rfl⟩
  · have h1' : (p == 1) = false := by simpa using h1
    have hv2 : v = false := by have := hv.out; unfold bothB at this; rw [hp, h1'] at this; simpa using this.symm
    subst hv2
    replace hp := Lib.hid hp
    replace hq := Lib.hid hq
    replace hG := Lib.hid hG
    clear h1
    go_enter Try.func54, Try.ntmps54
    go_wp2_with fail
    go_ret
    exact ⟨rfl, rfl⟩

set_option maxHeartbeats 1000000 in
set_option maxRecDepth 100000 in
theorem countFits1_any (A : Option Addr) (n c m gf d : Nat) (W H : Int) (B : Option Addr) (f g : Nat → Int) (w : World) (hn : n ≤ 1000000) (hm : m ≤ 1000000) (hnm : n ≤ m) (hA : Ints w A n f) (hG : Blk w gf 27 #[.int .i64 W, .int .i64 H, .slice B m d]) (hB : Ints w B m g) :
    Calls Try.prog 42 #[.slice A n c, .func (.func 53) #[] #[.pointer (some ⟨gf, 0, none⟩)]] w fun e w' => e = .returned (.int .i64 (cnt (bothB 0 1 f g) n)) ∧ w = w' := by
  replace hG := Lib.hid hG
  replace hB := Lib.hid hB
  go_enter Try.func42, Try.ntmps42
  go_wp2_with fail
  go_loopw [5, 10] (fun x i wr => ∃ k : Nat, k ≤ n ∧ i = .int .i64 k ∧ x = .int .i64 (cnt (bothB 0 1 f g) k) ∧ w = wr) (fun _ i _ => n - (intOf i).toNat)
  case atStart => exact ⟨0, by omega, rfl, rfl, rfl⟩
  case round =>
    obtain ⟨k, hk, rfl, rfl, rfl⟩ := hrel
    have hc0 := cnt_nonneg (bothB 0 1 f g) k
    have hc1 := cnt_le (bothB 0 1 f g) k
    by_cases hlt : k < n
    · have hlt' : (k : Int) < n := by omega
      obtain ⟨ad, rfl, hc⟩ := hA k hlt
      have hal := lt_of_cell hc
      have hs := cnt_succ (bothB 0 1 f g) k
      have hlw := fits1_any k n m gf d W H B f g w (by omega) hm hG.out hB.out
      obtain ⟨p, hp⟩ : ∃ p, f k = p := ⟨_, rfl⟩
      obtain ⟨v, hv⟩ : ∃ v, bothB 0 1 f g k = v := ⟨_, rfl⟩
      rw [hv] at hs hlw
      rw [hp] at hlw
      simp only [hp] at hc
      replace hp := Lib.hid hp
      replace hv := Lib.hid hv
      replace hlw := Lib.hid hlw
      cases v
      · simp only [Bool.false_eq_true, if_false, Int.add_zero] at hs
        replace hs := Lib.hid hs
        go_wp2_with (go_at_call 53; refine hlw.out.mono ?_; rintro e w' ⟨rfl, rfl⟩)
        exact ⟨⟨k + 1, by omega, by go_num, by rw [hs.out], trivial⟩, by simp only [intOf]; omega⟩
      · simp only [if_true] at hs
        replace hs := Lib.hid hs
        go_wp2_with (go_at_call 53; refine hlw.out.mono ?_; rintro e w' ⟨rfl, rfl⟩)
        exact ⟨⟨k + 1, by omega, by go_num, by rw [hs.out], trivial⟩, by simp only [intOf]; omega⟩
    · obtain rfl : k = n := by omega
      have hlt' : ¬ ((k : Int) < k) := by omega
      go_wp2_with fail
      go_ret
      exact ⟨rfl, rfl⟩

set_option maxHeartbeats 1000000 in
set_option maxRecDepth 100000 in
theorem countFits2_any (A : Option Addr) (n c m gf d : Nat) (W H : Int) (B : Option Addr) (f g : Nat → Int) (w : World) (hn : n ≤ 1000000) (hm : m ≤ 1000000) (hnm : n ≤ m) (hA : Ints w A n f) (hG : Blk w gf 27 #[.int .i64 W, .int .i64 H, .slice B m d]) (hB : Ints w B m g) :
    Calls Try.prog 42 #[.slice A n c, .func (.func 54) #[] #[.pointer (some ⟨gf, 0, none⟩)]] w fun e w' => e = .returned (.int .i64 (cnt (bothB 1 0 f g) n)) ∧ w = w' := by
  replace hG := Lib.hid hG
  replace hB := Lib.hid hB
  go_enter Try.func42, Try.ntmps42
  go_wp2_with fail
  go_loopw [5, 10] (fun x i wr => ∃ k : Nat, k ≤ n ∧ i = .int .i64 k ∧ x = .int .i64 (cnt (bothB 1 0 f g) k) ∧ w = wr) (fun _ i _ => n - (intOf i).toNat)
  case atStart => exact ⟨0, by omega, rfl, rfl, rfl⟩
  case round =>
    obtain ⟨k, hk, rfl, rfl, rfl⟩ := hrel
    have hc0 := cnt_nonneg (bothB 1 0 f g) k
    have hc1 := cnt_le (bothB 1 0 f g) k
    by_cases hlt : k < n
    · have hlt' : (k : Int) < n := by omega
      obtain ⟨ad, rfl, hc⟩ := hA k hlt
      have hal := lt_of_cell hc
      have hs := cnt_succ (bothB 1 0 f g) k
      have hlw := fits2_any k n m gf d W H B f g w (by omega) hm hG.out hB.out
      obtain ⟨p, hp⟩ : ∃ p, f k = p := ⟨_, rfl⟩
      obtain ⟨v, hv⟩ : ∃ v, bothB 1 0 f g k = v := ⟨_, rfl⟩
      rw [hv] at hs hlw
      rw [hp] at hlw
      simp only [hp] at hc
      replace hp := Lib.hid hp
      replace hv := Lib.hid hv
      replace hlw := Lib.hid hlw
      cases v
      · simp only [Bool.false_eq_true, if_false, Int.add_zero] at hs
        replace hs := Lib.hid hs
        go_wp2_with (go_at_call 54; refine hlw.out.mono ?_; rintro e w' ⟨rfl, rfl⟩)
        exact ⟨⟨k + 1, by omega, by go_num, by rw [hs.out], trivial⟩, by simp only [intOf]; omega⟩
      · simp only [if_true] at hs
        replace hs := Lib.hid hs
        go_wp2_with (go_at_call 54; refine hlw.out.mono ?_; rintro e w' ⟨rfl, rfl⟩)
        exact ⟨⟨k + 1, by omega, by go_num, by rw [hs.out], trivial⟩, by simp only [intOf]; omega⟩
    · obtain rfl : k = n := by omega
      have hlt' : ¬ ((k : Int) < k) := by omega
      go_wp2_with fail
      go_ret
      exact ⟨rfl, rfl⟩
end Go.Proofs.Ytcdnpnbjloaihaa
end

section
/- Chapter 33 over plain values: Blocks and Fill (both), SameRects, Known, Fits, the law's in. -/
namespace Go.Proofs.Ytcdnpnbjloaihaa
open Go.RowKit Go.Flow Go.AV Go.Plain
attribute [local go_sem] block_add
abbrev rcC (r : Rc) : List CV := [iC r.1, iC r.2.1, iC r.2.2.1, iC r.2.2.2]
abbrev rcZ : Rc := (0, 0, 0, 0)
abbrev rcF (L : List Rc) : Nat → Nat → CV := rowF rcC rcZ L
theorem rcC_imm (x : Rc) : (rcC x).all immC = true := rfl
def blkL (W H : Int) (n : Nat) (f : Nat → Int) : List Rc := if chkI W H n f = 0 then blocks W.toNat H.toNat n f else []
theorem blk_rep {O : Nat → Prop} {w w' : World} {L : List Rc} {v : Value} (hO : ∀ b, O b → b < w.heap.size) (h : w'.ownsRow w.heap.size 29 4 v L.length (flat L)) : RepC (fun _ => none) O w' (.ls L.length 4 (rcF L)) v :=
  row_rep hO h fun k hk j hj => by
    have e := List.getElem?_eq_getElem hk
    have h1 := flat_get e j hj
    have hz : L.getD k rcZ = L[k] := by rw [List.getD_eq_getElem?_getD, e]; rfl
    refine ⟨_, h1.trans (List.getElem?_eq_getElem (by simpa [rcells] using hj)), ?_, ?_⟩
    · match j, hj with
      | 0, _ => rfl
      | 1, _ => rfl
      | 2, _ => rfl
      | 3, _ => rfl
    · simp only [rowF, hz]
      match j, hj with
      | 0, _ => rfl
      | 1, _ => rfl
      | 2, _ => rfl
      | 3, _ => rfl
theorem chkI_nat {W H : Int} {n : Nat} {f : Nat → Int} (h : chkI W H n f = 0) : ∃ Wn Hn : Nat, W = Wn ∧ H = Hn := by
  obtain ⟨h1, -, h2, -, -⟩ := (chkI_ok.1 h).1
  exact ⟨W.toNat, H.toNat, by omega, by omega⟩
theorem pBlocks_A (W H : Int) (n : Nat) (f : Nat → Int) (hn : n ≤ 4611686018427387904) : ACalls Try.prog 14 [.ag (imgV W H n f)] (.c (.ls (blkL W H n f).length 4 (rcF (blkL W H n f)))) :=
  ACalls.of fun O w vals hO h => by
    obtain ⟨x, rfl, h1⟩ := args1 h
    obtain ⟨A, c, rfl, -, hA⟩ := rep_img h1
    by_cases hok : chkI W H n f = 0
    · obtain ⟨Wn, Hn, rfl, rfl⟩ := chkI_nat hok
      have e : blkL Wn Hn n f = blocks Wn Hn n f := by unfold blkL; rw [if_pos hok]; rfl
      rw [e]
      exact (Blocks_ok Wn Hn A n c f w hA hok).mono fun e w' ⟨v, g1, g2, g3⟩ => ⟨v, g1, blk_rep hO g2, g3⟩
    · have e : blkL W H n f = [] := by unfold blkL; rw [if_neg hok]
      rw [e]
      exact (Blocks_bad W H A n c f w hn hA hok).mono fun e w' ⟨g1, g2⟩ => ⟨_, g1, nil_rep, g2⟩
theorem rBlocks_A (W H : Int) (n : Nat) (f : Nat → Int) (hn : n ≤ 4611686018427387904) : ACalls Try.prog 15 [.ag (imgV W H n f)] (.c (.ls (blkL W H n f).length 4 (rcF (blkL W H n f)))) :=
  ACalls.of fun O w vals hO h => by
    obtain ⟨x, rfl, h1⟩ := args1 h
    obtain ⟨A, c, rfl, -, hA⟩ := rep_img h1
    by_cases hok : chkI W H n f = 0
    · obtain ⟨Wn, Hn, rfl, rfl⟩ := chkI_nat hok
      have e : blkL Wn Hn n f = blocks Wn Hn n f := by unfold blkL; rw [if_pos hok]; rfl
      rw [e]
      exact (RBlocks_ok Wn Hn A n c f w hA hok).mono fun e w' ⟨v, g1, g2, g3⟩ => ⟨v, g1, blk_rep hO g2, g3⟩
    · have e : blkL W H n f = [] := by unfold blkL; rw [if_neg hok]
      rw [e]
      exact (RBlocks_bad W H A n c f w hn hA hok).mono fun e w' ⟨g1, g2⟩ => ⟨_, g1, nil_rep, g2⟩
abbrev fillV (Wx Hx : Int) (n : Nat) (f : Nat → Int) (Wy Hy : Int) (m : Nat) (g : Nat → Int) (r : Rc) : AV :=
  if fillE Wx Hx n f Wy Hy m g = 0 then .tu [.ag (imgV Wx Hx n (fillF Wx f g r)), .c (iC 0)] else .tu [.ag (imgV 0 0 0 fun _ => 0), .c (iC (fillE Wx Hx n f Wy Hy m g))]
theorem fill_rep {O : Nat → Prop} {w w' : World} {Wx Hx : Int} {n : Nat} {f : Nat → Int} {Wy Hy : Int} {m : Nat} {g : Nat → Int} {r : Rc} {e : Ending} (hO : ∀ b, O b → b < w.heap.size) (h : FillPost Wx Hx n f Wy Hy m g r w e w') : ∃ v, e = .returned v ∧ RepA (fun _ => none) O w' (fillV Wx Hx n f Wy Hy m g r) v ∧ Ext w w' := by
  unfold fillV
  rcases h with ⟨h1, h2, h3⟩ | ⟨h1, A, c, h2, h4, h5, h6⟩
  · rw [if_neg h1]
    exact ⟨_, h2, ⟨[_, _], rfl, ⟨[_, _, _], rfl, ⟨rfl, rfl⟩, ⟨rfl, rfl⟩, nil_rep, trivial⟩, ⟨rfl, rfl⟩, trivial⟩, h3⟩
  · rw [if_pos h1]
    exact ⟨_, h2, ⟨[_, _], rfl, img_rep hO h4 h5, ⟨rfl, rfl⟩, trivial⟩, h6⟩
theorem pFill_A (Wx Hx : Int) (n : Nat) (f : Nat → Int) (Wy Hy : Int) (m : Nat) (g : Nat → Int) (r : Rc) (hn : n ≤ 4611686018427387904) (hm : m ≤ 4611686018427387904) : ACalls Try.prog 16 [.ag (imgV Wx Hx n f), .ag (imgV Wy Hy m g), .ag (rcC r)] (fillV Wx Hx n f Wy Hy m g r) :=
  ACalls.of fun O w vals hO h => by
    obtain ⟨x, y, z, rfl, h1, h2, h3⟩ := args3 h
    obtain ⟨A, c, rfl, -, hA⟩ := rep_img h1
    obtain ⟨B, d, rfl, -, hB⟩ := rep_img h2
    obtain rfl := rep_rct h3
    exact (Fill_any Wx Hx A n c f Wy Hy B m d g _ _ _ _ w hn hm hA hB).mono fun e w' hp => fill_rep hO hp
theorem rFill_A (Wx Hx : Int) (n : Nat) (f : Nat → Int) (Wy Hy : Int) (m : Nat) (g : Nat → Int) (r : Rc) (hn : n ≤ 4611686018427387904) (hm : m ≤ 4611686018427387904) : ACalls Try.prog 17 [.ag (imgV Wx Hx n f), .ag (imgV Wy Hy m g), .ag (rcC r)] (fillV Wx Hx n f Wy Hy m g r) :=
  ACalls.of fun O w vals hO h => by
    obtain ⟨x, y, z, rfl, h1, h2, h3⟩ := args3 h
    obtain ⟨A, c, rfl, -, hA⟩ := rep_img h1
    obtain ⟨B, d, rfl, -, hB⟩ := rep_img h2
    obtain rfl := rep_rct h3
    exact (RFill_any Wx Hx A n c f Wy Hy B m d g _ _ _ _ w hn hm hA hB).mono fun e w' hp => fill_rep hO hp
theorem Known_A (W H : Int) (n : Nat) (f : Nat → Int) (hn : n ≤ 1000000) : ACalls Try.prog 24 [.ag (imgV W H n f)] (.c (iC (knownV W H n f))) :=
  ACalls.old rfl fun O w vals h => by
    obtain ⟨x, rfl, h1⟩ := args1 h
    obtain ⟨A, c, rfl, -, hA⟩ := rep_img h1
    exact Known_any W H A n c f w hn hA
theorem rect_ne (r s : Rc) (w : World) : (Go.binOp .neq 29 (.agg #[.int .i64 r.1, .int .i64 r.2.1, .int .i64 r.2.2.1, .int .i64 r.2.2.2]) (.agg #[.int .i64 s.1, .int .i64 s.2.1, .int .i64 s.2.2.1, .int .i64 s.2.2.2])).run Try.prog w = .ok (.bool (!decide (r = s))) w := by
  have hp : Try.prog.stoodInHeld 29 = false := by kernel_rfl
  obtain ⟨a0, a1, a2, a3⟩ := r
  obtain ⟨b0, b1, b2, b3⟩ := s
  go_simp
  by_cases e0 : a0 = b0 <;> by_cases e1 : a1 = b1 <;> by_cases e2 : a2 = b2 <;> by_cases e3 : a3 = b3 <;> simp [e0, e1, e2, e3]
theorem rect_eq (r s : Rc) (w : World) : (Go.binOp .eql 29 (.agg #[.int .i64 r.1, .int .i64 r.2.1, .int .i64 r.2.2.1, .int .i64 r.2.2.2]) (.agg #[.int .i64 s.1, .int .i64 s.2.1, .int .i64 s.2.2.1, .int .i64 s.2.2.2])).run Try.prog w = .ok (.bool (decide (r = s))) w := by
  have hp : Try.prog.stoodInHeld 29 = false := by kernel_rfl
  obtain ⟨a0, a1, a2, a3⟩ := r
  obtain ⟨b0, b1, b2, b3⟩ := s
  go_simp
  by_cases e0 : a0 = b0 <;> by_cases e1 : a1 = b1 <;> by_cases e2 : a2 = b2 <;> by_cases e3 : a3 = b3 <;> simp [e0, e1, e2, e3]
set_option maxRecDepth 100000 in
theorem SameRects_A (l m : List Rc) (hl : l.length ≤ 100000) (hm : m.length ≤ 100000) : ACalls Try.prog 13 [.c (.ls l.length 4 (rcF l)), .c (.ls m.length 4 (rcF m))] (.c (bC (decide (l = m)))) := by
  by_cases hlen : l.length = m.length
  · refine acalls_at Try.func13 rfl rfl Try.ntmps13 rfl ?_
    repeat (first
      | refine AWp.seq ?_
      | refine thenA_n ?_
      | refine AWp.block ?_
      | refine AWp.skip ?_
      | refine AWp.condF rfl (by first | rfl | exact cmF) ?_
      | (refine AWp.region (id := 0) ?_
         refine AList.assign rfl rfl rfl ?_
         refine AList.nil ?_)
      | (refine AWp.region (id := 1) ?_
         refine AList.move rfl rfl rfl ?_
         refine AList.lenLs tyOk rfl rfl rfl rfl rfl ?_
         refine AList.move rfl rfl rfl ?_
         refine AList.lenLs tyOk rfl rfl rfl rfl rfl ?_
         refine AList.cmpF rfl rfl rfl rfl rfl cmF ?_
         refine AList.nil ?_)
      | (refine AWp.region (id := 3) ?_
         refine AList.assign rfl rfl rfl ?_
         refine AList.nil ?_))
    refine AWp.round (fun k : Nat => mkSt 26 [(0, .c (.ls l.length 4 (rcF l))), (1, .c (.ls m.length 4 (rcF m))), (5, .c (iC k))] [] [])
      (fun k => k ≤ l.length ∧ ∀ j, j < k → l.getD j rcZ = m.getD j rcZ) (fun k => l.length - k) 0 ⟨Nat.zero_le _, fun j hj => absurd hj (Nat.not_lt_zero _)⟩ ?_ (fun k hk => ?_)
    · refine Wk.mk [] rfl rfl rfl ?_ ?_
      · repeat (first | exact trivial | refine ⟨⟨_, rfl, by first | exact LeA.c (LeC.refl _ rfl) | exact LeA.c (LeC.ow _ _ rfl) | exact LeA.c (LeC.pt _ _ _ _ _ rfl) | exact LeA.c (LeC.nil _ rfl) | exact LeA.c (LeC.nils _ _) | (refine LeA.int ?_; omega) | (refine LeA.int ?_; dsimp only; omega) | exact LeA.c (LeC.fz rfl rfl (by first | rfl | omega) (fun i _ j _ => ⟨rfl, by first | rfl | exact rowN_imm (fun _ => rfl) _ i j | exact rowF_imm (fun _ => rfl) _ i j⟩))⟩, ?_⟩)
      · exact trivial
    · obtain ⟨hk, heq⟩ := hk
      by_cases hlt : k < l.length
      · by_cases he : l.getD k rcZ = m.getD k rcZ
        · have hne : ∀ w, (Go.binOp .neq 29 _ _).run Try.prog w = .ok (.bool false) w := fun w => (rect_ne (l.getD k rcZ) (m.getD k rcZ) w).trans (by rw [decide_eq_true he]; rfl)
          repeat (first
            | refine AWp.seq ?_
            | refine thenA_n ?_
            | refine AWp.block ?_
            | refine AWp.skip ?_
            | refine inBlk_n ?_
            | refine AWp.condT rfl (by first | rfl | exact cmT) ?_
            | refine AWp.condF rfl (by first | rfl | exact cmF) ?_
            | (refine AWp.region (id := 4) ?_
               refine AList.move rfl rfl rfl ?_
               refine AList.move rfl rfl rfl ?_
               refine AList.lenLs tyOk rfl rfl rfl rfl rfl ?_
               refine AList.cmpT rfl rfl rfl rfl rfl cmT ?_
               refine AList.nil ?_)
            | (refine AWp.region (id := 5) ?_
               refine AList.move rfl rfl rfl ?_
               refine AList.add rfl rfl rfl rfl (by omega) (by omega) ?_
               refine AList.assign rfl rfl rfl ?_
               refine AList.nil ?_)
            | (refine AWp.draw (id := 6) mixed ?_
               refine AList.move rfl rfl rfl ?_
               refine AList.move rfl rfl rfl ?_
               refine AList.idx tyOk rfl rfl rfl rfl rfl rfl rfl rfl rfl oM oM ?_
               refine AList.loadAl tyOk rfl rfl rfl rfl rfl oM ?_
               refine AList.move rfl rfl rfl ?_
               refine AList.move rfl rfl rfl ?_
               refine AList.idx tyOk rfl rfl rfl rfl rfl rfl rfl rfl rfl oM oM ?_
               refine AList.loadAl tyOk rfl rfl rfl rfl rfl oM ?_
               refine AList.binAg rfl rfl rfl rfl rfl rfl (by kernel_rfl) (hne) ?_
               refine AList.nil ⟨by kernel_rfl, ?_⟩))
          refine ⟨k + 1, ⟨by omega, fun j hj => ?_⟩, Wk.mk [] rfl rfl rfl ?_ ?_, by omega⟩
          · rcases Nat.lt_or_ge j k with h | h
            · exact heq j h
            · obtain rfl : j = k := by omega
              exact he
          · repeat (first | exact trivial | refine ⟨⟨_, rfl, by first | exact LeA.c (LeC.refl _ rfl) | exact LeA.c (LeC.ow _ _ rfl) | exact LeA.c (LeC.pt _ _ _ _ _ rfl) | exact LeA.c (LeC.nil _ rfl) | exact LeA.c (LeC.nils _ _) | (refine LeA.int ?_; omega) | (refine LeA.int ?_; dsimp only; omega) | exact LeA.c (LeC.fz rfl rfl (by first | rfl | omega) (fun i _ j _ => ⟨rfl, by first | rfl | exact rowN_imm (fun _ => rfl) _ i j | exact rowF_imm (fun _ => rfl) _ i j⟩))⟩, ?_⟩)
          · exact trivial
        · have hne : ∀ w, (Go.binOp .neq 29 _ _).run Try.prog w = .ok (.bool true) w := fun w => (rect_ne (l.getD k rcZ) (m.getD k rcZ) w).trans (by rw [decide_eq_false he]; rfl)
          have hf : decide (l = m) = false := decide_eq_false fun h => he (by rw [h])
          rw [hf]
          repeat (first
            | refine AWp.seq ?_
            | refine thenA_n ?_
            | refine AWp.block ?_
            | refine AWp.skip ?_
            | refine AWp.ret ?_
            | refine thenA_r ?_
            | refine inBlk_r ?_
            | refine AWp.condT rfl (by first | rfl | exact cmT) ?_
            | (refine AWp.region (id := 4) ?_
               refine AList.move rfl rfl rfl ?_
               refine AList.move rfl rfl rfl ?_
               refine AList.lenLs tyOk rfl rfl rfl rfl rfl ?_
               refine AList.cmpT rfl rfl rfl rfl rfl cmT ?_
               refine AList.nil ?_)
            | (refine AWp.draw (id := 6) mixed ?_
               refine AList.move rfl rfl rfl ?_
               refine AList.move rfl rfl rfl ?_
               refine AList.idx tyOk rfl rfl rfl rfl rfl rfl rfl rfl rfl oM oM ?_
               refine AList.loadAl tyOk rfl rfl rfl rfl rfl oM ?_
               refine AList.move rfl rfl rfl ?_
               refine AList.move rfl rfl rfl ?_
               refine AList.idx tyOk rfl rfl rfl rfl rfl rfl rfl rfl rfl oM oM ?_
               refine AList.loadAl tyOk rfl rfl rfl rfl rfl oM ?_
               refine AList.binAg rfl rfl rfl rfl rfl rfl (by kernel_rfl) (hne) ?_
               refine AList.nil ⟨by kernel_rfl, ?_⟩)
            | (refine AWp.region (id := 7) ?_
               refine AList.assign rfl rfl rfl ?_
               refine AList.nil ?_))
          refine ⟨mkSt 26 [(4, .c (bC false))] [] [], [], Wk.mk [] rfl rfl rfl ?_ ?_, rfl, rfl, ARets.one (x := .c _) (ARes.tmp rfl rfl)⟩
          · repeat (first | exact trivial | refine ⟨⟨_, rfl, by first | exact LeA.c (LeC.refl _ rfl) | exact LeA.c (LeC.ow _ _ rfl) | exact LeA.c (LeC.pt _ _ _ _ _ rfl) | exact LeA.c (LeC.nil _ rfl) | exact LeA.c (LeC.nils _ _) | (refine LeA.int ?_; omega) | (refine LeA.int ?_; dsimp only; omega) | exact LeA.c (LeC.fz rfl rfl (by first | rfl | omega) (fun i _ j _ => ⟨rfl, by first | rfl | exact rowN_imm (fun _ => rfl) _ i j | exact rowF_imm (fun _ => rfl) _ i j⟩))⟩, ?_⟩)
          · exact trivial
      · have hf : decide (l = m) = true := decide_eq_true (List.ext_getElem hlen fun j h1 h2 => by
          have := heq j (by omega)
          rwa [List.getD_eq_getElem?_getD, List.getD_eq_getElem?_getD, List.getElem?_eq_getElem h1, List.getElem?_eq_getElem h2] at this)
        rw [hf]
        repeat (first
          | refine AWp.seq ?_
          | refine thenA_n ?_
          | refine AWp.exit ?_
          | refine AWp.ret ?_
          | refine AWp.condF rfl (by first | rfl | exact cmF) ?_
          | (refine AWp.region (id := 4) ?_
             refine AList.move rfl rfl rfl ?_
             refine AList.move rfl rfl rfl ?_
             refine AList.lenLs tyOk rfl rfl rfl rfl rfl ?_
             refine AList.cmpF rfl rfl rfl rfl rfl cmF ?_
             refine AList.nil ?_)
          | (refine AWp.region (id := 8) ?_
             refine AList.assign rfl rfl rfl ?_
             refine AList.nil ?_))
        refine ⟨mkSt 26 [(4, .c (bC true))] [] [], [], Wk.mk [] rfl rfl rfl ?_ ?_, rfl, rfl, ARets.one (x := .c _) (ARes.tmp rfl rfl)⟩
        · repeat (first | exact trivial | refine ⟨⟨_, rfl, by first | exact LeA.c (LeC.refl _ rfl) | exact LeA.c (LeC.ow _ _ rfl) | exact LeA.c (LeC.pt _ _ _ _ _ rfl) | exact LeA.c (LeC.nil _ rfl) | exact LeA.c (LeC.nils _ _) | (refine LeA.int ?_; omega) | (refine LeA.int ?_; dsimp only; omega) | exact LeA.c (LeC.fz rfl rfl (by first | rfl | omega) (fun i _ j _ => ⟨rfl, by first | rfl | exact rowN_imm (fun _ => rfl) _ i j | exact rowF_imm (fun _ => rfl) _ i j⟩))⟩, ?_⟩)
        · exact trivial
  · have hf : decide (l = m) = false := decide_eq_false fun h => hlen (by rw [h])
    rw [hf]
    refine acalls_at Try.func13 rfl rfl Try.ntmps13 rfl ?_
    repeat (first
      | refine AWp.seq ?_
      | refine thenA_n ?_
      | refine AWp.ret ?_
      | refine thenA_r ?_
      | refine AWp.condT rfl (by first | rfl | exact cmT) ?_
      | (refine AWp.region (id := 0) ?_
         refine AList.assign rfl rfl rfl ?_
         refine AList.nil ?_)
      | (refine AWp.region (id := 1) ?_
         refine AList.move rfl rfl rfl ?_
         refine AList.lenLs tyOk rfl rfl rfl rfl rfl ?_
         refine AList.move rfl rfl rfl ?_
         refine AList.lenLs tyOk rfl rfl rfl rfl rfl ?_
         refine AList.cmpT rfl rfl rfl rfl rfl cmT ?_
         refine AList.nil ?_)
      | (refine AWp.region (id := 2) ?_
         refine AList.assign rfl rfl rfl ?_
         refine AList.nil ?_))
    refine ⟨mkSt 26 [(4, .c (bC false))] [] [], [], Wk.mk [] rfl rfl rfl ?_ ?_, rfl, rfl, ARets.one (x := .c _) (ARes.tmp rfl rfl)⟩
    · repeat (first | exact trivial | refine ⟨⟨_, rfl, by first | exact LeA.c (LeC.refl _ rfl) | exact LeA.c (LeC.ow _ _ rfl) | exact LeA.c (LeC.pt _ _ _ _ _ rfl) | exact LeA.c (LeC.nil _ rfl) | exact LeA.c (LeC.nils _ _) | (refine LeA.int ?_; omega) | (refine LeA.int ?_; dsimp only; omega) | exact LeA.c (LeC.fz rfl rfl (by first | rfl | omega) (fun i _ j _ => ⟨rfl, by first | rfl | exact rowN_imm (fun _ => rfl) _ i j | exact rowF_imm (fun _ => rfl) _ i j⟩))⟩, ?_⟩)
    · exact trivial
end Go.Proofs.Ytcdnpnbjloaihaa
end
