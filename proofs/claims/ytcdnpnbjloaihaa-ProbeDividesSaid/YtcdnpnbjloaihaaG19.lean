/- Parts of the proof: RbBlk. -/
import Derived.Test.YtcdnpnbjloaihaaProg
import Derived.Test.YtcdnpnbjloaihaaG14
set_option linter.unusedSimpArgs false
set_option linter.unusedVariables false
section
/- ref33.Blocks. No condition but those that each states. -/
namespace Go.Proofs.Ytcdnpnbjloaihaa
open Go.RowKit Go.Flow Go.Plain
open Go.Proofs
attribute [local go_sem] block_add
attribute [local go_sem ↓] Go.wp_at_zero Go.wp_at_succ

theorem RBlocks_bad (W H : Int) (A : Option Addr) (n c : Nat) (f : Nat → Int) (w : World) (hn : n ≤ 4611686018427387904) (hA : Ints w A n f) (hok : chkI W H n f ≠ 0) :
    Calls Try.prog 15 #[img W H A n c] w fun e w' => e = .returned (.slice none 0 0) ∧ Ext w w' := by
  have hne : (chkI W H n f == 0) = false := by simpa using hok
  have hne' : (chkI W H n f != 0) = true := by simpa using hok
  replace hok := Lib.hid hok
  have hE := Lib.hid ((Ext.refl w).alloc (.cells #[.int .i64 W, .int .i64 H, .slice A n c] 27))
  have hA1 := Lib.hid (hA.ext hE.out)
  go_enter Try.func15, Try.ntmps15
  go_wp2_with fail
  refine (RCheck_any W H A n c f _ hn hA1.out).mono ?_
  rintro e w1 ⟨rfl, hE1⟩
  replace hE1 := Lib.hid (hE.out.trans hE1)
  go_wp2_with fail
  go_ret
  exact ⟨rfl, hE1.out⟩

set_option maxHeartbeats 1000000 in
set_option maxRecDepth 100000 in
theorem RBlocks_ok (Wn Hn : Nat) (A : Option Addr) (n c : Nat) (f : Nat → Int) (w : World) (hA : Ints w A n f) (hok : chkI Wn Hn n f = 0) :
    Calls Try.prog 15 #[img Wn Hn A n c] w (BlocksPost (blocks Wn Hn n f) w) := by
  have hpost : ∀ e w', (∃ v, e = .returned v ∧ w'.ownsRow w.heap.size 29 4 v (blocks Wn Hn n f).length (flat (blocks Wn Hn n f)) ∧ Ext w w') → BlocksPost (blocks Wn Hn n f) w e w' := fun _ _ h => h
  replace hpost := Lib.hid hpost
  obtain ⟨i0, hi, hz0, hz1, hz2⟩ := info_parts info_rect
  have hsh := (chkI_ok.1 hok).1
  obtain ⟨-, hW, -, hH, hn⟩ := hsh
  have hn' : n = Wn * Hn := by exact_mod_cast hn
  have hWb : Wn ≤ 100 := by omega
  have hHb : Hn ≤ 100 := by omega
  have hnb : n ≤ 10000 := by subst hn'; exact Nat.mul_le_mul hWb hHb
  have hne : (chkI Wn Hn n f != 0) = false := by simpa using hok
  have hc1 : four Wn ≤ 25 := by unfold four; omega
  have hc2 : four Hn ≤ 25 := by unfold four; omega
  have hcW : ∀ t, t < four Wn ↔ 4 * t < Wn := fun t => by unfold four; omega
  have hcH : ∀ t, t < four Hn ↔ 4 * t < Hn := fun t => by unfold four; omega
  replace hok := Lib.hid hok
  replace hn := Lib.hid hn
  replace hn' := Lib.hid hn'
  replace hcW := Lib.hid hcW
  replace hcH := Lib.hid hcH
  have hE0 := Lib.hid ((Ext.refl w).alloc (.cells #[.int .i64 Wn, .int .i64 Hn, .slice A n c] 27))
  have hA0 := Lib.hid (hA.ext hE0.out)
  have hX0 := Lib.hid (Blk.new w 27 #[.int .i64 Wn, .int .i64 Hn, .slice A n c])
  go_enter Try.func15, Try.ntmps15
  go_wp2_with fail
  refine (RCheck_any Wn Hn A n c f _ (by omega) hA0.out).mono ?_
  rintro e w1 ⟨rfl, hE1⟩
  have hX1 := hX0.out.ext hE1
  replace hE1 := hE0.out.trans hE1
  clear hE0 hA0 hX0
  replace hX1 := Lib.hid hX1
  replace hE1 := Lib.hid hE1
  go_wp2_with fail
  go_loopw [3, 4] (fun v i wr => ∃ s j : Nat, s ≤ four Hn ∧ i = .int .i64 j ∧ Hid (j = 4 * s) ∧ Blk wr w.heap.size 27 #[.int .i64 Wn, .int .i64 Hn, .slice A n c] ∧ wr.ownsRow (w.heap.size + 1) 29 4 v (bls Wn Hn n f (s * four Wn)).length (flat (bls Wn Hn n f (s * four Wn))) ∧ Ext w wr) (fun _ i _ => 100 - (intOf i).toNat)
  case atStart => exact ⟨0, 0, by omega, rfl, Lib.hid rfl, hX1.out, by rw [Nat.zero_mul]; exact World.ownsRow_nil _ _ _ _, hE1.out⟩
  case round =>
    clear hX1 hE1
    obtain ⟨s, j, hs, rfl, hj, hX, hrow, hE⟩ := hrel
    obtain ⟨xc, xf, xl⟩ := hX.rules
    by_cases hlt : s < four Hn
    · have hjH : j < Hn := by rw [hj.out]; exact (hcH.out s).1 hlt
      have hjH' : (j : Int) < Hn := by omega
      replace hX := Lib.hid hX
      replace hrow := Lib.hid hrow
      replace hE := Lib.hid hE
      go_wp2_with fail
      obtain ⟨w9, rfl⟩ : ∃ w9 : World, w9 = wr := ⟨_, rfl⟩
      clear xc xf xl
      go_loopw [3, 5] (fun v i wr => ∃ t k : Nat, t ≤ four Wn ∧ i = .int .i64 k ∧ Hid (k = 4 * t) ∧ Blk wr w.heap.size 27 #[.int .i64 Wn, .int .i64 Hn, .slice A n c] ∧ wr.ownsRow (w.heap.size + 1) 29 4 v (bls Wn Hn n f (s * four Wn + t)).length (flat (bls Wn Hn n f (s * four Wn + t))) ∧ Ext w wr) (fun _ i _ => 100 - (intOf i).toNat)
      case atStart => exact ⟨0, 0, by omega, rfl, Lib.hid rfl, hX.out, hrow.out, hE.out⟩
      case round =>
        clear hX hrow hE
        obtain ⟨t, k, ht, rfl, hk, hX, hrow, hE⟩ := hrel
        obtain ⟨xc, xf, xl⟩ := hX.rules
        by_cases hxt : t < four Wn
        · have hkW : k < Wn := by rw [hk.out]; exact (hcW.out t).1 hxt
          have hkW' : (k : Int) < Wn := by omega
          obtain ⟨mW, hmW, hmW2, hmW3⟩ : ∃ mW : Int, (if (Wn : Int) - 1 < (k : Int) + 3 then (Wn : Int) - 1 else (k : Int) + 3) = mW ∧ mW = ((min (k + 4) Wn : Nat) : Int) - 1 ∧ 0 ≤ mW := ⟨_, rfl, by split <;> omega, by split <;> omega⟩
          obtain ⟨mH, hmH, hmH2, hmH3⟩ : ∃ mH : Int, (if (Hn : Int) - 1 < (j : Int) + 3 then (Hn : Int) - 1 else (j : Int) + 3) = mH ∧ mH = ((min (j + 4) Hn : Nat) : Int) - 1 ∧ 0 ≤ mH := ⟨_, rfl, by split <;> omega, by split <;> omega⟩
          have hmWb : mW ≤ 100 := by omega
          have hmHb : mH ≤ 100 := by omega
          have hrq : rq Wn Hn (s * four Wn + t) = ((k : Int), (j : Int), mW, mH) := by
            rw [rq_at hxt]; unfold rectq; rw [← hk.out, ← hj.out, hmW2, hmH2]
          have hw1 : IntKind.i64.wrap ((Wn : Int) - 1) = (Wn : Int) - 1 := by rw [IntKind.wrap_i64]; omega
          have hw2 : IntKind.i64.wrap ((Hn : Int) - 1) = (Hn : Int) - 1 := by rw [IntKind.wrap_i64]; omega
          replace hrq := Lib.hid hrq
          replace hmW2 := Lib.hid hmW2
          replace hmH2 := Lib.hid hmH2
          replace hX := Lib.hid hX
          replace hrow := Lib.hid hrow
          replace hE := Lib.hid hE
          go_wp2_with fail
          have hEV : Ext wr (wr.alloc (.cells #[.int .i64 (k : Int), .int .i64 (j : Int), .int .i64 mW, .int .i64 mH] 29)) := (Ext.refl wr).alloc _
          have hRc1 := Blk.new wr 29 #[.int .i64 (k : Int), .int .i64 (j : Int), .int .i64 mW, .int .i64 mH]
          refine (unknown_any Wn Hn n c A f k j mW mH _ hWb hHb hn'.out (hA.ext (hE.out.trans hEV))).mono ?_
          rintro e V2 ⟨vv, rfl, hvr, hEu⟩
          obtain ⟨Au, cu, rfl, -⟩ := row_open hvr
          have hRc2 := hRc1.ext hEu
          have hE2 := hE.out.trans (hEV.trans hEu)
          have hX2 := (hX.out.ext hEV).ext hEu
          have hrow2 := own_ext hrow.out (hEV.trans hEu)
          obtain ⟨rc, rf, rl⟩ := hRc2.rules
          replace hrow2 := Lib.hid hrow2
          replace hX2 := Lib.hid hX2
          have hbl : bls Wn Hn n f (s * four Wn + (t + 1)) = bls Wn Hn n f (s * four Wn + t) ++ (if decide (0 < cnt (unkB Wn f k j mW mH) n) then [((k : Int), (j : Int), mW, mH)] else []) := by
            rw [show s * four Wn + (t + 1) = s * four Wn + t + 1 from rfl, bls_succ]
            unfold hasU
            rw [hrq.out]
            rfl
          have hcu := uL_len (unkB Wn f k j mW mH) n
          have hlen := bls_len Wn Hn n f (s * four Wn + t)
          have hlb : s * four Wn + t ≤ 700 := by
            have : s * four Wn ≤ 25 * 25 := Nat.mul_le_mul (by omega) hc1
            omega
          rw [← hcu] at hbl
          replace hbl := Lib.hid hbl
          clear hcu hvr
          generalize (uL (unkB Wn f k j mW mH) n).length = cv at *
          clear hRc1 hX hrow hE hEV hEu xc xf xl hRc2
          replace hE2 := Lib.hid hE2
          have hx2s := hX2.out.lt
          by_cases hcv : (0 : Int) < cv
          · have hbl2 := hbl.out
            rw [decide_eq_true hcv, if_pos rfl] at hbl2
            replace hbl2 := Lib.hid hbl2
            clear hbl
            go_wp2_with (first
              | (at_builtin; refine wpList_app rfl (.tmp 43) (.tmp 45) 39 rfl i0 _ 32 Try.underlying39 hi hz0 hz1 hz2 rfl (by omega) rfl (own_ext hrow2.out ((Ext.refl V2).alloc _)) (some ⟨V2.heap.size, 0, none⟩) 1 1 rfl (rcells ((k : Int), (j : Int), mW, mH)) rfl (Lst.of_blk (Blk.new V2 29 #[.int .i64 (k : Int), .int .i64 (j : Int), .int .i64 mW, .int .i64 mH])) (by simp [rcells, Value.oneCell']) (by omega) (by omega) (by simp; omega) ?_))
            intro v' w6 hr2 hg2 hk2
            have hE6 := Lib.hid (hk2 w (by omega) (hE2.out.alloc _))
            have hX6 : Blk w6 w.heap.size 27 #[.int .i64 Wn, .int .i64 Hn, .slice A n c] := (hg2.block w.heap.size (by have := hX2.out.lt; simp; omega) (fun e => by
              have := hrow2.out.lt w.heap.size e.symm; omega)).trans (hX2.out.alloc _)
            replace hX6 := Lib.hid hX6
            replace hr2 := Lib.hid hr2
            clear hg2 hk2 rc rf rl
            go_wp2_with fail
            exact ⟨⟨t + 1, k + 4, by omega, by go_num, Lib.hid (by have := hk.out; omega), hX6.out, by rw [hbl2.out, flat_append, List.length_append]; exact hr2.out, hE6.out⟩, by simp only [intOf]; omega⟩
          · have hbl2 := hbl.out
            rw [decide_eq_false hcv] at hbl2
            simp only [Bool.false_eq_true, if_false, List.append_nil] at hbl2
            replace hbl2 := Lib.hid hbl2
            clear hbl
            go_wp2_with fail
            exact ⟨⟨t + 1, k + 4, by omega, by go_num, Lib.hid (by have := hk.out; omega), hX2.out, by rw [hbl2.out]; exact hrow2.out, hE2.out⟩, by simp only [intOf]; omega⟩
        · have hkW : ¬ k < Wn := by rw [hk.out]; exact fun h => hxt ((hcW.out t).2 h)
          obtain rfl : t = four Wn := by omega
          replace hX := Lib.hid hX
          replace hrow := Lib.hid hrow
          replace hE := Lib.hid hE
          go_wp2_with fail
          exact ⟨⟨s + 1, j + 4, by omega, by go_num, Lib.hid (by have := hj.out; omega), hX.out, by rw [Nat.add_mul, Nat.one_mul]; exact hrow.out, hE.out⟩, by simp only [intOf]; omega⟩
    · have hjH : ¬ j < Hn := by rw [hj.out]; exact fun h => hlt ((hcH.out s).2 h)
      obtain rfl : s = four Hn := by omega
      obtain ⟨A', c', rfl, -⟩ := row_open hrow
      have hfin := hpost.out (.returned (.slice A' (bls Wn Hn n f (four Hn * four Wn)).length c')) wr ⟨_, rfl, ⟨hrow.1, by
        rcases hrow.2 with h | ⟨g, cap, cur, h1, h2, h3⟩
        · exact .inl h
        · exact .inr ⟨g, cap, cur, h1, by omega, h3⟩⟩, hE⟩
      replace hfin := Lib.hid hfin
      clear hpost hE hrow hX
      go_wp2_with fail
      go_ret
      exact hfin.out
end Go.Proofs.Ytcdnpnbjloaihaa
end
