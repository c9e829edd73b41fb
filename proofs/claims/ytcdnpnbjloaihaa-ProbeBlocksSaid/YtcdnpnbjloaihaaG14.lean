/- Parts of the proof: RbHide, PbPix, Sum. -/
import Derived.Test.YtcdnpnbjloaihaaProg
import Derived.Test.YtcdnpnbjloaihaaG13
import Derived.Test.YtcdnpnbjloaihaaG12
import Derived.WalkKit
set_option linter.unusedSimpArgs false
set_option linter.unusedVariables false
section
/- ref22.Hide. No condition but those that each states. -/
namespace Go.Proofs.Ytcdnpnbjloaihaa
open Go.RowKit Go.Flow
open Go.Proofs
attribute [local go_sem] block_add
attribute [local go_sem ↓] Go.wp_at_zero Go.wp_at_succ

def hideF (W : Int) (f : Nat → Int) (a b : Int) (k : Nat) : Int := if a ≤ (k : Int) % W ∧ (k : Int) % W < b then 2 else f k
def HideOk (Wn Hn n : Nat) (F : Nat → Int) (w : World) (e : Ending) (w' : World) : Prop :=
  ∃ A c, e = .returned (img Wn Hn A n c) ∧ n ≤ c ∧ Mine w' w.heap.size A 3 n (fun k => .int .i64 (F k)) ∧ Ext w w'

theorem Hide_bad (W H : Int) (A : Option Addr) (n c : Nat) (f : Nat → Int) (a b : Int) (w : World) (hn : n ≤ 4611686018427387904) (hA : Ints w A n f) (hok : chkI W H n f ≠ 0) :
    Calls Try.prog 27 #[img W H A n c, .int .i64 a, .int .i64 b] w fun e w' => e = .returned (img 0 0 none 0 0) ∧ Ext w w' := by
  have hne : (chkI W H n f != 0) = true := by simpa using hok
  replace hok := Lib.hid hok
  have hE := Lib.hid (((Ext.refl w).alloc (.cells #[.int .i64 W, .int .i64 H, .slice A n c] 27)).alloc (.cells #[.int .i64 0, .int .i64 0, .slice none 0 0] 27))
  have hR := Lib.hid (Blk.new' (g := w.heap.size + 1) (w := w.alloc (.cells #[.int .i64 W, .int .i64 H, .slice A n c] 27)) (by simp) 27 #[.int .i64 0, .int .i64 0, .slice none 0 0])
  have hA1 := Lib.hid (hA.ext hE.out)
  go_enter Try.func27, Try.ntmps27
  go_wp2_with fail
  refine (RCheck_any W H A n c f _ hn hA1.out).mono ?_
  rintro e w1 ⟨rfl, hE1⟩
  obtain ⟨rc, rf, rl⟩ := (hR.out.ext hE1).rules
  replace hE1 := Lib.hid (hE.out.trans hE1)
  go_wp2_with fail
  refine bodyPost_ret (v := img 0 0 none 0 0) (by simp [results, Try.results27, go_sem, *]) rfl ⟨rfl, ?_⟩
  exact ((hE1.out.setCell (by simp) _).setCell (by simp) _).setCell (by simp) _


set_option maxHeartbeats 1000000 in
set_option maxRecDepth 100000 in
theorem Hide_ok (Wn Hn : Nat) (A : Option Addr) (n c : Nat) (f : Nat → Int) (a b : Int) (w : World) (hA : Ints w A n f) (hok : chkI Wn Hn n f = 0) :
    Calls Try.prog 27 #[img Wn Hn A n c, .int .i64 a, .int .i64 b] w (HideOk Wn Hn n (hideF Wn f a b) w) := by
  have hpost : ∀ e w', (∃ A c, e = .returned (img Wn Hn A n c) ∧ n ≤ c ∧ Mine w' w.heap.size A 3 n (fun k => .int .i64 (hideF Wn f a b k)) ∧ Ext w w') → HideOk Wn Hn n (hideF Wn f a b) w e w' := fun _ _ h => h
  replace hpost := Lib.hid hpost
  obtain ⟨i0, hi, hz0, hz1, hz2⟩ := info_parts info_int
  have hsh := (chkI_ok.1 hok).1
  obtain ⟨-, hW, -, hH, hn⟩ := hsh
  have hn' : n = Wn * Hn := by exact_mod_cast hn
  have hWb : Wn ≤ 100 := by omega
  have hHb : Hn ≤ 100 := by omega
  have hnb : n ≤ 10000 := by subst hn'; exact Nat.mul_le_mul hWb hHb
  have hne : (chkI Wn Hn n f != 0) = false := by simpa using hok
  replace hok := Lib.hid hok
  replace hn := Lib.hid hn
  replace hn' := Lib.hid hn'
  have hE0 := Lib.hid (((Ext.refl w).alloc (.cells #[.int .i64 Wn, .int .i64 Hn, .slice A n c] 27)).alloc (.cells #[.int .i64 0, .int .i64 0, .slice none 0 0] 27))
  have hB0 := Lib.hid ((Blk.new w 27 #[.int .i64 Wn, .int .i64 Hn, .slice A n c]).alloc (.cells #[.int .i64 0, .int .i64 0, .slice none 0 0] 27))
  have hR0 := Lib.hid (Blk.new' (g := w.heap.size + 1) (w := w.alloc (.cells #[.int .i64 Wn, .int .i64 Hn, .slice A n c] 27)) (by simp) 27 #[.int .i64 0, .int .i64 0, .slice none 0 0])
  have hA0 := Lib.hid (hA.ext hE0.out)
  obtain ⟨G, hG⟩ : ∃ G : Nat → Value, (fun j => Value.int .i64 (hideF Wn f a b j)) = G := ⟨_, rfl⟩
  rw [hG] at hpost
  replace hG := Lib.hid hG
  go_enter Try.func27, Try.ntmps27
  go_wp2_with fail
  refine (RCheck_any Wn Hn A n c f _ (by omega) hA0.out).mono ?_
  rintro e w1 ⟨rfl, hE1⟩
  have hB1 := hB0.out.ext hE1
  have hR1 := hR0.out.ext hE1
  have hws := hR1.lt
  replace hE1 := Lib.hid (hE0.out.trans hE1)
  obtain ⟨bc, bf, bl⟩ := hB1.rules
  replace hB1 := Lib.hid hB1
  replace hR1 := Lib.hid hR1
  go_wp2_with fail
  go_loopw [8] (fun i wr => ∃ k : Nat, k ≤ n ∧ i = .int .i64 k ∧ Blk wr w.heap.size 27 #[.int .i64 Wn, .int .i64 Hn, .slice A n c] ∧ Blk wr (w.heap.size + 1) 27 #[.int .i64 0, .int .i64 0, .slice none 0 0] ∧
      (∃ v, Blk wr w1.heap.size 27 #[.int .i64 Wn, .int .i64 Hn, v] ∧ wr.ownsRow (w1.heap.size + 1) 3 1 v k ((List.range k).map G)) ∧ Ext w wr) (fun i _ => n - (intOf i).toNat)
  case atStart =>
    exact ⟨0, by omega, rfl, hB1.out.alloc _, hR1.out.alloc _, ⟨_, Blk.new _ _ _, World.ownsRow_nil _ _ _ _⟩, hE1.out.alloc _⟩
  case round =>
    clear hB1 hR1 hE1 bc bf bl
    obtain ⟨k, hk, rfl, hB, hR, ⟨v, hT, hrow⟩, hE⟩ := hrel
    obtain ⟨tc, tf, tl⟩ := hT.rules
    obtain ⟨bc, bf, bl⟩ := hB.rules
    by_cases hlt : k < n
    · have hlt' : (k : Int) < n := by omega
      obtain ⟨ad, rfl, hc⟩ := hA.ext hE k hlt
      have hal := lt_of_cell hc
      have hW0 : Wn ≠ 0 := by
        intro h
        have h2 := hn'.out
        rw [h, Nat.zero_mul] at h2
        omega
      have hr0 := Int.emod_nonneg (k : Int) (show (Wn : Int) ≠ 0 by omega)
      have hr1 := Int.emod_lt_of_pos (k : Int) (show (0 : Int) < Wn by omega)
      have hmd : (k : Int).tmod Wn = (k : Int) % Wn := Int.tmod_eq_emod_of_nonneg (by omega)
      have hGk : G k = .int .i64 (hideF Wn f a b k) := by rw [← hG.out]
      unfold hideF at hGk
      obtain ⟨pv, hpv⟩ : ∃ pv, f k = pv := ⟨_, rfl⟩
      simp only [hpv] at hc hGk
      clear hpv
      replace hB := Lib.hid hB
      replace hR := Lib.hid hR
      replace hT := Lib.hid hT
      replace hrow := Lib.hid hrow
      replace hE := Lib.hid hE
      by_cases h1 : a ≤ (k : Int) % Wn
      · by_cases h2 : (k : Int) % Wn < b
        · have hGv : G k = .int .i64 2 := by rw [hGk, if_pos ⟨h1, h2⟩]
          replace hGv := Lib.hid hGv
          clear hGk
          go_wp2_with (first
            | (at_builtin; refine wpList_app1 rfl (.tmp 46) (.tmp 48) 23 rfl i0 (.int .i64 0) 8 Try.underlying23 hi hz0 hz1 hz2 rfl rfl (own_ext hrow.out ((Ext.refl wr).alloc _)) wr.heap.size (.int .i64 2) #[.int .i64 2] 3 rfl (Blk.new _ _ _) rfl rfl (by omega) (by omega) (by simp; omega) ?_))
          intro v' w6 hr2 hg2 hk2
          have hE6 := Lib.hid (hk2 w (by omega) (hE.out.alloc _))
          have hkp : ∀ k : Nat, ∀ t cs, k < w1.heap.size + 1 → Blk wr k t cs → Blk w6 k t cs := fun k t cs hk hb => (hg2.block k (by have := hb.lt; simp; omega) (fun e => by
            have := hrow.out.lt k e.symm; omega)).trans (hb.alloc _)
          have hT6 := hkp _ _ _ (by omega) hT.out
          have hB6 := hkp _ _ _ (by omega) hB.out
          have hR6 := hkp _ _ _ (by omega) hR.out
          clear hg2 hk2 hkp tc tf tl bc bf bl
          obtain ⟨tc, tf, tl⟩ := hT6.rules
          replace hT6 := Lib.hid hT6
          replace hB6 := Lib.hid hB6
          replace hR6 := Lib.hid hR6
          obtain ⟨gg, cap, rfl⟩ := row_succ hr2
          replace hr2 := Lib.hid hr2
          go_wp2_with fail
          exact ⟨⟨k + 1, by omega, by go_num, hB6.out.far (by simp; omega) _, hR6.out.far (by simp; omega) _, ⟨_, by simpa using hT6.out.set_ 2 _, by
            have h := own_set_ (p := ⟨w1.heap.size, 2, none⟩) hr2.out (by simp) (.slice (some ⟨gg, 0, none⟩) (k + 1) cap)
            rw [List.range_succ, List.map_append, List.map_cons, List.map_nil, hGv.out]
            exact h⟩, hE6.out.setCell (by simp; omega) _⟩, by simp only [intOf]; omega⟩
        · have hGv : G k = .int .i64 pv := by rw [hGk, if_neg (fun h => h2 h.2)]
          replace hGv := Lib.hid hGv
          clear hGk
          go_wp2_with (first
            | (at_builtin; refine wpList_app1 rfl (.tmp 46) (.tmp 48) 23 rfl i0 (.int .i64 0) 8 Try.underlying23 hi hz0 hz1 hz2 rfl rfl (own_ext hrow.out ((Ext.refl wr).alloc _)) wr.heap.size (.int .i64 pv) #[.int .i64 pv] 3 rfl (Blk.new _ _ _) rfl rfl (by omega) (by omega) (by simp; omega) ?_))
          intro v' w6 hr2 hg2 hk2
          have hE6 := Lib.hid (hk2 w (by omega) (hE.out.alloc _))
          have hkp : ∀ k : Nat, ∀ t cs, k < w1.heap.size + 1 → Blk wr k t cs → Blk w6 k t cs := fun k t cs hk hb => (hg2.block k (by have := hb.lt; simp; omega) (fun e => by
            have := hrow.out.lt k e.symm; omega)).trans (hb.alloc _)
          have hT6 := hkp _ _ _ (by omega) hT.out
          have hB6 := hkp _ _ _ (by omega) hB.out
          have hR6 := hkp _ _ _ (by omega) hR.out
          clear hg2 hk2 hkp tc tf tl bc bf bl
          obtain ⟨tc, tf, tl⟩ := hT6.rules
          replace hT6 := Lib.hid hT6
          replace hB6 := Lib.hid hB6
          replace hR6 := Lib.hid hR6
          obtain ⟨gg, cap, rfl⟩ := row_succ hr2
          replace hr2 := Lib.hid hr2
          go_wp2_with fail
          exact ⟨⟨k + 1, by omega, by go_num, hB6.out.far (by simp; omega) _, hR6.out.far (by simp; omega) _, ⟨_, by simpa using hT6.out.set_ 2 _, by
            have h := own_set_ (p := ⟨w1.heap.size, 2, none⟩) hr2.out (by simp) (.slice (some ⟨gg, 0, none⟩) (k + 1) cap)
            rw [List.range_succ, List.map_append, List.map_cons, List.map_nil, hGv.out]
            exact h⟩, hE6.out.setCell (by simp; omega) _⟩, by simp only [intOf]; omega⟩
      · have hGv : G k = .int .i64 pv := by rw [hGk, if_neg (fun h => h1 h.1)]
        replace hGv := Lib.hid hGv
        clear hGk
        go_wp2_with (first
          | (at_builtin; refine wpList_app1 rfl (.tmp 46) (.tmp 48) 23 rfl i0 (.int .i64 0) 8 Try.underlying23 hi hz0 hz1 hz2 rfl rfl (own_ext hrow.out ((Ext.refl wr).alloc _)) wr.heap.size (.int .i64 pv) #[.int .i64 pv] 3 rfl (Blk.new _ _ _) rfl rfl (by omega) (by omega) (by simp; omega) ?_))
        intro v' w6 hr2 hg2 hk2
        have hE6 := Lib.hid (hk2 w (by omega) (hE.out.alloc _))
        have hkp : ∀ k : Nat, ∀ t cs, k < w1.heap.size + 1 → Blk wr k t cs → Blk w6 k t cs := fun k t cs hk hb => (hg2.block k (by have := hb.lt; simp; omega) (fun e => by
          have := hrow.out.lt k e.symm; omega)).trans (hb.alloc _)
        have hT6 := hkp _ _ _ (by omega) hT.out
        have hB6 := hkp _ _ _ (by omega) hB.out
        have hR6 := hkp _ _ _ (by omega) hR.out
        clear hg2 hk2 hkp tc tf tl bc bf bl
        obtain ⟨tc, tf, tl⟩ := hT6.rules
        replace hT6 := Lib.hid hT6
        replace hB6 := Lib.hid hB6
        replace hR6 := Lib.hid hR6
        obtain ⟨gg, cap, rfl⟩ := row_succ hr2
        replace hr2 := Lib.hid hr2
        go_wp2_with fail
        exact ⟨⟨k + 1, by omega, by go_num, hB6.out.far (by simp; omega) _, hR6.out.far (by simp; omega) _, ⟨_, by simpa using hT6.out.set_ 2 _, by
          have h := own_set_ (p := ⟨w1.heap.size, 2, none⟩) hr2.out (by simp) (.slice (some ⟨gg, 0, none⟩) (k + 1) cap)
          rw [List.range_succ, List.map_append, List.map_cons, List.map_nil, hGv.out]
          exact h⟩, hE6.out.setCell (by simp; omega) _⟩, by simp only [intOf]; omega⟩
    · obtain rfl : k = n := by omega
      obtain ⟨A', c', rfl, hcap, hM⟩ := Mine.of_row hrow (F := G) (fun k hk => row_get hk)
      have hfin := hpost.out (.returned (img Wn Hn A' k c')) (((wr.setCell ⟨w.heap.size + 1, 0, none⟩ (.int .i64 Wn)).setCell ⟨w.heap.size + 1, 1, none⟩ (.int .i64 Hn)).setCell ⟨w.heap.size + 1, 2, none⟩ (.slice A' k c'))
        ⟨A', c', rfl, hcap, ((hM.set_ (p := ⟨w.heap.size + 1, 0, none⟩) (by simp; omega) _).set_ (p := ⟨w.heap.size + 1, 1, none⟩) (by simp; omega) _).set_ (p := ⟨w.heap.size + 1, 2, none⟩) (by simp; omega) _ |>.less (by omega),
          ((hE.setCell (by simp) _).setCell (by simp) _).setCell (by simp) _⟩
      replace hfin := Lib.hid hfin
      obtain ⟨rc, rf, rl'⟩ := hR.rules
      have hlt' : ¬ ((k : Int) < k) := by omega
      clear hpost hE hM hrow
      go_wp2_with fail
      exact bodyPost_ret (v := img Wn Hn A' k c') (by simp [results, Try.results27, go_sem, *]) rfl hfin.out
end Go.Proofs.Ytcdnpnbjloaihaa
end

section
/- probe.pixels. No condition but those that each states. -/
namespace Go.Proofs.Ytcdnpnbjloaihaa
open Go.RowKit Go.Flow
open Go.Proofs
attribute [local go_sem] block_add
attribute [local go_sem ↓] Go.wp_at_zero Go.wp_at_succ

/-- A rectangle by value. -/
abbrev rct (a b c d : Int) : Value := .agg #[.int .i64 a, .int .i64 b, .int .i64 c, .int .i64 d]
def inR (a b c d i j : Int) : Bool := decide (a ≤ i ∧ i ≤ c ∧ b ≤ j ∧ j ≤ d)
/-- Pixel k is unknown and lies in the rectangle. -/
def unkB (W : Int) (f : Nat → Int) (a b c d : Int) (k : Nat) : Bool := decide (f k = 2) && inR a b c d ((k : Int) % W) ((k : Int) / W)
/-- What a function that is called back keeps: blocks from base on. -/
def Keeps (base : Nat) (V V' : World) : Prop := V.heap.size ≤ V'.heap.size ∧ ∀ k, base ≤ k → k < V.heap.size → V'.heap[k]? = V.heap[k]?
theorem Keeps.blk {base : Nat} {V V' : World} (h : Keeps base V V') {k : Nat} {t : TypeId} {cs : Array Value} (hb : Blk V k t cs) (hk : base ≤ k) : Blk V' k t cs := (h.2 k hk hb.lt).trans hb

theorem cell_at {W : Nat} {j i : Nat} (hi : i < W) : ((j * W + i : Nat) : Int) % (W : Int) = i ∧ ((j * W + i : Nat) : Int) / (W : Int) = j := by
  have e : ((j * W + i : Nat) : Int) = (i : Int) + (j : Int) * W := by rw [Int.natCast_add, Int.natCast_mul, Int.add_comm]
  rw [e, Int.add_mul_emod_self_right, Int.add_mul_ediv_right _ _ (by omega), Int.emod_eq_of_lt (by omega) (by omega), Int.ediv_eq_zero_of_lt (by omega) (by omega)]
  omega
theorem pix_skip {J : Nat → World → Prop} {V : World} {n : Nat} {u : Nat → Bool} (hs : ∀ p, p < n → u p = false → J p V → J (p + 1) V) {p : Nat} (h : J p V) : ∀ d, p + d ≤ n → (∀ k, p ≤ k → k < p + d → u k = false) → J (p + d) V
  | 0, _, _ => h
  | d + 1, hd, hu => hs (p + d) (by omega) (hu _ (by omega) (by omega)) (pix_skip hs h d (by omega) fun k h1 h2 => hu k h1 (by omega))
theorem pix_to {J : Nat → World → Prop} {V : World} {n : Nat} {u : Nat → Bool} (hs : ∀ p, p < n → u p = false → J p V → J (p + 1) V) {p q : Nat} (h : J p V) (hpq : p ≤ q) (hq : q ≤ n) (hu : ∀ k, p ≤ k → k < q → u k = false) : J q V := by
  have := pix_skip hs h (q - p) (by omega) (fun k h1 h2 => hu k h1 (by omega))
  rwa [show p + (q - p) = q by omega] at this

set_option maxHeartbeats 1000000 in
set_option maxRecDepth 100000 in
theorem pixels_any (Wn Hn n c : Nat) (A : Option Addr) (f : Nat → Int) (a b c1 d : Int) (fid : FuncId) (caps : Array Value) (w : World) (J : Nat → World → Prop)
    (hW : Wn ≤ 100) (hH : Hn ≤ 100) (hn : n = Wn * Hn)
    (he : ∀ args w, (callFunc fid args).run Try.prog w = .ok (.enter fid args) w)
    (hJE : ∀ p V V', J p V → Ext V V' → J p V') (hJA : ∀ p V, J p V → Ints V A n f)
    (hskip : ∀ p V, p < n → unkB Wn f a b c1 d p = false → J p V → J (p + 1) V)
    (hdo : ∀ p V, p < n → unkB Wn f a b c1 d p = true → J p V → w.heap.size ≤ V.heap.size → Calls Try.prog fid (#[.int .i64 (p : Int)] ++ caps) V fun e V' => (∃ v, e = .returned v) ∧ J (p + 1) V' ∧ Keeps w.heap.size V V')
    (h0 : J 0 w) :
    Calls Try.prog 33 #[img Wn Hn A n c, rct a b c1 d, .func (.func fid) #[] caps] w fun e w' => (∃ v, e = .returned v) ∧ J n w' := by
  obtain ⟨j0, hj0, hj1⟩ : ∃ j0 : Nat, (if (0 : Int) < b then b else 0) = (j0 : Int) ∧ b ≤ j0 := ⟨(max 0 b).toNat, by split <;> omega, by omega⟩
  obtain ⟨i0, hi0, hi1⟩ : ∃ i0 : Nat, (if (0 : Int) < a then a else 0) = (i0 : Int) ∧ a ≤ i0 := ⟨(max 0 a).toNat, by split <;> omega, by omega⟩
  have hnb : n ≤ 10000 := by subst hn; exact Nat.mul_le_mul hW hH
  have hrow : ∀ j k, j ≤ Hn → k < n → (k < j * Wn ↔ (k : Int) / (Wn : Int) < j) := by
    intro j k hj hk
    have hWp : 0 < Wn := by rcases Nat.eq_zero_or_pos Wn with h | h; · subst h; simp at hn; omega
                            · exact h
    rw [Int.ediv_lt_iff_lt_mul (by omega)]
    constructor
    · intro h; exact_mod_cast h
    · intro h; exact_mod_cast h
  have hlo : ∀ k, k < min j0 Hn * Wn → unkB Wn f a b c1 d k = false := by
    intro k hk
    have hkn : k < n := by
      have : min j0 Hn * Wn ≤ Hn * Wn := Nat.mul_le_mul_right _ (by omega)
      rw [hn, Nat.mul_comm]; omega
    have h1 := (hrow _ k (by omega) hkn).1 hk
    have h2 : (k : Int) / Wn < b := by
      have : (min j0 Hn : Nat) ≤ j0 := by omega
      have h3 : (k : Int) / Wn < (j0 : Int) := by omega
      have : (0 : Int) ≤ (k : Int) / Wn := Int.ediv_nonneg (by omega) (by omega)
      split at hj0 <;> omega
    simp only [unkB, inR, Bool.and_eq_false_iff]
    right
    simp; omega
  have hmul : ∀ j, j ≤ Hn → j * Wn ≤ n := fun j hj => by rw [hn, Nat.mul_comm Wn]; exact Nat.mul_le_mul_right _ hj
  have hstart : J (min j0 Hn * Wn) w := pix_to (fun p hp hu => hskip p w hp hu) h0 (by omega) (hmul _ (by omega)) (fun k _ hk => hlo k hk)
  have hE0 := Lib.hid (((Ext.refl w).alloc (.cells #[.int .i64 Wn, .int .i64 Hn, .slice A n c] 27)).alloc (.cells #[.int .i64 a, .int .i64 b, .int .i64 c1, .int .i64 d] 29))
  have hX0 := Lib.hid ((Blk.new w 27 #[.int .i64 Wn, .int .i64 Hn, .slice A n c]).alloc (.cells #[.int .i64 a, .int .i64 b, .int .i64 c1, .int .i64 d] 29))
  have hR0 := Lib.hid (Blk.new' (g := w.heap.size + 1) (w := w.alloc (.cells #[.int .i64 Wn, .int .i64 Hn, .slice A n c] 27)) (by simp) 29 #[.int .i64 a, .int .i64 b, .int .i64 c1, .int .i64 d])
  replace hn := Lib.hid hn
  replace hrow := Lib.hid hrow
  replace hmul := Lib.hid hmul
  replace hstart := Lib.hid hstart
  clear hlo
  go_enter Try.func33, Try.ntmps33
  go_wp2_with fail
  go_loopw [6] (fun i wr => ∃ j : Nat, i = .int .i64 j ∧ b ≤ j ∧ Blk wr w.heap.size 27 #[.int .i64 Wn, .int .i64 Hn, .slice A n c] ∧ Blk wr (w.heap.size + 1) 29 #[.int .i64 a, .int .i64 b, .int .i64 c1, .int .i64 d] ∧ J (min j Hn * Wn) wr) (fun i _ => Hn - (intOf i).toNat)
  case atStart => exact ⟨j0, rfl, hj1, hX0.out, hR0.out, hJE _ _ _ hstart.out hE0.out⟩
  case round =>
    clear hstart hE0 hX0 hR0 hj0 hj1 h0
    obtain ⟨j, rfl, hjb, hX, hR, hJs⟩ := hrel
    obtain ⟨xc, xf, xl⟩ := hX.rules
    obtain ⟨rc, rf, rl⟩ := hR.rules
    have hend : ¬ ((j : Int) ≤ d ∧ j < Hn) → J n wr := fun hno => by
      refine pix_to (fun p hp hu => hskip p wr hp hu) hJs (hmul.out _ (by omega)) (Nat.le_refl _) (fun k hk hkn => ?_)
      have h1 : ¬ (k : Int) / (Wn : Int) < ((min j Hn : Nat) : Int) := fun h => by have := (hrow.out (min j Hn) k (by omega) hkn).2 h; omega
      have hkH : (k : Int) / (Wn : Int) < Hn := (hrow.out Hn k (Nat.le_refl _) hkn).1 (by have := hn.out; rw [Nat.mul_comm]; omega)
      simp only [unkB, inR, Bool.and_eq_false_iff]
      right
      simp; omega
    by_cases h1 : (j : Int) ≤ d
    · by_cases h2 : j < Hn
      · have h2' : (j : Int) < Hn := by omega
        have hmj : min j Hn = j := by omega
        rw [hmj] at hJs
        have hjW : j * Wn + Wn ≤ n := by have := hmul.out (j + 1) (by omega); rw [Nat.add_mul] at this; omega
        have hst : J (j * Wn + min i0 Wn) wr := pix_to (fun p hp hu => hskip p wr hp hu) hJs (by omega) (by omega) (fun k hk hk2 => by
          obtain ⟨i, rfl⟩ : ∃ i, k = j * Wn + i := ⟨k - j * Wn, by omega⟩
          have hiW : i < Wn := by omega
          simp only [unkB, inR, Bool.and_eq_false_iff, (cell_at hiW).1, (cell_at hiW).2]
          right
          have : (i : Int) < a := by split at hi0 <;> omega
          simp; omega)
        replace hst := Lib.hid hst
        replace hX := Lib.hid hX
        replace hR := Lib.hid hR
        clear hJs hend hmj
        go_wp2_with fail
        clear xc xf xl rc rf rl
        go_loopw [7] (fun i wr => ∃ k : Nat, i = .int .i64 k ∧ a ≤ k ∧ Blk wr w.heap.size 27 #[.int .i64 Wn, .int .i64 Hn, .slice A n c] ∧ Blk wr (w.heap.size + 1) 29 #[.int .i64 a, .int .i64 b, .int .i64 c1, .int .i64 d] ∧ J (j * Wn + min k Wn) wr) (fun i _ => Wn - (intOf i).toNat)
        case atStart => exact ⟨i0, rfl, hi1, hX.out, hR.out, hst.out⟩
        case round =>
          clear hst hX hR
          obtain ⟨i, rfl, hia, hX, hR, hJs⟩ := hrel
          obtain ⟨xc, xf, xl⟩ := hX.rules
          obtain ⟨rc, rf, rl⟩ := hR.rules
          have hend : ¬ ((i : Int) ≤ c1 ∧ i < Wn) → J (min (j + 1) Hn * Wn) wr := fun hno => by
            rw [show min (j + 1) Hn = j + 1 by omega]
            refine pix_to (fun p hp hu => hskip p wr hp hu) hJs (by rw [Nat.add_mul]; omega) (hmul.out _ (by omega)) (fun k hk hkn => ?_)
            rw [Nat.add_mul] at hkn
            obtain ⟨i2, rfl⟩ : ∃ i2, k = j * Wn + i2 := ⟨k - j * Wn, by omega⟩
            have hiW : i2 < Wn := by omega
            simp only [unkB, inR, Bool.and_eq_false_iff, (cell_at hiW).1, (cell_at hiW).2]
            right
            simp; omega
          by_cases h3 : (i : Int) ≤ c1
          · by_cases h4 : i < Wn
            · have h4' : (i : Int) < Wn := by omega
              have hmi : min i Wn = i := by omega
              rw [hmi] at hJs
              have hkn : j * Wn + i < n := by omega
              have hA := hJA _ _ hJs
              obtain ⟨ad, rfl, hc⟩ := hA _ hkn
              have hal := lt_of_cell hc
              have hca := cell_at (W := Wn) (j := j) h4
              have hu : unkB Wn f a b c1 d (j * Wn + i) = decide (f (j * Wn + i) = 2) := by
                simp only [unkB, inR, hca.1, hca.2]
                rw [decide_eq_true (show a ≤ (i : Int) ∧ (i : Int) ≤ c1 ∧ b ≤ (j : Int) ∧ (j : Int) ≤ d from ⟨hia, h3, hjb, h1⟩), Bool.and_true]
              obtain ⟨q, hq⟩ : ∃ q : Nat, j * Wn + i = q := ⟨_, rfl⟩
              rw [hq] at hkn hu hJs hc
              have hw1 : IntKind.i64.wrap ((j : Int) * (Wn : Int)) = (j : Int) * (Wn : Int) := by
                have : (j : Int) * (Wn : Int) = ((j * Wn : Nat) : Int) := by rw [Int.natCast_mul]
                rw [IntKind.wrap_i64]; omega
              have hw2 : (j : Int) * (Wn : Int) + (i : Int) = (q : Int) := by rw [← hq, Int.natCast_add, Int.natCast_mul]
              have hw3 : IntKind.i64.wrap ((j : Int) * (Wn : Int) + (i : Int)) = (q : Int) := by rw [hw2, IntKind.wrap_i64]; omega
              have hkn' : (q : Int) < n := by omega
              have hnext : min (i + 1) Wn = i + 1 := by omega
              have hJn : J (q + 1) = J (j * Wn + min (i + 1) Wn) := by rw [hnext, ← hq]; rfl
              replace hnext := Lib.hid hnext
              replace hJn := Lib.hid hJn
              replace hq := Lib.hid hq
              obtain ⟨pv, hpv⟩ : ∃ pv, f q = pv := ⟨_, rfl⟩
              rw [hpv] at hu
              simp only [hpv] at hc
              replace hpv := Lib.hid hpv
              replace hJs := Lib.hid hJs
              replace hX := Lib.hid hX
              replace hR := Lib.hid hR
              clear hend hca hmi hA
              by_cases h5 : pv = 2
              · have h5' : (pv == 2) = true := by simpa using h5
                have hu' : unkB Wn f a b c1 d q = true := by rw [hu]; simpa using h5
                replace hu' := Lib.hid hu'
                clear hu
                subst h5
                go_wp2_with fail
                refine (hdo q wr hkn hu'.out hJs.out (by omega)).mono ?_
                rintro e V' ⟨⟨v, rfl⟩, hJ', hK'⟩
                have hX' := Lib.hid (hK'.blk hX.out (Nat.le_refl _))
                have hR' := Lib.hid (hK'.blk hR.out (by omega))
                clear xc xf xl rc rf rl hc hal
                go_wp2_with fail
                exact ⟨⟨i + 1, by go_num, by omega, hX'.out, hR'.out, by rw [← hJn.out]; exact hJ'⟩, by simp only [intOf]; omega⟩
              · have h5' : (pv == 2) = false := by simpa using h5
                have hu' : unkB Wn f a b c1 d q = false := by rw [hu]; simpa using h5
                replace hu' := Lib.hid hu'
                clear hu
                go_wp2_with fail
                exact ⟨⟨i + 1, by go_num, by omega, hX.out, hR.out, by rw [← hJn.out]; exact hskip q _ hkn hu'.out hJs.out⟩, by simp only [intOf]; omega⟩
            · have hfin := Lib.hid (hend (by omega))
              replace hX := Lib.hid hX
              replace hR := Lib.hid hR
              clear hend hJs
              go_wp2_with fail
              exact ⟨⟨j + 1, by go_num, by omega, hX.out, hR.out, hfin.out⟩, by simp only [intOf]; omega⟩
          · have hfin := Lib.hid (hend (by omega))
            replace hX := Lib.hid hX
            replace hR := Lib.hid hR
            clear hend hJs
            go_wp2_with fail
            exact ⟨⟨j + 1, by go_num, by omega, hX.out, hR.out, hfin.out⟩, by simp only [intOf]; omega⟩
      · have hfin := Lib.hid (hend (by omega))
        replace hX := Lib.hid hX
        replace hR := Lib.hid hR
        clear hend hJs
        go_wp2_with fail
        go_end0
        exact ⟨⟨_, rfl⟩, hfin.out⟩
    · have hfin := Lib.hid (hend (by omega))
      replace hX := Lib.hid hX
      replace hR := Lib.hid hR
      clear hend hJs
      go_wp2_with fail
      go_end0
      exact ⟨⟨_, rfl⟩, hfin.out⟩
end Go.Proofs.Ytcdnpnbjloaihaa
end

section
/- Plain laws on sums and counts; no program. No condition. -/
namespace Go.Plain

/-- f 0 + .. + f (n - 1). -/
def sumTo (f : Nat → Int) : Nat → Int
  | 0 => 0
  | n + 1 => sumTo f n + f n
/-- How many j < n there are with p j. -/
def cnt (p : Nat → Bool) (n : Nat) : Int := sumTo (fun j => if p j then 1 else 0) n

theorem sumTo_congr {f g : Nat → Int} : ∀ {n : Nat}, (∀ k, k < n → f k = g k) → sumTo f n = sumTo g n
  | 0, _ => rfl
  | n + 1, h => by simp only [sumTo]; rw [sumTo_congr (n := n) fun k hk => h k (by omega), h n (by omega)]
theorem sumTo_nonneg {f : Nat → Int} : ∀ {n : Nat}, (∀ k, k < n → 0 ≤ f k) → 0 ≤ sumTo f n
  | 0, _ => by simp [sumTo]
  | n + 1, h => by have := sumTo_nonneg (n := n) fun k hk => h k (by omega); have := h n (by omega); simp only [sumTo]; omega
theorem sumTo_le {f g : Nat → Int} : ∀ {n : Nat}, (∀ k, k < n → f k ≤ g k) → sumTo f n ≤ sumTo g n
  | 0, _ => by simp [sumTo]
  | n + 1, h => by have := sumTo_le (n := n) fun k hk => h k (by omega); have := h n (by omega); simp only [sumTo]; omega
theorem sumTo_const (c : Int) : ∀ n : Nat, sumTo (fun _ => c) n = n * c
  | 0 => by simp [sumTo]
  | n + 1 => by simp only [sumTo, sumTo_const c n]; rw [Int.natCast_succ, Int.add_mul]; omega
theorem sumTo_add (f g : Nat → Int) : ∀ n : Nat, sumTo (fun k => f k + g k) n = sumTo f n + sumTo g n
  | 0 => rfl
  | n + 1 => by simp only [sumTo, sumTo_add f g n]; omega
theorem sumTo_sub (f g : Nat → Int) : ∀ n : Nat, sumTo (fun k => f k - g k) n = sumTo f n - sumTo g n
  | 0 => rfl
  | n + 1 => by simp only [sumTo, sumTo_sub f g n]; omega
theorem sumTo_swap (f : Nat → Nat → Int) (m : Nat) : ∀ n : Nat, sumTo (fun i => sumTo (fun j => f i j) m) n = sumTo (fun j => sumTo (fun i => f i j) n) m
  | 0 => by
    simp only [sumTo]
    have h0 : ∀ m : Nat, sumTo (fun _ => 0) m = 0 := fun m => by rw [sumTo_const]; omega
    exact (h0 m).symm
  | n + 1 => by simp only [sumTo, sumTo_swap f m n, sumTo_add]
theorem sumTo_split (f : Nat → Int) (a : Nat) : ∀ b : Nat, sumTo f (a + b) = sumTo f a + sumTo (fun k => f (a + k)) b
  | 0 => by simp [sumTo]
  | b + 1 => by rw [← Nat.add_assoc]; simp only [sumTo, sumTo_split f a b]; omega
/-- Only one term is not 0. -/
theorem sumTo_one (v : Int) (i : Nat) : ∀ n : Nat, sumTo (fun k => if k = i then v else 0) n = if i < n then v else 0
  | 0 => by simp [sumTo]
  | n + 1 => by
    simp only [sumTo, sumTo_one v i n]
    by_cases h : n = i
    · subst h; simp
    · by_cases h2 : i < n
      · simp [h, h2, show i < n + 1 by omega]
      · simp [h, h2, show ¬ i < n + 1 by omega]
theorem cnt_nonneg (p : Nat → Bool) (n : Nat) : 0 ≤ cnt p n := sumTo_nonneg fun k _ => by split <;> omega
theorem cnt_le (p : Nat → Bool) (n : Nat) : cnt p n ≤ n := by
  have := sumTo_le (f := fun j => if p j then 1 else 0) (g := fun _ => 1) (n := n) fun k _ => by split <;> omega
  rw [sumTo_const] at this
  unfold cnt
  omega
theorem cnt_zero (p : Nat → Bool) : cnt p 0 = 0 := rfl
theorem cnt_succ (p : Nat → Bool) (n : Nat) : cnt p (n + 1) = cnt p n + if p n then 1 else 0 := rfl
theorem cnt_congr {p q : Nat → Bool} {n : Nat} (h : ∀ k, k < n → p k = q k) : cnt p n = cnt q n := sumTo_congr fun k hk => by rw [h k hk]
theorem cnt_mono {p q : Nat → Bool} {n : Nat} (h : ∀ k, k < n → p k = true → q k = true) : cnt p n ≤ cnt q n := sumTo_le fun k hk => by
  by_cases hp : p k = true
  · simp [hp, h k hk hp]
  · simp [hp]; split <;> omega

/-- v is the least of f on S. -/
def IsMin {α : Type} (S : α → Prop) (f : α → Int) (v : Int) : Prop := (∃ a, S a ∧ f a = v) ∧ ∀ a, S a → v ≤ f a
theorem IsMin.unique {α : Type} {S : α → Prop} {f : α → Int} {v v' : Int} (h : IsMin S f v) (h' : IsMin S f v') : v = v' := by
  obtain ⟨⟨a, ha, rfl⟩, h2⟩ := h
  obtain ⟨⟨b, hb, rfl⟩, h4⟩ := h'
  have := h2 b hb
  have := h4 a ha
  omega
end Go.Plain
end
