/- Parts of the proof: PbPix. -/
import Derived.Test.YtcdnpnbjloaihaaProg
import Derived.Test.YtcdnpnbjloaihaaG09
set_option linter.unusedSimpArgs false
set_option linter.unusedVariables false
section
/- probe.pixels. No condition but those that each states. -/
namespace Go.Proofs.Ytcdnpnbjloaihaa
open Go.RowKit Go.Flow
open Go.Proofs
attribute [local go_sem] block_add
attribute [local go_sem ↓] Go.wp_at_zero Go.wp_at_succ

/-- A rectangle by value. -/
abbrev rct (a b c d : Int) : Value := .agg #[.int .i64 a, .int .i64 b, .int .i64 c, .int .i64 d]
def inR (a b c d i j : Int) : Bool := decide (a ≤ i ∧ i ≤ c ∧ b ≤ j ∧ j ≤ d)
/-- Pixel k is unknown and lies in the rectangle. -/
def unkB (W : Int) (f : Nat → Int) (a b c d : Int) (k : Nat) : Bool := decide (f k = 2) && inR a b c d ((k : Int) % W) ((k : Int) / W)
/-- What a function that is called back keeps: blocks from base on. -/
def Keeps (base : Nat) (V V' : World) : Prop := V.heap.size ≤ V'.heap.size ∧ ∀ k, base ≤ k → k < V.heap.size → V'.heap[k]? = V.heap[k]?
theorem Keeps.blk {base : Nat} {V V' : World} (h : Keeps base V V') {k : Nat} {t : TypeId} {cs : Array Value} (hb : Blk V k t cs) (hk : base ≤ k) : Blk V' k t cs := (h.2 k hk hb.lt).trans hb

theorem cell_at {W : Nat} {j i : Nat} (hi : i < W) : ((j * W + i : Nat) : Int) % (W : Int) = i ∧ ((j * W + i : Nat) : Int) / (W : Int) = j := by
  have e : ((j * W + i : Nat) : Int) = (i : Int) + (j : Int) * W := by rw [Int.natCast_add, Int.natCast_mul, Int.add_comm]
  rw [e, Int.add_mul_emod_self_right, Int.add_mul_ediv_right _ _ (by omega), Int.emod_eq_of_lt (by omega) (by omega), Int.ediv_eq_zero_of_lt (by omega) (by omega)]
  omega
theorem pix_skip {J : Nat → World → Prop} {V : World} {n : Nat} {u : Nat → Bool} (hs : ∀ p, p < n → u p = false → J p V → J (p + 1) V) {p : Nat} (h : J p V) : ∀ d, p + d ≤ n → (∀ k, p ≤ k → k < p + d → u k = false) → J (p + d) V
  | 0, _, _ => h
  | d + 1, hd, hu => hs (p + d) (by omega) (hu _ (by omega) (by omega)) (pix_skip hs h d (by omega) fun k h1 h2 => hu k h1 (by omega))
theorem pix_to {J : Nat → World → Prop} {V : World} {n : Nat} {u : Nat → Bool} (hs : ∀ p, p < n → u p = false → J p V → J (p + 1) V) {p q : Nat} (h : J p V) (hpq : p ≤ q) (hq : q ≤ n) (hu : ∀ k, p ≤ k → k < q → u k = false) : J q V := by
  have := pix_skip hs h (q - p) (by omega) (fun k h1 h2 => hu k h1 (by omega))
  rwa [show p + (q - p) = q by omega] at this

set_option maxHeartbeats 1000000 in
set_option maxRecDepth 100000 in
theorem pixels_any (Wn Hn n c : Nat) (A : Option Addr) (f : Nat → Int) (a b c1 d : Int) (fid : FuncId) (caps : Array Value) (w : World) (J : Nat → World → Prop)
    (hW : Wn ≤ 100) (hH : Hn ≤ 100) (hn : n = Wn * Hn)
    (he : ∀ args w, (callFunc fid args).run Try.prog w = .ok (.enter fid args) w)
    (hJE : ∀ p V V', J p V → Ext V V' → J p V') (hJA : ∀ p V, J p V → Ints V A n f)
    (hskip : ∀ p V, p < n → unkB Wn f a b c1 d p = false → J p V → J (p + 1) V)
    (hdo : ∀ p V, p < n → unkB Wn f a b c1 d p = true → J p V → w.heap.size ≤ V.heap.size → Calls Try.prog fid (#[.int .i64 (p : Int)] ++ caps) V fun e V' => (∃ v, e = .returned v) ∧ J (p + 1) V' ∧ Keeps w.heap.size V V')
    (h0 : J 0 w) :
    Calls Try.prog 33 #[img Wn Hn A n c, rct a b c1 d, .func (.func fid) #[] caps] w fun e w' => (∃ v, e = .returned v) ∧ J n w' := by
  obtain ⟨j0, hj0, hj1⟩ : ∃ j0 : Nat, (if (0 : Int) < b then b else 0) = (j0 : Int) ∧ b ≤ j0 := ⟨(max 0 b).toNat, by split <;> omega, by omega⟩
  obtain ⟨i0, hi0, hi1⟩ : ∃ i0 : Nat, (if (0 : Int) < a then a else 0) = (i0 : Int) ∧ a ≤ i0 := ⟨(max 0 a).toNat, by split <;> omega, by omega⟩
  have hnb : n ≤ 10000 := by subst hn; exact Nat.mul_le_mul hW hH
  have hrow : ∀ j k, j ≤ Hn → k < n → (k < j * Wn ↔ (k : Int) / (Wn : Int) < j) := by
    intro j k hj hk
    have hWp : 0 < Wn := by rcases Nat.eq_zero_or_pos Wn with h | h; · subst h; simp at hn; omega
                            · exact h
    rw [Int.ediv_lt_iff_lt_mul (by omega)]
    constructor
    · intro h; exact_mod_cast h
    · intro h; exact_mod_cast h
  have hlo : ∀ k, k < min j0 Hn * Wn → unkB Wn f a b c1 d k = false := by
    intro k hk
    have hkn : k < n := by
      have : min j0 Hn * Wn ≤ Hn * Wn := Nat.mul_le_mul_right _ (by omega)
      rw [hn, Nat.mul_comm]; omega
    have h1 := (hrow _ k (by omega) hkn).1 hk
    have h2 : (k : Int) / Wn < b := by
      have : (min j0 Hn : Nat) ≤ j0 := by omega
      have h3 : (k : Int) / Wn < (j0 : Int) := by omega
      have : (0 : Int) ≤ (k : Int) / Wn := Int.ediv_nonneg (by omega) (by omega)
      split at hj0 <;> omega
    simp only [unkB, inR, Bool.and_eq_false_iff]
    right
    simp; omega
  have hmul : ∀ j, j ≤ Hn → j * Wn ≤ n := fun j hj => by rw [hn, Nat.mul_comm Wn]; exact Nat.mul_le_mul_right _ hj
  have hstart : J (min j0 Hn * Wn) w := pix_to (fun p hp hu => hskip p w hp hu) h0 (by omega) (hmul _ (by omega)) (fun k _ hk => hlo k hk)
  have hE0 := Lib.hid (((Ext.refl w).alloc (.cells #[.int .i64 Wn, .int .i64 Hn, .slice A n c] 27)).alloc (.cells #[.int .i64 a, .int .i64 b, .int .i64 c1, .int .i64 d] 29))
  have hX0 := Lib.hid ((Blk.new w 27 #[.int .i64 Wn, .int .i64 Hn, .slice A n c]).alloc (.cells #[.int .i64 a, .int .i64 b, .int .i64 c1, .int .i64 d] 29))
  have hR0 := Lib.hid (Blk.new' (g := w.heap.size + 1) (w := w.alloc (.cells #[.int .i64 Wn, .int .i64 Hn, .slice A n c] 27)) (by simp) 29 #[.int .i64 a, .int .i64 b, .int .i64 c1, .int .i64 d])
  replace hn := Lib.hid hn
  replace hrow := Lib.hid hrow
  replace hmul := Lib.hid hmul
  replace hstart := Lib.hid hstart
  clear hlo
  go_enter Try.func33, Try.ntmps33
  go_wp2_with fail
  go_loopw [6] (fun i wr => ∃ j : Nat, i = .int .i64 j ∧ b ≤ j ∧ Blk wr w.heap.size 27 #[.int .i64 Wn, .int .i64 Hn, .slice A n c] ∧ Blk wr (w.heap.size + 1) 29 #[.int .i64 a, .int .i64 b, .int .i64 c1, .int .i64 d] ∧ J (min j Hn * Wn) wr) (fun i _ => Hn - (intOf i).toNat)
  case atStart => exact ⟨j0, rfl, hj1, hX0.out, hR0.out, hJE _ _ _ hstart.out hE0.out⟩
  case round =>
    clear hstart hE0 hX0 hR0 hj0 hj1 h0
    obtain ⟨j, rfl, hjb, hX, hR, hJs⟩ := hrel
    obtain ⟨xc, xf, xl⟩ := hX.rules
    obtain ⟨rc, rf, rl⟩ := hR.rules
    have hend : ¬ ((j : Int) ≤ d ∧ j < Hn) → J n wr := fun hno => by
      refine pix_to (fun p hp hu => hskip p wr hp hu) hJs (hmul.out _ (by omega)) (Nat.le_refl _) (fun k hk hkn => ?_)
      have h1 : ¬ (k : Int) / (Wn : Int) < ((min j Hn : Nat) : Int) := fun h => by have := (hrow.out (min j Hn) k (by omega) hkn).2 h; omega
      have hkH : (k : Int) / (Wn : Int) < Hn := (hrow.out Hn k (Nat.le_refl _) hkn).1 (by have := hn.out; rw [Nat.mul_comm]; omega)
      simp only [unkB, inR, Bool.and_eq_false_iff]
      right
      simp; omega
    by_cases h1 : (j : Int) ≤ d
    · by_cases h2 : j < Hn
      · have h2' : (j : Int) < Hn := by omega
        have hmj : min j Hn = j := by omega
        rw [hmj] at hJs
        have hjW : j * Wn + Wn ≤ n := by have := hmul.out (j + 1) (by omega); rw [Nat.add_mul] at this; omega
        have hst : J (j * Wn + min i0 Wn) wr := pix_to (fun p hp hu => hskip p wr hp hu) hJs (by omega) (by omega) (fun k hk hk2 => by
          obtain ⟨i, rfl⟩ : ∃ i, k = j * Wn + i := ⟨k - j * Wn, by omega⟩
          have hiW : i < Wn := by omega
          simp only [unkB, inR, Bool.and_eq_false_iff, (cell_at hiW).1, (cell_at hiW).2]
          right
          have : (i : Int) < a := by split at hi0 <;> omega
          simp; omega)
        replace hst := Lib.hid hst
        replace hX := Lib.hid hX
        replace hR := Lib.hid hR
        clear hJs hend hmj
        go_wp2_with fail
        clear xc xf xl rc rf rl
        go_loopw [7] (fun i wr => ∃ k : Nat, i = .int .i64 k ∧ a ≤ k ∧ Blk wr w.heap.size 27 #[.int .i64 Wn, .int .i64 Hn, .slice A n c] ∧ Blk wr (w.heap.size + 1) 29 #[.int .i64 a, .int .i64 b, .int .i64 c1, .int .i64 d] ∧ J (j * Wn + min k Wn) wr) (fun i _ => Wn - (intOf i).toNat)
        case atStart => exact ⟨i0, rfl, hi1, hX.out, hR.out, hst.out⟩
        case round =>
          clear hst hX hR
          obtain ⟨i, rfl, hia, hX, hR, hJs⟩ := hrel
          obtain ⟨xc, xf, xl⟩ := hX.rules
          obtain ⟨rc, rf, rl⟩ := hR.rules
          have hend : ¬ ((i : Int) ≤ c1 ∧ i < Wn) → J (min (j + 1) Hn * Wn) wr := fun hno => by
            rw [show min (j + 1) Hn = j + 1 by omega]
            refine pix_to (fun p hp hu => hskip p wr hp hu) hJs (by rw [Nat.add_mul]; omega) (hmul.out _ (by omega)) (fun k hk hkn => ?_)
            rw [Nat.add_mul] at hkn
            obtain ⟨i2, rfl⟩ : ∃ i2, k = j * Wn + i2 := ⟨k - j * Wn, by omega⟩
            have hiW : i2 < Wn := by omega
            simp only [unkB, inR, Bool.and_eq_false_iff, (cell_at hiW).1, (cell_at hiW).2]
            right
            simp; omega
          by_cases h3 : (i : Int) ≤ c1
          · by_cases h4 : i < Wn
            · have h4' : (i : Int) < Wn := by omega
              have hmi : min i Wn = i := by omega
              rw [hmi] at hJs
              have hkn : j * Wn + i < n := by omega
              have hA := hJA _ _ hJs
              obtain ⟨ad, rfl, hc⟩ := hA _ hkn
              have hal := lt_of_cell hc
              have hca := cell_at (W := Wn) (j := j) h4
              have hu : unkB Wn f a b c1 d (j * Wn + i) = decide (f (j * Wn + i) = 2) := by
                simp only [unkB, inR, hca.1, hca.2]
                rw [decide_eq_true (show a ≤ (i : Int) ∧ (i : Int) ≤ c1 ∧ b ≤ (j : Int) ∧ (j : Int) ≤ d from ⟨hia, h3, hjb, h1⟩), Bool.and_true]
              obtain ⟨q, hq⟩ : ∃ q : Nat, j * Wn + i = q := ⟨_, rfl⟩
              rw [hq] at hkn hu hJs hc
              have hw1 : IntKind.i64.wrap ((j : Int) * (Wn : Int)) = (j : Int) * (Wn : Int) := by
                have : (j : Int) * (Wn : Int) = ((j * Wn : Nat) : Int) := by rw [Int.natCast_mul]
                rw [IntKind.wrap_i64]; omega
              have hw2 : (j : Int) * (Wn : Int) + (i : Int) = (q : Int) := by rw [← hq, Int.natCast_add, Int.natCast_mul]
              have hw3 : IntKind.i64.wrap ((j : Int) * (Wn : Int) + (i : Int)) = (q : Int) := by rw [hw2, IntKind.wrap_i64]; omega
              have hkn' : (q : Int) < n := by omega
              have hnext : min (i + 1) Wn = i + 1 := by omega
              have hJn : J (q + 1) = J (j * Wn + min (i + 1) Wn) := by rw [hnext, ← hq]; rfl
              replace hnext := Lib.hid hnext
              replace hJn := Lib.hid hJn
              replace hq := Lib.hid hq
              obtain ⟨pv, hpv⟩ : ∃ pv, f q = pv := ⟨_, rfl⟩
              rw [hpv] at hu
              simp only [hpv] at hc
              replace hpv := Lib.hid hpv
              replace hJs := Lib.hid hJs
              replace hX := Lib.hid hX
              replace hR := Lib.hid hR
              clear hend hca hmi hA
              by_cases h5 : pv = 2
              · have h5' : (pv == 2) = true := by simpa using h5
                have hu' : unkB Wn f a b c1 d q = true := by rw [hu]; simpa using h5
                replace hu' := Lib.hid hu'
                clear hu
                subst h5
                go_wp2_with fail
                refine (hdo q wr hkn hu'.out hJs.out (by omega)).mono ?_
                rintro e V' ⟨⟨v, rfl⟩, hJ', hK'⟩
                have hX' := Lib.hid (hK'.blk hX.out (Nat.le_refl _))
                have hR' := Lib.hid (hK'.blk hR.out (by omega))
                clear xc xf xl rc rf rl hc hal
                go_wp2_with fail
                exact ⟨⟨i + 1, by go_num, by omega, hX'.out, hR'.out, by rw [← hJn.out]; exact hJ'⟩, by simp only [intOf]; omega⟩
              · have h5' : (pv == 2) = false := by simpa using h5
                have hu' : unkB Wn f a b c1 d q = false := by rw [hu]; simpa using h5
                replace hu' := Lib.hid hu'
                clear hu
                go_wp2_with fail
                exact ⟨⟨i + 1, by go_num, by omega, hX.out, hR.out, by rw [← hJn.out]; exact hskip q _ hkn hu'.out hJs.out⟩, by simp only [intOf]; omega⟩
            · have hfin := Lib.hid (hend (by omega))
              replace hX := Lib.hid hX
              replace hR := Lib.hid hR
              clear hend hJs
              go_wp2_with fail
              exact ⟨⟨j + 1, by go_num, by omega, hX.out, hR.out, hfin.out⟩, by simp only [intOf]; omega⟩
          · have hfin := Lib.hid (hend (by omega))
            replace hX := Lib.hid hX
            replace hR := Lib.hid hR
            clear hend hJs
            go_wp2_with fail
            exact ⟨⟨j + 1, by go_num, by omega, hX.out, hR.out, hfin.out⟩, by simp only [intOf]; omega⟩
      · have hfin := Lib.hid (hend (by omega))
        replace hX := Lib.hid hX
        replace hR := Lib.hid hR
        clear hend hJs
        go_wp2_with fail
        go_end0
        exact ⟨⟨_, rfl⟩, hfin.out⟩
    · have hfin := Lib.hid (hend (by omega))
      replace hX := Lib.hid hX
      replace hR := Lib.hid hR
      clear hend hJs
      go_wp2_with fail
      go_end0
      exact ⟨⟨_, rfl⟩, hfin.out⟩
end Go.Proofs.Ytcdnpnbjloaihaa
end
