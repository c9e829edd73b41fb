/- Parts of the proof: RbUnk, TUnk. -/
import Derived.Test.YtcdnpnbjloaihaaProg
import Derived.Test.YtcdnpnbjloaihaaG13
import Derived.Test.YtcdnpnbjloaihaaG09
import Derived.Test.YtcdnpnbjloaihaaG10
set_option linter.unusedSimpArgs false
set_option linter.unusedVariables false
section
/- ref33.unknown. No condition but those that each states. -/
namespace Go.Proofs.Ytcdnpnbjloaihaa
open Go.RowKit Go.Flow Go.Plain
open Go.Proofs
attribute [local go_sem] block_add
attribute [local go_sem ↓] Go.wp_at_zero Go.wp_at_succ

/-- The indices below p that U has. -/
def uL (U : Nat → Bool) (p : Nat) : List Nat := (List.range p).filter U
theorem uL_succ (U : Nat → Bool) (p : Nat) : uL U (p + 1) = uL U p ++ (if U p then [p] else []) := by
  unfold uL
  rw [List.range_succ, List.filter_append]
  cases h : U p <;> simp [h]
theorem uL_len (U : Nat → Bool) : ∀ p, ((uL U p).length : Int) = cnt U p
  | 0 => rfl
  | p + 1 => by
    rw [uL_succ, List.length_append, cnt_succ, ← uL_len U p]
    cases h : U p <;> simp
def UnkPost (L : List Nat) (w : World) (e : Ending) (w' : World) : Prop := ∃ v, e = .returned v ∧ w'.ownsRow w.heap.size 3 1 v L.length (L.map fun k => .int .i64 (k : Nat)) ∧ Ext w w'


set_option maxHeartbeats 1000000 in
set_option maxRecDepth 100000 in
theorem unknown_any (Wn Hn n c : Nat) (A : Option Addr) (f : Nat → Int) (a b c1 d : Int) (w : World) (hW : Wn ≤ 100) (hH : Hn ≤ 100) (hn : n = Wn * Hn) (hA : Ints w A n f) :
    Calls Try.prog 36 #[img Wn Hn A n c, rct a b c1 d] w (UnkPost (uL (unkB Wn f a b c1 d) n) w) := by
  obtain ⟨U, hU⟩ : ∃ U, unkB Wn f a b c1 d = U := ⟨_, rfl⟩
  rw [hU]
  have hUx : ∀ k, U k = (decide (f k = 2) && inR a b c1 d ((k : Int) % Wn) ((k : Int) / Wn)) := fun k => by rw [← hU]; rfl
  clear hU
  have hpost : ∀ e w', (∃ v, e = .returned v ∧ w'.ownsRow w.heap.size 3 1 v (uL U n).length ((uL U n).map fun k => .int .i64 (k : Nat)) ∧ Ext w w') → UnkPost (uL U n) w e w' := fun _ _ h => h
  replace hpost := Lib.hid hpost
  obtain ⟨i0, hi, hz0, hz1, hz2⟩ := info_parts info_int
  have hnb : n ≤ 10000 := by subst hn; exact Nat.mul_le_mul hW hH
  replace hn := Lib.hid hn
  replace hUx := Lib.hid hUx
  have hE0 := Lib.hid (((Ext.refl w).alloc (.cells #[.int .i64 Wn, .int .i64 Hn, .slice A n c] 27)).alloc (.cells #[.int .i64 a, .int .i64 b, .int .i64 c1, .int .i64 d] 29))
  have hX0 := Lib.hid ((Blk.new w 27 #[.int .i64 Wn, .int .i64 Hn, .slice A n c]).alloc (.cells #[.int .i64 a, .int .i64 b, .int .i64 c1, .int .i64 d] 29))
  have hR0 := Lib.hid (Blk.new' (g := w.heap.size + 1) (w := w.alloc (.cells #[.int .i64 Wn, .int .i64 Hn, .slice A n c] 27)) (by simp) 29 #[.int .i64 a, .int .i64 b, .int .i64 c1, .int .i64 d])
  go_enter Try.func36, Try.ntmps36
  go_wp2_with fail
  go_loopw [5, 6] (fun v i wr => ∃ k : Nat, k ≤ n ∧ i = .int .i64 k ∧ Blk wr w.heap.size 27 #[.int .i64 Wn, .int .i64 Hn, .slice A n c] ∧ Blk wr (w.heap.size + 1) 29 #[.int .i64 a, .int .i64 b, .int .i64 c1, .int .i64 d] ∧
    wr.ownsRow (w.heap.size + 2) 3 1 v (uL U k).length ((uL U k).map fun k => .int .i64 (k : Nat)) ∧ Ext w wr) (fun _ i _ => n - (intOf i).toNat)
  case atStart => exact ⟨0, by omega, rfl, hX0.out, hR0.out, World.ownsRow_nil _ _ _ _, hE0.out⟩
  case round =>
    clear hX0 hR0 hE0
    obtain ⟨k, hk, rfl, hX, hR, hrow, hE⟩ := hrel
    obtain ⟨xc, xf, xl⟩ := hX.rules
    obtain ⟨rc, rf, rl⟩ := hR.rules
    by_cases hlt : k < n
    · have hlt' : (k : Int) < n := by omega
      obtain ⟨ad, rfl, hc⟩ := hA.ext hE k hlt
      have hal := lt_of_cell hc
      have hUk := hUx.out k
      have hW0 : Wn ≠ 0 := by
        intro h
        have h2 := hn.out
        rw [h, Nat.zero_mul] at h2
        omega
      have hr0 := Int.emod_nonneg (k : Int) (show (Wn : Int) ≠ 0 by omega)
      have hr1 := Int.emod_lt_of_pos (k : Int) (show (0 : Int) < Wn by omega)
      have hq0 : 0 ≤ (k : Int) / Wn := Int.ediv_nonneg (by omega) (by omega)
      have hq1 : (k : Int) / Wn ≤ k := Int.ediv_le_self _ (by omega)
      have hmd : (k : Int).tmod Wn = (k : Int) % Wn := Int.tmod_eq_emod_of_nonneg (by omega)
      have hdv : (k : Int).tdiv Wn = (k : Int) / Wn := Int.tdiv_eq_ediv_of_nonneg (by omega)
      have hwq : IntKind.i64.wrap ((k : Int) / Wn) = (k : Int) / Wn := by rw [IntKind.wrap_i64]; omega
      obtain ⟨pv, hpv⟩ : ∃ pv, f k = pv := ⟨_, rfl⟩
      rw [hpv] at hUk
      simp only [hpv] at hc
      replace hpv := Lib.hid hpv
      have hll := uL_len U k
      have hl2 := cnt_le U k
      replace hX := Lib.hid hX
      replace hR := Lib.hid hR
      have hws := hE.size
      replace hrow := Lib.hid hrow
      replace hE := Lib.hid hE
      by_cases h0 : pv = 2
      · have h0' : (pv == 2) = true := by simpa using h0
        by_cases h1 : a ≤ (k : Int) % Wn
        · by_cases h2 : (k : Int) % Wn ≤ c1
          · by_cases h3 : b ≤ (k : Int) / Wn
            · by_cases h4 : (k : Int) / Wn ≤ d
              · have hu : U k = true := by rw [hUk, h0]; simp [inR]; omega
                have hs := uL_succ U k
                rw [hu] at hs
                simp only [if_true] at hs
                replace hs := Lib.hid hs
                subst h0
                clear hu hUk
                go_wp2_with (first
                  | (at_builtin; refine wpList_app1 rfl (.tmp 54) (.tmp 56) 23 rfl i0 (.int .i64 0) 8 Try.underlying23 hi hz0 hz1 hz2 rfl rfl (own_ext hrow.out ((Ext.refl wr).alloc _)) wr.heap.size (.int .i64 (k : Int)) #[.int .i64 (k : Int)] 3 rfl (Blk.new _ _ _) rfl rfl (by omega) (by omega) (by simp; omega) ?_))
                intro v' w6 hr2 hg2 hk2
                have hkp : ∀ q : Nat, ∀ t cs, q < w.heap.size + 2 → Blk wr q t cs → Blk w6 q t cs := fun q t cs hq hb => (hg2.block q (by have := hb.lt; simp; omega) (fun e => by
                  have := hrow.out.lt q e.symm; omega)).trans (hb.alloc _)
                have hX6 := Lib.hid (hkp _ _ _ (by omega) hX.out)
                have hR6 := Lib.hid (hkp _ _ _ (by omega) hR.out)
                have hE6 := Lib.hid (hk2 w (by omega) (hE.out.alloc _))
                replace hr2 := Lib.hid hr2
                clear hg2 hk2 hkp xc xf xl rc rf rl
                go_wp2_with fail
                exact ⟨⟨k + 1, by omega, by go_num, hX6.out, hR6.out, by have := hr2.out; rw [hs.out]; simpa using this, hE6.out⟩, by simp only [intOf]; omega⟩
              · have hu : U k = false := by rw [hUk]; simp [inR]; omega
                have hs := uL_succ U k
                rw [hu] at hs
                simp only [Bool.false_eq_true, if_false, List.append_nil] at hs
                replace hs := Lib.hid hs
                clear hu hUk
                go_wp2_with fail
                exact ⟨⟨k + 1, by omega, by go_num, hX.out, hR.out, by rw [hs.out]; exact hrow.out, hE.out⟩, by simp only [intOf]; omega⟩
            · have hu : U k = false := by rw [hUk]; simp [inR]; omega
              have hs := uL_succ U k
              rw [hu] at hs
              simp only [Bool.false_eq_true, if_false, List.append_nil] at hs
              replace hs := Lib.hid hs
              clear hu hUk
              go_wp2_with fail
              exact ⟨⟨k + 1, by omega, by go_num, hX.out, hR.out, by rw [hs.out]; exact hrow.out, hE.out⟩, by simp only [intOf]; omega⟩
          · have hu : U k = false := by rw [hUk]; simp [inR]; omega
            have hs := uL_succ U k
            rw [hu] at hs
            simp only [Bool.false_eq_true, if_false, List.append_nil] at hs
            replace hs := Lib.hid hs
            clear hu hUk
            go_wp2_with fail
            exact ⟨⟨k + 1, by omega, by go_num, hX.out, hR.out, by rw [hs.out]; exact hrow.out, hE.out⟩, by simp only [intOf]; omega⟩
        · have hu : U k = false := by rw [hUk]; simp [inR]; omega
          have hs := uL_succ U k
          rw [hu] at hs
          simp only [Bool.false_eq_true, if_false, List.append_nil] at hs
          replace hs := Lib.hid hs
          clear hu hUk
          go_wp2_with fail
          exact ⟨⟨k + 1, by omega, by go_num, hX.out, hR.out, by rw [hs.out]; exact hrow.out, hE.out⟩, by simp only [intOf]; omega⟩
      · have h0' : (pv == 2) = false := by simpa using h0
        have hu : U k = false := by rw [hUk]; simp [h0]
        have hs := uL_succ U k
        rw [hu] at hs
        simp only [Bool.false_eq_true, if_false, List.append_nil] at hs
        replace hs := Lib.hid hs
        clear hu hUk
        go_wp2_with fail
        exact ⟨⟨k + 1, by omega, by go_num, hX.out, hR.out, by rw [hs.out]; exact hrow.out, hE.out⟩, by simp only [intOf]; omega⟩
    · obtain rfl : k = n := by omega
      have hws := hX.lt
      obtain ⟨A', c', rfl, -⟩ := row_open hrow
      have hfin := hpost.out (.returned (.slice A' (uL U k).length c')) wr ⟨_, rfl, ⟨hrow.1, by
        rcases hrow.2 with h | ⟨g, cap, cur, h1, h2, h3⟩
        · exact .inl h
        · exact .inr ⟨g, cap, cur, h1, by omega, h3⟩⟩, hE⟩
      replace hfin := Lib.hid hfin
      clear hpost hE hrow
      replace hX := Lib.hid hX
      replace hR := Lib.hid hR
      go_wp2_with fail
      go_ret
      exact hfin.out
end Go.Proofs.Ytcdnpnbjloaihaa
end

section
/- ref33.unknown over plain states. -/
namespace Go.Proofs.Ytcdnpnbjloaihaa
open Go.RowKit Go.Flow Go.AV Go.Plain
set_option maxRecDepth 100000 in
theorem unk_A (Wn Hn n : Nat) (f : Nat → Int) (a b c d : Int) (hW : Wn ≤ 100) (hH : Hn ≤ 100) (hn : n = Wn * Hn) :
    ACalls Try.prog 36 [.ag (imgV Wn Hn n f), .ag (rctV a b c d)] (.c (.ls (uL (unkB Wn f a b c d) n).length 1 (iF (natF (uL (unkB Wn f a b c d) n))))) := by
  have hnb : n ≤ 10000 := by subst hn; exact Nat.mul_le_mul hW hH
  refine acalls_at Try.func36 rfl rfl Try.ntmps36 rfl ?_
  repeat (first
    | refine AWp.seq ?_
    | refine thenA_n ?_
    | refine AWp.block ?_
    | (refine AWp.region (id := 0) ?_
       refine AList.box rfl rfl rfl rfl rfl ?_
       refine AList.box rfl rfl rfl rfl rfl ?_
       refine AList.assign rfl rfl rfl ?_
       refine AList.nil ?_)
    | (refine AWp.region (id := 1) ?_
       refine AList.assign rfl rfl rfl ?_
       refine AList.nil ?_)
    | (refine AWp.region (id := 2) ?_
       refine AList.assign rfl rfl rfl ?_
       refine AList.nil ?_))
  refine AWp.round (fun k : Nat => mkSt 59 [(2, .c (.pt 2 3 0 0)), (3, .c (.pt 3 4 0 0)), (5, .c (.ow 5)), (6, .c (iC k))]
    [(2, ⟨false, 1, 3, 27, lF (imgV Wn Hn n f)⟩), (3, ⟨false, 1, 4, 29, lF (rctV a b c d)⟩), (5, ⟨true, (uL (unkB Wn f a b c d) k).length, 1, 3, iF (natF (uL (unkB Wn f a b c d) k))⟩)] [2, 3, 5])
    (fun k => k ≤ n) (fun k => n - k) 0 (Nat.zero_le _) ?_ (fun k hk => ?_)
  · refine Wk.mk [(2, some 2), (3, some 3), (5, none)] rfl rfl rfl ?_ ?_
    · repeat (first | exact trivial | refine ⟨⟨_, rfl, by first | exact LeA.c (LeC.refl _ rfl) | exact LeA.c (LeC.ow _ _ rfl) | exact LeA.c (LeC.pt _ _ _ _ _ rfl) | exact LeA.c (LeC.nil _ rfl) | exact LeA.c (LeC.nils _ _) | (refine LeA.int ?_; omega) | (refine LeA.int ?_; dsimp only; omega) | exact LeA.c (LeC.fz rfl rfl (by first | rfl | omega) (fun i _ j _ => ⟨rfl, by first | rfl | exact rowN_imm (fun _ => rfl) _ i j | exact rowF_imm (fun _ => rfl) _ i j⟩))⟩, ?_⟩)
    · repeat (first | exact trivial | refine ⟨by first | exact HeapOk.same rfl rfl rfl rfl | exact HeapOk.lent rfl rfl rfl rfl | exact HeapOk.nil rfl rfl | exact HeapOk.row rfl rfl (by first | rfl | omega) (fun i _ j _ => ⟨rfl, by first | rfl | exact rowN_imm (fun _ => rfl) _ i j | exact rowF_imm (fun _ => rfl) _ i j⟩) | exact HeapOk.box rfl rfl (by repeat (first | exact trivial | refine ⟨by first | exact LeC.refl _ rfl | exact LeC.ow _ _ rfl | exact LeC.nil _ rfl | exact LeC.nils _ _ | exact LeC.fz rfl rfl (by first | rfl | omega) (fun i _ j _ => ⟨rfl, by first | rfl | exact rowN_imm (fun _ => rfl) _ i j | exact rowF_imm (fun _ => rfl) _ i j⟩) | exact LeC.int (by omega), ?_⟩)) rfl, ?_⟩)
  · by_cases hlt : k < n
    · have hW0 : 0 < Wn := by
        rcases Nat.eq_zero_or_pos Wn with h | h
        · rw [h, Nat.zero_mul] at hn; omega
        · exact h
      have hq0 : (0 : Int) ≤ (k : Int) % Wn := Int.emod_nonneg _ (by omega)
      have hu : unkB Wn f a b c d k = decide (f k = 2 ∧ (a ≤ (k : Int) % Wn ∧ (k : Int) % Wn ≤ c) ∧ (b ≤ (k : Int) / Wn ∧ (k : Int) / Wn ≤ d)) := by unfold unkB inR; rw [Bool.eq_iff_iff]; simp only [Bool.and_eq_true, decide_eq_true_eq]; constructor <;> (intro h; omega)
      have hs := uL_succ (unkB Wn f a b c d) k
      by_cases hall : f k = 2 ∧ (a ≤ (k : Int) % Wn ∧ (k : Int) % Wn ≤ c) ∧ (b ≤ (k : Int) / Wn ∧ (k : Int) / Wn ≤ d)
      · rw [hu, decide_eq_true hall, if_pos rfl] at hs
        have hlen : (uL (unkB Wn f a b c d) k).length ≤ k := by have h1 := uL_len (unkB Wn f a b c d) k; have h2 := cnt_le (unkB Wn f a b c d) k; omega
        obtain ⟨h1, ⟨h2, h3⟩, h4, h5⟩ := hall
        repeat (first
          | refine AWp.seq ?_
          | refine thenA_n ?_
          | refine AWp.block ?_
          | refine AWp.skip ?_
          | refine inBlk_n ?_
          | refine AWp.condT rfl (by first | rfl | exact cmT) ?_
          | (refine AWp.region (id := 3) ?_
             refine AList.move rfl rfl rfl ?_
             refine AList.fieldPt tyOk rfl rfl rfl rfl rfl rfl rfl ?_
             refine AList.load1 tyOk rfl rfl rfl rfl rfl rfl rfl oM oM ?_
             refine AList.lenLs tyOk rfl rfl rfl rfl rfl ?_
             refine AList.cmpT rfl rfl rfl rfl rfl cmT ?_
             refine AList.nil ?_)
          | (refine AWp.region (id := 4) ?_
             refine AList.move rfl rfl rfl ?_
             refine AList.add rfl rfl rfl rfl (by omega) (by omega) ?_
             refine AList.assign rfl rfl rfl ?_
             refine AList.nil ?_)
          | (refine AWp.region (id := 5) ?_
             refine AList.move rfl rfl rfl ?_
             refine AList.fieldPt tyOk rfl rfl rfl rfl rfl rfl rfl ?_
             refine AList.load1 tyOk rfl rfl rfl rfl rfl rfl rfl oM oM ?_
             refine AList.rem rfl rfl rfl rfl (by omega) (by omega) ?_
             refine AList.assign rfl rfl rfl ?_
             refine AList.nil ?_)
          | (refine AWp.region (id := 6) ?_
             refine AList.move rfl rfl rfl ?_
             refine AList.fieldPt tyOk rfl rfl rfl rfl rfl rfl rfl ?_
             refine AList.load1 tyOk rfl rfl rfl rfl rfl rfl rfl oM oM ?_
             refine AList.quo rfl rfl rfl rfl (by omega) (by omega) (by omega) ?_
             refine AList.assign rfl rfl rfl ?_
             refine AList.nil ?_)
          | (refine AWp.region (id := 7) ?_
             refine AList.fieldPt tyOk rfl rfl rfl rfl rfl rfl rfl ?_
             refine AList.load1 tyOk rfl rfl rfl rfl rfl rfl rfl oM oM ?_
             refine AList.move rfl rfl rfl ?_
             refine AList.idx tyOk rfl rfl rfl rfl rfl rfl rfl rfl rfl oM oM ?_
             refine AList.load1l tyOk rfl rfl rfl rfl rfl oM ?_
             refine AList.cmpT rfl rfl rfl rfl rfl cmT ?_
             refine AList.move rfl rfl rfl ?_
             refine AList.move rfl rfl rfl ?_
             refine AList.fieldPt tyOk rfl rfl rfl rfl rfl rfl rfl ?_
             refine AList.load1 tyOk rfl rfl rfl rfl rfl rfl rfl oM oM ?_
             refine AList.cmpT rfl rfl rfl rfl rfl cmT ?_
             refine AList.pickT rfl rfl rfl rfl ?_
             refine AList.move rfl rfl rfl ?_
             refine AList.move rfl rfl rfl ?_
             refine AList.fieldPt tyOk rfl rfl rfl rfl rfl rfl rfl ?_
             refine AList.load1 tyOk rfl rfl rfl rfl rfl rfl rfl oM oM ?_
             refine AList.cmpT rfl rfl rfl rfl rfl cmT ?_
             refine AList.pickT rfl rfl rfl rfl ?_
             refine AList.move rfl rfl rfl ?_
             refine AList.move rfl rfl rfl ?_
             refine AList.fieldPt tyOk rfl rfl rfl rfl rfl rfl rfl ?_
             refine AList.load1 tyOk rfl rfl rfl rfl rfl rfl rfl oM oM ?_
             refine AList.cmpT rfl rfl rfl rfl rfl cmT ?_
             refine AList.pickT rfl rfl rfl rfl ?_
             refine AList.move rfl rfl rfl ?_
             refine AList.move rfl rfl rfl ?_
             refine AList.fieldPt tyOk rfl rfl rfl rfl rfl rfl rfl ?_
             refine AList.load1 tyOk rfl rfl rfl rfl rfl rfl rfl oM oM ?_
             refine AList.cmpT rfl rfl rfl rfl rfl cmT ?_
             refine AList.pickT rfl rfl rfl rfl ?_
             refine AList.nil ?_)
          | (refine AWp.region (id := 8) ?_
             refine AList.move rfl rfl rfl ?_
             refine AList.move rfl rfl rfl ?_
             refine AList.litSl tyOk rfl rfl rfl rfl rfl rfl rfl rfl rfl rfl rfl ?_
             refine AList.appL tyOk rfl rfl rfl rfl rfl rfl rfl rfl rfl rfl oM oM ?_
             refine AList.assign rfl rfl rfl ?_
             refine AList.nil ?_))
        refine ⟨k + 1, by omega, Wk.mk [(2, some 2), (3, some 3), (5, some 57)] rfl rfl rfl ?_ ?_, by omega⟩
        · repeat (first | exact trivial | refine ⟨⟨_, rfl, by first | exact LeA.c (LeC.refl _ rfl) | exact LeA.c (LeC.ow _ _ rfl) | exact LeA.c (LeC.pt _ _ _ _ _ rfl) | exact LeA.c (LeC.nil _ rfl) | exact LeA.c (LeC.nils _ _) | (refine LeA.int ?_; omega) | (refine LeA.int ?_; dsimp only; omega) | exact LeA.c (LeC.fz rfl rfl (by first | rfl | omega) (fun i _ j _ => ⟨rfl, by first | rfl | exact rowN_imm (fun _ => rfl) _ i j | exact rowF_imm (fun _ => rfl) _ i j⟩))⟩, ?_⟩)
        · repeat (first | exact trivial | refine ⟨by first | exact HeapOk.same rfl rfl rfl rfl | exact HeapOk.lent rfl rfl rfl rfl | exact HeapOk.nil rfl rfl | exact HeapOk.row rfl rfl (by first | rfl | omega) (fun i _ j _ => ⟨rfl, by first | rfl | exact rowN_imm (fun _ => rfl) _ i j | exact rowF_imm (fun _ => rfl) _ i j⟩) | exact HeapOk.box rfl rfl (by repeat (first | exact trivial | refine ⟨by first | exact LeC.refl _ rfl | exact LeC.ow _ _ rfl | exact LeC.nil _ rfl | exact LeC.nils _ _ | exact LeC.fz rfl rfl (by first | rfl | omega) (fun i _ j _ => ⟨rfl, by first | rfl | exact rowN_imm (fun _ => rfl) _ i j | exact rowF_imm (fun _ => rfl) _ i j⟩) | exact LeC.int (by omega), ?_⟩)) rfl, ?_⟩)
          exact ⟨HeapOk.row rfl rfl (by rw [hs]; simp) (app_one (fun i hi => by simp only [natF, hs, getD_l hi]) (by simp only [natF, hs, getD_r]) fun _ _ => rfl), trivial⟩
      · rw [hu, decide_eq_false hall] at hs
        simp only [Bool.false_eq_true, if_false, List.append_nil] at hs
        have hcase : f k ≠ 2 ∨ (f k = 2 ∧ ¬ a ≤ (k : Int) % Wn) ∨ (f k = 2 ∧ a ≤ (k : Int) % Wn ∧ ¬ (k : Int) % Wn ≤ c) ∨ (f k = 2 ∧ a ≤ (k : Int) % Wn ∧ (k : Int) % Wn ≤ c ∧ ¬ b ≤ (k : Int) / Wn) ∨ (f k = 2 ∧ a ≤ (k : Int) % Wn ∧ (k : Int) % Wn ≤ c ∧ b ≤ (k : Int) / Wn ∧ ¬ (k : Int) / Wn ≤ d) := by omega
        rcases hcase with h | h | h | h | h
        all_goals
          repeat (first
            | refine AWp.seq ?_
            | refine thenA_n ?_
            | refine AWp.block ?_
            | refine AWp.skip ?_
            | refine inBlk_n ?_
            | refine AWp.condT rfl (by first | rfl | exact cmT) ?_
            | refine AWp.condF rfl (by first | rfl | exact cmF) ?_
            | (refine AWp.region (id := 3) ?_
               refine AList.move rfl rfl rfl ?_
               refine AList.fieldPt tyOk rfl rfl rfl rfl rfl rfl rfl ?_
               refine AList.load1 tyOk rfl rfl rfl rfl rfl rfl rfl oM oM ?_
               refine AList.lenLs tyOk rfl rfl rfl rfl rfl ?_
               refine AList.cmpT rfl rfl rfl rfl rfl cmT ?_
               refine AList.nil ?_)
            | (refine AWp.region (id := 4) ?_
               refine AList.move rfl rfl rfl ?_
               refine AList.add rfl rfl rfl rfl (by omega) (by omega) ?_
               refine AList.assign rfl rfl rfl ?_
               refine AList.nil ?_)
            | (refine AWp.region (id := 5) ?_
               refine AList.move rfl rfl rfl ?_
               refine AList.fieldPt tyOk rfl rfl rfl rfl rfl rfl rfl ?_
               refine AList.load1 tyOk rfl rfl rfl rfl rfl rfl rfl oM oM ?_
               refine AList.rem rfl rfl rfl rfl (by omega) (by omega) ?_
               refine AList.assign rfl rfl rfl ?_
               refine AList.nil ?_)
            | (refine AWp.region (id := 6) ?_
               refine AList.move rfl rfl rfl ?_
               refine AList.fieldPt tyOk rfl rfl rfl rfl rfl rfl rfl ?_
               refine AList.load1 tyOk rfl rfl rfl rfl rfl rfl rfl oM oM ?_
               refine AList.quo rfl rfl rfl rfl (by omega) (by omega) (by omega) ?_
               refine AList.assign rfl rfl rfl ?_
               refine AList.nil ?_)
            | (refine AWp.region (id := 7) ?_
               refine AList.fieldPt tyOk rfl rfl rfl rfl rfl rfl rfl ?_
               refine AList.load1 tyOk rfl rfl rfl rfl rfl rfl rfl oM oM ?_
               refine AList.move rfl rfl rfl ?_
               refine AList.idx tyOk rfl rfl rfl rfl rfl rfl rfl rfl rfl oM oM ?_
               refine AList.load1l tyOk rfl rfl rfl rfl rfl oM ?_
               first | refine AList.cmpT rfl rfl rfl rfl rfl cmT ?_ | refine AList.cmpF rfl rfl rfl rfl rfl cmF ?_
               refine AList.move rfl rfl rfl ?_
               first | refine AList.skip rfl rfl ?_ | refine AList.move rfl rfl rfl ?_
               first | refine AList.skip rfl rfl ?_ | refine AList.fieldPt tyOk rfl rfl rfl rfl rfl rfl rfl ?_
               first | refine AList.skip rfl rfl ?_ | refine AList.load1 tyOk rfl rfl rfl rfl rfl rfl rfl oM oM ?_
               first | refine AList.skip rfl rfl ?_ | refine AList.cmpT rfl rfl rfl rfl rfl cmT ?_ | refine AList.cmpF rfl rfl rfl rfl rfl cmF ?_
               first | refine AList.pickT rfl rfl rfl rfl ?_ | refine AList.pickF rfl rfl rfl rfl ?_
               refine AList.move rfl rfl rfl ?_
               first | refine AList.skip rfl rfl ?_ | refine AList.move rfl rfl rfl ?_
               first | refine AList.skip rfl rfl ?_ | refine AList.fieldPt tyOk rfl rfl rfl rfl rfl rfl rfl ?_
               first | refine AList.skip rfl rfl ?_ | refine AList.load1 tyOk rfl rfl rfl rfl rfl rfl rfl oM oM ?_
               first | refine AList.skip rfl rfl ?_ | refine AList.cmpT rfl rfl rfl rfl rfl cmT ?_ | refine AList.cmpF rfl rfl rfl rfl rfl cmF ?_
               first | refine AList.pickT rfl rfl rfl rfl ?_ | refine AList.pickF rfl rfl rfl rfl ?_
               refine AList.move rfl rfl rfl ?_
               first | refine AList.skip rfl rfl ?_ | refine AList.move rfl rfl rfl ?_
               first | refine AList.skip rfl rfl ?_ | refine AList.fieldPt tyOk rfl rfl rfl rfl rfl rfl rfl ?_
               first | refine AList.skip rfl rfl ?_ | refine AList.load1 tyOk rfl rfl rfl rfl rfl rfl rfl oM oM ?_
               first | refine AList.skip rfl rfl ?_ | refine AList.cmpT rfl rfl rfl rfl rfl cmT ?_ | refine AList.cmpF rfl rfl rfl rfl rfl cmF ?_
               first | refine AList.pickT rfl rfl rfl rfl ?_ | refine AList.pickF rfl rfl rfl rfl ?_
               refine AList.move rfl rfl rfl ?_
               first | refine AList.skip rfl rfl ?_ | refine AList.move rfl rfl rfl ?_
               first | refine AList.skip rfl rfl ?_ | refine AList.fieldPt tyOk rfl rfl rfl rfl rfl rfl rfl ?_
               first | refine AList.skip rfl rfl ?_ | refine AList.load1 tyOk rfl rfl rfl rfl rfl rfl rfl oM oM ?_
               first | refine AList.skip rfl rfl ?_ | refine AList.cmpF rfl rfl rfl rfl rfl cmF ?_
               first | refine AList.pickT rfl rfl rfl rfl ?_ | refine AList.pickF rfl rfl rfl rfl ?_
               refine AList.nil ?_))
          refine ⟨k + 1, by omega, Wk.mk [(2, some 2), (3, some 3), (5, some 5)] rfl rfl rfl ?_ ?_, by omega⟩
          · repeat (first | exact trivial | refine ⟨⟨_, rfl, by first | exact LeA.c (LeC.refl _ rfl) | exact LeA.c (LeC.ow _ _ rfl) | exact LeA.c (LeC.pt _ _ _ _ _ rfl) | exact LeA.c (LeC.nil _ rfl) | exact LeA.c (LeC.nils _ _) | (refine LeA.int ?_; omega) | (refine LeA.int ?_; dsimp only; omega) | exact LeA.c (LeC.fz rfl rfl (by first | rfl | omega) (fun i _ j _ => ⟨rfl, by first | rfl | exact rowN_imm (fun _ => rfl) _ i j | exact rowF_imm (fun _ => rfl) _ i j⟩))⟩, ?_⟩)
          · repeat (first | exact trivial | refine ⟨by first | exact HeapOk.same rfl rfl rfl rfl | exact HeapOk.lent rfl rfl rfl rfl | exact HeapOk.nil rfl rfl | exact HeapOk.row rfl rfl (by first | rfl | omega) (fun i _ j _ => ⟨rfl, by first | rfl | exact rowN_imm (fun _ => rfl) _ i j | exact rowF_imm (fun _ => rfl) _ i j⟩) | exact HeapOk.box rfl rfl (by repeat (first | exact trivial | refine ⟨by first | exact LeC.refl _ rfl | exact LeC.ow _ _ rfl | exact LeC.nil _ rfl | exact LeC.nils _ _ | exact LeC.fz rfl rfl (by first | rfl | omega) (fun i _ j _ => ⟨rfl, by first | rfl | exact rowN_imm (fun _ => rfl) _ i j | exact rowF_imm (fun _ => rfl) _ i j⟩) | exact LeC.int (by omega), ?_⟩)) rfl, ?_⟩)
            exact ⟨HeapOk.row rfl rfl (by rw [hs]) (fun i hi j hj => ⟨by rw [hs], rfl⟩), trivial⟩
    · obtain rfl : k = n := by omega
      repeat (first
        | refine AWp.seq ?_
        | refine thenA_n ?_
        | refine AWp.exit ?_
        | refine AWp.ret ?_
        | refine AWp.condF rfl (by first | rfl | exact cmF) ?_
        | (refine AWp.region (id := 3) ?_
           refine AList.move rfl rfl rfl ?_
           refine AList.fieldPt tyOk rfl rfl rfl rfl rfl rfl rfl ?_
           refine AList.load1 tyOk rfl rfl rfl rfl rfl rfl rfl oM oM ?_
           refine AList.lenLs tyOk rfl rfl rfl rfl rfl ?_
           refine AList.cmpF rfl rfl rfl rfl rfl cmF ?_
           refine AList.nil ?_)
        | (refine AWp.region (id := 9) ?_
           refine AList.move rfl rfl rfl ?_
           refine AList.assign rfl rfl rfl ?_
           refine AList.nil ?_))
      refine ⟨mkSt 59 [(4, .c (.ls (uL (unkB Wn f a b c d) k).length 1 (iF (natF (uL (unkB Wn f a b c d) k)))))] [] [], [], Wk.mk [] rfl rfl rfl ?_ ?_, rfl, rfl, ARets.one (x := .c _) (ARes.tmp rfl rfl)⟩
      · repeat (first | exact trivial | refine ⟨⟨_, rfl, by first | exact LeA.c (LeC.refl _ rfl) | exact LeA.c (LeC.ow _ _ rfl) | exact LeA.c (LeC.pt _ _ _ _ _ rfl) | exact LeA.c (LeC.nil _ rfl) | exact LeA.c (LeC.nils _ _) | (refine LeA.int ?_; omega) | (refine LeA.int ?_; dsimp only; omega) | exact LeA.c (LeC.fz rfl rfl (by first | rfl | omega) (fun i _ j _ => ⟨rfl, by first | rfl | exact rowN_imm (fun _ => rfl) _ i j | exact rowF_imm (fun _ => rfl) _ i j⟩))⟩, ?_⟩)
      · exact trivial
end Go.Proofs.Ytcdnpnbjloaihaa
end
