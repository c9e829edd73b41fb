/- The reference's least and Least. No condition but those that each states. -/
import Derived.Test.YtfgcogkhnnflcaaDoorProg
import Derived.Test.YtfgcogkhnnflcaaDoorBdRef2
namespace Go.Proofs.YtfgcogkhnnflcaaDoor
open Go.RowKit Go.Flow Go.Plain
open Go.Proofs
attribute [local go_sem] block_add
attribute [local go_sem ↓] Go.wp_at_zero Go.wp_at_succ

def MinPost (S : Int × Int → Prop) (f : Int × Int → Int) (w : World) (e : Ending) (w' : World) : Prop := ∃ v, e = .returned (.int .i64 v) ∧ IsMin S f v ∧ Ext w w'


set_option maxHeartbeats 2000000 in
set_option maxRecDepth 100000 in
theorem leastR_any (A1 A2 : Option Addr) (m c1 c2 : Nat) (f1 f2 : Nat → Int) (most st L1 L2 : Int) (w : World) (hm : m ≤ 96) (hC1 : Ints w A1 m f1) (hC2 : Ints w A2 m f2)
    (h1 : ∀ k, 0 ≤ f1 k ∧ f1 k ≤ 9216) (h2 : ∀ k, 0 ≤ f2 k ∧ f2 k ≤ 9216) (hmo : 0 ≤ most ∧ most ≤ 4) (hst : 0 ≤ st ∧ st ≤ 16 ∧ st ≤ (m : Int) + 8) (hL1 : 0 ≤ L1 ∧ L1 ≤ 400) (hL2 : 0 ≤ L2 ∧ L2 ≤ 400) :
    Calls Tryd.prog 32 #[.slice A1 m c1, .slice A2 m c2, .int .i64 most, .int .i64 st, .agg #[.int .i64 L1, .int .i64 L2]] w (MinPost (lS m most st) (lG m f1 f2 st L1 L2) w) := by
  have hG := fun p => lG_bd (m := m) (st := st) (L1 := L1) (L2 := L2) hm h1 h2 hL1 hL2 p
  replace hG := Lib.hid hG
  replace h1 := Lib.hid h1
  replace h2 := Lib.hid h2
  obtain ⟨hmo1, hmo2⟩ := hmo
  obtain ⟨hst1, hst2, hst3⟩ := hst
  obtain ⟨hL1a, hL1b⟩ := hL1
  obtain ⟨hL2a, hL2b⟩ := hL2
  have hng : IntKind.i64.wrap (-most) = -most := by rw [IntKind.wrap_i64]; omega
  go_enter Tryd.func32, Tryd.ntmps32
  go_wp2_with fail
  go_loopw [11, 12, 13] (fun b s i wr => ∃ (bi : Int) (so : Bool) (sh : Int), -most ≤ sh ∧ sh ≤ most + 1 ∧ b = .int .i64 bi ∧ s = .bool so ∧ i = .int .i64 sh ∧
      RefMin (fun p => lS m most st p ∧ p.1 < sh) (lG m f1 f2 st L1 L2) bi so ∧ Blk wr w.heap.size 76 #[.int .i64 L1, .int .i64 L2] ∧ Ext w wr) (fun _ _ i _ => (most + 1 - intOf i).toNat)
  case atStart => exact ⟨0, false, -most, by omega, by omega, rfl, rfl, rfl, ⟨fun p hp => by have := hp.1.1; have := hp.2; omega, fun h => by cases h⟩, Blk.new _ _ _, (Ext.refl w).alloc _⟩
  case round =>
    obtain ⟨bi, so, sh, hs1, hs2, rfl, rfl, rfl, hP, hB, hE⟩ := hrel
    by_cases hsh : sh ≤ most
    · go_wp2_with fail
      go_loopw [11, 12, 14] (fun b s i wr => ∃ (bi : Int) (so : Bool) (cc : Int), -4 ≤ cc ∧ cc ≤ m + 5 - st ∧ b = .int .i64 bi ∧ s = .bool so ∧ i = .int .i64 cc ∧
          RefMin (fun p => lS m most st p ∧ (p.1 < sh ∨ p.1 = sh ∧ p.2 < cc)) (lG m f1 f2 st L1 L2) bi so ∧ Blk wr w.heap.size 76 #[.int .i64 L1, .int .i64 L2] ∧ Ext w wr) (fun _ _ i _ => (m + 5 - st - intOf i).toNat)
      case atStart => exact ⟨bi, so, -4, by omega, by omega, rfl, rfl, rfl, hP.congr fun p => ⟨fun ⟨h1, h2⟩ => ⟨h1, .inl h2⟩, fun ⟨h1, h2⟩ => ⟨h1, h2.elim id fun h => by have := h1.2.2.1; omega⟩⟩, hB, hE⟩
      case round =>
        clear hP hB hE
        obtain ⟨bi, so, cc, hc1, hc2, rfl, rfl, rfl, hP, hB, hE⟩ := hrel
        by_cases hcc : cc ≤ m + 4 - st
        · have hex1 := excS_bd (m1 := m) (m2 := m) (shift := sh) (from_ := cc) (till := cc + st) h1.out h2.out
          have hex2 := excS_bd (m1 := m) (m2 := m) (shift := -sh) (from_ := cc - sh) (till := cc - sh + st) h2.out h1.out
          have hx0 := hex1.1
          have hx1 : excS m f1 m f2 sh cc (cc + st) ≤ 1000000 := by omega
          have hy0 := hex2.1
          have hy1 : excS m f2 m f1 (-sh) (cc - sh) (cc - sh + st) ≤ 1000000 := by omega
          clear hex1 hex2
          have w1 : IntKind.i64.wrap (cc + st) = cc + st := by rw [IntKind.wrap_i64]; omega
          have w4 : IntKind.i64.wrap (-sh) = -sh := by rw [IntKind.wrap_i64]; omega
          have w5 : IntKind.i64.wrap (cc - sh) = cc - sh := by rw [IntKind.wrap_i64]; omega
          have w6 : IntKind.i64.wrap (cc - sh + st) = cc - sh + st := by rw [IntKind.wrap_i64]; omega
          have hsh1 : -1000 ≤ sh ∧ sh ≤ 1000 := by omega
          have hsh2 : -1000 ≤ -sh ∧ -sh ≤ 1000 := by omega
          replace hsh1 := Lib.hid hsh1
          replace hsh2 := Lib.hid hsh2
          replace hE := Lib.hid hE
          go_wp2_with fail
          refine (excessR_any A1 A2 m m c1 c2 f1 f2 sh cc (cc + st) wr hm hm (hC1.ext hE.out) (hC2.ext hE.out) h1.out h2.out hsh1.out).mono ?_
          rintro e v1 ⟨rfl, hE1⟩
          have hE1' := hE1
          replace hE1 := Lib.hid (hE.out.trans hE1)
          go_wp2_with fail
          refine (excessR_any A2 A1 m m c2 c1 f2 f1 (-sh) (cc - sh) (cc - sh + st) v1 hm hm (hC2.ext hE1.out) (hC1.ext hE1.out) h2.out h1.out hsh2.out).mono ?_
          rintro e v2 ⟨rfl, hE2⟩
          have hB3 := (hB.ext hE1').ext hE2
          have hE3 := Lib.hid (hE1.out.trans hE2)
          obtain ⟨hBc, hBf, hBl⟩ := hB3.rules
          clear hE hE1 hE2 hE1' hB
          obtain ⟨u, hu⟩ : ∃ u, excS m f1 m f2 sh cc (cc + st) - L1 = u := ⟨_, rfl⟩
          obtain ⟨v, hv⟩ : ∃ v, excS m f2 m f1 (-sh) (cc - sh) (cc - sh + st) - L2 = v := ⟨_, rfl⟩
          have w7 : IntKind.i64.wrap (excS m f1 m f2 sh cc (cc + st) - L1) = u := by rw [IntKind.wrap_i64]; omega
          have w8 : IntKind.i64.wrap (excS m f2 m f1 (-sh) (cc - sh) (cc - sh + st) - L2) = v := by rw [IntKind.wrap_i64]; omega
          have hgq : (if u < v then v else u) = lG m f1 f2 st L1 L2 (sh, cc) := by unfold lG; simp only; rw [hu, hv]; split <;> omega
          replace hu := Lib.hid hu
          replace hv := Lib.hid hv
          have hq1 : ∀ p : Int × Int, (lS m most st p ∧ (p.1 < sh ∨ p.1 = sh ∧ p.2 < cc + 1)) → (lS m most st p ∧ (p.1 < sh ∨ p.1 = sh ∧ p.2 < cc)) ∨ lG m f1 f2 st L1 L2 p = lG m f1 f2 st L1 L2 (sh, cc) := by
            intro p ⟨h1, h2⟩
            by_cases e : p = (sh, cc)
            · exact .inr (by rw [e])
            · refine .inl ⟨h1, ?_⟩
              rcases h2 with h2 | ⟨h2, h3⟩
              · exact .inl h2
              · refine .inr ⟨h2, ?_⟩
                rcases Int.lt_or_eq_of_le (show p.2 ≤ cc by omega) with h4 | h4
                · exact h4
                · exact absurd (Prod.ext h2 h4) e
          have hq0 : st = 0 → ∀ p : Int × Int, (lS m most st p ∧ p.1 < sh + 1) → (lS m most st p ∧ (p.1 < sh ∨ p.1 = sh ∧ p.2 < cc)) ∨ lG m f1 f2 st L1 L2 p = lG m f1 f2 st L1 L2 (sh, cc) := by
            intro h0 p ⟨h1, h2⟩
            rcases Int.lt_or_eq_of_le (show p.1 ≤ sh by omega) with h4 | h4
            · exact .inl ⟨h1, .inl h4⟩
            · refine .inr ?_
              rw [h0, ← h4]
              exact lG_strip0 m f1 f2 L1 L2 p.1 p.2 cc
          have hqq : lS m most st (sh, cc) := ⟨by simp only; omega, by simp only; omega, by simp only; omega, by simp only; omega⟩
          have hs0 : ∀ p : Int × Int, (lS m most st p ∧ (p.1 < sh ∨ p.1 = sh ∧ p.2 < cc)) → (lS m most st p ∧ p.1 < sh + 1) := fun p h => ⟨h.1, by have := h.2; omega⟩
          have hs1' : ∀ p : Int × Int, (lS m most st p ∧ (p.1 < sh ∨ p.1 = sh ∧ p.2 < cc)) → (lS m most st p ∧ (p.1 < sh ∨ p.1 = sh ∧ p.2 < cc + 1)) := fun p h => ⟨h.1, by have := h.2; omega⟩
          by_cases hcase : so = false ∨ lG m f1 f2 st L1 L2 (sh, cc) < bi
          · have hfin1 := hP.step (Q' := fun p => lS m most st p ∧ (p.1 < sh ∨ p.1 = sh ∧ p.2 < cc + 1)) hq1 ⟨hqq, .inr ⟨rfl, by simp only; omega⟩⟩ hs1' hcase
            have hfin0 := fun h0 => hP.step (Q' := fun p => lS m most st p ∧ p.1 < sh + 1) (hq0 h0) ⟨hqq, by simp only; omega⟩ hs0 hcase
            clear hP hq1 hq0 hs0 hs1' hqq
            obtain ⟨gq, hq⟩ : ∃ gq, lG m f1 f2 st L1 L2 (sh, cc) = gq := ⟨_, rfl⟩
            rw [hq] at hgq hcase hfin1 hfin0
            replace hq := Lib.hid hq
            rcases hcase with rfl | hcase
            · replace hfin0 := Lib.hid hfin0
              replace hfin1 := Lib.hid hfin1
              by_cases hst0 : st = 0
              · have hbe : (st == 0) = true := by simp [hst0]
                replace hst0 := Lib.hid hst0
                go_wp2_with fail
                exact ⟨⟨gq, true, sh + 1, by omega, by omega, rfl, rfl, rfl, hfin0.out hst0.out, hB3, hE3.out⟩, by simp only [intOf]; omega⟩
              · have hbe : (st == 0) = false := by simp [hst0]
                clear hfin0
                go_wp2_with fail
                exact ⟨⟨gq, true, cc + 1, by omega, by omega, rfl, rfl, rfl, hfin1.out, hB3, hE3.out⟩, by simp only [intOf]; omega⟩
            · cases so
              · replace hfin0 := Lib.hid hfin0
                replace hfin1 := Lib.hid hfin1
                by_cases hst0 : st = 0
                · have hbe : (st == 0) = true := by simp [hst0]
                  replace hst0 := Lib.hid hst0
                  go_wp2_with fail
                  exact ⟨⟨gq, true, sh + 1, by omega, by omega, rfl, rfl, rfl, hfin0.out hst0.out, hB3, hE3.out⟩, by simp only [intOf]; omega⟩
                · have hbe : (st == 0) = false := by simp [hst0]
                  clear hfin0
                  go_wp2_with fail
                  exact ⟨⟨gq, true, cc + 1, by omega, by omega, rfl, rfl, rfl, hfin1.out, hB3, hE3.out⟩, by simp only [intOf]; omega⟩
              · replace hfin0 := Lib.hid hfin0
                replace hfin1 := Lib.hid hfin1
                by_cases hst0 : st = 0
                · have hbe : (st == 0) = true := by simp [hst0]
                  replace hst0 := Lib.hid hst0
                  go_wp2_with fail
                  exact ⟨⟨gq, true, sh + 1, by omega, by omega, rfl, rfl, rfl, hfin0.out hst0.out, hB3, hE3.out⟩, by simp only [intOf]; omega⟩
                · have hbe : (st == 0) = false := by simp [hst0]
                  clear hfin0
                  go_wp2_with fail
                  exact ⟨⟨gq, true, cc + 1, by omega, by omega, rfl, rfl, rfl, hfin1.out, hB3, hE3.out⟩, by simp only [intOf]; omega⟩
          · obtain rfl : so = true := by cases so <;> simp_all
            have hle : bi ≤ lG m f1 f2 st L1 L2 (sh, cc) := by simp at hcase; exact hcase
            clear hcase
            have hfin1 := hP.stay (Q' := fun p => lS m most st p ∧ (p.1 < sh ∨ p.1 = sh ∧ p.2 < cc + 1)) hq1 hs1' hle
            have hfin0 := fun h0 => hP.stay (Q' := fun p => lS m most st p ∧ p.1 < sh + 1) (hq0 h0) hs0 hle
            clear hP hq1 hq0 hs0 hs1' hqq
            obtain ⟨gq, hq⟩ : ∃ gq, lG m f1 f2 st L1 L2 (sh, cc) = gq := ⟨_, rfl⟩
            rw [hq] at hgq hle
            replace hq := Lib.hid hq
            replace hfin0 := Lib.hid hfin0
            replace hfin1 := Lib.hid hfin1
            by_cases hst0 : st = 0
            · have hbe : (st == 0) = true := by simp [hst0]
              replace hst0 := Lib.hid hst0
              go_wp2_with fail
              exact ⟨⟨bi, true, sh + 1, by omega, by omega, rfl, rfl, rfl, hfin0.out hst0.out, hB3, hE3.out⟩, by simp only [intOf]; omega⟩
            · have hbe : (st == 0) = false := by simp [hst0]
              clear hfin0
              go_wp2_with fail
              exact ⟨⟨bi, true, cc + 1, by omega, by omega, rfl, rfl, rfl, hfin1.out, hB3, hE3.out⟩, by simp only [intOf]; omega⟩
        · go_wp2_with fail
          exact ⟨⟨bi, so, sh + 1, by omega, by omega, rfl, rfl, rfl, hP.congr fun p => ⟨fun ⟨h1, h2⟩ => ⟨h1, by omega⟩, fun ⟨h1, h2⟩ => ⟨h1, by have := h1.2.2.2; omega⟩⟩, hB, hE⟩, by simp only [intOf]; omega⟩
    · go_wp2_with fail
      go_ret
      exact ⟨bi, rfl, (hP.congr (Q' := lS m most st) fun p => ⟨fun h => h.1, fun h => ⟨h, by have := h.2.1; omega⟩⟩).isMin (-most, -4) ⟨by simp only; omega, by simp only; omega, by simp only; omega, by simp only; omega⟩, hE⟩
end Go.Proofs.YtfgcogkhnnflcaaDoor
