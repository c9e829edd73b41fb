/- Parts of the proof: SameR. -/
import Derived.Test.YtcdnpnbjloaihaaProg
import Derived.Test.YtcdnpnbjloaihaaG13
import Derived.Laws.StructEq
set_option linter.unusedSimpArgs false
set_option linter.unusedVariables false
section
/- ref33.SameRects; the law's 'in'. No condition but those that each states. -/
namespace Go.Flow
end Go.Flow
namespace Go.Proofs.Ytcdnpnbjloaihaa
open Go.RowKit Go.Flow Go.Plain
open Go.Proofs
attribute [local go_sem] block_add
attribute [local go_sem ↓] Go.wp_at_zero Go.wp_at_succ

/-- A list of rectangles. -/
def RcAt (w : World) (A : Option Addr) (l : List Rc) : Prop := 0 < l.length → ∃ g, A = some ⟨g, 0, none⟩ ∧ g < w.heap.size ∧ ∀ j u, (flat l)[j]? = some u → w.cell? ⟨g, j, none⟩ = some u
theorem RcAt.ext {w w' : World} {A : Option Addr} {l : List Rc} (h : RcAt w A l) (hE : Ext w w') : RcAt w' A l := fun h0 =>
  let ⟨g, e, hg, hc⟩ := h h0
  ⟨g, e, Nat.lt_of_lt_of_le hg hE.size, fun j u hj => (hE.rules.1 ⟨g, j, none⟩ hg).trans (hc j u hj)⟩
theorem RcAt.of_row {w : World} {base : Nat} {v : Value} {l : List Rc} (h : w.ownsRow base 29 4 v l.length (flat l)) : ∃ A c, v = .slice A l.length c ∧ RcAt w A l := by
  obtain ⟨A, c, rfl, hc⟩ := row_open h
  exact ⟨A, c, rfl, fun h0 => let ⟨g, e, _, hg, hcc⟩ := hc h0; ⟨g, e, hg, hcc⟩⟩

set_option maxHeartbeats 1000000 in
set_option maxRecDepth 100000 in
theorem SameRects_any (A B : Option Addr) (c d : Nat) (l m : List Rc) (w : World) (hn : l.length ≤ 100000) (hA : RcAt w A l) (hB : RcAt w B m) :
    Calls Try.prog 13 #[.slice A l.length c, .slice B m.length d] w fun e w' => e = .returned (.bool (decide (l = m))) ∧ Ext w w' := by
  by_cases hl : l.length = m.length
  · have hne : ((l.length : Int) != m.length) = false := by simp [hl]
    obtain ⟨n, hn'⟩ : ∃ n, l.length = n := ⟨_, rfl⟩
    obtain ⟨v, hv⟩ : ∃ v, decide (l = m) = v := ⟨_, rfl⟩
    rw [hv]
    replace hv := Lib.hid hv
    rw [← hl, hn'] at hne ⊢
    replace hl := Lib.hid hl
    replace hA := Lib.hid hA
    replace hB := Lib.hid hB
    rw [hn'] at hn
    replace hn' := Lib.hid hn'
    go_enter Try.func13, Try.ntmps13
    go_wp2_with fail
    go_loopw [5] (fun i wr => ∃ k : Nat, k ≤ n ∧ i = .int .i64 k ∧ Hid (∀ j, j < k → l[j]? = m[j]?) ∧ Ext w wr) (fun i _ => n - (intOf i).toNat)
    case atStart => exact ⟨0, by omega, rfl, Lib.hid fun j hj => absurd hj (by omega), Ext.refl w⟩
    case round =>
      obtain ⟨k, hk, rfl, heq, hE⟩ := hrel
      by_cases hlt : k < n
      · have hlt' : (k : Int) < n := by omega
        have hkl : k < l.length := by rw [hn'.out]; exact hlt
        have hkm : k < m.length := by rw [← hl.out]; exact hkl
        obtain ⟨g, rfl, hg, hcg⟩ := (hA.out.ext hE) (by omega)
        obtain ⟨g', rfl, hg', hcg'⟩ := (hB.out.ext hE) (by omega)
        obtain ⟨⟨a0, a1, a2, a3⟩, ha⟩ : ∃ r, l[k] = r := ⟨_, rfl⟩
        obtain ⟨⟨b0, b1, b2, b3⟩, hb⟩ : ∃ r, m[k] = r := ⟨_, rfl⟩
        have ha' : l[k]? = some (a0, a1, a2, a3) := by rw [List.getElem?_eq_getElem hkl, ha]
        have hb' : m[k]? = some (b0, b1, b2, b3) := by rw [List.getElem?_eq_getElem hkm, hb]
        have x0 := hcg (k * 4) (.int .i64 a0) (by have := flat_get ha' 0 (by omega); simpa [rcells] using this)
        have x1 := hcg (k * 4 + 1) (.int .i64 a1) (by have := flat_get ha' 1 (by omega); simpa [rcells] using this)
        have x2 := hcg (k * 4 + 2) (.int .i64 a2) (by have := flat_get ha' 2 (by omega); simpa [rcells] using this)
        have x3 := hcg (k * 4 + 3) (.int .i64 a3) (by have := flat_get ha' 3 (by omega); simpa [rcells] using this)
        have y0 := hcg' (k * 4) (.int .i64 b0) (by have := flat_get hb' 0 (by omega); simpa [rcells] using this)
        have y1 := hcg' (k * 4 + 1) (.int .i64 b1) (by have := flat_get hb' 1 (by omega); simpa [rcells] using this)
        have y2 := hcg' (k * 4 + 2) (.int .i64 b2) (by have := flat_get hb' 2 (by omega); simpa [rcells] using this)
        have y3 := hcg' (k * 4 + 3) (.int .i64 b3) (by have := flat_get hb' 3 (by omega); simpa [rcells] using this)
        replace hcg := Lib.hid hcg
        replace hcg' := Lib.hid hcg'
        replace ha' := Lib.hid ha'
        replace hb' := Lib.hid hb'
        replace ha := Lib.hid ha
        replace hb := Lib.hid hb
        replace hE := Lib.hid hE
        obtain ⟨q, hq⟩ : ∃ q, decide ((a0, a1, a2, a3) = (b0, b1, b2, b3)) = q := ⟨_, rfl⟩
        replace hq := Lib.hid hq
        replace hkl := Lib.hid hkl
        replace hkm := Lib.hid hkm
        have hp : Try.prog.stoodInHeld 29 = false := by kernel_rfl
        have hm : Try.prog.eqGuardType Try.prog.depth 29 = false := by kernel_rfl
        go_wp2_with fail
        refine Flow.wp_flow 9 [(0, true), (1, true), (2, true), (3, true), (4, true), (5, true), (6, true), (7, true), (8, true)] (by kernel_rfl) (by kernel_rfl) ?_
        simp only [List.map_cons, List.map_nil, List.getD_cons_succ, List.getD_cons_zero]
        repeat (first
          | (refine Flow.WalkL.move rfl ?_
             simp only [Act.put, Act.eval, Array.getD_eq_getD_getElem?, List.getElem?_toArray, List.getElem?_cons_succ, List.getElem?_cons_zero, Option.getD_some, List.setIfInBounds_toArray, List.set_cons_zero, List.set_cons_succ])
          | (refine Flow.WalkL.assign rfl ?_
             simp only [Act.put, Act.eval, Array.getD_eq_getD_getElem?, List.getElem?_toArray, List.getElem?_cons_succ, List.getElem?_cons_zero, Option.getD_some, List.setIfInBounds_toArray, List.set_cons_zero, List.set_cons_succ])
          | (refine Flow.WalkL.run (v := ?_) rfl (fun w1 hC => ?_) ?_
             rotate_left
             · obtain ⟨hCc, hCf⟩ := hC.rules
               go_simp
               with_reducible rfl
             simp only [Act.put, List.setIfInBounds_toArray, List.set_cons_zero, List.set_cons_succ]))
        refine Flow.WalkL.run (v := .bool (!q)) rfl (fun w1 hC => ?_) ?_
        · obtain ⟨hCc, hCf⟩ := hC.rules
          go_simp
          replace hq := hq.out
          simp only [Prod.mk.injEq] at hq
          subst hq
          by_cases e0 : a0 = b0 <;> by_cases e1 : a1 = b1 <;> by_cases e2 : a2 = b2 <;> by_cases e3 : a3 = b3 <;> simp [e0, e1, e2, e3]
        simp only [Act.put, List.setIfInBounds_toArray, List.set_cons_zero, List.set_cons_succ]
        refine Flow.WalkL.nil ?_
        simp only [List.drop]
        intro w1 hC
        have hkl := hkl.out
        have hkm := hkm.out
        cases q with
        | true =>
          have hq : (a0, a1, a2, a3) = (b0, b1, b2, b3) := of_decide_eq_true hq.out
          replace hq := Lib.hid hq
          go_wp2_with fail
          refine ⟨⟨k + 1, by omega, rfl, Lib.hid fun j hj => ?_, hE.out.trans hC⟩, ?_⟩
          · rcases Nat.lt_or_ge j k with hjk | hjk
            · exact heq.out j hjk
            · obtain rfl : j = k := by omega
              rw [ha'.out, hb'.out, hq.out]
          · go_simp
            simp only [intOf]
            omega
        | false =>
          have hq : (a0, a1, a2, a3) ≠ (b0, b1, b2, b3) := of_decide_eq_false hq.out
          obtain rfl : v = false := by
            rw [← hv.out]
            refine decide_eq_false fun h => hq ?_
            have h1 := ha'.out
            rw [h, hb'.out] at h1
            exact (Option.some.inj h1).symm
          replace hq := Lib.hid hq
          go_wp2_with fail
          go_ret
          exact ⟨rfl, hE.out.trans hC⟩
      · obtain rfl : k = n := by omega
        obtain rfl : v = true := by
          rw [← hv.out]
          refine decide_eq_true (List.ext_getElem? fun j => ?_)
          rcases Nat.lt_or_ge j k with hjk | hjk
          · exact heq.out j hjk
          · rw [List.getElem?_eq_none (by rw [hn'.out]; exact hjk), List.getElem?_eq_none (by rw [← hl.out, hn'.out]; exact hjk)]
        replace hE := Lib.hid hE
        have hlt' : ¬ ((k : Int) < k) := by omega
        go_wp2_with fail
        go_ret
        exact ⟨rfl, hE.out⟩
  · have hne : ((l.length : Int) != m.length) = true := bne_iff_ne.mpr (by omega)
    rw [show decide (l = m) = false from decide_eq_false fun h => hl (by rw [h])]
    replace hA := Lib.hid hA
    replace hB := Lib.hid hB
    go_enter Try.func13, Try.ntmps13
    go_wp2_with fail
    go_ret
    exact ⟨rfl, Ext.refl w⟩
end Go.Proofs.Ytcdnpnbjloaihaa
end
