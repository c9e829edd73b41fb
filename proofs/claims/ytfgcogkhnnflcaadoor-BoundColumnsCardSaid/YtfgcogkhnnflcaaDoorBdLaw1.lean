/- The law's helpers: cut, Budget, budgets. No condition but those that each states. -/
import Derived.Test.YtfgcogkhnnflcaaDoorProg
import Derived.Test.YtfgcogkhnnflcaaDoorBdRef4
import Derived.Test.YtfgcogkhnnflcaaDoorMade
namespace Go.Proofs.YtfgcogkhnnflcaaDoor
open Go.RowKit Go.Flow Go.Plain
open Go.Proofs
attribute [local go_sem] block_add
attribute [local go_sem ↓] Go.wp_at_zero Go.wp_at_succ

def few (n m : Nat) : Nat := if n < m then n else m

theorem cut_any (A : Option Addr) (n c : Nat) (w : World) (hn : n ≤ c) (hc : c ≤ 4611686018427387904) :
    Calls Tryd.prog 10 #[.slice A n c] w fun e w' => e = .returned (.slice A (few n 60) c) ∧ w = w' := by
  rcases Nat.lt_trichotomy n 60 with h | rfl | h
  · have hf : few n 60 = n := by simp [few, h]
    replace hf := Lib.hid hf
    have h1 : (n : Int) < 60 := by omega
    go_enter Tryd.func10, Tryd.ntmps10
    go_wp2_with fail
    go_ret
    exact ⟨by rw [hf.out]; rfl, rfl⟩
  · have hf : few 60 60 = 60 := rfl
    replace hf := Lib.hid hf
    go_enter Tryd.func10, Tryd.ntmps10
    go_wp2_with fail
    go_ret
    exact ⟨by rw [hf.out]; rfl, rfl⟩
  · have hf : few n 60 = 60 := by simp [few]; omega
    replace hf := Lib.hid hf
    have h1 : (60 : Int) < n := by omega
    go_enter Tryd.func10, Tryd.ntmps10
    go_wp2_with fail
    go_ret
    exact ⟨by rw [hf.out]; rfl, rfl⟩

def bd0 (N : Nat) (f : Nat → Int) : Int := dval N f 0 5
def bd1 (N : Nat) (f : Nat → Int) : Int := dval N f (dat N 0) 4
def bd2 (N : Nat) (f : Nat → Int) : Int := dval N f (dat N (dat N 0)) 2
def bd3 (N : Nat) (f : Nat → Int) : Int := dval N f (dat N (dat N (dat N 0))) 4

theorem Budget_any (A : Option Addr) (N c : Nat) (f : Nat → Int) (w : World) (hN : N ≤ 4611686018427387904) (hf : Ints w A N f) :
    Calls Tryd.prog 20 #[.slice A N c] w fun e w' => e = .returned (bud (bd0 N f) (bd1 N f) (bd2 N f) (bd3 N f)) ∧ Ext w w' := by
  go_enter Tryd.func20, Tryd.ntmps20
  go_wp2_with fail
  refine (Next_any w (w.heap.size + 1) A N c f 0 5 (by omega) (by omega) _ hN (by omega) (((Ext.refl w).alloc _).alloc _) hf (by omega) (Blk.new' (by simp) _ _)).mono ?_
  rintro e w1 ⟨rfl, hB1, hO1⟩
  have hE1 := hO1.ext (((Ext.refl w).alloc _).alloc _) (by omega)
  have hR1 := hO1.blk ((Blk.new w 25 #[.int .i64 0, .int .i64 0, .int .i64 0, .int .i64 0]).alloc _) (by omega)
  replace hE1 := Lib.hid hE1
  replace hR1 := Lib.hid hR1
  rw [← bd0]
  have hb := dat_le (N := N) (at_ := 0) (by omega)
  go_wp2_with fail
  refine (Next_any w (w.heap.size + 1) A N c f (dat N 0) 4 (by omega) (by omega) _ hN hb hE1.out hf (by omega) hB1).mono ?_
  rintro e w2 ⟨rfl, hB2, hO2⟩
  have hE2 := Lib.hid (hO2.ext hE1.out (by omega))
  have hR2 := Lib.hid (hO2.blk hR1.out (by omega))
  rw [← bd1]
  replace hb := dat_le hb
  clear hE1 hR1 hB1 hO1 hO2
  go_wp2_with fail
  refine (Next_any w (w.heap.size + 1) A N c f (dat N (dat N 0)) 2 (by omega) (by omega) _ hN hb hE2.out hf (by omega) hB2).mono ?_
  rintro e w3 ⟨rfl, hB3, hO3⟩
  have hE3 := Lib.hid (hO3.ext hE2.out (by omega))
  have hR3 := Lib.hid (hO3.blk hR2.out (by omega))
  rw [← bd2]
  replace hb := dat_le hb
  clear hE2 hR2 hB2 hO3
  go_wp2_with fail
  refine (Next_any w (w.heap.size + 1) A N c f (dat N (dat N (dat N 0))) 4 (by omega) (by omega) _ hN hb hE3.out hf (by omega) hB3).mono ?_
  rintro e w4 ⟨rfl, hB4, hO4⟩
  have hE4 := Lib.hid (hO4.ext hE3.out (by omega))
  have hR4 := (hO4.blk hR3.out (by omega))
  rw [← bd3]
  clear hE3 hR3 hB3 hO4 hB4
  obtain ⟨hRc, hRf, hRl⟩ := hR4.rules
  go_wp2_with fail
  exact bodyPost_ret (v := bud (bd0 N f) (bd1 N f) (bd2 N f) (bd3 N f)) (by simp [results, Tryd.results20, go_sem, *]) rfl ⟨rfl, hE4.out.set4 (by omega)⟩

theorem few_le (n m : Nat) : few n m ≤ n := by unfold few; split <;> omega
theorem few_if (n m : Nat) : (if (m : Int) < n then (m : Int) else n) = (few n m : Nat) := by unfold few; split <;> split <;> omega

theorem budgets_any (A : Option Addr) (N c : Nat) (f : Nat → Int) (A' : Option Addr) (N' c' : Nat) (f' : Nat → Int) (w : World) (hN : N ≤ c) (hc : c ≤ 4611686018427387904) (hN' : N' ≤ c') (hc' : c' ≤ 4611686018427387904)
    (hf : Ints w A N f) (hf' : Ints w A' N' f') :
    Calls Tryd.prog 11 #[.slice A N c, .slice A' N' c'] w fun e w' =>
      e = .returned (.tuple #[bud (bd0 (few N 4) f) (bd1 (few N 4) f) (bd2 (few N 4) f) (bd3 (few N 4) f), bud (bd0 (few N' 4) f') (bd1 (few N' 4) f') (bd2 (few N' 4) f') (bd3 (few N' 4) f')]) ∧ Ext w w' := by
  have hk : (if (4 : Int) < N then (4 : Int) else N) = (few N 4 : Nat) := few_if N 4
  have hk' : (if (4 : Int) < N' then (4 : Int) else N') = (few N' 4 : Nat) := few_if N' 4
  have hl := few_le N 4
  have hl' := few_le N' 4
  replace hf : Ints w A (few N 4) f := hf.take hl
  replace hf' : Ints w A' (few N' 4) f' := hf'.take hl'
  have hg : few N 4 ≤ 4611686018427387904 := by omega
  have hg' : few N' 4 ≤ 4611686018427387904 := by omega
  have hnl : few N 4 ≤ c := by omega
  have hnl' : few N' 4 ≤ c' := by omega
  generalize few N 4 = M at *
  generalize few N' 4 = M' at *
  have hE := ((Ext.refl w).alloc (.cells #[.int .i64 0, .int .i64 0, .int .i64 0, .int .i64 0] 25)).alloc (.cells #[.int .i64 0, .int .i64 0, .int .i64 0, .int .i64 0] 25)
  have hA := hf.ext hE
  have hA' := hf'.ext hE
  replace hE := Lib.hid hE
  go_enter Tryd.func11, Tryd.ntmps11
  go_wp2_with fail
  refine Flow.wp_flow 12 [(0, true), (1, true), (2, true), (3, true), (4, true), (5, true), (6, true), (7, true), (8, true), (9, true), (10, true), (11, true)] (by kernel_rfl) (by kernel_rfl) ?_
  simp only [List.map_cons, List.map_nil, List.getD_cons_succ, List.getD_cons_zero]
  repeat (first
    | (refine Flow.WalkL.move rfl ?_
       simp only [Act.put, Act.eval, Array.getD_eq_getD_getElem?, List.getElem?_toArray, List.getElem?_cons_succ, List.getElem?_cons_zero, Option.getD_some, List.setIfInBounds_toArray, List.set_cons_zero, List.set_cons_succ])
    | (refine Flow.WalkL.assign rfl ?_
       simp only [Act.put, Act.eval, Array.getD_eq_getD_getElem?, List.getElem?_toArray, List.getElem?_cons_succ, List.getElem?_cons_zero, Option.getD_some, List.setIfInBounds_toArray, List.set_cons_zero, List.set_cons_succ])
    | (refine Flow.WalkL.callf Tryd.func20 rfl (by kernel_rfl) rfl (fun w1 hC => Budget_any A M c f _ hg (hA.ext hC)) rfl rfl ?_
       simp only [Act.put, List.setIfInBounds_toArray, List.set_cons_zero, List.set_cons_succ])
    | (refine Flow.WalkL.callf Tryd.func20 rfl (by kernel_rfl) rfl (fun w1 hC => Budget_any A' M' c' f' _ hg' (hA'.ext hC)) rfl rfl ?_
       simp only [Act.put, List.setIfInBounds_toArray, List.set_cons_zero, List.set_cons_succ])
    | (refine Flow.WalkL.run (v := ?_) rfl (fun w1 hC => ?_) ?_
       rotate_left
       · obtain ⟨hCc, hCf⟩ := hC.rules
         go_simp
         with_reducible rfl
       simp only [Act.put, List.setIfInBounds_toArray, List.set_cons_zero, List.set_cons_succ]))
  refine Flow.WalkL.nil ?_
  simp only [List.drop_succ_cons, List.drop_zero, List.drop_nil]
  intro w1 hE1
  have hR1 := ((Blk.new w 25 #[.int .i64 0, .int .i64 0, .int .i64 0, .int .i64 0]).alloc (.cells #[.int .i64 0, .int .i64 0, .int .i64 0, .int .i64 0] 25)).ext hE1
  have hR2 := (Blk.new' (g := w.heap.size + 1) (w := w.alloc (.cells #[.int .i64 0, .int .i64 0, .int .i64 0, .int .i64 0] 25)) (by simp) 25 #[.int .i64 0, .int .i64 0, .int .i64 0, .int .i64 0]).ext hE1
  obtain ⟨hRc, hRf, hRl⟩ := hR1.rules
  obtain ⟨hSc, hSf, hSl⟩ := hR2.rules
  have hfin := ((hE.out.trans hE1).set4 (k := w.heap.size) (a' := .int .i64 (bd0 M f)) (b' := .int .i64 (bd1 M f)) (c' := .int .i64 (bd2 M f)) (d' := .int .i64 (bd3 M f)) (by omega)).set4 (k := w.heap.size + 1) (a' := .int .i64 (bd0 M' f')) (b' := .int .i64 (bd1 M' f')) (c' := .int .i64 (bd2 M' f')) (d' := .int .i64 (bd3 M' f')) (by omega)
  replace hfin := Lib.hid hfin
  replace hE1 := Lib.hid hE1
  clear hR1 hR2
  go_wp2_with fail
  exact bodyPost_ret (v := .tuple #[bud (bd0 M f) (bd1 M f) (bd2 M f) (bd3 M f), bud (bd0 M' f') (bd1 M' f') (bd2 M' f') (bd3 M' f')]) (by simp [results, Tryd.results11, go_sem, *]) rfl ⟨rfl, hfin.out⟩
end Go.Proofs.YtfgcogkhnnflcaaDoor
