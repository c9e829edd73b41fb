/- Parts of the proof: App2, Open, BdSan. -/
import Derived.Test.YtfgcogkhnnflcaaDoorG04
import Derived.Deep.AppendLies
import Derived.Test.YtfgcogkhnnflcaaDoorProg
import Derived.Test.YtfgcogkhnnflcaaDoorG05
import Derived.Deep.DeepCutAuto
set_option linter.unusedSimpArgs false
set_option linter.unusedVariables false
section
namespace Go.Flow
open Go Go.RowKit
section
variable {P : Program} {w w' : World} {base : Nat} {e : TypeId} {size : Nat} {v : Value} {n : Nat} {xs : List Value}

/-- A slice's array, as a list of cells. -/
def Lst (w : World) (A : Option Addr) (ys : List Value) : Prop := ∀ (j : Nat) (u : Value), ys[j]? = some u → ∃ ad, A = some ad ∧ w.cell? (ad.add j) = some u
theorem Lst.ext {A : Option Addr} {ys : List Value} (h : Lst w A ys) (hE : Ext w w') : Lst w' A ys := fun j u hj =>
  let ⟨ad, e, hc⟩ := h j u hj
  ⟨ad, e, hE.cell hc⟩
end
end Go.Flow
end

section
namespace Go.Flow
open Go Go.RowKit
variable {P : Program} {ops : Array Oper} {Qn : Act → World → Prop} {s : List (Oper × Bool)} {a : Act} {w : World}
/-- An operation that makes new memory, when it alone may come up. -/
theorem WalkL.openrun {o : Oper} (u : World → Value) (f : World → World) (hg : Region.wanted o (yielded ops a.tmps) = true)
    (hr : ∀ w1, Ext w w1 → (execOp a.eval o).run P w1 = .ok (.value (u w1)) (f w1)) (hK : ∀ w1, Ext w w1 → Ext w1 (f w1) ∧ WalkL P ops Qn s (a.put o.dst (u w1)) (f w1)) : WalkL P ops Qn ((o, false) :: s) a w :=
  fun w1 h1 => .inl ⟨hg, by rw [hr w1 h1]; exact hK w1 h1⟩
/-- 'make([]T, n)', T of any number of cells. -/
theorem WalkL.openmakes {dst : Option Tmp} {l c : Operand} {t : TypeId} {ty : TypeId} {pos : String} {after : Array Edge} {guard : Option (Nat × Bool)}
    (e : TypeId) (i : TypeInfo) (z : Value) (h1 : P.underlying t = some (.slice e)) (h2 : P.info? e = some i) (h3 : i.zero = some z)
    (kl kc : IntKind) (L C : Int) (n : Nat) (hl : a.eval l = .int kl L) (hc : a.eval c = .int kc C) (hL : L = (n : Int)) (hC : C = (n : Int)) (b2 : i.bytes * n ≤ 281474976710656) (b3 : n ≤ 4611686018427387904)
    (hg : Region.wanted { dst, op := .makeSlice t l c, type := ty, pos, after, guard } (yielded ops a.tmps) = true)
    (hK : ∀ w1 w', Ext w w1 → Blk w' w1.heap.size e (madeCells z.cells (n * i.size)) → Ext w1 w' → WalkL P ops Qn s (a.put dst (.slice (some ⟨w1.heap.size, 0, none⟩) n n)) w') :
    WalkL P ops Qn (({ dst, op := .makeSlice t l c, type := ty, pos, after, guard }, false) :: s) a w := by
  intro w1 hE
  refine .inl ⟨hg, ?_⟩
  have hb' : (i.bytes : Int) * (n : Int) ≤ 281474976710656 := by
    have h : ((i.bytes * n : Nat) : Int) ≤ 281474976710656 := by omega
    rwa [Int.natCast_mul] at h
  have hrun := run_make (P := P) w1 t e i z h1 h2 h3 kl kc n n (by omega) (by omega) hb' (by omega)
  simp only [Int.toNat_natCast] at hrun
  subst hL
  subst hC
  simp only [execOp, hl, hc, Sem.run_bind, Sem.run_pure, hrun, Result.andThen_ok]
  exact ⟨(Ext.refl w1).alloc _, hK w1 _ hE (Blk.new _ _ _) ((Ext.refl w1).alloc _)⟩

end Go.Flow
end

section
namespace Go.Proofs.YtfgcogkhnnflcaaDoor
open Go.RowKit Go.Flow Go.Plain
open Go.Proofs
attribute [local go_sem] block_add
attribute [local go_sem ↓] Go.wp_at_zero Go.wp_at_succ

def li (l : List Int) (k : Nat) : Int := l.getD k 0
theorem li_own {w : World} {g : Nat} {t : TypeId} {cs : Array Value} (l : List Int) (h : Blk w g t cs) (hc : cs.toList = l.map fun i => .int .i64 i) : Ints w (some ⟨g, 0, none⟩) l.length (li l) :=
  Own.arr (t := t) ⟨cs, h, by rw [← Array.length_toList, hc, List.length_map], fun k hk => by
    rw [← Array.getElem?_toList, hc, List.getElem?_map, List.getElem?_eq_getElem hk]
    simp [li, List.getD, List.getElem?_eq_getElem hk]⟩

theorem info_bud : (Tryd.prog.info? 25).map (fun i => (i.zero, i.size, i.bytes)) = some (some (.agg #[.int .i64 0, .int .i64 0, .int .i64 0, .int .i64 0]), 4, 32) := by kernel_rfl
/-- The cells of the list of bitmaps, and of the budgets. -/
def exLd (s : Nat) : Array Value := #[.int .i64 4, .int .i64 2, .slice (some ⟨s, 0, none⟩) 8 8, .int .i64 4, .int .i64 2, .slice (some ⟨s + 1 + 1, 0, none⟩) 8 8, .int .i64 4, .int .i64 2, .slice (some ⟨s + 1 + 1, 0, none⟩) 8 8]
def exO : Array Value := madeCells (Value.agg #[.int .i64 0, .int .i64 0, .int .i64 0, .int .i64 0]).cells (3 * 4)

def exP (x0 x1 : Int) (k : Nat) : Bool := okN 4 2 8 4 2 8 && decide (leastN 4 2 8 (if k = 0 then exA else exBd) 4 2 8 exBd 0 0 0 0 x0 x1 0 0 ≤ 0)
theorem exLd_bmps {w : World} {g s : Nat} (h : Blk w g 30 (exLd s)) (hA : Blk w s 4 #[.bool true, .bool true, .bool false, .bool false, .bool true, .bool true, .bool false, .bool false])
    (hB : Blk w (s + 1 + 1) 4 #[.bool false, .bool true, .bool true, .bool false, .bool false, .bool false, .bool false, .bool false]) :
    Bmps w g 0 3 (fun _ => 4) (fun _ => 2) (fun k => if k = 0 then some ⟨s, 0, none⟩ else some ⟨s + 1 + 1, 0, none⟩) (fun _ => 8) (fun _ => 8) (fun k => if k = 0 then exA else exBd) :=
  ⟨fun k hk => by rw [h.cell]; match k, hk with | 0, _ => rfl | 1, _ => rfl | 2, _ => rfl, fun k hk => by rw [h.cell]; match k, hk with | 0, _ => rfl | 1, _ => rfl | 2, _ => rfl,
   fun k hk => by rw [h.cell]; match k, hk with | 0, _ => rfl | 1, _ => rfl | 2, _ => rfl, fun k hk => match k, hk with | 0, _ => exA_own hA | 1, _ => exBd_own hB | 2, _ => exBd_own hB⟩
theorem exO_buds {w : World} {g : Nat} (h : Blk w g 25 exO) : Buds w g 0 3 (fun _ => 0) (fun _ => 0) (fun _ => 0) (fun _ => 0) := by
  have he : exO = #[.int .i64 0, .int .i64 0, .int .i64 0, .int .i64 0, .int .i64 0, .int .i64 0, .int .i64 0, .int .i64 0, .int .i64 0, .int .i64 0, .int .i64 0, .int .i64 0] := by kernel_rfl
  rw [he] at h
  exact ⟨fun k hk => by rw [h.cell]; match k, hk with | 0, _ => rfl | 1, _ => rfl | 2, _ => rfl, fun k hk => by rw [h.cell]; match k, hk with | 0, _ => rfl | 1, _ => rfl | 2, _ => rfl,
    fun k hk => by rw [h.cell]; match k, hk with | 0, _ => rfl | 1, _ => rfl | 2, _ => rfl, fun k hk => by rw [h.cell]; match k, hk with | 0, _ => rfl | 1, _ => rfl | 2, _ => rfl⟩

set_option maxHeartbeats 1000000 in
set_option maxRecDepth 100000 in
theorem sanity_any (w : World) (hS : Sides w) : Calls Tryd.prog 8 #[] w fun e w' => e = .returned (.bool true) ∧ Ext w w' := by
  have f1 : sameB 4 4 (colF 4 8 exA) (li [2, 2, 0, 0]) = true := by decide +kernel
  have f2 : sameB 2 2 (rowBd 4 8 exA) (li [2, 2]) = true := by decide +kernel
  have f3 : okN 4 2 8 4 2 8 = true := by decide +kernel
  have f4 : leastN 4 2 8 exA 4 2 8 exBd 0 0 0 0 0 0 0 0 = 3 := by decide +kernel
  have f5 : leastN 4 2 8 exA 4 2 8 exBd 1 0 0 0 0 0 1 0 = 1 := by decide +kernel
  have f6 : leastN 4 2 8 exA 4 2 8 exBd 0 0 0 2 0 0 0 3 = 0 := by decide +kernel
  have f7 : okN 4 2 8 0 0 0 = false := by decide +kernel
  have f8 : sameB (near (exP 0 2) 3).length 2 (fun j => ((near (exP 0 2) 3).getD j 0 : Nat)) (li [1, 2]) = true := by decide +kernel
  have f9 : sameB (near (exP 1 3) 3).length 3 (fun j => ((near (exP 1 3) 3).getD j 0 : Nat)) (li [0, 1, 2]) = true := by decide +kernel
  unfold exP at f8 f9
  obtain ⟨i0, hi, hz0, hz1, hz2⟩ := info_parts info_bud
  go_enter Tryd.func8, Tryd.ntmps8
  go_wp2_with fail
  refine (Columns_ok 4 2 _ 8 8 exA _ (by decide +kernel) (exA_own ((((Blk.new _ _ _).alloc _).alloc _).alloc _)) (hS.ext (((((Ext.refl w).alloc _).alloc _).alloc _).alloc _))).mono ?_
  rintro e w1 ⟨A, B, c, d, rfl, hA, hB, hE1⟩
  have hQ : ∀ w', Ext w1 w' → (Blk w' w.heap.size 4 #[.bool true, .bool true, .bool false, .bool false, .bool true, .bool true, .bool false, .bool false] ∧
      Blk w' (w.heap.size + 1) 30 #[.int .i64 4, .int .i64 2, .slice (some ⟨w.heap.size, 0, none⟩) 8 8] ∧
      Blk w' (w.heap.size + 1 + 1) 4 #[.bool false, .bool true, .bool true, .bool false, .bool false, .bool false, .bool false, .bool false] ∧
      Blk w' (w.heap.size + 1 + 1 + 1) 30 #[.int .i64 4, .int .i64 2, .slice (some ⟨w.heap.size + 1 + 1, 0, none⟩) 8 8]) ∧ Sides w' ∧ Ext w w' := fun w' h =>
    have h1 := hE1.trans h
    have h2 := (((((Ext.refl w).alloc _).alloc _).alloc _).alloc _).trans h1
    ⟨⟨((((Blk.new _ _ _).alloc _).alloc _).alloc _).ext h1, (((Blk.new' (by simp) _ _).alloc _).alloc _).ext h1, ((Blk.new' (by simp) _ _).alloc _).ext h1, (Blk.new' (by simp) _ _).ext h1⟩, hS.ext h2, h2⟩
  replace hQ := Lib.hid hQ
  replace hA : Ints w1 A 4 (colF 4 8 exA) := hA
  replace hB : Ints w1 B 2 (rowBd 4 8 exA) := hB
  clear hE1
  go_wp2_with fail
  refine (SameInts_any A _ 4 4 c 4 _ (li [2, 2, 0, 0]) _ (by omega) (hA.ext ((Ext.refl w1).alloc _)) (li_own [2, 2, 0, 0] (Blk.new _ _ _) rfl)).mono ?_
  rintro e w2 ⟨rfl, hE2⟩
  rw [f1]
  replace hE2 := Lib.hid (((Ext.refl w1).alloc _).trans hE2)
  go_wp2_with fail
  refine (SameInts_any B _ 2 2 d 2 _ (li [2, 2]) _ (by omega) ((hB.ext hE2.out).ext ((Ext.refl w2).alloc _)) (li_own [2, 2] (Blk.new _ _ _) rfl)).mono ?_
  rintro e w3 ⟨rfl, hE3⟩
  rw [f2]
  replace hE3 := Lib.hid (hE2.out.trans (((Ext.refl w2).alloc _).trans hE3))
  clear hE2
  go_wp2_with fail
  refine (is_true 0 0 0 0 0 0 0 0 3 _ (hQ.out _ hE3.out).2.1 f3 f4).mono ?_
  rintro e w4 ⟨rfl, hE4⟩
  replace hE4 := Lib.hid (hE3.out.trans hE4)
  clear hE3
  go_wp2_with fail
  refine (is_true 1 0 0 0 0 0 1 0 1 _ (hQ.out _ hE4.out).2.1 f3 f5).mono ?_
  rintro e w5 ⟨rfl, hE5⟩
  replace hE5 := Lib.hid (hE4.out.trans hE5)
  clear hE4
  go_wp2_with fail
  refine (is_true 0 0 0 2 0 0 0 3 0 _ (hQ.out _ hE5.out).2.1 f3 f6).mono ?_
  rintro e w6 ⟨rfl, hE6⟩
  replace hE6 := Lib.hid (hE5.out.trans hE6)
  clear hE5
  obtain ⟨⟨q1, q2, q3, q4⟩, hS6, hEw⟩ := hQ.out w6 hE6.out
  obtain ⟨q2c, q2f, q2l⟩ := q2.rules
  obtain ⟨q4c, q4f, q4l⟩ := q4.rules
  replace hEw := Lib.hid hEw
  clear q1 q3
  go_wp2_with fail
  go_cut [7, 8] (fun s7 s8 wx => ∃ g1 g2, s7 = .slice (some ⟨g1, 0, none⟩) 3 3 ∧ s8 = .slice (some ⟨g2, 0, none⟩) 3 3 ∧ Blk wx g1 30 (exLd w.heap.size) ∧ Blk wx g2 25 exO ∧ Ext w6 wx)
  case first =>
    refine Flow.wp_fork 7 [(0, true), (1, true), (2, true)] 3 4 [(5, true), (4, false), (6, true)] [(3, false), (5, true), (6, true)] (by kernel_rfl) (by kernel_rfl) ?_
    simp only [List.map_cons, List.map_nil, List.getD_cons_succ, List.getD_cons_zero]
    repeat (first
      | (refine Flow.WalkL.move rfl ?_
         simp only [Act.put, Act.eval, Array.getD_eq_getD_getElem?, List.getElem?_toArray, List.getElem?_cons_succ, List.getElem?_cons_zero, Option.getD_some, List.setIfInBounds_toArray, List.set_cons_zero, List.set_cons_succ])
      | (refine Flow.WalkL.assign rfl ?_
         simp only [Act.put, Act.eval, Array.getD_eq_getD_getElem?, List.getElem?_toArray, List.getElem?_cons_succ, List.getElem?_cons_zero, Option.getD_some, List.setIfInBounds_toArray, List.set_cons_zero, List.set_cons_succ])
      | (refine Flow.WalkL.run (v := ?_) rfl (fun w1 hC => ?_) ?_
         rotate_left
         · obtain ⟨hCc, hCf⟩ := hC.rules
           go_simp
           with_reducible rfl
         simp only [Act.put, List.setIfInBounds_toArray, List.set_cons_zero, List.set_cons_succ]))
    refine Flow.WalkL.nil (fun v0 hv0 => ⟨?_, ?_⟩)
    · refine WalkL.openrun (fun w1 => .slice (some ⟨w1.heap.size, 0, none⟩) 3 3) (fun w1 => w1.alloc (.cells (exLd w.heap.size) 30)) rfl (fun v1 hv1 => by go_simp; try rfl) (fun v1 hv1 => ⟨(Ext.refl _).alloc _, ?_⟩)
      simp only [Act.put, List.setIfInBounds_toArray, List.set_cons_zero, List.set_cons_succ]
      refine Flow.WalkL.assign rfl ?_
      simp only [Act.put, Act.eval, Array.getD_eq_getD_getElem?, List.getElem?_toArray, List.getElem?_cons_succ, List.getElem?_cons_zero, Option.getD_some, List.setIfInBounds_toArray, List.set_cons_zero, List.set_cons_succ]
      refine WalkL.openmakes 25 i0 (.agg #[.int .i64 0, .int .i64 0, .int .i64 0, .int .i64 0]) Tryd.underlying50 hi hz0 _ _ _ _ 3 rfl rfl rfl rfl (by rw [hz2]; omega) (by omega) rfl fun v2 v3 hv2 hO2 hv3 => ?_
      simp only [Act.put, List.setIfInBounds_toArray, List.set_cons_zero, List.set_cons_succ]
      repeat (first
        | (refine Flow.WalkL.move rfl ?_
           simp only [Act.put, Act.eval, Array.getD_eq_getD_getElem?, List.getElem?_toArray, List.getElem?_cons_succ, List.getElem?_cons_zero, Option.getD_some, List.setIfInBounds_toArray, List.set_cons_zero, List.set_cons_succ])
        | (refine Flow.WalkL.assign rfl ?_
           simp only [Act.put, Act.eval, Array.getD_eq_getD_getElem?, List.getElem?_toArray, List.getElem?_cons_succ, List.getElem?_cons_zero, Option.getD_some, List.setIfInBounds_toArray, List.set_cons_zero, List.set_cons_succ])
        | (refine Flow.WalkL.run (v := ?_) rfl (fun w1 hC => ?_) ?_
           rotate_left
           · obtain ⟨hCc, hCf⟩ := hC.rules
             go_simp
             with_reducible rfl
           simp only [Act.put, List.setIfInBounds_toArray, List.set_cons_zero, List.set_cons_succ]))
      refine Flow.WalkL.nil ?_
      simp only [List.drop]
      intro v4 hv4
      go_wp2_with fail
      go_meet
      rw [hz1] at hO2
      exact ⟨v1.heap.size, v2.heap.size, rfl, rfl, (Blk.new v1 _ _).ext (hv2.trans (hv3.trans hv4)), hO2.ext hv4, hv0.trans (hv1.trans (((Ext.refl v1).alloc _).trans (hv2.trans (hv3.trans hv4))))⟩
    · refine WalkL.openmakes 25 i0 (.agg #[.int .i64 0, .int .i64 0, .int .i64 0, .int .i64 0]) Tryd.underlying50 hi hz0 _ _ _ _ 3 rfl rfl rfl rfl (by rw [hz2]; omega) (by omega) rfl fun v2 v3 hv2 hO2 hv3 => ?_
      simp only [Act.put, List.setIfInBounds_toArray, List.set_cons_zero, List.set_cons_succ]
      refine WalkL.openrun (fun w1 => .slice (some ⟨w1.heap.size, 0, none⟩) 3 3) (fun w1 => w1.alloc (.cells (exLd w.heap.size) 30)) rfl (fun v1 hv1 => by go_simp; try rfl) (fun v1 hv1 => ⟨(Ext.refl _).alloc _, ?_⟩)
      simp only [Act.put, List.setIfInBounds_toArray, List.set_cons_zero, List.set_cons_succ]
      repeat (first
        | (refine Flow.WalkL.move rfl ?_
           simp only [Act.put, Act.eval, Array.getD_eq_getD_getElem?, List.getElem?_toArray, List.getElem?_cons_succ, List.getElem?_cons_zero, Option.getD_some, List.setIfInBounds_toArray, List.set_cons_zero, List.set_cons_succ])
        | (refine Flow.WalkL.assign rfl ?_
           simp only [Act.put, Act.eval, Array.getD_eq_getD_getElem?, List.getElem?_toArray, List.getElem?_cons_succ, List.getElem?_cons_zero, Option.getD_some, List.setIfInBounds_toArray, List.set_cons_zero, List.set_cons_succ])
        | (refine Flow.WalkL.run (v := ?_) rfl (fun w1 hC => ?_) ?_
           rotate_left
           · obtain ⟨hCc, hCf⟩ := hC.rules
             go_simp
             with_reducible rfl
           simp only [Act.put, List.setIfInBounds_toArray, List.set_cons_zero, List.set_cons_succ]))
      refine Flow.WalkL.nil ?_
      simp only [List.drop]
      intro v4 hv4
      go_wp2_with fail
      go_meet
      rw [hz1] at hO2
      exact ⟨v1.heap.size, v2.heap.size, rfl, rfl, (Blk.new v1 _ _).ext hv4, hO2.ext (hv1.trans (((Ext.refl v1).alloc _).trans hv4)), hv0.trans (hv2.trans (hv3.trans (hv1.trans (((Ext.refl v1).alloc _).trans hv4))))⟩
  case rest =>
  obtain ⟨g1, g2, rfl, rfl, hL, hO, hE7⟩ := hcut
  have hE7' := Lib.hid (hE6.out.trans hE7)
  clear q2 q4 q2c q2f q2l q4c q4f q4l hEw hS6 hE7 hi hz0 hz1 hz2
  obtain ⟨⟨q1, q2, q3, q4⟩, hS7, hEw⟩ := hQ.out wc hE7'.out
  obtain ⟨q2c, q2f, q2l⟩ := q2.rules
  obtain ⟨q4c, q4f, q4l⟩ := q4.rules
  replace hEw := Lib.hid hEw
  go_wp2_with fail
  refine (Least_any 4 2 _ 8 8 exA 0 0 _ 0 0 exBd 0 0 0 0 0 0 0 0 _ (exA_own q1) (Arr.zero _ _ _) hS7).mono ?_
  rintro e w8 ⟨rfl, hE8⟩
  rw [f7]
  replace hL := exLd_bmps (hL.ext hE8) (q1.ext hE8) (q3.ext hE8)
  replace hO := exO_buds (hO.ext hE8)
  replace hE8 := Lib.hid (hE7'.out.trans hE8)
  clear hE7' q1 q2 q3 q4 q2c q2f q2l q4c q4f q4l hEw hS7
  obtain ⟨⟨q1, q2, q3, q4⟩, hS8, hEw⟩ := hQ.out w8 hE8.out
  obtain ⟨q4c, q4f, q4l⟩ := q4.rules
  replace hEw := Lib.hid hEw
  go_wp2_with fail
  refine (Near_aux g1 0 3 3 _ _ _ _ _ _ g2 0 3 3 _ _ _ _ 3 4 2 _ 8 8 exBd 0 2 0 0 w8 hL hO (exBd_own q3) hS8 rfl (by omega) (by omega) (by omega) (by omega)).mono ?_
  rintro e w9 ⟨B1, k1, rfl, hN1, hE9⟩
  have hL9 := hL.ext hE9
  have hO9 := hO.ext hE9
  replace hE9 := Lib.hid (hE8.out.trans hE9)
  clear q1 q2 q3 q4 q4c q4f q4l hEw hS8 hL hO hE8
  go_wp2_with fail
  refine (SameInts_any B1 _ _ 2 _ 2 _ (li [1, 2]) _ (by decide +kernel) (hN1.ext ((Ext.refl w9).alloc _)) (li_own [1, 2] (Blk.new _ _ _) rfl)).mono ?_
  rintro e w10 ⟨rfl, hE10⟩
  rw [f8]
  have hL10 := hL9.ext (((Ext.refl w9).alloc _).trans hE10)
  have hO10 := hO9.ext (((Ext.refl w9).alloc _).trans hE10)
  replace hE10 := Lib.hid (hE9.out.trans (((Ext.refl w9).alloc _).trans hE10))
  clear hN1 hL9 hO9 hE9
  obtain ⟨⟨q1, q2, q3, q4⟩, hS8, hEw⟩ := hQ.out w10 hE10.out
  obtain ⟨q4c, q4f, q4l⟩ := q4.rules
  replace hEw := Lib.hid hEw
  go_wp2_with fail
  refine (Near_aux g1 0 3 3 _ _ _ _ _ _ g2 0 3 3 _ _ _ _ 3 4 2 _ 8 8 exBd 1 3 0 0 w10 hL10 hO10 (exBd_own q3) hS8 rfl (by omega) (by omega) (by omega) (by omega)).mono ?_
  rintro e w11 ⟨B2, k2, rfl, hN2, hE11⟩
  replace hE11 := Lib.hid (hE10.out.trans hE11)
  clear q1 q2 q3 q4 q4c q4f q4l hEw hS8 hL10 hO10 hE10
  go_wp2_with fail
  refine (SameInts_any B2 _ _ 3 _ 3 _ (li [0, 1, 2]) _ (by decide +kernel) (hN2.ext ((Ext.refl w11).alloc _)) (li_own [0, 1, 2] (Blk.new _ _ _) rfl)).mono ?_
  rintro e w12 ⟨rfl, hE12⟩
  rw [f9]
  have hEw := Lib.hid (hQ.out w12 (hE11.out.trans (((Ext.refl w11).alloc _).trans hE12))).2.2
  clear hN2 hE11 hE12 hQ
  go_wp2_with fail
  go_ret
  exact ⟨rfl, hEw.out⟩
end Go.Proofs.YtfgcogkhnnflcaaDoor
end
