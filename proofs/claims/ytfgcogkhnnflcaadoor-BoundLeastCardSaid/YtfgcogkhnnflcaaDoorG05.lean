/- Parts of the proof: Made, BdLaw1, BdNear, BdIs. -/
import Derived.Test.YtfgcogkhnnflcaaDoorProg
import Derived.Test.YtfgcogkhnnflcaaDoorG01
import Derived.Test.YtfgcogkhnnflcaaDoorG03
import Derived.Test.YtfgcogkhnnflcaaDoorG04
set_option linter.unusedSimpArgs false
set_option linter.unusedVariables false
section
namespace Go.Proofs.YtfgcogkhnnflcaaDoor
open Go.RowKit Go.Flow
open Go.Proofs
attribute [local go_sem] block_add

/-- What Made keeps: its own four blocks. -/
structure MI (w : World) (gr gd go g : Nat) (A : Option Addr) (N c : Nat) (W H : Int) (n at_ : Nat) (wr : World) : Prop where
  res : Blk wr gr 30 #[.int .i64 0, .int .i64 0, .slice none 0 0]
  draw : Blk wr gd 61 #[.slice A N c, .int .i64 (at_ : Int)]
  out : Blk wr go 30 #[.int .i64 W, .int .i64 H, .slice (some ⟨g, 0, none⟩) n n]
  own : ∃ F : Nat → Bool, Flow.Own wr g 4 n (fun k => .bool (F k))
  ext : Ext w wr
  le : at_ ≤ N

section
variable {w wr w' : World} {gr gd go g : Nat} {A : Option Addr} {N c : Nat} {W H : Int} {n at_ : Nat}
theorem MI.set_ (h : MI w gr gd go g A N c W H n at_ wr) (h1 : w.heap.size ≤ gr) (h2 : gr < gd) (h3 : gd < g) (h4 : g < go) (i : Nat) (b : Bool) : MI w gr gd go g A N c W H n at_ (wr.setCell ⟨g, i, none⟩ (.bool b)) := by
  obtain ⟨F, hF⟩ := h.own
  refine ⟨h.res.far ?_ _, h.draw.far ?_ _, h.out.far ?_ _, ⟨fun k => if k = i then b else F k, (hF.set_ i (.bool b)).congr fun k _ => ?_⟩, h.ext.setCell ?_ _, h.le⟩ <;> try (simp; omega)
  by_cases e : k = i <;> simp [upd, e]
end

end Go.Proofs.YtfgcogkhnnflcaaDoor
end

section
namespace Go.Proofs.YtfgcogkhnnflcaaDoor
open Go.RowKit Go.Flow Go.Plain
open Go.Proofs
attribute [local go_sem] block_add
attribute [local go_sem ↓] Go.wp_at_zero Go.wp_at_succ

def few (n m : Nat) : Nat := if n < m then n else m

end Go.Proofs.YtfgcogkhnnflcaaDoor
end

section
namespace Go.Proofs.YtfgcogkhnnflcaaDoor
open Go.RowKit Go.Flow Go.Plain
open Go.Proofs
attribute [local go_sem] block_add
attribute [local go_sem ↓] Go.wp_at_zero Go.wp_at_succ

/-- A list of bitmaps, from a cell on. -/
structure Bmps (w : World) (g o n : Nat) (W H : Nat → Int) (A : Nat → Option Addr) (m c : Nat → Nat) (dot : Nat → Nat → Bool) : Prop where
  w_ : ∀ k, k < n → w.cell? ⟨g, o + k * 3, none⟩ = some (.int .i64 (W k))
  h_ : ∀ k, k < n → w.cell? ⟨g, o + k * 3 + 1, none⟩ = some (.int .i64 (H k))
  d_ : ∀ k, k < n → w.cell? ⟨g, o + k * 3 + 2, none⟩ = some (.slice (A k) (m k) (c k))
  dots : ∀ k, k < n → Bools w (A k) (m k) (dot k)
/-- A list of budgets. -/
structure Buds (w : World) (g o n : Nat) (x0 x1 x2 x3 : Nat → Int) : Prop where
  a : ∀ k, k < n → w.cell? ⟨g, o + k * 4, none⟩ = some (.int .i64 (x0 k))
  b : ∀ k, k < n → w.cell? ⟨g, o + k * 4 + 1, none⟩ = some (.int .i64 (x1 k))
  c : ∀ k, k < n → w.cell? ⟨g, o + k * 4 + 2, none⟩ = some (.int .i64 (x2 k))
  d : ∀ k, k < n → w.cell? ⟨g, o + k * 4 + 3, none⟩ = some (.int .i64 (x3 k))
section
variable {w w' : World} {g o n : Nat} {W H : Nat → Int} {A : Nat → Option Addr} {m c : Nat → Nat} {dot : Nat → Nat → Bool} {x0 x1 x2 x3 : Nat → Int}
theorem Ext.cell_ {p : Addr} {v : Value} (hE : Ext w w') (h : w.cell? p = some v) : w'.cell? p = some v := (hE.rules.1 p (World.block_lt_of_cell? w p h)).trans h
theorem Bmps.ext (h : Bmps w g o n W H A m c dot) (hE : Ext w w') : Bmps w' g o n W H A m c dot :=
  ⟨fun k hk => Ext.cell_ hE (h.w_ k hk), fun k hk => Ext.cell_ hE (h.h_ k hk), fun k hk => Ext.cell_ hE (h.d_ k hk), fun k hk => (h.dots k hk).ext hE⟩
theorem Buds.ext (h : Buds w g o n x0 x1 x2 x3) (hE : Ext w w') : Buds w' g o n x0 x1 x2 x3 :=
  ⟨fun k hk => Ext.cell_ hE (h.a k hk), fun k hk => Ext.cell_ hE (h.b k hk), fun k hk => Ext.cell_ hE (h.c k hk), fun k hk => Ext.cell_ hE (h.d k hk)⟩
end

/-- The indices that Near returns. -/
def near (p : Nat → Bool) (m : Nat) : List Nat := (List.range m).filter p
theorem near_succ (p : Nat → Bool) (m : Nat) : near p (m + 1) = near p m ++ (if p m then [m] else []) := by
  unfold near
  rw [List.range_succ, List.filter_append]
  cases h : p m <;> simp [h]
theorem near_le (p : Nat → Bool) (m : Nat) : (near p m).length ≤ m := by
  unfold near
  have := List.length_filter_le p (List.range m)
  simpa using this

def NearPost (p : Nat → Bool) (m : Nat) (w : World) (e : Ending) (w' : World) : Prop :=
  ∃ B c, e = .returned (.slice B (near p m).length c) ∧ Ints w' B (near p m).length (fun j => ((near p m).getD j 0 : Nat)) ∧ Ext w w'

set_option maxHeartbeats 1000000 in
set_option maxRecDepth 100000 in
theorem Near_aux (g1 o1 n1 c1 : Nat) (Wf Hf : Nat → Int) (Af : Nat → Option Addr) (mf cf : Nat → Nat) (df : Nat → Nat → Bool) (g2 o2 n2 c2 : Nat) (y0 y1 y2 y3 : Nat → Int) (m : Nat)
    (W H : Int) (B : Option Addr) (nb cb : Nat) (db : Nat → Bool) (x0 x1 x2 x3 : Int) (w : World) (hL : Bmps w g1 o1 n1 Wf Hf Af mf cf df) (hO : Buds w g2 o2 n2 y0 y1 y2 y3) (hB : Bools w B nb db) (hS : Sides w)
    (hm : m = few n1 n2) (hc1 : n1 ≤ 1000000) (hc2 : n2 ≤ 1000000) (ho1 : o1 ≤ 1000000) (ho2 : o2 ≤ 1000000) :
    Calls Tryd.prog 21 #[.slice (some ⟨g1, o1, none⟩) n1 c1, .slice (some ⟨g2, o2, none⟩) n2 c2, bmp W H B nb cb, bud x0 x1 x2 x3] w
      (NearPost (fun k => okN (Wf k) (Hf k) (mf k) W H nb && decide (leastN (Wf k) (Hf k) (mf k) (df k) W H nb db (y0 k) (y1 k) (y2 k) (y3 k) x0 x1 x2 x3 ≤ 0)) m w) := by
  obtain ⟨p, hp⟩ : ∃ p : Nat → Bool, (fun k => okN (Wf k) (Hf k) (mf k) W H nb && decide (leastN (Wf k) (Hf k) (mf k) (df k) W H nb db (y0 k) (y1 k) (y2 k) (y3 k) x0 x1 x2 x3 ≤ 0)) = p := ⟨_, rfl⟩
  obtain ⟨i0, hi, hz0, hz1, hz2⟩ := info_parts info_int
  rw [hp]
  have hif : (if n2 < n1 then (n2 : Int) else n1) = (m : Int) := by subst hm; unfold few; split <;> split <;> omega
  have hm1 : m ≤ n1 := by subst hm; unfold few; split <;> omega
  have hm2 : m ≤ n2 := by subst hm; unfold few; split <;> omega
  clear hm
  have hpk : ∀ k, p k = (okN (Wf k) (Hf k) (mf k) W H nb && decide (leastN (Wf k) (Hf k) (mf k) (df k) W H nb db (y0 k) (y1 k) (y2 k) (y3 k) x0 x1 x2 x3 ≤ 0)) := fun k => by rw [← hp]
  clear hp
  replace hpk := Lib.hid hpk
  have hfin : ∀ (e : Ending) (w' : World), (∃ B c, e = .returned (.slice B (near p m).length c) ∧ Ints w' B (near p m).length (fun j => ((near p m).getD j 0 : Nat)) ∧ Ext w w') → NearPost p m w e w' := fun _ _ h => h
  replace hfin := Lib.hid hfin
  obtain ⟨w0, hw0⟩ : ∃ w0, (w.alloc (.cells #[.int .i64 W, .int .i64 H, .slice B nb cb] 30)).alloc (.cells #[.int .i64 x0, .int .i64 x1, .int .i64 x2, .int .i64 x3] 25) = w0 := ⟨_, rfl⟩
  have hE0 : Ext w w0 := by rw [← hw0]; exact ((Ext.refl w).alloc _).alloc _
  have hs0 : w0.heap.size = w.heap.size + 2 := by rw [← hw0]; simp
  have hBb0 : Blk w0 w.heap.size 30 #[.int .i64 W, .int .i64 H, .slice B nb cb] := by rw [← hw0]; exact (Blk.new _ _ _).alloc _
  have hBx0 : Blk w0 (w.heap.size + 1) 25 #[.int .i64 x0, .int .i64 x1, .int .i64 x2, .int .i64 x3] := by rw [← hw0]; exact Blk.new' (by simp) _ _
  replace hw0 := Lib.hid hw0
  replace hE0 := Lib.hid hE0
  replace hBb0 := Lib.hid hBb0
  replace hBx0 := Lib.hid hBx0
  go_enter Tryd.func21, Tryd.ntmps21
  go_wp2_with fail
  go_loopw [9, 18] (fun r i wr => ∃ k : Nat, k ≤ m ∧ i = .int .i64 k ∧ Ext w0 wr ∧ wr.ownsRow w0.heap.size 3 1 r (near p k).length ((near p k).map fun j => .int .i64 (j : Nat))) (fun _ i _ => m - (intOf i).toNat)
  case atStart =>
    exact ⟨0, by omega, rfl, by rw [hw0.out]; exact Ext.refl _, ⟨rfl, .inl ⟨rfl, rfl⟩⟩⟩
  case round =>
    obtain ⟨k, hk, rfl, hEr, hrow⟩ := hrel
    have hE := hE0.out.trans hEr
    by_cases hlt : k < m
    · have hlt' : (k : Int) < m := by omega
      have hk1 : (k : Int) < n1 := by omega
      have hk2 : (k : Int) < n2 := by omega
      have hL' := hL.ext hE
      have hO' := hO.ext hE
      have hD := hL'.dots k (by omega)
      have l1 := hL'.w_ k (by omega)
      have l2 := hL'.h_ k (by omega)
      have l3 := hL'.d_ k (by omega)
      have q1 := hO'.a k (by omega)
      have q2 := hO'.b k (by omega)
      have q3 := hO'.c k (by omega)
      have q4 := hO'.d k (by omega)
      have hg1 : g1 < wr.heap.size := World.block_lt_of_cell? wr _ l1
      have hg2 : g2 < wr.heap.size := World.block_lt_of_cell? wr _ q1
      obtain ⟨hBc, hBf, hBl⟩ := (hBb0.out.ext hEr).rules
      obtain ⟨hXc, hXf, hXl⟩ := (hBx0.out.ext hEr).rules
      have hS' := hS.ext hE
      have hB' := hB.ext hE
      have hpk' := hpk.out k
      generalize Wf k = Wk at *
      generalize Hf k = Hk at *
      generalize Af k = Ak at *
      generalize mf k = mk at *
      generalize cf k = ck at *
      generalize df k = dk at *
      generalize y0 k = z0 at *
      generalize y1 k = z1 at *
      generalize y2 k = z2 at *
      generalize y3 k = z3 at *
      clear hif hL' hO'
      replace hpk' := Lib.hid hpk'
      replace hEr := Lib.hid hEr
      clear hE
      replace hrow := Lib.hid hrow
      go_wp2_with fail
      refine Flow.wp_flow 16 [(0, true), (1, true), (2, true), (3, true), (4, true), (5, true), (6, true), (7, true), (8, true), (9, true), (10, true), (11, true), (12, true), (13, true), (14, true), (15, true)] (by kernel_rfl) (by kernel_rfl) ?_
      simp only [List.map_cons, List.map_nil, List.getD_cons_succ, List.getD_cons_zero]
      repeat (first
        | (refine Flow.WalkL.move rfl ?_
           simp only [Act.put, Act.eval, Array.getD_eq_getD_getElem?, List.getElem?_toArray, List.getElem?_cons_succ, List.getElem?_cons_zero, Option.getD_some, List.setIfInBounds_toArray, List.set_cons_zero, List.set_cons_succ])
        | (refine Flow.WalkL.assign rfl ?_
           simp only [Act.put, Act.eval, Array.getD_eq_getD_getElem?, List.getElem?_toArray, List.getElem?_cons_succ, List.getElem?_cons_zero, Option.getD_some, List.setIfInBounds_toArray, List.set_cons_zero, List.set_cons_succ])
        | (refine Flow.WalkL.callf Tryd.func15 rfl (by kernel_rfl) rfl (fun w1 hC => Least_any Wk Hk Ak mk ck dk W H B nb cb db z0 z1 z2 z3 x0 x1 x2 x3 w1 (hD.ext hC) (hB'.ext hC) (hS'.ext hC)) rfl rfl ?_
           simp only [Act.put, List.setIfInBounds_toArray, List.set_cons_zero, List.set_cons_succ])
        | (refine Flow.WalkL.run (v := ?_) rfl (fun w1 hC => ?_) ?_
           rotate_left
           · obtain ⟨hCc, hCf⟩ := hC.rules
             go_simp
             with_reducible rfl
           simp only [Act.put, List.setIfInBounds_toArray, List.set_cons_zero, List.set_cons_succ]))
      refine Flow.WalkL.nil ?_
      simp only [List.drop]
      intro w1 hE1
      replace hrow := own_ext hrow.out hE1
      have hE' := Lib.hid (hEr.out.trans hE1)
      clear hE1 hEr hBc hBf hBl hXc hXf hXl l1 l2 l3 q1 q2 q3 q4 hg1 hg2 hD hS' hB'
      generalize leastN Wk Hk mk dk W H nb db z0 z1 z2 z3 x0 x1 x2 x3 = lv at *
      have hs := near_succ p k
      cases hok : okN Wk Hk mk W H nb
      · have hpf : p k = false := by rw [hpk'.out, hok]; rfl
        rw [hpf] at hs
        replace hs := Lib.hid hs
        go_wp2_with fail
        exact ⟨⟨k + 1, by omega, by go_num, hE'.out, by rw [hs.out]; simpa using hrow⟩, by simp only [intOf]; omega⟩
      · by_cases hle : lv ≤ 0
        · have hpt : p k = true := by rw [hpk'.out, hok]; simp [hle]
          rw [hpt] at hs
          replace hs := Lib.hid hs
          have hno := Lib.hid hrow
          have hnl := near_le p k
          have hsz : w0.heap.size ≤ w1.heap.size := hE'.out.size
          replace hsz := Lib.hid hsz
          clear hrow
          go_wp2_with (first
            | (at_builtin; refine wpList_app1 rfl (.tmp 40) (.tmp 42) 22 rfl i0 (.int .i64 0) 8 Tryd.underlying22 hi hz0 hz1 hz2 rfl rfl (own_ext hno.out ((Ext.refl w1).alloc _)) w1.heap.size (.int .i64 (k : Int)) #[.int .i64 (k : Int)] 3 rfl (Blk.new _ _ _) rfl rfl (by omega) (by omega) (by have := hsz.out; simp only [World.size_alloc]; omega) ?_))
          intro v' w2 hr2 hg2 hk2
          have hE2 := Lib.hid (hk2 w0 (by omega) (hE'.out.alloc _))
          replace hr2 := Lib.hid hr2
          clear hg2 hk2
          go_wp2_with fail
          exact ⟨⟨k + 1, by omega, by go_num, hE2.out, by have := hr2.out; rw [hs.out]; simpa [hs0] using this⟩, by simp only [intOf]; omega⟩
        · have hpf : p k = false := by rw [hpk'.out, hok]; simp [hle]
          rw [hpf] at hs
          replace hs := Lib.hid hs
          have hle' : ¬ lv ≤ 0 := hle
          go_wp2_with fail
          exact ⟨⟨k + 1, by omega, by go_num, hE'.out, by rw [hs.out]; simpa using hrow⟩, by simp only [intOf]; omega⟩
    · obtain rfl : k = m := by omega
      clear hif
      replace hE := Lib.hid hE
      clear hEr
      obtain ⟨A, c, rfl, hA⟩ := own_arr hrow (F := fun j => .int .i64 ((near p k).getD j 0 : Nat)) (fun j hj => by simp [List.getElem?_map, List.getD, List.getElem?_eq_getElem hj])
      go_wp2_with fail
      go_ret
      exact hfin.out _ _ ⟨A, c, rfl, hA, hE.out⟩
end Go.Proofs.YtfgcogkhnnflcaaDoor
end

section
namespace Go.Proofs.YtfgcogkhnnflcaaDoor
open Go.RowKit Go.Flow Go.Plain
open Go.Proofs
attribute [local go_sem] block_add
attribute [local go_sem ↓] Go.wp_at_zero Go.wp_at_succ

def exA (k : Nat) : Bool := [true, true, false, false, true, true, false, false].getD k false
def exBd (k : Nat) : Bool := [false, true, true, false, false, false, false, false].getD k false
theorem exA_own {w : World} {g : Nat} {t : TypeId} (h : Blk w g t #[.bool true, .bool true, .bool false, .bool false, .bool true, .bool true, .bool false, .bool false]) : Bools w (some ⟨g, 0, none⟩) 8 exA :=
  Own.arr (t := t) ⟨_, h, rfl, fun k hk => match k, hk with | 0, _ => rfl | 1, _ => rfl | 2, _ => rfl | 3, _ => rfl | 4, _ => rfl | 5, _ => rfl | 6, _ => rfl | 7, _ => rfl⟩
theorem exBd_own {w : World} {g : Nat} {t : TypeId} (h : Blk w g t #[.bool false, .bool true, .bool true, .bool false, .bool false, .bool false, .bool false, .bool false]) : Bools w (some ⟨g, 0, none⟩) 8 exBd :=
  Own.arr (t := t) ⟨_, h, rfl, fun k hk => match k, hk with | 0, _ => rfl | 1, _ => rfl | 2, _ => rfl | 3, _ => rfl | 4, _ => rfl | 5, _ => rfl | 6, _ => rfl | 7, _ => rfl⟩

theorem is_true (x0 x1 x2 x3 y0 y1 y2 y3 v : Int) (w : World) (hS : Sides w) (hok : okN 4 2 8 4 2 8 = true) (hv : leastN 4 2 8 exA 4 2 8 exBd x0 x1 x2 x3 y0 y1 y2 y3 = v) :
    Calls Tryd.prog 23 #[bud x0 x1 x2 x3, bud y0 y1 y2 y3, .int .i64 v] w fun e w' => e = .returned (.bool true) ∧ Ext w w' := by
  have hvv : (v == v) = true := by simp
  go_enter Tryd.func23, Tryd.ntmps23
  go_wp2_with fail
  refine (Least_any 4 2 _ 8 8 exA 4 2 _ 8 8 exBd x0 x1 x2 x3 y0 y1 y2 y3 _ (exA_own ((((Blk.new' (by simp) _ _).alloc _).alloc _).alloc _)) (exBd_own ((Blk.new' (by simp) _ _).alloc _)) (hS.ext ((((((((Ext.refl w).alloc _).alloc _).alloc _).alloc _).alloc _).alloc _)))).mono ?_
  rintro e w1 ⟨rfl, hE1⟩
  have hE := Lib.hid ((((((((Ext.refl w).alloc _).alloc _).alloc _).alloc _).alloc _).alloc _).trans hE1)
  clear hE1
  rw [hok, hv]
  go_wp2_with fail
  go_ret
  exact ⟨rfl, hE.out⟩
end Go.Proofs.YtfgcogkhnnflcaaDoor
end
