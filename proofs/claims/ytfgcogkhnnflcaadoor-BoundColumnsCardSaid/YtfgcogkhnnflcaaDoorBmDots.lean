/- bitmap.dots, the iterator over a good bitmap. No condition but those that each states. -/
import Derived.Test.YtfgcogkhnnflcaaDoorProg
import Derived.Test.YtfgcogkhnnflcaaDoorBmHas
import Derived.Test.YtfgcogkhnnflcaaDoorFlow3
import Derived.RangeFuncNested
import Derived.RangeFuncBound
import Derived.RangeFuncCalls
import Derived.RangeFuncLeaves
import Derived.Shelf.Abstract
import Derived.Shelf.RegionOpen
import Derived.WalkKit
import Derived.OwnWalkIn
import Derived.TacticsInMore
import Derived.LoopNIn
import Derived.LoopIn
namespace Go.Proofs.YtfgcogkhnnflcaaDoor
open Go.RowKit Go.Shelf Go.Flow Go.Plain
open Go.Proofs
attribute [local go_sem] block_add
attribute [local go_sem] Oper.semAt_some

/-- The dots that have come when j cells are over. -/
def upto (m : Nat) (dot : Nat → Bool) : (j : Nat) → j ≤ m → List (Fin m)
  | 0, _ => []
  | j + 1, h => upto m dot j (Nat.le_of_succ_le h) ++ (if dot j then [⟨j, h⟩] else [])
theorem upto_len {m : Nat} {dot : Nat → Bool} : ∀ (j : Nat) (h : j ≤ m), (upto m dot j h).length ≤ j
  | 0, _ => Nat.le_refl _
  | j + 1, h => by
    have := upto_len (dot := dot) j (Nat.le_of_succ_le h)
    unfold upto
    rw [List.length_append]
    split <;> simp <;> omega
theorem upto_succ {m : Nat} {dot : Nat → Bool} (j : Nat) (h : j + 1 ≤ m) : upto m dot (j + 1) h = upto m dot j (Nat.le_of_succ_le h) ++ (if dot j then [⟨j, h⟩] else []) := rfl
theorem upto_cnt {m : Nat} {dot p : Nat → Bool} : ∀ (j : Nat) (h : j ≤ m), (((upto m dot j h).filter fun x => p x.val).length : Int) = cnt (fun k => dot k && p k) j
  | 0, _ => rfl
  | j + 1, h => by
    have := upto_cnt (dot := dot) (p := p) j (Nat.le_of_succ_le h)
    rw [upto_succ, List.filter_append, List.length_append, cnt_succ, ← this]
    cases hd : dot j <;> cases hp : p j <;> simp [hp]

/-- A dot by value. -/
abbrev dotV (Wn k : Nat) : Value := .agg #[.int .i64 ((k : Int) % Wn), .int .i64 ((k : Int) / Wn)]

/-- What a round must keep: whatever lay below n₀, and block Bn. -/
def Keep2 (n₀ Bn : Nat) (W W' : World) : Prop := Below n₀ W W' ∧ (Bn < W.heap.size → W'.heap[Bn]? = W.heap[Bn]?)
theorem Keep2.trans {n₀ Bn : Nat} {A B C : World} (h : Keep2 n₀ Bn A B) (k : Keep2 n₀ Bn B C) : Keep2 n₀ Bn A C :=
  ⟨h.1.trans k.1, fun hb => (k.2 (Nat.lt_of_lt_of_le hb h.1.size)).trans (h.2 hb)⟩
theorem Keep2.of_ext {n₀ Bn : Nat} {A B : World} (h : Ext A B) (hn : n₀ ≤ A.heap.size) : Keep2 n₀ Bn A B := ⟨Below.mono h hn, fun hb => Below.block h Bn hb⟩
theorem Keep2.put {n₀ Bn : Nat} {w : World} (hn : n₀ ≤ w.heap.size) (hb : Bn < w.heap.size) (W : World) (l : Nat) (o o' : Obj) (hl : w.heap.size ≤ l) (h : W.heap[l]? = some o) (h1 : o.isCells = false) (h2 : o.isWalk = false) : Keep2 n₀ Bn W (W.putObj l o') :=
  ⟨belowK_b hn W l o o' hl h h1 h2, fun _ => World.putObj_heap_other (by omega)⟩
theorem Keep2.set_ {n₀ Bn : Nat} {W : World} {p : Addr} (hp : n₀ ≤ p.block) (hb : Bn ≠ p.block) (v : Value) : Keep2 n₀ Bn W (W.setCell p v) :=
  ⟨(Below.refl n₀ W).setCell hp v, fun _ => Below.heap_setCell W p v Bn hb⟩

set_option maxRecDepth 100000 in
set_option maxHeartbeats 2000000 in
theorem dots1_in (nd : Nat) (hn : 1 ≤ nd) (l Bn : Nat) (Wn Hn : Nat) (A : Option Addr) (m c : Nat) (dot : Nat → Bool) (hok : chk Wn Hn m = 0) (w0 w : World) (hn0 : w0.heap.size ≤ w.heap.size) (J Jx : List (Fin m) → World → Prop)
    (hY : ∀ pre (x : Fin m) W, J pre W → pre.length < m → YieldAt Fence.wide (nd - 1) Tryd.prog l #[dotV Wn x.val] W fun e W' =>
      (e = .returned (.bool true) ∧ J (pre ++ [x]) W' ∧ Keep2 w0.heap.size Bn W W') ∨ (e = .returned (.bool false) ∧ Jx (pre ++ [x]) W'))
    (hJ : ∀ pre W W', J pre W → Ext W W' → J pre W')
    (hB : Blk w Bn 30 #[.int .i64 Wn, .int .i64 Hn, .slice A m c]) (hA : Bools w0 A m dot) (h0w : Below w0.heap.size w0 w) (W : World) (hb : Keep2 w0.heap.size Bn w W) (h0 : J [] W) :
    CallsIn Fence.wide nd Tryd.prog 60 #[.func (.yield l) #[] #[], .pointer (some ⟨Bn, 0, none⟩)] W fun e W' => (∃ v, e = .returned v) ∧
      ((∃ ys, ys = upto m dot m (Nat.le_refl _) ∧ J ys W') ∨ (∃ pre, (∃ k h, pre = upto m dot k h) ∧ Jx pre W')) := by
  have e1 : (chk Wn Hn m != 0) = false := by simp [hok]
  have hkw := okB hok
  have hm1 : m ≤ 9216 := by have := area_bd ⟨hkw.1, hkw.2.1⟩ ⟨hkw.2.2.1, hkw.2.2.2.1⟩; have := hkw.2.2.2.2; omega
  have hkm := hkw.2.2.2.2
  obtain ⟨-, hw2, -, -, -⟩ := hkw
  replace hok := Lib.hid hok
  replace hkm := Lib.hid hkm
  have hR : ∀ V, Keep2 w0.heap.size Bn w V → (∀ i, V.cell? ⟨Bn, i, none⟩ = #[.int .i64 Wn, .int .i64 Hn, .slice A m c][i]?) ∧ Bn < V.heap.size := fun V hV =>
    have hBV : Blk V Bn 30 #[.int .i64 Wn, .int .i64 Hn, .slice A m c] := (hV.2 hB.lt).trans hB
    ⟨hBV.cell, hBV.lt⟩
  replace hR := Lib.hid hR
  have hbl := hB.lt
  obtain ⟨hBc, hBl⟩ := hR.out W hb
  refine callsIn_of_wp Tryd.func60 rfl trivial ?_ rfl
  simp only [Tryd.ntmps60, List.size_toArray, List.length_cons, List.length_nil, Nat.reduceAdd, Nat.reduceSub, Array.replicate_succ, Array.replicate_zero, List.push_toArray, List.append_toArray, List.nil_append, List.cons_append]
  gi_wp2
  refine ⟨trivial, callsIn_wide.2 ((Check2_any Wn Hn A m c W).mono ?_)⟩
  rintro e w1 ⟨rfl, hE1⟩
  replace h0 := hJ _ _ _ h0 hE1
  have hb1 := hb.trans (Keep2.of_ext hE1 (Nat.le_trans hn0 hb.1.size))
  clear hBc hBl
  obtain ⟨hBc, hBl⟩ := hR.out w1 hb1
  gi_wp2
  gi_loopw [11] (fun i wr => ∃ (k : Nat) (h : k ≤ m), i = .int .i64 k ∧ J (upto m dot k h) wr ∧ Keep2 w0.heap.size Bn w wr) (fun i _ => m - (intOf i).toNat)
  case atStart => exact ⟨0, Nat.zero_le _, rfl, h0, hb1⟩
  case round =>
    clear hBc hBl h0 hb1 hE1 hb
    obtain ⟨k, hk, rfl, hJs, hbr⟩ := hrel
    have hlen := upto_len (dot := dot) k hk
    obtain ⟨hBc, hBl⟩ := hR.out wr hbr
    by_cases hlt : k < m
    · have hlt' : (k : Int) < m := by omega
      have hs := Lib.hid (upto_succ (dot := dot) k hlt)
      obtain ⟨ad, rfl, hc⟩ := hA k hlt
      have hcx : wr.cell? (ad.add k) = some (.bool (dot k)) := ((h0w.trans hbr.1).cell (p := ad.add k) (lt_of_cell hc |> (by rw [block_add]; exact ·))).trans hc
      have hcl : ad.block < wr.heap.size := Nat.lt_of_lt_of_le (lt_of_cell hc) (h0w.trans hbr.1).size
      clear hc
      replace hbr := Lib.hid hbr
      have hJr := Lib.hid (fun V (hV : Ext wr V) => hJ _ _ _ hJs hV)
      clear hJs
      generalize hd : dot k = on at *
      cases on
      · replace hd := Lib.hid hd
        gi_wp2
        refine Flow.wpIn_flow Flow.Wide.wide 15 [(0, true), (1, true), (2, true), (3, true), (4, true), (5, true), (6, true), (7, true), (8, true), (9, true), (10, true), (11, true), (12, true), (13, true), (14, true)] (by kernel_rfl) (by kernel_rfl) ?_
        simp only [List.map_cons, List.map_nil, List.getD_cons_succ, List.getD_cons_zero]
        repeat (first
          | (refine Flow.WalkL.move rfl ?_
             simp only [Act.put, Act.eval, Array.getD_eq_getD_getElem?, List.getElem?_toArray, List.getElem?_cons_succ, List.getElem?_cons_zero, Option.getD_some, List.setIfInBounds_toArray, List.set_cons_zero, List.set_cons_succ])
          | (refine Flow.WalkL.assign rfl ?_
             simp only [Act.put, Act.eval, Array.getD_eq_getD_getElem?, List.getElem?_toArray, List.getElem?_cons_succ, List.getElem?_cons_zero, Option.getD_some, List.setIfInBounds_toArray, List.set_cons_zero, List.set_cons_succ])
          | (refine Flow.WalkL.run (v := ?_) rfl (fun w1 hC => ?_) ?_
             rotate_left
             · obtain ⟨hCc, hCf⟩ := hC.rules
               go_simp
               with_reducible rfl
             simp only [Act.put, List.setIfInBounds_toArray, List.set_cons_zero, List.set_cons_succ]))
        repeat (refine Flow.WalkL.skip rfl ?_; simp only [Act.put, List.setIfInBounds_toArray, List.set_cons_zero, List.set_cons_succ])
        repeat (first
          | (refine Flow.WalkL.move rfl ?_
             simp only [Act.put, Act.eval, Array.getD_eq_getD_getElem?, List.getElem?_toArray, List.getElem?_cons_succ, List.getElem?_cons_zero, Option.getD_some, List.setIfInBounds_toArray, List.set_cons_zero, List.set_cons_succ])
          | (refine Flow.WalkL.assign rfl ?_
             simp only [Act.put, Act.eval, Array.getD_eq_getD_getElem?, List.getElem?_toArray, List.getElem?_cons_succ, List.getElem?_cons_zero, Option.getD_some, List.setIfInBounds_toArray, List.set_cons_zero, List.set_cons_succ])
          | (refine Flow.WalkL.run (v := ?_) rfl (fun w1 hC => ?_) ?_
             rotate_left
             · obtain ⟨hCc, hCf⟩ := hC.rules
               go_simp
               with_reducible rfl
             simp only [Act.put, List.setIfInBounds_toArray, List.set_cons_zero, List.set_cons_succ]))
        refine Flow.WalkL.nil ?_
        simp only [List.drop_succ_cons, List.drop_zero, List.drop_nil]
        intro w2 hE2
        have hJ2 := hJr.out _ hE2
        have hb2 := hbr.out.trans (Keep2.of_ext hE2 (Nat.le_trans hn0 hbr.out.1.size))
        gi_wp2
        exact ⟨⟨k + 1, hlt, by go_num, by rw [hs.out]; simpa using hJ2, hb2⟩, by simp only [intOf]; omega⟩
      · replace hd := Lib.hid hd
        have hw0 : (0 : Int) < (Wn : Int) := by
          rcases Int.lt_or_le 0 (Wn : Int) with h1 | h1
          · exact h1
          · have h := hkm.out; rw [show (Wn : Int) = 0 by omega, Int.zero_mul] at h; omega
        have hr0 := Int.emod_nonneg (k : Int) (show (Wn : Int) ≠ 0 by omega)
        have hr1 := Int.emod_lt_of_pos (k : Int) hw0
        have hq0 : 0 ≤ (k : Int) / Wn := Int.ediv_nonneg (by omega) (by omega)
        have hq1 : (k : Int) / Wn ≤ k := Int.ediv_le_self _ (by omega)
        have hmd : (k : Int).tmod Wn = (k : Int) % Wn := Int.tmod_eq_emod_of_nonneg (by omega)
        have hdv : (k : Int).tdiv Wn = (k : Int) / Wn := Int.tdiv_eq_ediv_of_nonneg (by omega)
        have hwn : Wn ≠ 0 := by omega
        have hwq : IntKind.i64.wrap ((k : Int) / Wn) = (k : Int) / Wn := by rw [IntKind.wrap_i64]; omega
        gi_wp2
        refine Flow.wpIn_flow Flow.Wide.wide 12 [(0, true), (1, true), (2, true), (3, true), (4, true), (5, true), (6, true), (7, true), (8, true), (9, true), (10, true), (11, true)] (by kernel_rfl) (by kernel_rfl) ?_
        simp only [List.map_cons, List.map_nil, List.getD_cons_succ, List.getD_cons_zero]
        repeat (first
          | (refine Flow.WalkL.move rfl ?_
             simp only [Act.put, Act.eval, Array.getD_eq_getD_getElem?, List.getElem?_toArray, List.getElem?_cons_succ, List.getElem?_cons_zero, Option.getD_some, List.setIfInBounds_toArray, List.set_cons_zero, List.set_cons_succ])
          | (refine Flow.WalkL.assign rfl ?_
             simp only [Act.put, Act.eval, Array.getD_eq_getD_getElem?, List.getElem?_toArray, List.getElem?_cons_succ, List.getElem?_cons_zero, Option.getD_some, List.setIfInBounds_toArray, List.set_cons_zero, List.set_cons_succ])
          | (refine Flow.WalkL.run (v := ?_) rfl (fun w1 hC => ?_) ?_
             rotate_left
             · obtain ⟨hCc, hCf⟩ := hC.rules
               go_simp
               with_reducible rfl
             simp only [Act.put, List.setIfInBounds_toArray, List.set_cons_zero, List.set_cons_succ]))
        refine Flow.WalkL.nil ?_
        simp only [List.drop_succ_cons, List.drop_zero, List.drop_nil]
        intro w2 hE2
        have hJ2 := hJr.out _ hE2
        have hb2 := Lib.hid (hbr.out.trans (Keep2.of_ext hE2 (Nat.le_trans hn0 hbr.out.1.size)))
        obtain ⟨fn, tmps, assign, body, hy, hRd⟩ := hY _ ⟨k, hlt⟩ w2 hJ2 (by omega)
        clear hmd hdv hwq hr0 hr1 hq0 hq1 hBc hcx
        gi_wp2
        refine hRd.mono ?_
        rintro e W3 (⟨rfl, hJ3, hk3⟩ | ⟨rfl, hJx3⟩)
        · have hb3 := hb2.out.trans hk3
          gi_wp2
          exact ⟨⟨k + 1, hlt, by go_num, by rw [hs.out]; simpa using hJ3, hb3⟩, by simp only [intOf]; omega⟩
        · gi_wp2
          refine bodyPost_ret (results_none rfl _ _ _) rfl ?_
          exact ⟨⟨_, rfl⟩, .inr ⟨_, ⟨k + 1, hlt, by rw [hs.out]; rfl⟩, hJx3⟩⟩
    · obtain rfl : k = m := by omega
      gi_wp2
      go_end0
      exact ⟨⟨_, rfl⟩, .inl ⟨_, rfl, hJs⟩⟩

/-- **dots**: the bitmap is boxed; the function value captures the box. -/
theorem dots_any (W H : Int) (A : Option Addr) (m c : Nat) (w : World) :
    Calls Tryd.prog 48 #[bmp W H A m c] w fun e w' => e = .returned (.func (.func 60) #[] #[.pointer (some ⟨w.heap.size, 0, none⟩)]) ∧ w.alloc (.cells #[.int .i64 W, .int .i64 H, .slice A m c] 30) = w' := by
  go_enter Tryd.func48, Tryd.ntmps48
  go_wp2
  go_ret
  exact ⟨rfl, rfl⟩

theorem dots_stops (nd : Nat) (hn : 1 ≤ nd) (Bn : Nat) (Wn Hn : Nat) (A : Option Addr) (m c : Nat) (dot : Nat → Bool) (hok : chk Wn Hn m = 0) (w0 w : World) (h0w : Below w0.heap.size w0 w)
    (hB : Blk w Bn 30 #[.int .i64 Wn, .int .i64 Hn, .slice A m c]) (hA : Bools w0 A m dot) :
    SeqStopsK Fence.wide nd Tryd.prog 60 #[.pointer (some ⟨Bn, 0, none⟩)] (fun x : Fin m => #[dotV Wn x.val]) (Keep2 w0.heap.size Bn) (fun ys => ys = upto m dot m (Nat.le_refl _)) (fun pre => ∃ k h, pre = upto m dot k h) m w :=
  fun l J Jx W hW hJ _ hY h0 => dots1_in nd hn l Bn Wn Hn A m c dot hok w0 w h0w.size J Jx hY (fun pre V V' hs hE => hJ pre V V' none hs ⟨hE.os, hE.tape, hE.output, hE.size, fun i hi _ => Below.block hE i hi⟩ (fun r e => by cases e)) hB hA h0w W (Keep2.of_ext hW h0w.size) h0
end Go.Proofs.YtfgcogkhnnflcaaDoor
