/- Parts of the proof: Flow, Base, Low, Same. -/
import Derived.Test.YtfgcogkhnnflcaaDoorG01
import Derived.StillTail
import Derived.Below
import Derived.Deep.Draws
import Derived.WalkKit
import Derived.KernelRfl
import Derived.Test.YtfgcogkhnnflcaaDoorProg
import Derived.Lib.Hide
import Derived.Deep.QuietTactic
import Derived.BigQuiet
import Derived.Deep.DrawnRows
set_option linter.unusedSimpArgs false
set_option linter.unusedVariables false
section
namespace Go.Flow
open Go Go.RowKit

section
variable {P : Program} {ops : Array Oper} {md : Region.Mode} {C : World → Prop}

theorem of_ext {W : World} {f : FuncId} {args : Array Value} {v : Value} {w : World} (hC : Ext W w) (h : Calls P f args w fun e w' => e = .returned v ∧ Ext w w') : Calls P f args w fun e w' => e = .returned v ∧ Ext W w' :=
  h.mono fun _ _ ⟨he, hw⟩ => ⟨he, hC.trans hw⟩
end
end Go.Flow
end

section
namespace Go.Flow
open Go Go.RowKit

section
variable {w w' W : World} {g : Nat} {t : TypeId} {cs : Array Value}
end
theorem Arr.take {w : World} {A : Option Addr} {n m : Nat} {F : Nat → Value} (h : Arr w A n F) (hm : m ≤ n) : Arr w A m F := fun k hk => h k (by omega)

section
variable {w w' : World} {g : Nat} {t : TypeId} {n : Nat} {F G : Nat → Value}
end

theorem Only.of_ext {w w' : World} (h : Ext w w') (g : Nat) : Only w w' g := ⟨h.os, h.tape, h.output, h.size, fun i hi _ => Below.block h i hi⟩
theorem Only.blk {w w' : World} {g k : Nat} {t : TypeId} {cs : Array Value} (h : Only w w' g) (hb : Blk w k t cs) (hne : k ≠ g) : Blk w' k t cs :=
  (h.block k hb.lt (fun e => hne (by injection e))).trans hb

/-- 'make([]T, n)', T of one cell: n zero elements in a new block. -/
theorem wpList_make {P : Program} {w : World} {ops : Array Oper} {rest : List Oper} {o : Oper} {a : Act} {Q : Exit → Act → World → Prop}
    (hg : o.guard = none) (l c : Operand) (t : TypeId) (hop : o.op = Op.makeSlice t l c)
    (e : TypeId) (i : TypeInfo) (z : Value) (h1 : P.underlying t = some (.slice e)) (h2 : P.info? e = some i) (h3 : i.zero = some z) (h4 : i.size = 1) (hz : z.cells = #[z])
    (kl kc : IntKind) (L C : Int) (n : Nat) (hl : a.eval l = .int kl L) (hc : a.eval c = .int kc C) (hL : L = (n : Int)) (hC : C = (n : Int)) (b2 : i.bytes * n ≤ 281474976710656) (b3 : n ≤ 4611686018427387904)
    (hK : ∀ w', Own w' w.heap.size e n (fun _ => z) → Ext w w' → wpList P ops Q rest (a.put o.dst (.slice (some ⟨w.heap.size, 0, none⟩) n n)) w') :
    wpList P ops Q (o :: rest) a w := by
  refine wpList_plain hg fun K hK' => ?_
  have hb' : (i.bytes : Int) * (n : Int) ≤ 281474976710656 := by
    have h : ((i.bytes * n : Nat) : Int) ≤ 281474976710656 := by omega
    rwa [Int.natCast_mul] at h
  have hrun := run_make (P := P) w t e i z h1 h2 h3 kl kc n n (by omega) (by omega) hb' (by omega)
  simp only [Int.toNat_natCast, h4, Nat.mul_one] at hrun
  subst hL
  subst hC
  unfold Oper.wp
  simp [execOp, hop, hl, hc, hrun, Result.andThen]
  refine hK' _ _ (hK _ ⟨_, Blk.new _ _ _, size_madeCells _ _, fun k hk => ?_⟩ ((Ext.refl w).alloc _))
  simp [madeCells, hz, hk, Nat.mod_one]

end Go.Flow
end

section
namespace Go.Proofs.YtfgcogkhnnflcaaDoor
open Go.RowKit Go.Flow
open Go.Proofs
attribute [local go_sem] block_add
attribute [local go_sem ↓] Go.wp_at_zero Go.wp_at_succ

theorem side_any (n : Int) (w : World) :
    Calls Tryd.prog 41 #[.int .i64 n] w fun e w' => e = .returned (.bool (sideB n)) ∧ w = w' := by
  go_enter Tryd.func41, Tryd.ntmps41
  go_wp2
  all_goals go_ret
  all_goals exact ⟨ret_bool (by unfold sideB; simp; omega), rfl⟩

theorem Mod_any (n m : Int) (hm : 0 < m) (hM : m ≤ 1000000) (w : World) :
    Calls Tryd.prog 42 #[.int .i64 n, .int .i64 m] w fun e w' => e = .returned (.int .i64 (n % m)) ∧ w = w' := by
  have h1 : -m < n.tmod m := by have := Int.lt_tmod_of_pos n hm; omega
  have h2 : n.tmod m < m := Int.tmod_lt_of_pos n hm
  have h3 : (n.tmod m + m) % m = n % m := by
    rw [Int.add_emod_right, Int.emod_def, Int.emod_def]
    have e1 := Int.mul_tdiv_add_tmod n m
    have e2 : n.tmod m = n - m * n.tdiv m := by omega
    rw [e2, show n - m * n.tdiv m = n + m * (- n.tdiv m) by rw [Int.mul_neg]; omega, Int.add_mul_ediv_left _ _ (by omega), Int.mul_add]
    omega
  replace h3 := Lib.hid h3
  go_enter Tryd.func42, Tryd.ntmps42
  go_wp2
  all_goals go_ret
  all_goals exact ⟨ret_int (by rw [← h3.out]; try simp), rfl⟩

/-- What a draw yields, and where it stands then. -/
def dval (N : Nat) (f : Nat → Int) (at_ : Nat) (m : Int) : Int := if at_ < N then f at_ % m else 0
def dat (N at_ : Nat) : Nat := if at_ < N then at_ + 1 else at_

theorem Next_any (w0 : World) (g : Nat) (A : Option Addr) (N c : Nat) (f : Nat → Int) (at_ : Nat) (m : Int) (hm : 0 < m) (hM : m ≤ 1000000) (w : World)
    (hN : N ≤ 4611686018427387904) (hat : at_ ≤ N)
    (hE : Ext w0 w) (hf : Ints w0 A N f) (hg : w0.heap.size ≤ g) (hB : Blk w g 61 #[.slice A N c, .int .i64 (at_ : Int)]) :
    Calls Tryd.prog 25 #[.pointer (some ⟨g, 0, none⟩), .int .i64 m] w fun e w' => e = .returned (.int .i64 (dval N f at_ m)) ∧
      Blk w' g 61 #[.slice A N c, .int .i64 (dat N at_ : Int)] ∧ Only w w' g := by
  obtain ⟨hBc, hBf, hBl⟩ := hB.rules
  by_cases hlt : at_ < N
  · have hlt' : (at_ : Int) < N := by omega
    obtain ⟨ad, rfl, hc⟩ := hf at_ hlt
    have hadl : ad.block < w0.heap.size := by have := World.block_lt_of_cell? w0 _ hc; rwa [block_add] at this
    have hv : dval N f at_ m = f at_ % m := by simp [dval, hlt]
    have ht : dat N at_ = at_ + 1 := by simp [dat, hlt]
    replace hv := Lib.hid hv
    replace ht := Lib.hid ht
    go_enter Tryd.func25, Tryd.ntmps25
    go_wp2_with fail
    refine Flow.wp_flow 10 [(0, true), (1, true), (2, true), (3, true), (4, true), (5, true), (6, true), (7, true), (8, true), (9, true)] (by kernel_rfl) (by kernel_rfl) ?_
    simp only [List.map_cons, List.map_nil, List.getD_cons_succ, List.getD_cons_zero]
    repeat (first
      | (refine Flow.WalkL.move rfl ?_
         simp only [Act.put, Act.eval, Array.getD_eq_getD_getElem?, List.getElem?_toArray, List.getElem?_cons_succ, List.getElem?_cons_zero, Option.getD_some, List.setIfInBounds_toArray, List.set_cons_zero, List.set_cons_succ])
      | (refine Flow.WalkL.assign rfl ?_
         simp only [Act.put, Act.eval, Array.getD_eq_getD_getElem?, List.getElem?_toArray, List.getElem?_cons_succ, List.getElem?_cons_zero, Option.getD_some, List.setIfInBounds_toArray, List.set_cons_zero, List.set_cons_succ])
      | (refine Flow.WalkL.run (v := ?_) rfl (fun w1 hC => ?_) ?_
         rotate_left
         · obtain ⟨hCc, hCf⟩ := hC.rules
           go_simp
           with_reducible rfl
         simp only [Act.put, List.setIfInBounds_toArray, List.set_cons_zero, List.set_cons_succ]))
    refine Flow.WalkL.nil ?_
    simp only [List.drop]
    intro w1 hC
    obtain ⟨hCc, hCf⟩ := hC.rules
    go_wp2_with fail
    refine wp_abs (fun W => Only w W g ∧ Blk W g 61 #[.slice (some ad) N c, .int .i64 ((at_ : Int) + 1)])
      ⟨(Only.of_ext hC g).trans (Only.set_ _ _ _ _), by have := (hB.ext hC).set_ 1 (.int .i64 ((at_ : Int) + 1)); simpa using this⟩ ?_
    rintro W ⟨hO, hB'⟩
    have hc' : W.cell? (ad.add at_) = some (.int .i64 (f at_)) := (hO.ext hE hg).cell hc
    have hadl' : ad.block < W.heap.size := by have := (hO.ext hE hg).size; omega
    clear hBc hBf hBl hCc hCf
    obtain ⟨hBc, hBf, hBl⟩ := hB'.rules
    have hwr : IntKind.i64.wrap (at_ : Int) = at_ := by rw [IntKind.wrap_i64]; omega
    have hat0 : (0 : Int) ≤ at_ := by omega
    refine Flow.wp_flow 14 [(0, true), (1, true), (2, true), (3, true), (4, true), (5, true), (6, true), (7, true), (8, true), (9, true), (10, true), (11, true), (12, true), (13, true)] (by kernel_rfl) (by kernel_rfl) ?_
    simp only [List.map_cons, List.map_nil, List.getD_cons_succ, List.getD_cons_zero]
    repeat (first
      | (refine Flow.WalkL.move rfl ?_
         simp only [Act.put, Act.eval, Array.getD_eq_getD_getElem?, List.getElem?_toArray, List.getElem?_cons_succ, List.getElem?_cons_zero, Option.getD_some, List.setIfInBounds_toArray, List.set_cons_zero, List.set_cons_succ])
      | (refine Flow.WalkL.assign rfl ?_
         simp only [Act.put, Act.eval, Array.getD_eq_getD_getElem?, List.getElem?_toArray, List.getElem?_cons_succ, List.getElem?_cons_zero, Option.getD_some, List.setIfInBounds_toArray, List.set_cons_zero, List.set_cons_succ])
      | (refine Flow.WalkL.callf Tryd.func42 rfl (by kernel_rfl) rfl (fun w1 hC => keep (Mod_any _ _ hm hM _)) rfl rfl ?_
         simp only [Act.put, List.setIfInBounds_toArray, List.set_cons_zero, List.set_cons_succ])
      | (refine Flow.WalkL.run (v := ?_) rfl (fun w1 hC => ?_) ?_
         rotate_left
         · obtain ⟨hCc, hCf⟩ := hC.rules
           go_simp
           with_reducible rfl
         simp only [Act.put, List.setIfInBounds_toArray, List.set_cons_zero, List.set_cons_succ]))
    refine Flow.WalkL.nil ?_
    simp only [List.drop]
    intro w2 hC2
    go_wp2_with fail
    go_ret
    exact ⟨ret_int hv.out.symm, by rw [ht.out]; exact hB'.ext hC2, hO.trans (Only.of_ext hC2 g)⟩
  · have hge : (N : Int) ≤ at_ := by omega
    have hv : dval N f at_ m = 0 := by simp [dval, hlt]
    have ht : dat N at_ = at_ := by simp [dat, hlt]
    replace hv := Lib.hid hv
    replace ht := Lib.hid ht
    go_enter Tryd.func25, Tryd.ntmps25
    go_wp2_with fail
    refine Flow.wp_flow 10 [(0, true), (1, true), (2, true), (3, true), (4, true), (5, true), (6, true), (7, true), (8, true), (9, true)] (by kernel_rfl) (by kernel_rfl) ?_
    simp only [List.map_cons, List.map_nil, List.getD_cons_succ, List.getD_cons_zero]
    repeat (first
      | (refine Flow.WalkL.move rfl ?_
         simp only [Act.put, Act.eval, Array.getD_eq_getD_getElem?, List.getElem?_toArray, List.getElem?_cons_succ, List.getElem?_cons_zero, Option.getD_some, List.setIfInBounds_toArray, List.set_cons_zero, List.set_cons_succ])
      | (refine Flow.WalkL.assign rfl ?_
         simp only [Act.put, Act.eval, Array.getD_eq_getD_getElem?, List.getElem?_toArray, List.getElem?_cons_succ, List.getElem?_cons_zero, Option.getD_some, List.setIfInBounds_toArray, List.set_cons_zero, List.set_cons_succ])
      | (refine Flow.WalkL.run (v := ?_) rfl (fun w1 hC => ?_) ?_
         rotate_left
         · obtain ⟨hCc, hCf⟩ := hC.rules
           go_simp
           with_reducible rfl
         simp only [Act.put, List.setIfInBounds_toArray, List.set_cons_zero, List.set_cons_succ]))
    refine Flow.WalkL.nil ?_
    simp only [List.drop]
    intro w1 hC
    obtain ⟨hCc, hCf⟩ := hC.rules
    go_wp2_with fail
    go_ret
    exact ⟨ret_int hv.out.symm, by rw [ht.out]; exact hB.ext hC, Only.of_ext hC g⟩
end Go.Proofs.YtfgcogkhnnflcaaDoor
end

section
namespace Go.Proofs.YtfgcogkhnnflcaaDoor
open Go.RowKit Go.Flow
open Go.Proofs
attribute [local go_sem] block_add
attribute [local go_sem ↓] Go.wp_at_zero Go.wp_at_succ

theorem info_bool : (Tryd.prog.info? 4).map (fun i => (i.zero, i.size, i.bytes)) = some (some (.bool false), 1, 1) := by kernel_rfl
/-- What New returns. -/
def NewPost (W H : Int) (w : World) (e : Ending) (w' : World) : Prop :=
  ∃ g n, e = .returned (.tuple #[bmp W H (some ⟨g, 0, none⟩) n n, .int .i64 0]) ∧ (n : Int) = W * H ∧ Flow.Own w' g 4 n (fun _ => .bool false) ∧ w.heap.size ≤ g ∧ Ext w w'

theorem New_ok (W H : Int) (w : World) (hb : (sideB W && sideB H) = true) :
    Calls Tryd.prog 24 #[.int .i64 W, .int .i64 H] w (NewPost W H w) := by
  obtain ⟨i0, hi, hz0, hz1, hz2⟩ := info_parts info_bool
  simp only [Bool.and_eq_true] at hb
  obtain ⟨hW, hH⟩ := hb
  have hbd := area_bd (sideB_iff.1 hW) (sideB_iff.1 hH)
  obtain ⟨n, hn⟩ : ∃ n : Nat, W * H = n := ⟨(W * H).toNat, by omega⟩
  have hn' := Lib.hid hn
  clear hn
  go_enter Tryd.func24, Tryd.ntmps24
  go_wp2_with (first
    | (go_at_call 41; refine (side_any _ _).mono ?_; rintro e w' ⟨rfl, rfl⟩)
    | (at_make; refine wpList_make rfl (.tmp 19) (.tmp 19) 28 rfl 4 i0 (.bool false) Tryd.underlying28 hi hz0 hz1 rfl _ _ _ _ n rfl rfl hn'.out hn'.out (by rw [hz2]; have := hn'.out; omega) (by have := hn'.out; omega) ?_))
  intro w1 hO hE
  obtain ⟨hBc, hBf, hBl⟩ := ((Blk.new w 30 #[.int .i64 0, .int .i64 0, .slice none 0 0]).ext hE).rules
  go_wp2
  refine bodyPost_ret (v := .tuple #[bmp W H (some ⟨w.heap.size + 1, 0, none⟩) n n, .int .i64 0]) (by simp [results, Tryd.results24, go_sem, *]) rfl
    ⟨w.heap.size + 1, n, rfl, hn'.out.symm, ((hO.far ?_ _).far ?_ _).far ?_ _, by omega, ((((Ext.refl w).alloc _).trans hE).setCell ?_ _ |>.setCell ?_ _ |>.setCell ?_ _)⟩ <;> simp
end Go.Proofs.YtfgcogkhnnflcaaDoor
end
