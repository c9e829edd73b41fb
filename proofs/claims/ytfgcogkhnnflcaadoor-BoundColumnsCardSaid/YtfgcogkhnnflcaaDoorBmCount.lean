/- bitmap.count over a good bitmap, and Count. No condition but those that each states. -/
import Derived.Test.YtfgcogkhnnflcaaDoorProg
import Derived.Test.YtfgcogkhnnflcaaDoorBmDots
import Derived.Test.YtfgcogkhnnflcaaDoorApp
namespace Go.Proofs.YtfgcogkhnnflcaaDoor
open Go.RowKit Go.Shelf Go.Flow Go.Plain
open Go.Proofs
attribute [local go_sem] block_add
attribute [local go_sem] Oper.semAt_some

theorem blk_own {β : Type} (B : Nat) (t : TypeId) (f : β → Array Value) : Own (fun s W => Blk W B t (f s)) := fun s X Y row hs hg hrow =>
  (hg.block B (Blk.lt hs) (fun e' => by obtain ⟨o, ho, hc⟩ := hrow B e'.symm; rw [show X.heap[B]? = _ from hs] at ho; cases ho; cases hc)).trans hs

set_option maxRecDepth 100000 in
set_option maxHeartbeats 2000000 in
theorem count_in (Wn Hn : Nat) (A : Option Addr) (m c : Nat) (dot : Nat → Bool) (hok : chk Wn Hn m = 0) (fv : FuncId) (cap : Array Value) (p : Nat → Bool) (w : World) (hA : Bools w A m dot)
    (he : ∀ args w, (callFunc fv args).run Tryd.prog w = .ok (.enter fv args) w)
    (hh : ∀ k, k < m → ∀ w1, Ext w w1 → Calls Tryd.prog fv (#[dotV Wn k] ++ cap) w1 fun e w' => e = .returned (.bool (p k)) ∧ Ext w1 w') :
    Calls Tryd.prog 35 #[bmp Wn Hn A m c, .func (.func fv) #[] cap] w fun e w' => e = .returned (.int .i64 (cnt (fun k => dot k && p k) m)) ∧ Ext w w' := by
  refine (callsIn_wide (n := 5)).1 ?_
  refine callsIn_of_wp_marks Tryd.func35 rfl trivial ?_ rfl
  simp only [Tryd.ntmps35, List.size_toArray, List.length_cons, List.length_nil, Nat.reduceAdd, Nat.reduceSub, Array.replicate_succ, Array.replicate_zero, List.push_toArray, List.append_toArray, List.nil_append, List.cons_append]
  gi_wp2
  refine ⟨trivial, callsIn_wide.2 ((dots_any Wn Hn A m c _).mono ?_)⟩
  rintro e w1 ⟨rfl, hw1⟩
  have bP : Blk w1 (w.heap.size + 1) 82 #[.func (.func fv) #[] cap] := by
    subst hw1; exact ((Blk.new' (by simp) _ _).alloc _).alloc _
  have bN : Blk w1 (w.heap.size + 1 + 1) 3 #[.int .i64 0] := by
    subst hw1; exact (Blk.new' (by simp) _ _).alloc _
  have bB : Blk w1 (w.heap.size + 1 + 1 + 1) 30 #[.int .i64 Wn, .int .i64 Hn, .slice A m c] := by
    subst hw1; exact Blk.new' (by simp) _ _
  have hE : Ext w w1 := by subst hw1; exact (((Ext.refl w).alloc _).alloc _ |>.alloc _).alloc _
  have hsz : w1.heap.size = w.heap.size + 4 := by subst hw1; simp
  clear hw1
  gi_wp2
  have hlen : m ≤ 9216 := by
    have hkw := okB hok
    have := area_bd ⟨hkw.1, hkw.2.1⟩ ⟨hkw.2.2.1, hkw.2.2.2.1⟩; have := hkw.2.2.2.2; omega
  refine wpIn_rangeFunc_ownH (F := Fence.wide) rfl (by omega) (gf := 60) (lb := #[.pointer (some ⟨w.heap.size + 1 + 1 + 1, 0, none⟩)]) rfl trivial (enters_of Tryd.func60 (by kernel_rfl) rfl)
    (dots_stops (5 - 1) (by omega) (w.heap.size + 1 + 1 + 1) Wn Hn A m c dot hok w w1 hE bB hA) Keep2.trans (Keep2.put (by omega) (by omega)) (Below.refl _ _) (fun _ => rfl)
    (fun pre W => (Blk W (w.heap.size + 1) 82 #[.func (.func fv) #[] cap] ∧ Blk W (w.heap.size + 1 + 1) 3 #[.int .i64 ((pre.filter fun x : Fin m => p x.val).length : Int)]) ∧ Below w.heap.size w W)
    (fun _ _ _ => False)
    (OwnFrom.and (OwnFrom.and (Own.from (blk_own _ _ _) _) (Own.from (blk_own _ _ _) _)) (ownFrom_below (Nat.le_refl _) (by omega)))
    (fun _ _ _ _ _ hs _ _ => hs)
    ⟨⟨bP, bN⟩, hE⟩
    (fun x a' W => ∃ Bx, w.heap.size + 1 + 1 < Bx ∧ Blk W Bx 80 #[.int .i64 ((x.val : Int) % Wn), .int .i64 ((x.val : Int) / Wn)] ∧ a' = { tmps := #[bmp Wn Hn A m c, .func (.func fv) #[] cap, .pointer (some ⟨w.heap.size, 0, none⟩), .pointer (some ⟨w.heap.size + 1, 0, none⟩), .int .i64 0, .pointer (some ⟨w.heap.size + 1 + 1, 0, none⟩), .pointer (some ⟨Bx, 0, none⟩), bmp Wn Hn A m c, .func (.func 60) #[] #[.pointer (some ⟨w.heap.size + 1 + 1 + 1, 0, none⟩)], dotV Wn x.val, undef, undef, undef, undef, undef, undef], defers := [] })
    (fun x a' _ X Y row hs hg hr => by obtain ⟨Bx, h1, h2, h3⟩ := hs; exact ⟨Bx, h1, blk_own Bx 80 (fun (_ : Unit) => #[Value.int .i64 ((x.val : Int) % Wn), .int .i64 ((x.val : Int) / Wn)]) () X Y row h2 hg (fun r e => (hr r e).2), h3⟩)
    ?assign ?body ?done ?stop
  case assign =>
    rintro l pre x W K ⟨⟨bP1, bN1⟩, hB1⟩ hK
    gi_wp2
    exact hK _ _ ((KeepsOthers.alloc _ _).from _) (Keep2.of_ext ((Ext.refl W).alloc _) hB1.size) ⟨⟨bP1.alloc _, bN1.alloc _⟩, hB1.alloc hB1.size _⟩ ⟨W.heap.size, bN1.lt, Blk.new W _ _, rfl⟩
  case body =>
    rintro l pre x a' W hl ⟨r, hr⟩ ⟨⟨bP1, bN1⟩, hB1⟩ ⟨Bx, hBx, bX, rfl⟩ hlt
    obtain ⟨pc, pf, pl⟩ := bP1.rules
    obtain ⟨xc, xf, xl⟩ := bX.rules
    have hEW : Ext w W := hB1
    have hcnt : (pre.filter fun x : Fin m => p x.val).length ≤ m := Nat.le_trans (List.length_filter_le _ _) (Nat.le_of_lt hlt)
    cases hp : p x.val
    · gi_wp2
      refine ⟨trivial, CallsIn.inRound l (callsIn_wide.2 ((hh x.val x.isLt W hEW).mono ?_))⟩
      rintro e W2 ⟨rfl, hE2⟩
      rw [hp]
      gi_wp2
      have hX : (pre ++ [x]).filter (fun x : Fin m => p x.val) = pre.filter (fun x : Fin m => p x.val) := by simp [hp]
      exact ⟨KeepsFrom.of_grownBy (grown_none hE2 none) (fun j e => by cases e), Keep2.of_ext hE2 hB1.size, ⟨bP1.ext hE2, by rw [hX]; exact bN1.ext hE2⟩, hEW.trans hE2⟩
    · gi_wp2
      refine ⟨trivial, CallsIn.inRound l (callsIn_wide.2 ((hh x.val x.isLt W hEW).mono ?_))⟩
      rintro e W2 ⟨rfl, hE2⟩
      rw [hp]
      have bN2 := bN1.ext hE2
      obtain ⟨nc, nf, nl⟩ := bN2.rules
      clear pc pf pl xc xf xl
      gi_wp2
      have hX : ((pre ++ [x]).filter (fun x : Fin m => p x.val)).length = (pre.filter (fun x : Fin m => p x.val)).length + 1 := by simp [hp]
      exact ⟨(KeepsFrom.of_grownBy (grown_none hE2 none) (fun j e => by cases e)).trans ((KeepsOthers.setCell _ _ _).from _), (Keep2.of_ext hE2 hB1.size).trans (Keep2.set_ (by simp; omega) (by simp) _),
        ⟨(bP1.ext hE2).far (by simp) _, by rw [hX]; exact bN2.set_ 0 _⟩, (hEW.trans hE2).setCell (by simp; omega) _⟩
  case done =>
    rintro D zs W hD rfl ⟨⟨bP1, bN1⟩, hB1⟩ hK
    obtain ⟨nc, nf, nl⟩ := bN1.rules
    rw [upto_cnt] at nc
    gi_wp2
    refine ⟨by simp, .inl ⟨_, _, rfl, run_takeDeferred hK, ?_⟩⟩
    exact ⟨_, results_tmp rfl _ _ _, rfl, hB1.trans (belowK_b (w := w) (Nat.le_refl _) W D _ _ (by omega) hK rfl rfl)⟩
  case stop =>
    rintro D c pre W _ _ h _
    exact h.elim

theorem always_any (x y : Int) (w : World) : Calls Tryd.prog 36 #[.agg #[.int .i64 x, .int .i64 y]] w fun e w' => e = .returned (.bool true) ∧ Ext w w' := by
  go_enter Tryd.func36, Tryd.ntmps36
  go_wp2
  go_ret
  exact ⟨rfl, (Ext.refl w).alloc _⟩

/-- **Count** of a good bitmap. -/
theorem Count_any (W H : Int) (A : Option Addr) (m c : Nat) (dot : Nat → Bool) (hok : chk W H m = 0) (w : World) (hA : Bools w A m dot) :
    Calls Tryd.prog 18 #[bmp W H A m c] w fun e w' => e = .returned (.int .i64 (cnt dot m)) ∧ Ext w w' := by
  have hkw := okB hok
  obtain ⟨Wn, rfl⟩ := Int.eq_ofNat_of_zero_le hkw.1
  obtain ⟨Hn, rfl⟩ := Int.eq_ofNat_of_zero_le hkw.2.2.1
  have hE := Lib.hid ((Ext.refl w).alloc (.cells #[.int .i64 Wn, .int .i64 Hn, .slice A m c] 30))
  have hA1 := Lib.hid (hA.ext hE.out)
  replace hok := Lib.hid hok
  clear hkw
  go_enter Tryd.func18, Tryd.ntmps18
  go_wp2_with fail
  refine (count_in Wn Hn A m c dot hok.out 36 #[] (fun _ => true) _ hA1.out (enters_of Tryd.func36 (by kernel_rfl) rfl) (fun k _ w1 _ => always_any _ _ _)).mono ?_
  rintro e w1 ⟨rfl, hE1⟩
  simp only [Bool.and_true]
  go_wp2_with fail
  go_ret
  exact ⟨rfl, hE.out.trans hE1⟩
end Go.Proofs.YtfgcogkhnnflcaaDoor
