/- Parts of the proof: RbFill. -/
import Derived.Test.YtcdnpnbjloaihaaProg
import Derived.Test.YtcdnpnbjloaihaaG18
import Derived.Test.YtcdnpnbjloaihaaG14
set_option linter.unusedSimpArgs false
set_option linter.unusedVariables false
section
/- ref33.Fill. No condition but those that each states. -/
namespace Go.Proofs.Ytcdnpnbjloaihaa
open Go.RowKit Go.Flow Go.Plain
open Go.Proofs
attribute [local go_sem] block_add
attribute [local go_sem ↓] Go.wp_at_zero Go.wp_at_succ

/-- What k shows when the pixels of l are filled. -/
def mixL (l : List Nat) (f g : Nat → Int) (k : Nat) : Int := if k ∈ l then g k else f k
theorem mixL_step {l : List Nat} {i p : Nat} {f g : Nat → Int} (h : l[i]? = some p) (k : Nat) : mixL (l.take (i + 1)) f g k = if k = p then g p else mixL (l.take i) f g k := by
  have hm : k ∈ l.take (i + 1) ↔ k ∈ l.take i ∨ k = p := by rw [List.take_add_one, h, Option.toList_some, List.mem_append, List.mem_singleton]
  simp only [mixL, hm]
  by_cases e : k = p
  · simp [e]
  · simp [e]
theorem mem_uL {U : Nat → Bool} {n k : Nat} : k ∈ uL U n ↔ k < n ∧ U k = true := by unfold uL; simp [List.mem_filter]


set_option maxRecDepth 100000 in
theorem RFill_bad1 (Wx Hx : Int) (A : Option Addr) (n c : Nat) (f : Nat → Int) (Wy Hy : Int) (B : Option Addr) (m d : Nat) (g : Nat → Int) (r0 r1 r2 r3 : Int) (w : World)
    (hn : n ≤ 4611686018427387904) (hA : Ints w A n f) (hB : Ints w B m g) (h1 : (chkI Wx Hx n f != 0) = true) :
    Calls Try.prog 17 #[img Wx Hx A n c, img Wy Hy B m d, rct r0 r1 r2 r3] w fun e w' => e = .returned (.tuple #[img 0 0 none 0 0, .int .i64 (chkI Wx Hx n f)]) ∧ Ext w w' := by
  obtain ⟨W0, hW0⟩ : ∃ W0, (((w.alloc (.cells #[.int .i64 Wx, .int .i64 Hx, .slice A n c] 27)).alloc (.cells #[.int .i64 Wy, .int .i64 Hy, .slice B m d] 27)).alloc (.cells #[.int .i64 r0, .int .i64 r1, .int .i64 r2, .int .i64 r3] 29)).alloc (.cells #[.int .i64 0, .int .i64 0, .slice none 0 0] 27) = W0 := ⟨_, rfl⟩
  have hQ : ∀ V, Ext W0 V → Blk V w.heap.size 27 #[.int .i64 Wx, .int .i64 Hx, .slice A n c] ∧ Blk V (w.heap.size + 1) 27 #[.int .i64 Wy, .int .i64 Hy, .slice B m d] ∧
      Blk V (w.heap.size + 1 + 1) 29 #[.int .i64 r0, .int .i64 r1, .int .i64 r2, .int .i64 r3] ∧ Blk V (w.heap.size + 1 + 1 + 1) 27 #[.int .i64 0, .int .i64 0, .slice none 0 0] ∧
      Ints V A n f ∧ Ints V B m g ∧ Ext w V := by
    intro V h
    subst hW0
    have h1 := ((((Ext.refl w).alloc (.cells #[.int .i64 Wx, .int .i64 Hx, .slice A n c] 27)).alloc (.cells #[.int .i64 Wy, .int .i64 Hy, .slice B m d] 27)).alloc (.cells #[.int .i64 r0, .int .i64 r1, .int .i64 r2, .int .i64 r3] 29)).alloc (.cells #[.int .i64 0, .int .i64 0, .slice none 0 0] 27) |>.trans h
    exact ⟨(((Blk.new _ _ _).alloc _).alloc _ |>.alloc _).ext h, (((Blk.new' (by simp) _ _).alloc _).alloc _).ext h, ((Blk.new' (by simp) _ _).alloc _).ext h, (Blk.new' (by simp) _ _).ext h, hA.ext h1, hB.ext h1, h1⟩
  have hsz : w.heap.size + 4 ≤ W0.heap.size := by subst hW0; simp
  replace hQ := Lib.hid hQ
  obtain ⟨q1, q2, q3, q4, q6, q7, q8⟩ := hQ.out W0 (Ext.refl W0)
  obtain ⟨c1c, c1f, c1l⟩ := q1.rules
  obtain ⟨c2c, c2f, c2l⟩ := q2.rules
  obtain ⟨c3c, c3f, c3l⟩ := q3.rules
  obtain ⟨c4c, c4f, c4l⟩ := q4.rules
  replace q6 := Lib.hid q6
  replace q7 := Lib.hid q7
  replace q8 := Lib.hid q8
  clear q1 q2 q3 q4
  go_enter Try.func17, Try.ntmps17
  go_wp2_with fail
  try rw [hW0]
  clear hW0
  refine (RCheck_any Wx Hx A n c f _ hn q6.out).mono ?_
  rintro e w1 ⟨rfl, hE1⟩
  replace hE1 := Lib.hid hE1
  clear c1c c1f c1l c2c c2f c2l c3c c3f c3l c4c c4f c4l q6 q7 q8
  obtain ⟨q1, q2, q3, q4, q6, q7, q8⟩ := hQ.out w1 hE1.out
  obtain ⟨c1c, c1f, c1l⟩ := q1.rules
  obtain ⟨c2c, c2f, c2l⟩ := q2.rules
  obtain ⟨c3c, c3f, c3l⟩ := q3.rules
  obtain ⟨c4c, c4f, c4l⟩ := q4.rules
  replace q6 := Lib.hid q6
  replace q7 := Lib.hid q7
  replace q8 := Lib.hid q8
  clear q1 q2 q3 q4
  go_wp2_with fail
  refine bodyPost_ret (v := .tuple #[img 0 0 none 0 0, .int .i64 (chkI Wx Hx n f)]) (by simp [results, Try.results17, go_sem, *]) rfl ⟨rfl, ?_⟩
  exact ((q8.out.setCell (by simp; omega) _).setCell (by simp; omega) _).setCell (by simp; omega) _

set_option maxRecDepth 100000 in
theorem RFill_bad2 (Wx Hx : Int) (A : Option Addr) (n c : Nat) (f : Nat → Int) (Wy Hy : Int) (B : Option Addr) (m d : Nat) (g : Nat → Int) (r0 r1 r2 r3 : Int) (w : World)
    (hn : n ≤ 4611686018427387904) (hm : m ≤ 4611686018427387904) (hA : Ints w A n f) (hB : Ints w B m g) (h1 : (chkI Wx Hx n f != 0) = false) (h2 : (chkI Wy Hy m g != 0) = true) :
    Calls Try.prog 17 #[img Wx Hx A n c, img Wy Hy B m d, rct r0 r1 r2 r3] w fun e w' => e = .returned (.tuple #[img 0 0 none 0 0, .int .i64 (chkI Wy Hy m g)]) ∧ Ext w w' := by
  obtain ⟨W0, hW0⟩ : ∃ W0, (((w.alloc (.cells #[.int .i64 Wx, .int .i64 Hx, .slice A n c] 27)).alloc (.cells #[.int .i64 Wy, .int .i64 Hy, .slice B m d] 27)).alloc (.cells #[.int .i64 r0, .int .i64 r1, .int .i64 r2, .int .i64 r3] 29)).alloc (.cells #[.int .i64 0, .int .i64 0, .slice none 0 0] 27) = W0 := ⟨_, rfl⟩
  have hQ : ∀ V, Ext W0 V → Blk V w.heap.size 27 #[.int .i64 Wx, .int .i64 Hx, .slice A n c] ∧ Blk V (w.heap.size + 1) 27 #[.int .i64 Wy, .int .i64 Hy, .slice B m d] ∧
      Blk V (w.heap.size + 1 + 1) 29 #[.int .i64 r0, .int .i64 r1, .int .i64 r2, .int .i64 r3] ∧ Blk V (w.heap.size + 1 + 1 + 1) 27 #[.int .i64 0, .int .i64 0, .slice none 0 0] ∧
      Ints V A n f ∧ Ints V B m g ∧ Ext w V := by
    intro V h
    subst hW0
    have h1 := ((((Ext.refl w).alloc (.cells #[.int .i64 Wx, .int .i64 Hx, .slice A n c] 27)).alloc (.cells #[.int .i64 Wy, .int .i64 Hy, .slice B m d] 27)).alloc (.cells #[.int .i64 r0, .int .i64 r1, .int .i64 r2, .int .i64 r3] 29)).alloc (.cells #[.int .i64 0, .int .i64 0, .slice none 0 0] 27) |>.trans h
    exact ⟨(((Blk.new _ _ _).alloc _).alloc _ |>.alloc _).ext h, (((Blk.new' (by simp) _ _).alloc _).alloc _).ext h, ((Blk.new' (by simp) _ _).alloc _).ext h, (Blk.new' (by simp) _ _).ext h, hA.ext h1, hB.ext h1, h1⟩
  have hsz : w.heap.size + 4 ≤ W0.heap.size := by subst hW0; simp
  replace hQ := Lib.hid hQ
  obtain ⟨q1, q2, q3, q4, q6, q7, q8⟩ := hQ.out W0 (Ext.refl W0)
  obtain ⟨c1c, c1f, c1l⟩ := q1.rules
  obtain ⟨c2c, c2f, c2l⟩ := q2.rules
  obtain ⟨c3c, c3f, c3l⟩ := q3.rules
  obtain ⟨c4c, c4f, c4l⟩ := q4.rules
  replace q6 := Lib.hid q6
  replace q7 := Lib.hid q7
  replace q8 := Lib.hid q8
  clear q1 q2 q3 q4
  go_enter Try.func17, Try.ntmps17
  go_wp2_with fail
  try rw [hW0]
  clear hW0
  refine (RCheck_any Wx Hx A n c f _ hn q6.out).mono ?_
  rintro e w1 ⟨rfl, hE1⟩
  replace hE1 := Lib.hid hE1
  clear c1c c1f c1l c2c c2f c2l c3c c3f c3l c4c c4f c4l q6 q7 q8
  obtain ⟨q1, q2, q3, q4, q6, q7, q8⟩ := hQ.out w1 hE1.out
  obtain ⟨c1c, c1f, c1l⟩ := q1.rules
  obtain ⟨c2c, c2f, c2l⟩ := q2.rules
  obtain ⟨c3c, c3f, c3l⟩ := q3.rules
  obtain ⟨c4c, c4f, c4l⟩ := q4.rules
  replace q6 := Lib.hid q6
  replace q7 := Lib.hid q7
  replace q8 := Lib.hid q8
  clear q1 q2 q3 q4
  go_wp2_with fail
  refine (RCheck_any Wy Hy B m d g _ hm q7.out).mono ?_
  rintro e w2 ⟨rfl, hE2⟩
  replace hE2 := Lib.hid (hE1.out.trans hE2)
  clear c1c c1f c1l c2c c2f c2l c3c c3f c3l c4c c4f c4l q6 q7 q8
  obtain ⟨q1, q2, q3, q4, q6, q7, q8⟩ := hQ.out w2 hE2.out
  obtain ⟨c1c, c1f, c1l⟩ := q1.rules
  obtain ⟨c2c, c2f, c2l⟩ := q2.rules
  obtain ⟨c3c, c3f, c3l⟩ := q3.rules
  obtain ⟨c4c, c4f, c4l⟩ := q4.rules
  replace q6 := Lib.hid q6
  replace q7 := Lib.hid q7
  replace q8 := Lib.hid q8
  clear q1 q2 q3 q4
  go_wp2_with fail
  refine bodyPost_ret (v := .tuple #[img 0 0 none 0 0, .int .i64 (chkI Wy Hy m g)]) (by simp [results, Try.results17, go_sem, *]) rfl ⟨rfl, ?_⟩
  exact ((q8.out.setCell (by simp; omega) _).setCell (by simp; omega) _).setCell (by simp; omega) _

set_option maxRecDepth 100000 in
theorem RFill_bad3 (Wx Hx : Int) (A : Option Addr) (n c : Nat) (f : Nat → Int) (Wy Hy : Int) (B : Option Addr) (m d : Nat) (g : Nat → Int) (r0 r1 r2 r3 : Int) (w : World)
    (hn : n ≤ 4611686018427387904) (hm : m ≤ 4611686018427387904) (hA : Ints w A n f) (hB : Ints w B m g) (h1 : (chkI Wx Hx n f != 0) = false) (h2 : (chkI Wy Hy m g != 0) = false) (hd : ¬ (Wx = Wy ∧ Hx = Hy)) :
    Calls Try.prog 17 #[img Wx Hx A n c, img Wy Hy B m d, rct r0 r1 r2 r3] w fun e w' => e = .returned (.tuple #[img 0 0 none 0 0, .int .i64 13]) ∧ Ext w w' := by
  by_cases hw : Wx = Wy
  · have d1 : (Wx != Wy) = false := by simpa using hw
    have d2 : (Hx != Hy) = true := by simpa using fun h => hd ⟨hw, h⟩
    clear hd
    replace hw := Lib.hid hw
    obtain ⟨W0, hW0⟩ : ∃ W0, (((w.alloc (.cells #[.int .i64 Wx, .int .i64 Hx, .slice A n c] 27)).alloc (.cells #[.int .i64 Wy, .int .i64 Hy, .slice B m d] 27)).alloc (.cells #[.int .i64 r0, .int .i64 r1, .int .i64 r2, .int .i64 r3] 29)).alloc (.cells #[.int .i64 0, .int .i64 0, .slice none 0 0] 27) = W0 := ⟨_, rfl⟩
    have hQ : ∀ V, Ext W0 V → Blk V w.heap.size 27 #[.int .i64 Wx, .int .i64 Hx, .slice A n c] ∧ Blk V (w.heap.size + 1) 27 #[.int .i64 Wy, .int .i64 Hy, .slice B m d] ∧
        Blk V (w.heap.size + 1 + 1) 29 #[.int .i64 r0, .int .i64 r1, .int .i64 r2, .int .i64 r3] ∧ Blk V (w.heap.size + 1 + 1 + 1) 27 #[.int .i64 0, .int .i64 0, .slice none 0 0] ∧
        Ints V A n f ∧ Ints V B m g ∧ Ext w V := by
      intro V h
      subst hW0
      have h1 := ((((Ext.refl w).alloc (.cells #[.int .i64 Wx, .int .i64 Hx, .slice A n c] 27)).alloc (.cells #[.int .i64 Wy, .int .i64 Hy, .slice B m d] 27)).alloc (.cells #[.int .i64 r0, .int .i64 r1, .int .i64 r2, .int .i64 r3] 29)).alloc (.cells #[.int .i64 0, .int .i64 0, .slice none 0 0] 27) |>.trans h
      exact ⟨(((Blk.new _ _ _).alloc _).alloc _ |>.alloc _).ext h, (((Blk.new' (by simp) _ _).alloc _).alloc _).ext h, ((Blk.new' (by simp) _ _).alloc _).ext h, (Blk.new' (by simp) _ _).ext h, hA.ext h1, hB.ext h1, h1⟩
    have hsz : w.heap.size + 4 ≤ W0.heap.size := by subst hW0; simp
    replace hQ := Lib.hid hQ
    obtain ⟨q1, q2, q3, q4, q6, q7, q8⟩ := hQ.out W0 (Ext.refl W0)
    obtain ⟨c1c, c1f, c1l⟩ := q1.rules
    obtain ⟨c2c, c2f, c2l⟩ := q2.rules
    obtain ⟨c3c, c3f, c3l⟩ := q3.rules
    obtain ⟨c4c, c4f, c4l⟩ := q4.rules
    replace q6 := Lib.hid q6
    replace q7 := Lib.hid q7
    replace q8 := Lib.hid q8
    clear q1 q2 q3 q4
    go_enter Try.func17, Try.ntmps17
    go_wp2_with fail
    try rw [hW0]
    clear hW0
    refine (RCheck_any Wx Hx A n c f _ hn q6.out).mono ?_
    rintro e w1 ⟨rfl, hE1⟩
    replace hE1 := Lib.hid hE1
    clear c1c c1f c1l c2c c2f c2l c3c c3f c3l c4c c4f c4l q6 q7 q8
    obtain ⟨q1, q2, q3, q4, q6, q7, q8⟩ := hQ.out w1 hE1.out
    obtain ⟨c1c, c1f, c1l⟩ := q1.rules
    obtain ⟨c2c, c2f, c2l⟩ := q2.rules
    obtain ⟨c3c, c3f, c3l⟩ := q3.rules
    obtain ⟨c4c, c4f, c4l⟩ := q4.rules
    replace q6 := Lib.hid q6
    replace q7 := Lib.hid q7
    replace q8 := Lib.hid q8
    clear q1 q2 q3 q4
    go_wp2_with fail
    refine (RCheck_any Wy Hy B m d g _ hm q7.out).mono ?_
    rintro e w2 ⟨rfl, hE2⟩
    replace hE2 := Lib.hid (hE1.out.trans hE2)
    clear c1c c1f c1l c2c c2f c2l c3c c3f c3l c4c c4f c4l q6 q7 q8
    obtain ⟨q1, q2, q3, q4, q6, q7, q8⟩ := hQ.out w2 hE2.out
    obtain ⟨c1c, c1f, c1l⟩ := q1.rules
    obtain ⟨c2c, c2f, c2l⟩ := q2.rules
    obtain ⟨c3c, c3f, c3l⟩ := q3.rules
    obtain ⟨c4c, c4f, c4l⟩ := q4.rules
    replace q6 := Lib.hid q6
    replace q7 := Lib.hid q7
    replace q8 := Lib.hid q8
    clear q1 q2 q3 q4
    go_wp2_with fail
    refine bodyPost_ret (v := .tuple #[img 0 0 none 0 0, .int .i64 13]) (by simp [results, Try.results17, go_sem, *]) rfl ⟨rfl, ?_⟩
    exact ((q8.out.setCell (by simp; omega) _).setCell (by simp; omega) _).setCell (by simp; omega) _
  · have d1 : (Wx != Wy) = true := by simpa using hw
    clear hd
    replace hw := Lib.hid hw
    obtain ⟨W0, hW0⟩ : ∃ W0, (((w.alloc (.cells #[.int .i64 Wx, .int .i64 Hx, .slice A n c] 27)).alloc (.cells #[.int .i64 Wy, .int .i64 Hy, .slice B m d] 27)).alloc (.cells #[.int .i64 r0, .int .i64 r1, .int .i64 r2, .int .i64 r3] 29)).alloc (.cells #[.int .i64 0, .int .i64 0, .slice none 0 0] 27) = W0 := ⟨_, rfl⟩
    have hQ : ∀ V, Ext W0 V → Blk V w.heap.size 27 #[.int .i64 Wx, .int .i64 Hx, .slice A n c] ∧ Blk V (w.heap.size + 1) 27 #[.int .i64 Wy, .int .i64 Hy, .slice B m d] ∧
        Blk V (w.heap.size + 1 + 1) 29 #[.int .i64 r0, .int .i64 r1, .int .i64 r2, .int .i64 r3] ∧ Blk V (w.heap.size + 1 + 1 + 1) 27 #[.int .i64 0, .int .i64 0, .slice none 0 0] ∧
        Ints V A n f ∧ Ints V B m g ∧ Ext w V := by
      intro V h
      subst hW0
      have h1 := ((((Ext.refl w).alloc (.cells #[.int .i64 Wx, .int .i64 Hx, .slice A n c] 27)).alloc (.cells #[.int .i64 Wy, .int .i64 Hy, .slice B m d] 27)).alloc (.cells #[.int .i64 r0, .int .i64 r1, .int .i64 r2, .int .i64 r3] 29)).alloc (.cells #[.int .i64 0, .int .i64 0, .slice none 0 0] 27) |>.trans h
      exact ⟨(((Blk.new _ _ _).alloc _).alloc _ |>.alloc _).ext h, (((Blk.new' (by simp) _ _).alloc _).alloc _).ext h, ((Blk.new' (by simp) _ _).alloc _).ext h, (Blk.new' (by simp) _ _).ext h, hA.ext h1, hB.ext h1, h1⟩
    have hsz : w.heap.size + 4 ≤ W0.heap.size := by subst hW0; simp
    replace hQ := Lib.hid hQ
    obtain ⟨q1, q2, q3, q4, q6, q7, q8⟩ := hQ.out W0 (Ext.refl W0)
    obtain ⟨c1c, c1f, c1l⟩ := q1.rules
    obtain ⟨c2c, c2f, c2l⟩ := q2.rules
    obtain ⟨c3c, c3f, c3l⟩ := q3.rules
    obtain ⟨c4c, c4f, c4l⟩ := q4.rules
    replace q6 := Lib.hid q6
    replace q7 := Lib.hid q7
    replace q8 := Lib.hid q8
    clear q1 q2 q3 q4
    go_enter Try.func17, Try.ntmps17
    go_wp2_with fail
    try rw [hW0]
    clear hW0
    refine (RCheck_any Wx Hx A n c f _ hn q6.out).mono ?_
    rintro e w1 ⟨rfl, hE1⟩
    replace hE1 := Lib.hid hE1
    clear c1c c1f c1l c2c c2f c2l c3c c3f c3l c4c c4f c4l q6 q7 q8
    obtain ⟨q1, q2, q3, q4, q6, q7, q8⟩ := hQ.out w1 hE1.out
    obtain ⟨c1c, c1f, c1l⟩ := q1.rules
    obtain ⟨c2c, c2f, c2l⟩ := q2.rules
    obtain ⟨c3c, c3f, c3l⟩ := q3.rules
    obtain ⟨c4c, c4f, c4l⟩ := q4.rules
    replace q6 := Lib.hid q6
    replace q7 := Lib.hid q7
    replace q8 := Lib.hid q8
    clear q1 q2 q3 q4
    go_wp2_with fail
    refine (RCheck_any Wy Hy B m d g _ hm q7.out).mono ?_
    rintro e w2 ⟨rfl, hE2⟩
    replace hE2 := Lib.hid (hE1.out.trans hE2)
    clear c1c c1f c1l c2c c2f c2l c3c c3f c3l c4c c4f c4l q6 q7 q8
    obtain ⟨q1, q2, q3, q4, q6, q7, q8⟩ := hQ.out w2 hE2.out
    obtain ⟨c1c, c1f, c1l⟩ := q1.rules
    obtain ⟨c2c, c2f, c2l⟩ := q2.rules
    obtain ⟨c3c, c3f, c3l⟩ := q3.rules
    obtain ⟨c4c, c4f, c4l⟩ := q4.rules
    replace q6 := Lib.hid q6
    replace q7 := Lib.hid q7
    replace q8 := Lib.hid q8
    clear q1 q2 q3 q4
    go_wp2_with fail
    refine bodyPost_ret (v := .tuple #[img 0 0 none 0 0, .int .i64 13]) (by simp [results, Try.results17, go_sem, *]) rfl ⟨rfl, ?_⟩
    exact ((q8.out.setCell (by simp; omega) _).setCell (by simp; omega) _).setCell (by simp; omega) _

theorem unknown_sh (W H : Int) (n c : Nat) (A : Option Addr) (f : Nat → Int) (a b c1 d : Int) (w : World) (hs : shI W H n) (hA : Ints w A n f) :
    Calls Try.prog 36 #[img W H A n c, rct a b c1 d] w (UnkPost (uL (unkB W f a b c1 d) n) w) := by
  obtain ⟨h1, h2, h3, h4, h5⟩ := hs
  obtain ⟨Wn, rfl⟩ := Int.eq_ofNat_of_zero_le h1
  obtain ⟨Hn, rfl⟩ := Int.eq_ofNat_of_zero_le h3
  exact unknown_any Wn Hn n c A f a b c1 d w (by omega) (by omega) (by exact_mod_cast h5) hA

set_option maxHeartbeats 2000000 in
set_option maxRecDepth 100000 in
theorem RFill_ok (Wx Hx : Int) (A : Option Addr) (n c : Nat) (f : Nat → Int) (Wy Hy : Int) (B : Option Addr) (m d : Nat) (g : Nat → Int) (r0 r1 r2 r3 : Int) (w : World)
    (hA : Ints w A n f) (hB : Ints w B m g) (hk1 : chkI Wx Hx n f = 0) (hk2 : chkI Wy Hy m g = 0) (hw : Wx = Wy) (hh : Hx = Hy) :
    Calls Try.prog 17 #[img Wx Hx A n c, img Wy Hy B m d, rct r0 r1 r2 r3] w (FillOk Wx Hx n f g (r0, r1, r2, r3) w) := by
  have hpost : ∀ e w', (∃ A c, e = .returned (.tuple #[img Wx Hx A n c, .int .i64 0]) ∧ n ≤ c ∧ Mine w' w.heap.size A 3 n (fun k => .int .i64 (fillF Wx f g (r0, r1, r2, r3) k)) ∧ Ext w w') → FillOk Wx Hx n f g (r0, r1, r2, r3) w e w' := fun _ _ h => h
  replace hpost := Lib.hid hpost
  obtain ⟨i0, hi, hz0, hz1, hz2⟩ := info_parts info_int
  have hsh := (chkI_ok.1 hk1).1
  have hmn : m = n := by
    have h1 := hsh.2.2.2.2
    have h2 := (chkI_ok.1 hk2).1.2.2.2.2
    rw [← hw, ← hh, ← h1] at h2
    omega
  have hnb : n ≤ 10000 := by
    have h1 := areaI ⟨hsh.1, hsh.2.1⟩ ⟨hsh.2.2.1, hsh.2.2.2.1⟩
    have h2 := hsh.2.2.2.2
    omega
  have hn : n ≤ 4611686018427387904 := by omega
  have hm : m ≤ 4611686018427387904 := by omega
  have h1 : (chkI Wx Hx n f != 0) = false := by simpa using hk1
  have h2 : (chkI Wy Hy m g != 0) = false := by simpa using hk2
  have d1 : (Wx != Wy) = false := by simpa using hw
  have d2 : (Hx != Hy) = false := by simpa using hh
  replace hk1 := Lib.hid hk1
  replace hk2 := Lib.hid hk2
  replace hw := Lib.hid hw
  replace hh := Lib.hid hh
  replace hsh := Lib.hid hsh
  replace hmn := Lib.hid hmn
  obtain ⟨W0, hW0⟩ : ∃ W0, (((w.alloc (.cells #[.int .i64 Wx, .int .i64 Hx, .slice A n c] 27)).alloc (.cells #[.int .i64 Wy, .int .i64 Hy, .slice B m d] 27)).alloc (.cells #[.int .i64 r0, .int .i64 r1, .int .i64 r2, .int .i64 r3] 29)).alloc (.cells #[.int .i64 0, .int .i64 0, .slice none 0 0] 27) = W0 := ⟨_, rfl⟩
  have hQ : ∀ V, Ext W0 V → Blk V w.heap.size 27 #[.int .i64 Wx, .int .i64 Hx, .slice A n c] ∧ Blk V (w.heap.size + 1) 27 #[.int .i64 Wy, .int .i64 Hy, .slice B m d] ∧
      Blk V (w.heap.size + 1 + 1) 29 #[.int .i64 r0, .int .i64 r1, .int .i64 r2, .int .i64 r3] ∧ Blk V (w.heap.size + 1 + 1 + 1) 27 #[.int .i64 0, .int .i64 0, .slice none 0 0] ∧
      Ints V A n f ∧ Ints V B m g ∧ Ext w V := by
    intro V h
    subst hW0
    have h1 := ((((Ext.refl w).alloc (.cells #[.int .i64 Wx, .int .i64 Hx, .slice A n c] 27)).alloc (.cells #[.int .i64 Wy, .int .i64 Hy, .slice B m d] 27)).alloc (.cells #[.int .i64 r0, .int .i64 r1, .int .i64 r2, .int .i64 r3] 29)).alloc (.cells #[.int .i64 0, .int .i64 0, .slice none 0 0] 27) |>.trans h
    exact ⟨(((Blk.new _ _ _).alloc _).alloc _ |>.alloc _).ext h, (((Blk.new' (by simp) _ _).alloc _).alloc _).ext h, ((Blk.new' (by simp) _ _).alloc _).ext h, (Blk.new' (by simp) _ _).ext h, hA.ext h1, hB.ext h1, h1⟩
  have hsz : w.heap.size + 4 ≤ W0.heap.size := by subst hW0; simp
  replace hQ := Lib.hid hQ
  obtain ⟨q1, q2, q3, q4, q6, q7, q8⟩ := hQ.out W0 (Ext.refl W0)
  obtain ⟨c1c, c1f, c1l⟩ := q1.rules
  obtain ⟨c2c, c2f, c2l⟩ := q2.rules
  obtain ⟨c3c, c3f, c3l⟩ := q3.rules
  obtain ⟨c4c, c4f, c4l⟩ := q4.rules
  replace q6 := Lib.hid q6
  replace q7 := Lib.hid q7
  replace q8 := Lib.hid q8
  clear q1 q2 q3 q4
  go_enter Try.func17, Try.ntmps17
  go_wp2_with fail
  try rw [hW0]
  clear hW0
  refine (RCheck_any Wx Hx A n c f _ hn q6.out).mono ?_
  rintro e w1 ⟨rfl, hE1⟩
  replace hE1 := Lib.hid hE1
  clear c1c c1f c1l c2c c2f c2l c3c c3f c3l c4c c4f c4l q6 q7 q8
  obtain ⟨q1, q2, q3, q4, q6, q7, q8⟩ := hQ.out w1 hE1.out
  obtain ⟨c1c, c1f, c1l⟩ := q1.rules
  obtain ⟨c2c, c2f, c2l⟩ := q2.rules
  obtain ⟨c3c, c3f, c3l⟩ := q3.rules
  obtain ⟨c4c, c4f, c4l⟩ := q4.rules
  replace q6 := Lib.hid q6
  replace q7 := Lib.hid q7
  replace q8 := Lib.hid q8
  clear q1 q2 q3 q4
  go_wp2_with fail
  refine (RCheck_any Wy Hy B m d g _ hm q7.out).mono ?_
  rintro e w2 ⟨rfl, hE2⟩
  replace hE2 := Lib.hid (hE1.out.trans hE2)
  clear c1c c1f c1l c2c c2f c2l c3c c3f c3l c4c c4f c4l q6 q7 q8
  obtain ⟨q1, q2, q3, q4, q6, q7, q8⟩ := hQ.out w2 hE2.out
  obtain ⟨c1c, c1f, c1l⟩ := q1.rules
  obtain ⟨c2c, c2f, c2l⟩ := q2.rules
  obtain ⟨c3c, c3f, c3l⟩ := q3.rules
  obtain ⟨c4c, c4f, c4l⟩ := q4.rules
  replace q6 := Lib.hid q6
  replace q7 := Lib.hid q7
  replace q8 := Lib.hid q8
  clear q1 q2 q3 q4
  go_wp2_with fail
  have hwsz := hE2.out.size
  obtain ⟨wr, rfl⟩ : ∃ wr, wr = w2 := ⟨_, rfl⟩
  go_cut [10] (fun sl wx => ∃ gf A' c' g2, sl = .pointer (some ⟨gf, 0, none⟩) ∧ n ≤ c' ∧ Blk wx gf 27 #[.int .i64 Wx, .int .i64 Hx, .slice A' n c'] ∧
    (0 < n → A' = some ⟨g2, 0, none⟩ ∧ wr.heap.size ≤ g2 ∧ g2 < wx.heap.size ∧ g2 ≠ gf ∧ ∃ cs, Blk wx g2 3 cs ∧ ∀ k, k < n → cs[k]? = some (.int .i64 (f k))) ∧ wr.heap.size ≤ gf ∧ Ext wr wx)
  case first =>
    refine Flow.wp_tree 10 (.two [(0, true), (1, true), (2, true), (3, true), (5, true), (6, true)] 4 (.two [] 7 (.fin [(8, true), (9, false)]) 9 (.fin [(7, false), (8, true)])) 9 (.fin [(4, false), (7, false), (8, true)])) (by kernel_rfl) (by kernel_rfl) ?_
    simp only [Flow.Tr.seq, Flow.sq, List.map_cons, List.map_nil, List.getD_cons_succ, List.getD_cons_zero]
    repeat (first
      | (refine Flow.WalkL.move rfl ?_
         simp only [Act.put, Act.eval, Array.getD_eq_getD_getElem?, List.getElem?_toArray, List.getElem?_cons_succ, List.getElem?_cons_zero, Option.getD_some, List.setIfInBounds_toArray, List.set_cons_zero, List.set_cons_succ])
      | (refine Flow.WalkL.assign rfl ?_
         simp only [Act.put, Act.eval, Array.getD_eq_getD_getElem?, List.getElem?_toArray, List.getElem?_cons_succ, List.getElem?_cons_zero, Option.getD_some, List.setIfInBounds_toArray, List.set_cons_zero, List.set_cons_succ])
      | (refine Flow.WalkL.run (v := ?_) rfl (fun w1 hC => ?_) ?_
         rotate_left
         · obtain ⟨hCc, hCf⟩ := hC.rules
           go_simp
           with_reducible rfl
         simp only [Act.put, List.setIfInBounds_toArray, List.set_cons_zero, List.set_cons_succ]))
    refine Flow.WalkL.nil (fun v0 hv0 => Flow.cont_and ?_ ?_)
    · simp only [Flow.Tr.seq, Flow.sq, List.map_cons, List.map_nil, List.getD_cons_succ, List.getD_cons_zero]
      repeat (first
        | (refine Flow.WalkL.move rfl ?_
           simp only [Act.put, Act.eval, Array.getD_eq_getD_getElem?, List.getElem?_toArray, List.getElem?_cons_succ, List.getElem?_cons_zero, Option.getD_some, List.setIfInBounds_toArray, List.set_cons_zero, List.set_cons_succ])
        | (refine Flow.WalkL.assign rfl ?_
           simp only [Act.put, Act.eval, Array.getD_eq_getD_getElem?, List.getElem?_toArray, List.getElem?_cons_succ, List.getElem?_cons_zero, Option.getD_some, List.setIfInBounds_toArray, List.set_cons_zero, List.set_cons_succ])
        | (refine Flow.WalkL.run (v := ?_) rfl (fun w1 hC => ?_) ?_
           rotate_left
           · obtain ⟨hCc, hCf⟩ := hC.rules
             go_simp
             with_reducible rfl
           simp only [Act.put, List.setIfInBounds_toArray, List.set_cons_zero, List.set_cons_succ]))
      refine Flow.WalkL.openrun (fun w1 => .slice (some ⟨w1.heap.size, 0, none⟩) 0 0) (fun w1 => w1.alloc (.cells #[] 3)) rfl (fun v1 hv1 => by go_simp; try rfl) (fun v1 hv1 => ⟨(Ext.refl _).alloc _, ?_⟩)
      simp only [Act.put, List.setIfInBounds_toArray, List.set_cons_zero, List.set_cons_succ]
      have s1 := hv1.size
      refine Flow.WalkL.nil (fun v2 hv2 => Flow.cont_and ?_ ?_)
      · simp only [Flow.Tr.seq, Flow.sq, List.map_cons, List.map_nil, List.getD_cons_succ, List.getD_cons_zero]
        repeat (first
          | (refine Flow.WalkL.move rfl ?_
             simp only [Act.put, Act.eval, Array.getD_eq_getD_getElem?, List.getElem?_toArray, List.getElem?_cons_succ, List.getElem?_cons_zero, Option.getD_some, List.setIfInBounds_toArray, List.set_cons_zero, List.set_cons_succ])
          | (refine Flow.WalkL.assign rfl ?_
             simp only [Act.put, Act.eval, Array.getD_eq_getD_getElem?, List.getElem?_toArray, List.getElem?_cons_succ, List.getElem?_cons_zero, Option.getD_some, List.setIfInBounds_toArray, List.set_cons_zero, List.set_cons_succ])
          | (refine Flow.WalkL.run (v := ?_) rfl (fun w1 hC => ?_) ?_
             rotate_left
             · obtain ⟨hCc, hCf⟩ := hC.rules
               go_simp
               with_reducible rfl
             simp only [Act.put, List.setIfInBounds_toArray, List.set_cons_zero, List.set_cons_succ]))
        have s2 := hv2.size
        refine Flow.WalkL.opencopy i0 (.int .i64 0) 8 Try.underlying23 hi hz0 hz1 hz2 rfl (by omega) rfl A n c rfl ((List.range n).map (fun k => .int .i64 (f k))) (by simp) (by omega) (by omega) rfl ((Blk.new v1 _ _).ext hv2) (Lst.of_arr ((q6.out).ext (hv0.trans ((hv1.alloc _).trans hv2)))) (fun w2 w3 v' hw2 hrow hw3 => ?_)
        obtain ⟨A', c', rfl, hcap, hM⟩ := Mine.of_row hrow (F := fun k => .int .i64 (f k)) (fun k hk => row_get hk)
        simp only [Act.put, List.setIfInBounds_toArray, List.set_cons_zero, List.set_cons_succ]
        have s3 := hw2.size
        have s4 := hw3.size
        repeat (first
          | (refine Flow.WalkL.move rfl ?_
             simp only [Act.put, Act.eval, Array.getD_eq_getD_getElem?, List.getElem?_toArray, List.getElem?_cons_succ, List.getElem?_cons_zero, Option.getD_some, List.setIfInBounds_toArray, List.set_cons_zero, List.set_cons_succ])
          | (refine Flow.WalkL.assign rfl ?_
             simp only [Act.put, Act.eval, Array.getD_eq_getD_getElem?, List.getElem?_toArray, List.getElem?_cons_succ, List.getElem?_cons_zero, Option.getD_some, List.setIfInBounds_toArray, List.set_cons_zero, List.set_cons_succ])
          | (refine Flow.WalkL.run (v := ?_) rfl (fun w1 hC => ?_) ?_
             rotate_left
             · obtain ⟨hCc, hCf⟩ := hC.rules
               go_simp
               with_reducible rfl
             simp only [Act.put, List.setIfInBounds_toArray, List.set_cons_zero, List.set_cons_succ]))
        refine Flow.WalkL.openrun (fun w1 => .pointer (some ⟨w1.heap.size, 0, none⟩)) (fun w1 => w1.alloc (.cells #[.int .i64 0, .int .i64 0, .slice none 0 0] 27)) rfl (fun v1 hv1 => by go_simp; try rfl) (fun v5 hv5 => ⟨(Ext.refl _).alloc _, ?_⟩)
        simp only [Act.put, List.setIfInBounds_toArray, List.set_cons_zero, List.set_cons_succ]
        have s5 := hv5.size
        simp only [World.size_alloc] at s2
        refine Flow.WalkL.nil (fun w9 hw9 => Flow.cont_fin ?_)
        simp only [List.drop]
        have hG9 := ((Blk.new v5 _ _).ext hw9)
        have hM9 := ((hM.ext hv5).ext ((Ext.refl v5).alloc _ |>.trans hw9))
        have hE9 := (hv0.trans ((hv1.alloc _).trans (hv2.trans (hw2.trans (hw3.trans ((hv5.alloc _).trans hw9))))))
        obtain ⟨gc, gf, gl⟩ := hG9.rules
        replace hG9 := Lib.hid hG9
        replace hM9 := Lib.hid hM9
        replace hE9 := Lib.hid hE9
        go_wp2_with fail
        go_meet
        obtain ⟨g2, hg2⟩ := mine_pick hM9.out
        refine ⟨v5.heap.size, A', c', g2, rfl, hcap, ?_, fun h0 => ?_, ?_, ?_⟩
        · have := ((hG9.out.set_ 0 (.int .i64 Wx)).set_ 1 (.int .i64 Hx)).set_ 2 (.slice A' n c'); simpa using this
        · obtain ⟨e1, e2, cs, hb, hc⟩ := hg2 h0
          have hne := blk_ne hb hG9.out (by decide)
          refine ⟨e1, by have := hv0.size; omega, ?_, hne, cs, ((hb.far (p := ⟨v5.heap.size, 0, none⟩) hne _).far (p := ⟨v5.heap.size, 1, none⟩) hne _).far (p := ⟨v5.heap.size, 2, none⟩) hne _, hc⟩
          have := hb.lt; simpa using this
        · have := hv0.size; omega
        · exact ((hE9.out.setCell (by have := hv0.size; simp; omega) _).setCell (by have := hv0.size; simp; omega) _).setCell (by have := hv0.size; simp; omega) _
      · simp only [Flow.Tr.seq, Flow.sq, List.map_cons, List.map_nil, List.getD_cons_succ, List.getD_cons_zero]
        repeat (first
          | (refine Flow.WalkL.move rfl ?_
             simp only [Act.put, Act.eval, Array.getD_eq_getD_getElem?, List.getElem?_toArray, List.getElem?_cons_succ, List.getElem?_cons_zero, Option.getD_some, List.setIfInBounds_toArray, List.set_cons_zero, List.set_cons_succ])
          | (refine Flow.WalkL.assign rfl ?_
             simp only [Act.put, Act.eval, Array.getD_eq_getD_getElem?, List.getElem?_toArray, List.getElem?_cons_succ, List.getElem?_cons_zero, Option.getD_some, List.setIfInBounds_toArray, List.set_cons_zero, List.set_cons_succ])
          | (refine Flow.WalkL.run (v := ?_) rfl (fun w1 hC => ?_) ?_
             rotate_left
             · obtain ⟨hCc, hCf⟩ := hC.rules
               go_simp
               with_reducible rfl
             simp only [Act.put, List.setIfInBounds_toArray, List.set_cons_zero, List.set_cons_succ]))
        refine Flow.WalkL.openrun (fun w1 => .pointer (some ⟨w1.heap.size, 0, none⟩)) (fun w1 => w1.alloc (.cells #[.int .i64 0, .int .i64 0, .slice none 0 0] 27)) rfl (fun v1 hv1 => by go_simp; try rfl) (fun v5 hv5 => ⟨(Ext.refl _).alloc _, ?_⟩)
        simp only [Act.put, List.setIfInBounds_toArray, List.set_cons_zero, List.set_cons_succ]
        have s5 := hv5.size
        have s2 := hv2.size
        simp only [World.size_alloc] at s2
        refine Flow.WalkL.opencopy i0 (.int .i64 0) 8 Try.underlying23 hi hz0 hz1 hz2 rfl (by omega) rfl A n c rfl ((List.range n).map (fun k => .int .i64 (f k))) (by simp) (by omega) (by omega) rfl (((Blk.new v1 _ _).ext hv2).ext (hv5.alloc _)) (Lst.of_arr ((q6.out).ext (hv0.trans ((hv1.alloc _).trans (hv2.trans (hv5.alloc _)))))) (fun w2 w3 v' hw2 hrow hw3 => ?_)
        obtain ⟨A', c', rfl, hcap, hM⟩ := Mine.of_row hrow (F := fun k => .int .i64 (f k)) (fun k hk => row_get hk)
        simp only [Act.put, List.setIfInBounds_toArray, List.set_cons_zero, List.set_cons_succ]
        have s3 := hw2.size
        have s4 := hw3.size
        repeat (first
          | (refine Flow.WalkL.move rfl ?_
             simp only [Act.put, Act.eval, Array.getD_eq_getD_getElem?, List.getElem?_toArray, List.getElem?_cons_succ, List.getElem?_cons_zero, Option.getD_some, List.setIfInBounds_toArray, List.set_cons_zero, List.set_cons_succ])
          | (refine Flow.WalkL.assign rfl ?_
             simp only [Act.put, Act.eval, Array.getD_eq_getD_getElem?, List.getElem?_toArray, List.getElem?_cons_succ, List.getElem?_cons_zero, Option.getD_some, List.setIfInBounds_toArray, List.set_cons_zero, List.set_cons_succ])
          | (refine Flow.WalkL.run (v := ?_) rfl (fun w1 hC => ?_) ?_
             rotate_left
             · obtain ⟨hCc, hCf⟩ := hC.rules
               go_simp
               with_reducible rfl
             simp only [Act.put, List.setIfInBounds_toArray, List.set_cons_zero, List.set_cons_succ]))
        refine Flow.WalkL.nil (fun w9 hw9 => Flow.cont_fin ?_)
        simp only [List.drop]
        have hG9 := (((Blk.new v5 _ _).ext (hw2.trans hw3)).ext hw9)
        have hM9 := (hM.ext hw9)
        have hE9 := (hv0.trans ((hv1.alloc _).trans (hv2.trans ((hv5.alloc _).trans (hw2.trans (hw3.trans hw9))))))
        obtain ⟨gc, gf, gl⟩ := hG9.rules
        replace hG9 := Lib.hid hG9
        replace hM9 := Lib.hid hM9
        replace hE9 := Lib.hid hE9
        go_wp2_with fail
        go_meet
        obtain ⟨g2, hg2⟩ := mine_pick hM9.out
        refine ⟨v5.heap.size, A', c', g2, rfl, hcap, ?_, fun h0 => ?_, ?_, ?_⟩
        · have := ((hG9.out.set_ 0 (.int .i64 Wx)).set_ 1 (.int .i64 Hx)).set_ 2 (.slice A' n c'); simpa using this
        · obtain ⟨e1, e2, cs, hb, hc⟩ := hg2 h0
          have hne := blk_ne hb hG9.out (by decide)
          refine ⟨e1, by have := hv0.size; omega, ?_, hne, cs, ((hb.far (p := ⟨v5.heap.size, 0, none⟩) hne _).far (p := ⟨v5.heap.size, 1, none⟩) hne _).far (p := ⟨v5.heap.size, 2, none⟩) hne _, hc⟩
          have := hb.lt; simpa using this
        · have := hv0.size; omega
        · exact ((hE9.out.setCell (by have := hv0.size; simp; omega) _).setCell (by have := hv0.size; simp; omega) _).setCell (by have := hv0.size; simp; omega) _
    · simp only [Flow.Tr.seq, Flow.sq, List.map_cons, List.map_nil, List.getD_cons_succ, List.getD_cons_zero]
      repeat (first
        | (refine Flow.WalkL.move rfl ?_
           simp only [Act.put, Act.eval, Array.getD_eq_getD_getElem?, List.getElem?_toArray, List.getElem?_cons_succ, List.getElem?_cons_zero, Option.getD_some, List.setIfInBounds_toArray, List.set_cons_zero, List.set_cons_succ])
        | (refine Flow.WalkL.assign rfl ?_
           simp only [Act.put, Act.eval, Array.getD_eq_getD_getElem?, List.getElem?_toArray, List.getElem?_cons_succ, List.getElem?_cons_zero, Option.getD_some, List.setIfInBounds_toArray, List.set_cons_zero, List.set_cons_succ])
        | (refine Flow.WalkL.run (v := ?_) rfl (fun w1 hC => ?_) ?_
           rotate_left
           · obtain ⟨hCc, hCf⟩ := hC.rules
             go_simp
             with_reducible rfl
           simp only [Act.put, List.setIfInBounds_toArray, List.set_cons_zero, List.set_cons_succ]))
      refine Flow.WalkL.openrun (fun w1 => .pointer (some ⟨w1.heap.size, 0, none⟩)) (fun w1 => w1.alloc (.cells #[.int .i64 0, .int .i64 0, .slice none 0 0] 27)) rfl (fun v1 hv1 => by go_simp; try rfl) (fun v5 hv5 => ⟨(Ext.refl _).alloc _, ?_⟩)
      simp only [Act.put, List.setIfInBounds_toArray, List.set_cons_zero, List.set_cons_succ]
      have s5 := hv5.size
      refine Flow.WalkL.openrun (fun w1 => .slice (some ⟨w1.heap.size, 0, none⟩) 0 0) (fun w1 => w1.alloc (.cells #[] 3)) rfl (fun v1 hv1 => by go_simp; try rfl) (fun v1 hv1 => ⟨(Ext.refl _).alloc _, ?_⟩)
      simp only [Act.put, List.setIfInBounds_toArray, List.set_cons_zero, List.set_cons_succ]
      have s1 := hv1.size
      simp only [World.size_alloc] at s1
      refine Flow.WalkL.opencopy i0 (.int .i64 0) 8 Try.underlying23 hi hz0 hz1 hz2 rfl (by omega) rfl A n c rfl ((List.range n).map (fun k => .int .i64 (f k))) (by simp) (by omega) (by omega) rfl (Blk.new v1 _ _) (Lst.of_arr ((q6.out).ext (hv0.trans ((hv5.alloc _).trans (hv1.alloc _))))) (fun w2 w3 v' hw2 hrow hw3 => ?_)
      obtain ⟨A', c', rfl, hcap, hM⟩ := Mine.of_row hrow (F := fun k => .int .i64 (f k)) (fun k hk => row_get hk)
      simp only [Act.put, List.setIfInBounds_toArray, List.set_cons_zero, List.set_cons_succ]
      have s3 := hw2.size
      have s4 := hw3.size
      repeat (first
        | (refine Flow.WalkL.move rfl ?_
           simp only [Act.put, Act.eval, Array.getD_eq_getD_getElem?, List.getElem?_toArray, List.getElem?_cons_succ, List.getElem?_cons_zero, Option.getD_some, List.setIfInBounds_toArray, List.set_cons_zero, List.set_cons_succ])
        | (refine Flow.WalkL.assign rfl ?_
           simp only [Act.put, Act.eval, Array.getD_eq_getD_getElem?, List.getElem?_toArray, List.getElem?_cons_succ, List.getElem?_cons_zero, Option.getD_some, List.setIfInBounds_toArray, List.set_cons_zero, List.set_cons_succ])
        | (refine Flow.WalkL.run (v := ?_) rfl (fun w1 hC => ?_) ?_
           rotate_left
           · obtain ⟨hCc, hCf⟩ := hC.rules
             go_simp
             with_reducible rfl
           simp only [Act.put, List.setIfInBounds_toArray, List.set_cons_zero, List.set_cons_succ]))
      refine Flow.WalkL.nil (fun w9 hw9 => Flow.cont_fin ?_)
      simp only [List.drop]
      have hG9 := (((Blk.new v5 _ _).ext (hv1.alloc _)).ext (hw2.trans (hw3.trans hw9)))
      have hM9 := (hM.ext hw9)
      have hE9 := (hv0.trans ((hv5.alloc _).trans ((hv1.alloc _).trans (hw2.trans (hw3.trans hw9)))))
      obtain ⟨gc, gf, gl⟩ := hG9.rules
      replace hG9 := Lib.hid hG9
      replace hM9 := Lib.hid hM9
      replace hE9 := Lib.hid hE9
      go_wp2_with fail
      go_meet
      obtain ⟨g2, hg2⟩ := mine_pick hM9.out
      refine ⟨v5.heap.size, A', c', g2, rfl, hcap, ?_, fun h0 => ?_, ?_, ?_⟩
      · have := ((hG9.out.set_ 0 (.int .i64 Wx)).set_ 1 (.int .i64 Hx)).set_ 2 (.slice A' n c'); simpa using this
      · obtain ⟨e1, e2, cs, hb, hc⟩ := hg2 h0
        have hne := blk_ne hb hG9.out (by decide)
        refine ⟨e1, by have := hv0.size; omega, ?_, hne, cs, ((hb.far (p := ⟨v5.heap.size, 0, none⟩) hne _).far (p := ⟨v5.heap.size, 1, none⟩) hne _).far (p := ⟨v5.heap.size, 2, none⟩) hne _, hc⟩
        have := hb.lt; simpa using this
      · have := hv0.size; omega
      · exact ((hE9.out.setCell (by have := hv0.size; simp; omega) _).setCell (by have := hv0.size; simp; omega) _).setCell (by have := hv0.size; simp; omega) _
  case rest =>
  obtain ⟨gf, A', c', g2, rfl, hcap, hG, hg2, hgf, hEc⟩ := hcut
  clear c1c c1f c1l c2c c2f c2l c3c c3f c3l c4c c4f c4l q6 q7 q8
  have hE3 := Lib.hid (hE2.out.trans hEc)
  have hcs := hEc.size
  obtain ⟨q1, q2, q3, q4, q6, q7, q8⟩ := hQ.out _ hE3.out
  obtain ⟨c1c, c1f, c1l⟩ := q1.rules
  obtain ⟨c3c, c3f, c3l⟩ := q3.rules
  have hgl := hG.lt
  replace hg2 := Lib.hid hg2
  replace hG := Lib.hid hG
  replace q2 := Lib.hid q2
  replace q4 := Lib.hid q4
  replace q6 := Lib.hid q6
  replace q8 := Lib.hid q8
  clear q1 q3 q7
  go_wp2_with fail
  refine (unknown_sh Wx Hx n c A f r0 r1 r2 r3 wc hsh.out q6.out).mono ?_
  rintro e w4 ⟨vv, rfl, hvr, hE4⟩
  clear c1c c1f c1l c3c c3f c3l
  obtain ⟨L, hLd⟩ : ∃ L, uL (unkB Wx f r0 r1 r2 r3) n = L := ⟨_, rfl⟩
  rw [hLd] at hvr
  have hLb : L.length ≤ n := by
    have h1 := uL_len (unkB Wx f r0 r1 r2 r3) n
    have h2 := cnt_le (unkB Wx f r0 r1 r2 r3) n
    rw [hLd] at h1
    omega
  obtain ⟨AL, cL, rfl, -, hL0⟩ := Mine.of_row hvr (F := fun j => .int .i64 ((L.getD j 0 : Nat) : Int)) (fun j hj => by rw [List.getElem?_map, List.getElem?_eq_getElem hj]; simp [List.getD, List.getElem?_eq_getElem hj])
  obtain ⟨gl, hL⟩ : ∃ gl, 0 < L.length → AL = some ⟨gl, 0, none⟩ ∧ wc.heap.size ≤ gl ∧ ∃ cs : Array Value, Blk w4 gl 3 cs ∧ ∀ (j p : Nat), L[j]? = some p → cs[j]? = some (Value.int .i64 ((p : Nat) : Int)) := by
    by_cases h0 : 0 < L.length
    · obtain ⟨gl, e1, e2, cs, e3, e4⟩ := hL0 h0
      exact ⟨gl, fun _ => ⟨e1, e2, cs, e3, fun j p hj => by
        have hjl := (List.getElem?_eq_some_iff.1 hj).1
        rw [e4 j hjl]; simp [List.getD, hj]⟩⟩
    · exact ⟨0, fun h => absurd h h0⟩
  clear hL0 hvr
  replace hLd := Lib.hid hLd
  have hmem : ∀ (j p : Nat), L[j]? = some p → p < n := fun j p hj => (mem_uL.1 (by rw [hLd.out]; exact List.mem_of_getElem? hj : p ∈ uL (unkB Wx f r0 r1 r2 r3) n)).1
  replace hmem := Lib.hid hmem
  have hJ0 : Blk w4 (w.heap.size + 1) 27 #[.int .i64 Wy, .int .i64 Hy, .slice B m d] ∧ Blk w4 gf 27 #[.int .i64 Wx, .int .i64 Hx, .slice A' n c'] ∧ Blk w4 (w.heap.size + 1 + 1 + 1) 27 #[.int .i64 0, .int .i64 0, .slice none 0 0] ∧
      (0 < n → ∃ cs, Blk w4 g2 3 cs ∧ ∀ k, k < n → cs[k]? = some (.int .i64 (mixL (L.take 0) f g k))) ∧ (0 < L.length → ∃ cs : Array Value, Blk w4 gl 3 cs ∧ ∀ (j p : Nat), L[j]? = some p → cs[j]? = some (Value.int .i64 ((p : Nat) : Int))) ∧ Ext w w4 :=
    ⟨q2.out.ext hE4, hG.out.ext hE4, q4.out.ext hE4, fun h0 => by
      obtain ⟨_, _, _, _, cs, hb, hc⟩ := hg2.out h0
      exact ⟨cs, hb.ext hE4, fun k hk => by rw [hc k hk]; simp [mixL]⟩, fun h0 => (hL h0).2.2, q8.out.trans hE4⟩
  have hgg : 0 < n → A' = some ⟨g2, 0, none⟩ ∧ wr.heap.size ≤ g2 ∧ g2 < wc.heap.size ∧ g2 ≠ gf := fun h0 => let ⟨e1, e2, e3, e4, _⟩ := hg2.out h0; ⟨e1, e2, e3, e4⟩
  have hLL : 0 < L.length → AL = some ⟨gl, 0, none⟩ ∧ wc.heap.size ≤ gl := fun h0 => let ⟨e1, e2, _⟩ := hL h0; ⟨e1, e2⟩
  replace hgg := Lib.hid hgg
  replace hLL := Lib.hid hLL
  replace hJ0 := Lib.hid hJ0
  clear hL hg2 hG q2 q4 q6 q8 hE4
  obtain ⟨N, hN⟩ : ∃ N, L.length = N := ⟨_, rfl⟩
  rw [hN] at hLb hJ0 hLL ⊢
  replace hN := Lib.hid hN
  go_wp2_with fail
  go_loopw [12] (fun i wr => ∃ k : Nat, k ≤ N ∧ i = .int .i64 k ∧ (Blk wr (w.heap.size + 1) 27 #[.int .i64 Wy, .int .i64 Hy, .slice B m d] ∧ Blk wr gf 27 #[.int .i64 Wx, .int .i64 Hx, .slice A' n c'] ∧ Blk wr (w.heap.size + 1 + 1 + 1) 27 #[.int .i64 0, .int .i64 0, .slice none 0 0] ∧
      (0 < n → ∃ cs, Blk wr g2 3 cs ∧ ∀ j, j < n → cs[j]? = some (.int .i64 (mixL (L.take k) f g j))) ∧ (0 < N → ∃ cs : Array Value, Blk wr gl 3 cs ∧ ∀ (j p : Nat), L[j]? = some p → cs[j]? = some (Value.int .i64 ((p : Nat) : Int))) ∧ Ext w wr)) (fun i _ => N - (intOf i).toNat)
  case atStart => exact ⟨0, by omega, rfl, hJ0.out⟩
  case round =>
    clear hJ0
    obtain ⟨k, hk, rfl, hY, hF, hZ, hM, hR, hE⟩ := hrel
    by_cases hlt : k < N
    · have hlt' : (k : Int) < N := by omega
      obtain ⟨e1, e2⟩ := hLL.out (by omega)
      obtain ⟨e3, e4, e5, e6⟩ := hgg.out (by omega)
      subst e1
      subst e3
      obtain ⟨ls, hlb, hlc⟩ := hR (by omega)
      obtain ⟨cs, hb, hcc⟩ := hM (by omega)
      obtain ⟨p, hp⟩ : ∃ p, L[k]? = some p := ⟨L[k]'(by rw [hN.out]; omega), List.getElem?_eq_getElem _⟩
      have hpn := hmem.out k p hp
      have hpm : p < m := by rw [hmn.out]; exact hpn
      have hpn' : (p : Int) < n := by omega
      have hpm' : (p : Int) < m := by omega
      obtain ⟨bd, rfl, hbw⟩ := hB p hpm
      have hbl := lt_of_cell hbw
      have hws := hE.size
      have hwq := hF.lt
      obtain ⟨bd', hbe, hbc⟩ := hB.ext hE p hpm
      obtain rfl := Option.some.inj hbe
      replace hbc : wr.cell? (bd.add p) = some (.int .i64 (g p)) := hbc
      have hbl2 : bd.block < wr.heap.size := by omega
      have hlp := hlc k p hp
      have hcp := hcc p hpn
      obtain ⟨yc, yf, yl⟩ := hY.rules
      obtain ⟨fc, ff, fl⟩ := hF.rules
      obtain ⟨gc, ggf, ggl⟩ := hb.rules
      obtain ⟨lc, lf, ll⟩ := hlb.rules
      replace hY := Lib.hid hY
      replace hF := Lib.hid hF
      replace hZ := Lib.hid hZ
      replace hb := Lib.hid hb
      replace hlb := Lib.hid hlb
      replace hE := Lib.hid hE
      replace hcc := Lib.hid hcc
      replace hlc := Lib.hid hlc
      replace hp := Lib.hid hp
      replace hbw := Lib.hid hbw
      clear hM hR hbe
      go_wp2_with fail
      refine Flow.wp_flow 15 [(0, true), (1, true), (2, true), (3, true), (4, true), (5, true), (6, true), (7, true), (8, true), (9, true), (10, true), (11, true), (12, true), (13, true), (14, true)] (by kernel_rfl) (by kernel_rfl) ?_
      simp only [List.map_cons, List.map_nil, List.getD_cons_succ, List.getD_cons_zero]
      repeat (first
        | (refine Flow.WalkL.move rfl ?_
           simp only [Act.put, Act.eval, Array.getD_eq_getD_getElem?, List.getElem?_toArray, List.getElem?_cons_succ, List.getElem?_cons_zero, Option.getD_some, List.setIfInBounds_toArray, List.set_cons_zero, List.set_cons_succ])
        | (refine Flow.WalkL.assign rfl ?_
           simp only [Act.put, Act.eval, Array.getD_eq_getD_getElem?, List.getElem?_toArray, List.getElem?_cons_succ, List.getElem?_cons_zero, Option.getD_some, List.setIfInBounds_toArray, List.set_cons_zero, List.set_cons_succ])
        | (refine Flow.WalkL.run (v := ?_) rfl (fun w1 hC => ?_) ?_
           rotate_left
           · obtain ⟨hCc, hCf⟩ := hC.rules
             go_simp
             with_reducible rfl
           simp only [Act.put, List.setIfInBounds_toArray, List.set_cons_zero, List.set_cons_succ]))
      refine Flow.WalkL.nil ?_
      simp only [List.drop]
      intro w9 hC
      have hY9 := Lib.hid (hY.out.ext hC)
      have hF9 := Lib.hid (hF.out.ext hC)
      have hZ9 := Lib.hid (hZ.out.ext hC)
      have hb9 := hb.out.ext hC
      have hlb9 := Lib.hid (hlb.out.ext hC)
      have hE9 := Lib.hid (hE.out.trans hC)
      clear yc yf yl fc ff fl gc ggf ggl lc lf ll
      obtain ⟨gc, ggf, ggl⟩ := hb9.rules
      replace hb9 := Lib.hid hb9
      replace hC := Lib.hid hC
      go_wp2_with fail
      exact ⟨⟨k + 1, by omega, by go_num, hY9.out.far (by simp; omega) _, hF9.out.far (by simp; omega) _, hZ9.out.far (by simp; omega) _, fun _ => ⟨_, hb9.out.set_ p _, fun j hj => by
        rw [mixL_step hp.out]
        have hpc : p < cs.size := (Array.getElem?_eq_some_iff.1 hcp).1
        by_cases e : j = p
        · subst e; rw [if_pos rfl]; simp [hpc]
        · rw [if_neg e, Array.getElem?_setIfInBounds_ne (Ne.symm e)]; exact hcc.out j hj⟩,
        fun _ => ⟨ls, hlb9.out.far (by simp; omega) _, hlc.out⟩, hE9.out.setCell (by simp; omega) _⟩, by simp only [intOf]; omega⟩
    · obtain rfl : k = N := by omega
      have hws := hE.size
      have hlt' : ¬ ((k : Int) < k) := by omega
      obtain ⟨fc, ff, fl⟩ := hF.rules
      obtain ⟨zc, zf, zl⟩ := hZ.rules
      have hfin := hpost.out (.returned (.tuple #[img Wx Hx A' n c', .int .i64 0])) (((wr.setCell ⟨w.heap.size + 1 + 1 + 1, 0, none⟩ (.int .i64 Wx)).setCell ⟨w.heap.size + 1 + 1 + 1, 1, none⟩ (.int .i64 Hx)).setCell ⟨w.heap.size + 1 + 1 + 1, 2, none⟩ (.slice A' n c'))
        ⟨A', c', rfl, hcap, fun h0 => by
          obtain ⟨e1, e2, e3, e4⟩ := hgg.out h0
          obtain ⟨cs, hb, hc⟩ := hM h0
          refine ⟨g2, e1, by omega, cs, ((hb.far (p := ⟨w.heap.size + 1 + 1 + 1, 0, none⟩) (by simp; omega) _).far (p := ⟨w.heap.size + 1 + 1 + 1, 1, none⟩) (by simp; omega) _).far (p := ⟨w.heap.size + 1 + 1 + 1, 2, none⟩) (by simp; omega) _, fun j hj => ?_⟩
          rw [hc j hj, ← hN.out, List.take_length, ← hLd.out]
          simp only [mixL, fillF, mem_uL, unkR, hj, true_and]
          by_cases hu : unkB Wx f r0 r1 r2 r3 j = true <;> simp [hu],
          ((hE.setCell (by simp; omega) _).setCell (by simp; omega) _).setCell (by simp; omega) _⟩
      replace hfin := Lib.hid hfin
      clear hpost hM hE hF hZ hY hR
      go_wp2_with fail
      exact bodyPost_ret (v := .tuple #[img Wx Hx A' n c', .int .i64 0]) (by simp [results, Try.results17, go_sem, *]) rfl hfin.out

theorem RFill_any (Wx Hx : Int) (A : Option Addr) (n c : Nat) (f : Nat → Int) (Wy Hy : Int) (B : Option Addr) (m d : Nat) (g : Nat → Int) (r0 r1 r2 r3 : Int) (w : World)
    (hn : n ≤ 4611686018427387904) (hm : m ≤ 4611686018427387904) (hA : Ints w A n f) (hB : Ints w B m g) :
    Calls Try.prog 17 #[img Wx Hx A n c, img Wy Hy B m d, rct r0 r1 r2 r3] w (FillPost Wx Hx n f Wy Hy m g (r0, r1, r2, r3) w) := by
  by_cases h1 : chkI Wx Hx n f = 0
  · by_cases h2 : chkI Wy Hy m g = 0
    · by_cases hd : Wx = Wy ∧ Hx = Hy
      · have he : fillE Wx Hx n f Wy Hy m g = 0 := by unfold fillE; rw [if_pos h1, if_pos h2, if_pos hd]
        exact (RFill_ok Wx Hx A n c f Wy Hy B m d g r0 r1 r2 r3 w hA hB h1 h2 hd.1 hd.2).mono fun e w' hp => .inr ⟨he, hp⟩
      · have he : fillE Wx Hx n f Wy Hy m g = 13 := by unfold fillE; rw [if_pos h1, if_pos h2, if_neg hd]
        exact (RFill_bad3 Wx Hx A n c f Wy Hy B m d g r0 r1 r2 r3 w hn hm hA hB (by simpa using h1) (by simpa using h2) hd).mono fun e w' hp => .inl ⟨by rw [he]; omega, by rw [he]; exact hp.1, hp.2⟩
    · have he : fillE Wx Hx n f Wy Hy m g = chkI Wy Hy m g := by unfold fillE; rw [if_pos h1, if_neg h2]
      exact (RFill_bad2 Wx Hx A n c f Wy Hy B m d g r0 r1 r2 r3 w hn hm hA hB (by simpa using h1) (by simpa using h2)).mono fun e w' hp => .inl ⟨by rw [he]; exact h2, by rw [he]; exact hp.1, hp.2⟩
  · have he : fillE Wx Hx n f Wy Hy m g = chkI Wx Hx n f := by unfold fillE; rw [if_neg h1]
    exact (RFill_bad1 Wx Hx A n c f Wy Hy B m d g r0 r1 r2 r3 w hn hA hB (by simpa using h1)).mono fun e w' hp => .inl ⟨by rw [he]; exact h1, by rw [he]; exact hp.1, hp.2⟩
end Go.Proofs.Ytcdnpnbjloaihaa
end
