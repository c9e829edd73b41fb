/- Parts of the proof: PbFill, PbFillA. -/
import Derived.Test.YtcdnpnbjloaihaaProg
import Derived.Test.YtcdnpnbjloaihaaG13
import Derived.Test.YtcdnpnbjloaihaaG09
import Derived.Test.YtcdnpnbjloaihaaG16
import Derived.Test.YtcdnpnbjloaihaaG17
import Derived.Deep.DeepCutAuto
set_option linter.unusedSimpArgs false
set_option linter.unusedVariables false
section
/- probe.Fill. No condition but those that each states. -/
namespace Go.Proofs.Ytcdnpnbjloaihaa
open Go.RowKit Go.Flow Go.Plain
open Go.Proofs
attribute [local go_sem] block_add
attribute [local go_sem ↓] Go.wp_at_zero Go.wp_at_succ

theorem mine_pick {w : World} {base : Nat} {A : Option Addr} {t : TypeId} {n : Nat} {F : Nat → Value} (h : Mine w base A t n F) : ∃ g2, 0 < n → A = some ⟨g2, 0, none⟩ ∧ base ≤ g2 ∧ ∃ cs, Blk w g2 t cs ∧ ∀ k, k < n → cs[k]? = some (F k) := by
  rcases Nat.eq_zero_or_pos n with h0 | h0
  · exact ⟨0, fun h => by omega⟩
  · obtain ⟨g, e, hb, cs, hB, hc⟩ := h h0
    exact ⟨g, fun _ => ⟨e, hb, cs, hB, hc⟩⟩

theorem fill_any (p gy gf g2 n m c1 c2 : Nat) (a b a' b' : Int) (B : Option Addr) (g : Nat → Int) (V : World) (hy : Blk V gy 27 #[.int .i64 a, .int .i64 b, .slice B m c1]) (hf : Blk V gf 27 #[.int .i64 a', .int .i64 b', .slice (some ⟨g2, 0, none⟩) n c2])
    (hB : Ints V B m g) (hp : p < m) (hpn : p < n) (hn : n ≤ 1000000) (hm : m ≤ 1000000) (cs : Array Value) (hg : Blk V g2 3 cs) (hs : p < cs.size) :
    Calls Try.prog 37 #[.int .i64 (p : Int), .pointer (some ⟨gy, 0, none⟩), .pointer (some ⟨gf, 0, none⟩)] V fun e V' => (∃ u, e = .returned u) ∧ ∃ V1, Ext V V1 ∧ V1.setCell ⟨g2, p, none⟩ (.int .i64 (g p)) = V' := by
  obtain ⟨yc, yf, yl⟩ := hy.rules
  obtain ⟨fc, ff, fl⟩ := hf.rules
  obtain ⟨ad, rfl, hc⟩ := hB p hp
  have hal := lt_of_cell hc
  have hp' : (p : Int) < m := by omega
  have hpn' : (p : Int) < n := by omega
  obtain ⟨gv, hgv⟩ : ∃ gv, g p = gv := ⟨_, rfl⟩
  rw [hgv]
  simp only [hgv] at hc
  replace hgv := Lib.hid hgv
  have hgl := hg.lt
  replace hs := Lib.hid hs
  go_enter Try.func37, Try.ntmps37
  go_wp2_with fail
  refine Flow.wp_flow 9 [(0, true), (1, true), (2, true), (3, true), (4, true), (5, true), (6, true), (7, true), (8, true)] (by kernel_rfl) (by kernel_rfl) ?_
  simp only [List.map_cons, List.map_nil, List.getD_cons_succ, List.getD_cons_zero]
  repeat (first
    | (refine Flow.WalkL.move rfl ?_
       simp only [Act.put, Act.eval, Array.getD_eq_getD_getElem?, List.getElem?_toArray, List.getElem?_cons_succ, List.getElem?_cons_zero, Option.getD_some, List.setIfInBounds_toArray, List.set_cons_zero, List.set_cons_succ])
    | (refine Flow.WalkL.assign rfl ?_
       simp only [Act.put, Act.eval, Array.getD_eq_getD_getElem?, List.getElem?_toArray, List.getElem?_cons_succ, List.getElem?_cons_zero, Option.getD_some, List.setIfInBounds_toArray, List.set_cons_zero, List.set_cons_succ])
    | (refine Flow.WalkL.run (v := ?_) rfl (fun w1 hC => ?_) ?_
       rotate_left
       · obtain ⟨hCc, hCf⟩ := hC.rules
         go_simp
         with_reducible rfl
       simp only [Act.put, List.setIfInBounds_toArray, List.set_cons_zero, List.set_cons_succ]))
  refine Flow.WalkL.nil ?_
  simp only [List.drop]
  intro v1 hv1
  obtain ⟨gc, gf', gl⟩ := (hg.ext hv1).rules
  have hpc : p < cs.size := hs.out
  have hgcp : v1.cell? ⟨g2, p, none⟩ = some cs[p] := by rw [gc]; exact Array.getElem?_eq_getElem hpc
  clear gc yc yf fc ff hc hal yl fl
  go_wp2_with fail
  go_end0
  exact ⟨⟨_, rfl⟩, v1, hv1, rfl⟩

def fillE (Wx Hx : Int) (n : Nat) (f : Nat → Int) (Wy Hy : Int) (m : Nat) (g : Nat → Int) : Int :=
  if chkI Wx Hx n f = 0 then (if chkI Wy Hy m g = 0 then (if Wx = Wy ∧ Hx = Hy then 0 else 13) else chkI Wy Hy m g) else chkI Wx Hx n f
def fillF (W : Int) (f g : Nat → Int) (r : Rc) (k : Nat) : Int := if unkR W f r k then g k else f k
def FillPost (Wx Hx : Int) (n : Nat) (f : Nat → Int) (Wy Hy : Int) (m : Nat) (g : Nat → Int) (r : Rc) (w : World) (e : Ending) (w' : World) : Prop :=
  (fillE Wx Hx n f Wy Hy m g ≠ 0 ∧ e = .returned (.tuple #[img 0 0 none 0 0, .int .i64 (fillE Wx Hx n f Wy Hy m g)]) ∧ Ext w w') ∨
  (fillE Wx Hx n f Wy Hy m g = 0 ∧ ∃ A c, e = .returned (.tuple #[img Wx Hx A n c, .int .i64 0]) ∧ n ≤ c ∧ Mine w' w.heap.size A 3 n (fun k => .int .i64 (fillF Wx f g r k)) ∧ Ext w w')

def mix (W : Int) (f g : Nat → Int) (r : Rc) (p k : Nat) : Int := if decide (k < p) && unkR W f r k then g k else f k
theorem mix_all {W : Int} {f g : Nat → Int} {r : Rc} {n k : Nat} (h : k < n) : mix W f g r n k = fillF W f g r k := by simp [mix, fillF, h]
theorem mix_skip {W : Int} {f g : Nat → Int} {r : Rc} {p : Nat} (h : unkR W f r p = false) (k : Nat) : mix W f g r (p + 1) k = mix W f g r p k := by
  unfold mix
  by_cases e : k = p
  · subst e; simp [h]
  · by_cases h1 : k < p
    · simp [h1, show k < p + 1 by omega]
    · simp [h1, show ¬ k < p + 1 by omega]
theorem mix_set {W : Int} {f g : Nat → Int} {r : Rc} {p : Nat} (h : unkR W f r p = true) (k : Nat) : mix W f g r (p + 1) k = if k = p then g p else mix W f g r p k := by
  unfold mix
  by_cases e : k = p
  · subst e; simp [h]
  · by_cases h1 : k < p
    · simp [e, h1, show k < p + 1 by omega]
    · simp [e, h1, show ¬ k < p + 1 by omega]


set_option maxRecDepth 100000 in
theorem Fill_bad1 (Wx Hx : Int) (A : Option Addr) (n c : Nat) (f : Nat → Int) (Wy Hy : Int) (B : Option Addr) (m d : Nat) (g : Nat → Int) (r0 r1 r2 r3 : Int) (w : World)
    (hn : n ≤ 4611686018427387904) (hA : Ints w A n f) (hB : Ints w B m g) (h1 : (chkI Wx Hx n f != 0) = true) :
    Calls Try.prog 16 #[img Wx Hx A n c, img Wy Hy B m d, rct r0 r1 r2 r3] w fun e w' => e = .returned (.tuple #[img 0 0 none 0 0, .int .i64 (chkI Wx Hx n f)]) ∧ Ext w w' := by
  obtain ⟨W0, hW0⟩ : ∃ W0, ((((w.alloc (.cells #[.int .i64 Wx, .int .i64 Hx, .slice A n c] 27)).alloc (.cells #[.int .i64 Wy, .int .i64 Hy, .slice B m d] 27)).alloc (.cells #[.int .i64 r0, .int .i64 r1, .int .i64 r2, .int .i64 r3] 29)).alloc (.cells #[.int .i64 0, .int .i64 0, .slice none 0 0] 27)).alloc (.cells #[.int .i64 Wx, .int .i64 Hx, .slice A n c, .int .i64 Wy, .int .i64 Hy, .slice B m d] 27) = W0 := ⟨_, rfl⟩
  have hQ : ∀ V, Ext W0 V → Blk V w.heap.size 27 #[.int .i64 Wx, .int .i64 Hx, .slice A n c] ∧ Blk V (w.heap.size + 1) 27 #[.int .i64 Wy, .int .i64 Hy, .slice B m d] ∧
      Blk V (w.heap.size + 1 + 1) 29 #[.int .i64 r0, .int .i64 r1, .int .i64 r2, .int .i64 r3] ∧ Blk V (w.heap.size + 1 + 1 + 1) 27 #[.int .i64 0, .int .i64 0, .slice none 0 0] ∧
      Blk V (w.heap.size + 1 + 1 + 1 + 1) 27 #[.int .i64 Wx, .int .i64 Hx, .slice A n c, .int .i64 Wy, .int .i64 Hy, .slice B m d] ∧ Ints V A n f ∧ Ints V B m g ∧ Ext w V := by
    intro V h
    subst hW0
    have h1 := (((((Ext.refl w).alloc (.cells #[.int .i64 Wx, .int .i64 Hx, .slice A n c] 27)).alloc (.cells #[.int .i64 Wy, .int .i64 Hy, .slice B m d] 27)).alloc (.cells #[.int .i64 r0, .int .i64 r1, .int .i64 r2, .int .i64 r3] 29)).alloc (.cells #[.int .i64 0, .int .i64 0, .slice none 0 0] 27)).alloc (.cells #[.int .i64 Wx, .int .i64 Hx, .slice A n c, .int .i64 Wy, .int .i64 Hy, .slice B m d] 27) |>.trans h
    exact ⟨((((Blk.new _ _ _).alloc _).alloc _ |>.alloc _).alloc _).ext h, (((Blk.new' (by simp) _ _).alloc _).alloc _ |>.alloc _).ext h, (((Blk.new' (by simp) _ _).alloc _).alloc _).ext h, ((Blk.new' (by simp) _ _).alloc _).ext h, (Blk.new' (by simp) _ _).ext h, hA.ext h1, hB.ext h1, h1⟩
  have hsz : w.heap.size + 5 ≤ W0.heap.size := by subst hW0; simp
  replace hQ := Lib.hid hQ
  go_enter Try.func16, Try.ntmps16
  go_wp2_with fail
  try rw [hW0]
  clear hW0
  go_loopw [16] (fun i wr => i = .int .i64 0 ∧ Ext W0 wr) (fun i _ => 3 - (intOf i).toNat)
  case atStart => exact ⟨rfl, Ext.refl W0⟩
  case round =>
    obtain ⟨rfl, hE⟩ := hrel
    obtain ⟨q1, q2, q3, q4, q5, q6, q7, q8⟩ := hQ.out wr hE
    obtain ⟨c1c, c1f, c1l⟩ := q1.rules
    obtain ⟨c2c, c2f, c2l⟩ := q2.rules
    obtain ⟨c3c, c3f, c3l⟩ := q3.rules
    obtain ⟨c4c, c4f, c4l⟩ := q4.rules
    obtain ⟨c5c, c5f, c5l⟩ := q5.rules
    replace q6 := Lib.hid q6
    replace q7 := Lib.hid q7
    replace q8 := Lib.hid q8
    clear q1 q2 q3 q4 q5
    replace hE := Lib.hid hE
    go_wp2_with fail
    refine (ICheck_any Wx Hx A n c f _ hn (q6.out.ext ((Ext.refl wr).alloc _))).mono ?_
    rintro e w1 ⟨rfl, hE1⟩
    replace hE1 := Lib.hid (hE.out.trans (((Ext.refl wr).alloc _).trans hE1))
    clear c1c c1f c1l c2c c2f c2l c3c c3f c3l c4c c4f c4l c5c c5f c5l q6 q7 q8
    obtain ⟨q1, q2, q3, q4, q5, q6, q7, q8⟩ := hQ.out w1 hE1.out
    obtain ⟨c1c, c1f, c1l⟩ := q1.rules
    obtain ⟨c2c, c2f, c2l⟩ := q2.rules
    obtain ⟨c3c, c3f, c3l⟩ := q3.rules
    obtain ⟨c4c, c4f, c4l⟩ := q4.rules
    obtain ⟨c5c, c5f, c5l⟩ := q5.rules
    replace q6 := Lib.hid q6
    replace q7 := Lib.hid q7
    replace q8 := Lib.hid q8
    clear q1 q2 q3 q4 q5
    go_wp2_with fail
    refine bodyPost_ret (v := .tuple #[img 0 0 none 0 0, .int .i64 (chkI Wx Hx n f)]) (by simp [results, Try.results16, go_sem, *]) rfl ⟨rfl, ?_⟩
    exact ((q8.out.setCell (by simp; omega) _).setCell (by simp; omega) _).setCell (by simp; omega) _

set_option maxRecDepth 100000 in
theorem Fill_bad2 (Wx Hx : Int) (A : Option Addr) (n c : Nat) (f : Nat → Int) (Wy Hy : Int) (B : Option Addr) (m d : Nat) (g : Nat → Int) (r0 r1 r2 r3 : Int) (w : World)
    (hn : n ≤ 4611686018427387904) (hm : m ≤ 4611686018427387904) (hA : Ints w A n f) (hB : Ints w B m g) (h1 : (chkI Wx Hx n f != 0) = false) (h2 : (chkI Wy Hy m g != 0) = true) :
    Calls Try.prog 16 #[img Wx Hx A n c, img Wy Hy B m d, rct r0 r1 r2 r3] w fun e w' => e = .returned (.tuple #[img 0 0 none 0 0, .int .i64 (chkI Wy Hy m g)]) ∧ Ext w w' := by
  obtain ⟨W0, hW0⟩ : ∃ W0, ((((w.alloc (.cells #[.int .i64 Wx, .int .i64 Hx, .slice A n c] 27)).alloc (.cells #[.int .i64 Wy, .int .i64 Hy, .slice B m d] 27)).alloc (.cells #[.int .i64 r0, .int .i64 r1, .int .i64 r2, .int .i64 r3] 29)).alloc (.cells #[.int .i64 0, .int .i64 0, .slice none 0 0] 27)).alloc (.cells #[.int .i64 Wx, .int .i64 Hx, .slice A n c, .int .i64 Wy, .int .i64 Hy, .slice B m d] 27) = W0 := ⟨_, rfl⟩
  have hQ : ∀ V, Ext W0 V → Blk V w.heap.size 27 #[.int .i64 Wx, .int .i64 Hx, .slice A n c] ∧ Blk V (w.heap.size + 1) 27 #[.int .i64 Wy, .int .i64 Hy, .slice B m d] ∧
      Blk V (w.heap.size + 1 + 1) 29 #[.int .i64 r0, .int .i64 r1, .int .i64 r2, .int .i64 r3] ∧ Blk V (w.heap.size + 1 + 1 + 1) 27 #[.int .i64 0, .int .i64 0, .slice none 0 0] ∧
      Blk V (w.heap.size + 1 + 1 + 1 + 1) 27 #[.int .i64 Wx, .int .i64 Hx, .slice A n c, .int .i64 Wy, .int .i64 Hy, .slice B m d] ∧ Ints V A n f ∧ Ints V B m g ∧ Ext w V := by
    intro V h
    subst hW0
    have h1 := (((((Ext.refl w).alloc (.cells #[.int .i64 Wx, .int .i64 Hx, .slice A n c] 27)).alloc (.cells #[.int .i64 Wy, .int .i64 Hy, .slice B m d] 27)).alloc (.cells #[.int .i64 r0, .int .i64 r1, .int .i64 r2, .int .i64 r3] 29)).alloc (.cells #[.int .i64 0, .int .i64 0, .slice none 0 0] 27)).alloc (.cells #[.int .i64 Wx, .int .i64 Hx, .slice A n c, .int .i64 Wy, .int .i64 Hy, .slice B m d] 27) |>.trans h
    exact ⟨((((Blk.new _ _ _).alloc _).alloc _ |>.alloc _).alloc _).ext h, (((Blk.new' (by simp) _ _).alloc _).alloc _ |>.alloc _).ext h, (((Blk.new' (by simp) _ _).alloc _).alloc _).ext h, ((Blk.new' (by simp) _ _).alloc _).ext h, (Blk.new' (by simp) _ _).ext h, hA.ext h1, hB.ext h1, h1⟩
  have hsz : w.heap.size + 5 ≤ W0.heap.size := by subst hW0; simp
  replace hQ := Lib.hid hQ
  go_enter Try.func16, Try.ntmps16
  go_wp2_with fail
  try rw [hW0]
  clear hW0
  go_loopw [16] (fun i wr => (i = .int .i64 0 ∨ i = .int .i64 1) ∧ Ext W0 wr) (fun i _ => 3 - (intOf i).toNat)
  case atStart => exact ⟨.inl rfl, Ext.refl W0⟩
  case round =>
    obtain ⟨rfl | rfl, hE⟩ := hrel
    · obtain ⟨q1, q2, q3, q4, q5, q6, q7, q8⟩ := hQ.out wr hE
      obtain ⟨c1c, c1f, c1l⟩ := q1.rules
      obtain ⟨c2c, c2f, c2l⟩ := q2.rules
      obtain ⟨c3c, c3f, c3l⟩ := q3.rules
      obtain ⟨c4c, c4f, c4l⟩ := q4.rules
      obtain ⟨c5c, c5f, c5l⟩ := q5.rules
      replace q6 := Lib.hid q6
      replace q7 := Lib.hid q7
      replace q8 := Lib.hid q8
      clear q1 q2 q3 q4 q5
      replace hE := Lib.hid hE
      go_wp2_with fail
      refine (ICheck_any Wx Hx A n c f _ hn (q6.out.ext ((Ext.refl wr).alloc _))).mono ?_
      rintro e w1 ⟨rfl, hE1⟩
      replace hE1 := Lib.hid (hE.out.trans (((Ext.refl wr).alloc _).trans hE1))
      clear c1c c1f c1l c2c c2f c2l c3c c3f c3l c4c c4f c4l c5c c5f c5l q6 q7 q8
      go_wp2_with fail
      exact ⟨⟨.inr rfl, hE1.out⟩, by simp [intOf]⟩
    · obtain ⟨q1, q2, q3, q4, q5, q6, q7, q8⟩ := hQ.out wr hE
      obtain ⟨c1c, c1f, c1l⟩ := q1.rules
      obtain ⟨c2c, c2f, c2l⟩ := q2.rules
      obtain ⟨c3c, c3f, c3l⟩ := q3.rules
      obtain ⟨c4c, c4f, c4l⟩ := q4.rules
      obtain ⟨c5c, c5f, c5l⟩ := q5.rules
      replace q6 := Lib.hid q6
      replace q7 := Lib.hid q7
      replace q8 := Lib.hid q8
      clear q1 q2 q3 q4 q5
      replace hE := Lib.hid hE
      go_wp2_with fail
      refine (ICheck_any Wy Hy B m d g _ hm (q7.out.ext ((Ext.refl wr).alloc _))).mono ?_
      rintro e w1 ⟨rfl, hE1⟩
      replace hE1 := Lib.hid (hE.out.trans (((Ext.refl wr).alloc _).trans hE1))
      clear c1c c1f c1l c2c c2f c2l c3c c3f c3l c4c c4f c4l c5c c5f c5l q6 q7 q8
      obtain ⟨q1, q2, q3, q4, q5, q6, q7, q8⟩ := hQ.out w1 hE1.out
      obtain ⟨c1c, c1f, c1l⟩ := q1.rules
      obtain ⟨c2c, c2f, c2l⟩ := q2.rules
      obtain ⟨c3c, c3f, c3l⟩ := q3.rules
      obtain ⟨c4c, c4f, c4l⟩ := q4.rules
      obtain ⟨c5c, c5f, c5l⟩ := q5.rules
      replace q6 := Lib.hid q6
      replace q7 := Lib.hid q7
      replace q8 := Lib.hid q8
      clear q1 q2 q3 q4 q5
      go_wp2_with fail
      refine bodyPost_ret (v := .tuple #[img 0 0 none 0 0, .int .i64 (chkI Wy Hy m g)]) (by simp [results, Try.results16, go_sem, *]) rfl ⟨rfl, ?_⟩
      exact ((q8.out.setCell (by simp; omega) _).setCell (by simp; omega) _).setCell (by simp; omega) _

set_option maxRecDepth 100000 in
theorem Fill_bad3 (Wx Hx : Int) (A : Option Addr) (n c : Nat) (f : Nat → Int) (Wy Hy : Int) (B : Option Addr) (m d : Nat) (g : Nat → Int) (r0 r1 r2 r3 : Int) (w : World)
    (hn : n ≤ 4611686018427387904) (hm : m ≤ 4611686018427387904) (hA : Ints w A n f) (hB : Ints w B m g) (h1 : (chkI Wx Hx n f != 0) = false) (h2 : (chkI Wy Hy m g != 0) = false) (hd : ¬ (Wx = Wy ∧ Hx = Hy)) :
    Calls Try.prog 16 #[img Wx Hx A n c, img Wy Hy B m d, rct r0 r1 r2 r3] w fun e w' => e = .returned (.tuple #[img 0 0 none 0 0, .int .i64 13]) ∧ Ext w w' := by
  obtain ⟨W0, hW0⟩ : ∃ W0, ((((w.alloc (.cells #[.int .i64 Wx, .int .i64 Hx, .slice A n c] 27)).alloc (.cells #[.int .i64 Wy, .int .i64 Hy, .slice B m d] 27)).alloc (.cells #[.int .i64 r0, .int .i64 r1, .int .i64 r2, .int .i64 r3] 29)).alloc (.cells #[.int .i64 0, .int .i64 0, .slice none 0 0] 27)).alloc (.cells #[.int .i64 Wx, .int .i64 Hx, .slice A n c, .int .i64 Wy, .int .i64 Hy, .slice B m d] 27) = W0 := ⟨_, rfl⟩
  have hQ : ∀ V, Ext W0 V → Blk V w.heap.size 27 #[.int .i64 Wx, .int .i64 Hx, .slice A n c] ∧ Blk V (w.heap.size + 1) 27 #[.int .i64 Wy, .int .i64 Hy, .slice B m d] ∧
      Blk V (w.heap.size + 1 + 1) 29 #[.int .i64 r0, .int .i64 r1, .int .i64 r2, .int .i64 r3] ∧ Blk V (w.heap.size + 1 + 1 + 1) 27 #[.int .i64 0, .int .i64 0, .slice none 0 0] ∧
      Blk V (w.heap.size + 1 + 1 + 1 + 1) 27 #[.int .i64 Wx, .int .i64 Hx, .slice A n c, .int .i64 Wy, .int .i64 Hy, .slice B m d] ∧ Ints V A n f ∧ Ints V B m g ∧ Ext w V := by
    intro V h
    subst hW0
    have h1 := (((((Ext.refl w).alloc (.cells #[.int .i64 Wx, .int .i64 Hx, .slice A n c] 27)).alloc (.cells #[.int .i64 Wy, .int .i64 Hy, .slice B m d] 27)).alloc (.cells #[.int .i64 r0, .int .i64 r1, .int .i64 r2, .int .i64 r3] 29)).alloc (.cells #[.int .i64 0, .int .i64 0, .slice none 0 0] 27)).alloc (.cells #[.int .i64 Wx, .int .i64 Hx, .slice A n c, .int .i64 Wy, .int .i64 Hy, .slice B m d] 27) |>.trans h
    exact ⟨((((Blk.new _ _ _).alloc _).alloc _ |>.alloc _).alloc _).ext h, (((Blk.new' (by simp) _ _).alloc _).alloc _ |>.alloc _).ext h, (((Blk.new' (by simp) _ _).alloc _).alloc _).ext h, ((Blk.new' (by simp) _ _).alloc _).ext h, (Blk.new' (by simp) _ _).ext h, hA.ext h1, hB.ext h1, h1⟩
  have hsz : w.heap.size + 5 ≤ W0.heap.size := by subst hW0; simp
  replace hQ := Lib.hid hQ
  go_enter Try.func16, Try.ntmps16
  go_wp2_with fail
  try rw [hW0]
  clear hW0
  go_loopw [16] (fun i wr => (i = .int .i64 0 ∨ i = .int .i64 1 ∨ i = .int .i64 2) ∧ Ext W0 wr) (fun i _ => 3 - (intOf i).toNat)
  case atStart => exact ⟨.inl rfl, Ext.refl W0⟩
  case round =>
    obtain ⟨rfl | rfl | rfl, hE⟩ := hrel
    · obtain ⟨q1, q2, q3, q4, q5, q6, q7, q8⟩ := hQ.out wr hE
      obtain ⟨c1c, c1f, c1l⟩ := q1.rules
      obtain ⟨c2c, c2f, c2l⟩ := q2.rules
      obtain ⟨c3c, c3f, c3l⟩ := q3.rules
      obtain ⟨c4c, c4f, c4l⟩ := q4.rules
      obtain ⟨c5c, c5f, c5l⟩ := q5.rules
      replace q6 := Lib.hid q6
      replace q7 := Lib.hid q7
      replace q8 := Lib.hid q8
      clear q1 q2 q3 q4 q5
      replace hE := Lib.hid hE
      go_wp2_with fail
      refine (ICheck_any Wx Hx A n c f _ hn (q6.out.ext ((Ext.refl wr).alloc _))).mono ?_
      rintro e w1 ⟨rfl, hE1⟩
      replace hE1 := Lib.hid (hE.out.trans (((Ext.refl wr).alloc _).trans hE1))
      clear c1c c1f c1l c2c c2f c2l c3c c3f c3l c4c c4f c4l c5c c5f c5l q6 q7 q8
      go_wp2_with fail
      exact ⟨⟨.inr (.inl rfl), hE1.out⟩, by simp [intOf]⟩
    · obtain ⟨q1, q2, q3, q4, q5, q6, q7, q8⟩ := hQ.out wr hE
      obtain ⟨c1c, c1f, c1l⟩ := q1.rules
      obtain ⟨c2c, c2f, c2l⟩ := q2.rules
      obtain ⟨c3c, c3f, c3l⟩ := q3.rules
      obtain ⟨c4c, c4f, c4l⟩ := q4.rules
      obtain ⟨c5c, c5f, c5l⟩ := q5.rules
      replace q6 := Lib.hid q6
      replace q7 := Lib.hid q7
      replace q8 := Lib.hid q8
      clear q1 q2 q3 q4 q5
      replace hE := Lib.hid hE
      go_wp2_with fail
      refine (ICheck_any Wy Hy B m d g _ hm (q7.out.ext ((Ext.refl wr).alloc _))).mono ?_
      rintro e w1 ⟨rfl, hE1⟩
      replace hE1 := Lib.hid (hE.out.trans (((Ext.refl wr).alloc _).trans hE1))
      clear c1c c1f c1l c2c c2f c2l c3c c3f c3l c4c c4f c4l c5c c5f c5l q6 q7 q8
      go_wp2_with fail
      exact ⟨⟨.inr (.inr rfl), hE1.out⟩, by simp [intOf]⟩
    · have hE1 := Lib.hid hE
      obtain ⟨w1, rfl⟩ : ∃ w1, w1 = wr := ⟨_, rfl⟩
      by_cases hw : Wx = Wy
      · have d1 : (Wx != Wy) = false := by simpa using hw
        have d2 : (Hx != Hy) = true := by simpa using fun h => hd ⟨hw, h⟩
        clear hd
        replace hw := Lib.hid hw
        obtain ⟨q1, q2, q3, q4, q5, q6, q7, q8⟩ := hQ.out w1 hE1.out
        obtain ⟨c1c, c1f, c1l⟩ := q1.rules
        obtain ⟨c2c, c2f, c2l⟩ := q2.rules
        obtain ⟨c3c, c3f, c3l⟩ := q3.rules
        obtain ⟨c4c, c4f, c4l⟩ := q4.rules
        obtain ⟨c5c, c5f, c5l⟩ := q5.rules
        replace q6 := Lib.hid q6
        replace q7 := Lib.hid q7
        replace q8 := Lib.hid q8
        clear q1 q2 q3 q4 q5
        go_wp2_with fail
        refine bodyPost_ret (v := .tuple #[img 0 0 none 0 0, .int .i64 13]) (by simp [results, Try.results16, go_sem, *]) rfl ⟨rfl, ?_⟩
        exact ((q8.out.setCell (by simp; omega) _).setCell (by simp; omega) _).setCell (by simp; omega) _
      · have d1 : (Wx != Wy) = true := by simpa using hw
        clear hd
        replace hw := Lib.hid hw
        obtain ⟨q1, q2, q3, q4, q5, q6, q7, q8⟩ := hQ.out w1 hE1.out
        obtain ⟨c1c, c1f, c1l⟩ := q1.rules
        obtain ⟨c2c, c2f, c2l⟩ := q2.rules
        obtain ⟨c3c, c3f, c3l⟩ := q3.rules
        obtain ⟨c4c, c4f, c4l⟩ := q4.rules
        obtain ⟨c5c, c5f, c5l⟩ := q5.rules
        replace q6 := Lib.hid q6
        replace q7 := Lib.hid q7
        replace q8 := Lib.hid q8
        clear q1 q2 q3 q4 q5
        go_wp2_with fail
        refine bodyPost_ret (v := .tuple #[img 0 0 none 0 0, .int .i64 13]) (by simp [results, Try.results16, go_sem, *]) rfl ⟨rfl, ?_⟩
        exact ((q8.out.setCell (by simp; omega) _).setCell (by simp; omega) _).setCell (by simp; omega) _

def FillOk (W H : Int) (n : Nat) (f g : Nat → Int) (r : Rc) (w : World) (e : Ending) (w' : World) : Prop :=
  ∃ A c, e = .returned (.tuple #[img W H A n c, .int .i64 0]) ∧ n ≤ c ∧ Mine w' w.heap.size A 3 n (fun k => .int .i64 (fillF W f g r k)) ∧ Ext w w'


set_option maxHeartbeats 2000000 in
set_option maxRecDepth 100000 in
theorem Fill_ok (Wn Hn : Nat) (A : Option Addr) (n c : Nat) (f : Nat → Int) (B : Option Addr) (m d : Nat) (g : Nat → Int) (r0 r1 r2 r3 : Int) (w : World)
    (hA : Ints w A n f) (hB : Ints w B m g) (hk1 : chkI Wn Hn n f = 0) (hk2 : chkI Wn Hn m g = 0) :
    Calls Try.prog 16 #[img Wn Hn A n c, img Wn Hn B m d, rct r0 r1 r2 r3] w (FillOk Wn Hn n f g (r0, r1, r2, r3) w) := by
  have hpost : ∀ e w', (∃ A c, e = .returned (.tuple #[img Wn Hn A n c, .int .i64 0]) ∧ n ≤ c ∧ Mine w' w.heap.size A 3 n (fun k => .int .i64 (fillF Wn f g (r0, r1, r2, r3) k)) ∧ Ext w w') → FillOk Wn Hn n f g (r0, r1, r2, r3) w e w' := fun _ _ h => h
  replace hpost := Lib.hid hpost
  obtain ⟨i0, hi, hz0, hz1, hz2⟩ := info_parts info_int
  have hsh := (chkI_ok.1 hk1).1
  obtain ⟨-, hW, -, hH, hnn⟩ := hsh
  have hn' : n = Wn * Hn := by exact_mod_cast hnn
  have hm' : m = n := by have := (chkI_ok.1 hk2).1.2.2.2.2; rw [← hnn] at this; omega
  subst hm'
  have hWb : Wn ≤ 100 := by omega
  have hHb : Hn ≤ 100 := by omega
  have hnb : m ≤ 10000 := by rw [hn']; exact Nat.mul_le_mul hWb hHb
  have h1 : (chkI Wn Hn m f != 0) = false := by simpa using hk1
  have h2 : (chkI Wn Hn m g != 0) = false := by simpa using hk2
  have hn : m ≤ 4611686018427387904 := by omega
  have hm : m ≤ 4611686018427387904 := by omega
  have d1 : ((Wn : Int) != Wn) = false := by simp
  have d2 : ((Hn : Int) != Hn) = false := by simp
  replace hk1 := Lib.hid hk1
  replace hk2 := Lib.hid hk2
  replace hn' := Lib.hid hn'
  clear hnn
  obtain ⟨Wx, hWx⟩ : ∃ Wx : Int, (Wn : Int) = Wx := ⟨_, rfl⟩
  obtain ⟨Hx, hHx⟩ : ∃ Hx : Int, (Hn : Int) = Hx := ⟨_, rfl⟩
  obtain ⟨n, hnm⟩ : ∃ n : Nat, m = n := ⟨_, rfl⟩
  subst hnm
  subst hWx
  subst hHx
  obtain ⟨W0, hW0⟩ : ∃ W0, ((((w.alloc (.cells #[.int .i64 Wn, .int .i64 Hn, .slice A m c] 27)).alloc (.cells #[.int .i64 Wn, .int .i64 Hn, .slice B m d] 27)).alloc (.cells #[.int .i64 r0, .int .i64 r1, .int .i64 r2, .int .i64 r3] 29)).alloc (.cells #[.int .i64 0, .int .i64 0, .slice none 0 0] 27)).alloc (.cells #[.int .i64 Wn, .int .i64 Hn, .slice A m c, .int .i64 Wn, .int .i64 Hn, .slice B m d] 27) = W0 := ⟨_, rfl⟩
  have hQ : ∀ V, Ext W0 V → Blk V w.heap.size 27 #[.int .i64 Wn, .int .i64 Hn, .slice A m c] ∧ Blk V (w.heap.size + 1) 27 #[.int .i64 Wn, .int .i64 Hn, .slice B m d] ∧
      Blk V (w.heap.size + 1 + 1) 29 #[.int .i64 r0, .int .i64 r1, .int .i64 r2, .int .i64 r3] ∧ Blk V (w.heap.size + 1 + 1 + 1) 27 #[.int .i64 0, .int .i64 0, .slice none 0 0] ∧
      Blk V (w.heap.size + 1 + 1 + 1 + 1) 27 #[.int .i64 Wn, .int .i64 Hn, .slice A m c, .int .i64 Wn, .int .i64 Hn, .slice B m d] ∧ Ints V A m f ∧ Ints V B m g ∧ Ext w V := by
    intro V h
    subst hW0
    have h1 := (((((Ext.refl w).alloc (.cells #[.int .i64 Wn, .int .i64 Hn, .slice A m c] 27)).alloc (.cells #[.int .i64 Wn, .int .i64 Hn, .slice B m d] 27)).alloc (.cells #[.int .i64 r0, .int .i64 r1, .int .i64 r2, .int .i64 r3] 29)).alloc (.cells #[.int .i64 0, .int .i64 0, .slice none 0 0] 27)).alloc (.cells #[.int .i64 Wn, .int .i64 Hn, .slice A m c, .int .i64 Wn, .int .i64 Hn, .slice B m d] 27) |>.trans h
    exact ⟨((((Blk.new _ _ _).alloc _).alloc _ |>.alloc _).alloc _).ext h, (((Blk.new' (by simp) _ _).alloc _).alloc _ |>.alloc _).ext h, (((Blk.new' (by simp) _ _).alloc _).alloc _).ext h, ((Blk.new' (by simp) _ _).alloc _).ext h, (Blk.new' (by simp) _ _).ext h, hA.ext h1, hB.ext h1, h1⟩
  have hsz : w.heap.size + 5 ≤ W0.heap.size := by subst hW0; simp
  replace hQ := Lib.hid hQ
  go_enter Try.func16, Try.ntmps16
  go_wp2_with fail
  try rw [hW0]
  clear hW0
  go_loopw [16] (fun i wr => (i = .int .i64 0 ∨ i = .int .i64 1 ∨ i = .int .i64 2) ∧ Ext W0 wr) (fun i _ => 3 - (intOf i).toNat)
  case atStart => exact ⟨.inl rfl, Ext.refl W0⟩
  case round =>
    obtain ⟨rfl | rfl | rfl, hE⟩ := hrel
    · obtain ⟨q1, q2, q3, q4, q5, q6, q7, q8⟩ := hQ.out wr hE
      obtain ⟨c1c, c1f, c1l⟩ := q1.rules
      obtain ⟨c2c, c2f, c2l⟩ := q2.rules
      obtain ⟨c3c, c3f, c3l⟩ := q3.rules
      obtain ⟨c4c, c4f, c4l⟩ := q4.rules
      obtain ⟨c5c, c5f, c5l⟩ := q5.rules
      replace q6 := Lib.hid q6
      replace q7 := Lib.hid q7
      replace q8 := Lib.hid q8
      clear q1 q2 q3 q4 q5
      replace hE := Lib.hid hE
      go_wp2_with fail
      refine (ICheck_any Wn Hn A m c f _ hn (q6.out.ext ((Ext.refl wr).alloc _))).mono ?_
      rintro e w1 ⟨rfl, hE1⟩
      replace hE1 := Lib.hid (hE.out.trans (((Ext.refl wr).alloc _).trans hE1))
      clear c1c c1f c1l c2c c2f c2l c3c c3f c3l c4c c4f c4l c5c c5f c5l q6 q7 q8
      go_wp2_with fail
      exact ⟨⟨.inr (.inl rfl), hE1.out⟩, by simp [intOf]⟩
    · obtain ⟨q1, q2, q3, q4, q5, q6, q7, q8⟩ := hQ.out wr hE
      obtain ⟨c1c, c1f, c1l⟩ := q1.rules
      obtain ⟨c2c, c2f, c2l⟩ := q2.rules
      obtain ⟨c3c, c3f, c3l⟩ := q3.rules
      obtain ⟨c4c, c4f, c4l⟩ := q4.rules
      obtain ⟨c5c, c5f, c5l⟩ := q5.rules
      replace q6 := Lib.hid q6
      replace q7 := Lib.hid q7
      replace q8 := Lib.hid q8
      clear q1 q2 q3 q4 q5
      replace hE := Lib.hid hE
      go_wp2_with fail
      refine (ICheck_any Wn Hn B m d g _ hm (q7.out.ext ((Ext.refl wr).alloc _))).mono ?_
      rintro e w1 ⟨rfl, hE1⟩
      replace hE1 := Lib.hid (hE.out.trans (((Ext.refl wr).alloc _).trans hE1))
      clear c1c c1f c1l c2c c2f c2l c3c c3f c3l c4c c4f c4l c5c c5f c5l q6 q7 q8
      go_wp2_with fail
      exact ⟨⟨.inr (.inr rfl), hE1.out⟩, by simp [intOf]⟩
    · have hwsz := hE.size
      obtain ⟨q1, q2, q3, q4, q5, q6, q7, q8⟩ := hQ.out wr hE
      obtain ⟨c1c, c1f, c1l⟩ := q1.rules
      obtain ⟨c2c, c2f, c2l⟩ := q2.rules
      obtain ⟨c3c, c3f, c3l⟩ := q3.rules
      obtain ⟨c4c, c4f, c4l⟩ := q4.rules
      obtain ⟨c5c, c5f, c5l⟩ := q5.rules
      replace q6 := Lib.hid q6
      replace q7 := Lib.hid q7
      replace q8 := Lib.hid q8
      clear q1 q2 q3 q4 q5
      replace hE := Lib.hid hE
      go_wp2_with fail
      go_cut [11] (fun sl wx => ∃ gf A' c' g2, sl = .pointer (some ⟨gf, 0, none⟩) ∧ m ≤ c' ∧ Blk wx gf 27 #[.int .i64 Wn, .int .i64 Hn, .slice A' m c'] ∧
        (0 < m → A' = some ⟨g2, 0, none⟩ ∧ wr.heap.size ≤ g2 ∧ g2 < wx.heap.size ∧ g2 ≠ gf ∧ ∃ cs, Blk wx g2 3 cs ∧ ∀ k, k < m → cs[k]? = some (.int .i64 (f k))) ∧ wr.heap.size ≤ gf ∧ Ext wr wx)
      case first =>
        refine Flow.wp_tree 10 (.two [(0, true), (1, true), (2, true), (3, true), (5, true), (6, true)] 4 (.two [] 7 (.fin [(8, true), (9, false)]) 9 (.fin [(7, false), (8, true)])) 9 (.fin [(4, false), (7, false), (8, true)])) (by kernel_rfl) (by kernel_rfl) ?_
        simp only [Flow.Tr.seq, Flow.sq, List.map_cons, List.map_nil, List.getD_cons_succ, List.getD_cons_zero]
        repeat (first
          | (refine Flow.WalkL.move rfl ?_
             simp only [Act.put, Act.eval, Array.getD_eq_getD_getElem?, List.getElem?_toArray, List.getElem?_cons_succ, List.getElem?_cons_zero, Option.getD_some, List.setIfInBounds_toArray, List.set_cons_zero, List.set_cons_succ])
          | (refine Flow.WalkL.assign rfl ?_
             simp only [Act.put, Act.eval, Array.getD_eq_getD_getElem?, List.getElem?_toArray, List.getElem?_cons_succ, List.getElem?_cons_zero, Option.getD_some, List.setIfInBounds_toArray, List.set_cons_zero, List.set_cons_succ])
          | (refine Flow.WalkL.run (v := ?_) rfl (fun w1 hC => ?_) ?_
             rotate_left
             · obtain ⟨hCc, hCf⟩ := hC.rules
               go_simp
               with_reducible rfl
             simp only [Act.put, List.setIfInBounds_toArray, List.set_cons_zero, List.set_cons_succ]))
        refine Flow.WalkL.nil (fun v0 hv0 => Flow.cont_and ?_ ?_)
        · simp only [Flow.Tr.seq, Flow.sq, List.map_cons, List.map_nil, List.getD_cons_succ, List.getD_cons_zero]
          repeat (first
            | (refine Flow.WalkL.move rfl ?_
               simp only [Act.put, Act.eval, Array.getD_eq_getD_getElem?, List.getElem?_toArray, List.getElem?_cons_succ, List.getElem?_cons_zero, Option.getD_some, List.setIfInBounds_toArray, List.set_cons_zero, List.set_cons_succ])
            | (refine Flow.WalkL.assign rfl ?_
               simp only [Act.put, Act.eval, Array.getD_eq_getD_getElem?, List.getElem?_toArray, List.getElem?_cons_succ, List.getElem?_cons_zero, Option.getD_some, List.setIfInBounds_toArray, List.set_cons_zero, List.set_cons_succ])
            | (refine Flow.WalkL.run (v := ?_) rfl (fun w1 hC => ?_) ?_
               rotate_left
               · obtain ⟨hCc, hCf⟩ := hC.rules
                 go_simp
                 with_reducible rfl
               simp only [Act.put, List.setIfInBounds_toArray, List.set_cons_zero, List.set_cons_succ]))
          refine Flow.WalkL.openrun (fun w1 => .slice (some ⟨w1.heap.size, 0, none⟩) 0 0) (fun w1 => w1.alloc (.cells #[] 3)) rfl (fun v1 hv1 => by go_simp; try rfl) (fun v1 hv1 => ⟨(Ext.refl _).alloc _, ?_⟩)
          simp only [Act.put, List.setIfInBounds_toArray, List.set_cons_zero, List.set_cons_succ]
          have s1 := hv1.size
          refine Flow.WalkL.nil (fun v2 hv2 => Flow.cont_and ?_ ?_)
          · simp only [Flow.Tr.seq, Flow.sq, List.map_cons, List.map_nil, List.getD_cons_succ, List.getD_cons_zero]
            repeat (first
              | (refine Flow.WalkL.move rfl ?_
                 simp only [Act.put, Act.eval, Array.getD_eq_getD_getElem?, List.getElem?_toArray, List.getElem?_cons_succ, List.getElem?_cons_zero, Option.getD_some, List.setIfInBounds_toArray, List.set_cons_zero, List.set_cons_succ])
              | (refine Flow.WalkL.assign rfl ?_
                 simp only [Act.put, Act.eval, Array.getD_eq_getD_getElem?, List.getElem?_toArray, List.getElem?_cons_succ, List.getElem?_cons_zero, Option.getD_some, List.setIfInBounds_toArray, List.set_cons_zero, List.set_cons_succ])
              | (refine Flow.WalkL.run (v := ?_) rfl (fun w1 hC => ?_) ?_
                 rotate_left
                 · obtain ⟨hCc, hCf⟩ := hC.rules
                   go_simp
                   with_reducible rfl
                 simp only [Act.put, List.setIfInBounds_toArray, List.set_cons_zero, List.set_cons_succ]))
            have s2 := hv2.size
            refine Flow.WalkL.opencopy i0 (.int .i64 0) 8 Try.underlying23 hi hz0 hz1 hz2 rfl (by omega) rfl A m c rfl ((List.range m).map (fun k => .int .i64 (f k))) (by simp) (by omega) (by omega) rfl ((Blk.new v1 _ _).ext hv2) (Lst.of_arr ((q6.out).ext (hv0.trans ((hv1.alloc _).trans hv2)))) (fun w2 w3 v' hw2 hrow hw3 => ?_)
            obtain ⟨A', c', rfl, hcap, hM⟩ := Mine.of_row hrow (F := fun k => .int .i64 (f k)) (fun k hk => row_get hk)
            simp only [Act.put, List.setIfInBounds_toArray, List.set_cons_zero, List.set_cons_succ]
            have s3 := hw2.size
            have s4 := hw3.size
            repeat (first
              | (refine Flow.WalkL.move rfl ?_
                 simp only [Act.put, Act.eval, Array.getD_eq_getD_getElem?, List.getElem?_toArray, List.getElem?_cons_succ, List.getElem?_cons_zero, Option.getD_some, List.setIfInBounds_toArray, List.set_cons_zero, List.set_cons_succ])
              | (refine Flow.WalkL.assign rfl ?_
                 simp only [Act.put, Act.eval, Array.getD_eq_getD_getElem?, List.getElem?_toArray, List.getElem?_cons_succ, List.getElem?_cons_zero, Option.getD_some, List.setIfInBounds_toArray, List.set_cons_zero, List.set_cons_succ])
              | (refine Flow.WalkL.run (v := ?_) rfl (fun w1 hC => ?_) ?_
                 rotate_left
                 · obtain ⟨hCc, hCf⟩ := hC.rules
                   go_simp
                   with_reducible rfl
                 simp only [Act.put, List.setIfInBounds_toArray, List.set_cons_zero, List.set_cons_succ]))
            refine Flow.WalkL.openrun (fun w1 => .pointer (some ⟨w1.heap.size, 0, none⟩)) (fun w1 => w1.alloc (.cells #[.int .i64 0, .int .i64 0, .slice none 0 0] 27)) rfl (fun v1 hv1 => by go_simp; try rfl) (fun v5 hv5 => ⟨(Ext.refl _).alloc _, ?_⟩)
            simp only [Act.put, List.setIfInBounds_toArray, List.set_cons_zero, List.set_cons_succ]
            have s5 := hv5.size
            simp only [World.size_alloc] at s2
            refine Flow.WalkL.nil (fun w9 hw9 => Flow.cont_fin ?_)
            simp only [List.drop]
            have hG9 := ((Blk.new v5 _ _).ext hw9)
            have hM9 := ((hM.ext hv5).ext ((Ext.refl v5).alloc _ |>.trans hw9))
            have hE9 := (hv0.trans ((hv1.alloc _).trans (hv2.trans (hw2.trans (hw3.trans ((hv5.alloc _).trans hw9))))))
            obtain ⟨gc, gf, gl⟩ := hG9.rules
            replace hG9 := Lib.hid hG9
            replace hM9 := Lib.hid hM9
            replace hE9 := Lib.hid hE9
            go_wp2_with fail
            go_meet
            obtain ⟨g2, hg2⟩ := mine_pick hM9.out
            refine ⟨v5.heap.size, A', c', g2, rfl, hcap, ?_, fun h0 => ?_, ?_, ?_⟩
            · have := ((hG9.out.set_ 0 (.int .i64 Wn)).set_ 1 (.int .i64 Hn)).set_ 2 (.slice A' m c'); simpa using this
            · obtain ⟨e1, e2, cs, hb, hc⟩ := hg2 h0
              have hne := blk_ne hb hG9.out (by decide)
              refine ⟨e1, by have := hv0.size; omega, ?_, hne, cs, ((hb.far (p := ⟨v5.heap.size, 0, none⟩) hne _).far (p := ⟨v5.heap.size, 1, none⟩) hne _).far (p := ⟨v5.heap.size, 2, none⟩) hne _, hc⟩
              have := hb.lt; simpa using this
            · have := hv0.size; omega
            · exact ((hE9.out.setCell (by have := hv0.size; simp; omega) _).setCell (by have := hv0.size; simp; omega) _).setCell (by have := hv0.size; simp; omega) _
          · simp only [Flow.Tr.seq, Flow.sq, List.map_cons, List.map_nil, List.getD_cons_succ, List.getD_cons_zero]
            repeat (first
              | (refine Flow.WalkL.move rfl ?_
                 simp only [Act.put, Act.eval, Array.getD_eq_getD_getElem?, List.getElem?_toArray, List.getElem?_cons_succ, List.getElem?_cons_zero, Option.getD_some, List.setIfInBounds_toArray, List.set_cons_zero, List.set_cons_succ])
              | (refine Flow.WalkL.assign rfl ?_
                 simp only [Act.put, Act.eval, Array.getD_eq_getD_getElem?, List.getElem?_toArray, List.getElem?_cons_succ, List.getElem?_cons_zero, Option.getD_some, List.setIfInBounds_toArray, List.set_cons_zero, List.set_cons_succ])
              | (refine Flow.WalkL.run (v := ?_) rfl (fun w1 hC => ?_) ?_
                 rotate_left
                 · obtain ⟨hCc, hCf⟩ := hC.rules
                   go_simp
                   with_reducible rfl
                 simp only [Act.put, List.setIfInBounds_toArray, List.set_cons_zero, List.set_cons_succ]))
            refine Flow.WalkL.openrun (fun w1 => .pointer (some ⟨w1.heap.size, 0, none⟩)) (fun w1 => w1.alloc (.cells #[.int .i64 0, .int .i64 0, .slice none 0 0] 27)) rfl (fun v1 hv1 => by go_simp; try rfl) (fun v5 hv5 => ⟨(Ext.refl _).alloc _, ?_⟩)
            simp only [Act.put, List.setIfInBounds_toArray, List.set_cons_zero, List.set_cons_succ]
            have s5 := hv5.size
            have s2 := hv2.size
            simp only [World.size_alloc] at s2
            refine Flow.WalkL.opencopy i0 (.int .i64 0) 8 Try.underlying23 hi hz0 hz1 hz2 rfl (by omega) rfl A m c rfl ((List.range m).map (fun k => .int .i64 (f k))) (by simp) (by omega) (by omega) rfl (((Blk.new v1 _ _).ext hv2).ext (hv5.alloc _)) (Lst.of_arr ((q6.out).ext (hv0.trans ((hv1.alloc _).trans (hv2.trans (hv5.alloc _)))))) (fun w2 w3 v' hw2 hrow hw3 => ?_)
            obtain ⟨A', c', rfl, hcap, hM⟩ := Mine.of_row hrow (F := fun k => .int .i64 (f k)) (fun k hk => row_get hk)
            simp only [Act.put, List.setIfInBounds_toArray, List.set_cons_zero, List.set_cons_succ]
            have s3 := hw2.size
            have s4 := hw3.size
            repeat (first
              | (refine Flow.WalkL.move rfl ?_
                 simp only [Act.put, Act.eval, Array.getD_eq_getD_getElem?, List.getElem?_toArray, List.getElem?_cons_succ, List.getElem?_cons_zero, Option.getD_some, List.setIfInBounds_toArray, List.set_cons_zero, List.set_cons_succ])
              | (refine Flow.WalkL.assign rfl ?_
                 simp only [Act.put, Act.eval, Array.getD_eq_getD_getElem?, List.getElem?_toArray, List.getElem?_cons_succ, List.getElem?_cons_zero, Option.getD_some, List.setIfInBounds_toArray, List.set_cons_zero, List.set_cons_succ])
              | (refine Flow.WalkL.run (v := ?_) rfl (fun w1 hC => ?_) ?_
                 rotate_left
                 · obtain ⟨hCc, hCf⟩ := hC.rules
                   go_simp
                   with_reducible rfl
                 simp only [Act.put, List.setIfInBounds_toArray, List.set_cons_zero, List.set_cons_succ]))
            refine Flow.WalkL.nil (fun w9 hw9 => Flow.cont_fin ?_)
            simp only [List.drop]
            have hG9 := (((Blk.new v5 _ _).ext (hw2.trans hw3)).ext hw9)
            have hM9 := (hM.ext hw9)
            have hE9 := (hv0.trans ((hv1.alloc _).trans (hv2.trans ((hv5.alloc _).trans (hw2.trans (hw3.trans hw9))))))
            obtain ⟨gc, gf, gl⟩ := hG9.rules
            replace hG9 := Lib.hid hG9
            replace hM9 := Lib.hid hM9
            replace hE9 := Lib.hid hE9
            go_wp2_with fail
            go_meet
            obtain ⟨g2, hg2⟩ := mine_pick hM9.out
            refine ⟨v5.heap.size, A', c', g2, rfl, hcap, ?_, fun h0 => ?_, ?_, ?_⟩
            · have := ((hG9.out.set_ 0 (.int .i64 Wn)).set_ 1 (.int .i64 Hn)).set_ 2 (.slice A' m c'); simpa using this
            · obtain ⟨e1, e2, cs, hb, hc⟩ := hg2 h0
              have hne := blk_ne hb hG9.out (by decide)
              refine ⟨e1, by have := hv0.size; omega, ?_, hne, cs, ((hb.far (p := ⟨v5.heap.size, 0, none⟩) hne _).far (p := ⟨v5.heap.size, 1, none⟩) hne _).far (p := ⟨v5.heap.size, 2, none⟩) hne _, hc⟩
              have := hb.lt; simpa using this
            · have := hv0.size; omega
            · exact ((hE9.out.setCell (by have := hv0.size; simp; omega) _).setCell (by have := hv0.size; simp; omega) _).setCell (by have := hv0.size; simp; omega) _
        · simp only [Flow.Tr.seq, Flow.sq, List.map_cons, List.map_nil, List.getD_cons_succ, List.getD_cons_zero]
          repeat (first
            | (refine Flow.WalkL.move rfl ?_
               simp only [Act.put, Act.eval, Array.getD_eq_getD_getElem?, List.getElem?_toArray, List.getElem?_cons_succ, List.getElem?_cons_zero, Option.getD_some, List.setIfInBounds_toArray, List.set_cons_zero, List.set_cons_succ])
            | (refine Flow.WalkL.assign rfl ?_
               simp only [Act.put, Act.eval, Array.getD_eq_getD_getElem?, List.getElem?_toArray, List.getElem?_cons_succ, List.getElem?_cons_zero, Option.getD_some, List.setIfInBounds_toArray, List.set_cons_zero, List.set_cons_succ])
            | (refine Flow.WalkL.run (v := ?_) rfl (fun w1 hC => ?_) ?_
               rotate_left
               · obtain ⟨hCc, hCf⟩ := hC.rules
                 go_simp
                 with_reducible rfl
               simp only [Act.put, List.setIfInBounds_toArray, List.set_cons_zero, List.set_cons_succ]))
          refine Flow.WalkL.openrun (fun w1 => .pointer (some ⟨w1.heap.size, 0, none⟩)) (fun w1 => w1.alloc (.cells #[.int .i64 0, .int .i64 0, .slice none 0 0] 27)) rfl (fun v1 hv1 => by go_simp; try rfl) (fun v5 hv5 => ⟨(Ext.refl _).alloc _, ?_⟩)
          simp only [Act.put, List.setIfInBounds_toArray, List.set_cons_zero, List.set_cons_succ]
          have s5 := hv5.size
          refine Flow.WalkL.openrun (fun w1 => .slice (some ⟨w1.heap.size, 0, none⟩) 0 0) (fun w1 => w1.alloc (.cells #[] 3)) rfl (fun v1 hv1 => by go_simp; try rfl) (fun v1 hv1 => ⟨(Ext.refl _).alloc _, ?_⟩)
          simp only [Act.put, List.setIfInBounds_toArray, List.set_cons_zero, List.set_cons_succ]
          have s1 := hv1.size
          simp only [World.size_alloc] at s1
          refine Flow.WalkL.opencopy i0 (.int .i64 0) 8 Try.underlying23 hi hz0 hz1 hz2 rfl (by omega) rfl A m c rfl ((List.range m).map (fun k => .int .i64 (f k))) (by simp) (by omega) (by omega) rfl (Blk.new v1 _ _) (Lst.of_arr ((q6.out).ext (hv0.trans ((hv5.alloc _).trans (hv1.alloc _))))) (fun w2 w3 v' hw2 hrow hw3 => ?_)
          obtain ⟨A', c', rfl, hcap, hM⟩ := Mine.of_row hrow (F := fun k => .int .i64 (f k)) (fun k hk => row_get hk)
          simp only [Act.put, List.setIfInBounds_toArray, List.set_cons_zero, List.set_cons_succ]
          have s3 := hw2.size
          have s4 := hw3.size
          repeat (first
            | (refine Flow.WalkL.move rfl ?_
               simp only [Act.put, Act.eval, Array.getD_eq_getD_getElem?, List.getElem?_toArray, List.getElem?_cons_succ, List.getElem?_cons_zero, Option.getD_some, List.setIfInBounds_toArray, List.set_cons_zero, List.set_cons_succ])
            | (refine Flow.WalkL.assign rfl ?_
               simp only [Act.put, Act.eval, Array.getD_eq_getD_getElem?, List.getElem?_toArray, List.getElem?_cons_succ, List.getElem?_cons_zero, Option.getD_some, List.setIfInBounds_toArray, List.set_cons_zero, List.set_cons_succ])
            | (refine Flow.WalkL.run (v := ?_) rfl (fun w1 hC => ?_) ?_
               rotate_left
               · obtain ⟨hCc, hCf⟩ := hC.rules
                 go_simp
                 with_reducible rfl
               simp only [Act.put, List.setIfInBounds_toArray, List.set_cons_zero, List.set_cons_succ]))
          refine Flow.WalkL.nil (fun w9 hw9 => Flow.cont_fin ?_)
          simp only [List.drop]
          have hG9 := (((Blk.new v5 _ _).ext (hv1.alloc _)).ext (hw2.trans (hw3.trans hw9)))
          have hM9 := (hM.ext hw9)
          have hE9 := (hv0.trans ((hv5.alloc _).trans ((hv1.alloc _).trans (hw2.trans (hw3.trans hw9)))))
          obtain ⟨gc, gf, gl⟩ := hG9.rules
          replace hG9 := Lib.hid hG9
          replace hM9 := Lib.hid hM9
          replace hE9 := Lib.hid hE9
          go_wp2_with fail
          go_meet
          obtain ⟨g2, hg2⟩ := mine_pick hM9.out
          refine ⟨v5.heap.size, A', c', g2, rfl, hcap, ?_, fun h0 => ?_, ?_, ?_⟩
          · have := ((hG9.out.set_ 0 (.int .i64 Wn)).set_ 1 (.int .i64 Hn)).set_ 2 (.slice A' m c'); simpa using this
          · obtain ⟨e1, e2, cs, hb, hc⟩ := hg2 h0
            have hne := blk_ne hb hG9.out (by decide)
            refine ⟨e1, by have := hv0.size; omega, ?_, hne, cs, ((hb.far (p := ⟨v5.heap.size, 0, none⟩) hne _).far (p := ⟨v5.heap.size, 1, none⟩) hne _).far (p := ⟨v5.heap.size, 2, none⟩) hne _, hc⟩
            have := hb.lt; simpa using this
          · have := hv0.size; omega
          · exact ((hE9.out.setCell (by have := hv0.size; simp; omega) _).setCell (by have := hv0.size; simp; omega) _).setCell (by have := hv0.size; simp; omega) _
      case rest =>
      obtain ⟨gf, A', c', g2, rfl, hcap, hG, hg2, hgf, hEc⟩ := hcut
      clear c1c c1f c1l c2c c2f c2l c3c c3f c3l c4c c4f c4l c5c c5f c5l q6 q7 q8
      have hE3 := Lib.hid (hE.out.trans hEc)
      have hcs := hEc.size
      obtain ⟨q1, q2, q3, q4, q5, q6, q7, q8⟩ := hQ.out _ hE3.out
      obtain ⟨c1c, c1f, c1l⟩ := q1.rules
      obtain ⟨c3c, c3f, c3l⟩ := q3.rules
      have hrow := fun h0 => hg2 h0
      replace hg2 := Lib.hid hg2
      have hJ0 : Blk wc (w.heap.size + 1) 27 #[.int .i64 Wn, .int .i64 Hn, .slice B m d] ∧ Blk wc gf 27 #[.int .i64 Wn, .int .i64 Hn, .slice A' m c'] ∧ Blk wc (w.heap.size + 1 + 1 + 1) 27 #[.int .i64 0, .int .i64 0, .slice none 0 0] ∧
          (0 < m → ∃ cs, Blk wc g2 3 cs ∧ ∀ k, k < m → cs[k]? = some (.int .i64 (mix Wn f g (r0, r1, r2, r3) 0 k))) ∧ Ext w wc :=
        ⟨q2, hG, q4, fun h0 => by
          obtain ⟨_, _, _, _, cs, hb, hc⟩ := hrow h0
          exact ⟨cs, hb, fun k hk => by rw [hc k hk]; simp [mix]⟩, q8⟩
      replace hJ0 := Lib.hid hJ0
      have hgl := hG.lt
      have q6' := Lib.hid q6
      clear q1 q2 q3 q4 q5 q6 q7 q8 hG hrow
      go_wp2_with fail
      refine (pixels_any Wn Hn m c A f r0 r1 r2 r3 37 #[.pointer (some ⟨w.heap.size + 1, 0, none⟩), .pointer (some ⟨gf, 0, none⟩)] wc
        (fun p V => Blk V (w.heap.size + 1) 27 #[.int .i64 Wn, .int .i64 Hn, .slice B m d] ∧ Blk V gf 27 #[.int .i64 Wn, .int .i64 Hn, .slice A' m c'] ∧ Blk V (w.heap.size + 1 + 1 + 1) 27 #[.int .i64 0, .int .i64 0, .slice none 0 0] ∧
          (0 < m → ∃ cs, Blk V g2 3 cs ∧ ∀ k, k < m → cs[k]? = some (.int .i64 (mix Wn f g (r0, r1, r2, r3) p k))) ∧ Ext w V)
        hWb hHb hn'.out (enters_of Try.func37 (by kernel_rfl) rfl)
        (fun p V V' h hE' => ⟨h.1.ext hE', h.2.1.ext hE', h.2.2.1.ext hE', fun h0 => by obtain ⟨cs, hb, hc⟩ := h.2.2.2.1 h0; exact ⟨cs, hb.ext hE', hc⟩, h.2.2.2.2.trans hE'⟩)
        (fun p V h => hA.ext h.2.2.2.2)
        (fun p V hp hu h => ⟨h.1, h.2.1, h.2.2.1, fun h0 => by obtain ⟨cs, hb, hc⟩ := h.2.2.2.1 h0; exact ⟨cs, hb, fun k hk => by rw [hc k hk, mix_skip (r := (r0, r1, r2, r3)) hu]⟩, h.2.2.2.2⟩)
        (fun p V hp hu h hs => by
          obtain ⟨e1, e2, e3, e4, -⟩ := hg2.out (by omega)
          obtain ⟨cs, hb, hc⟩ := h.2.2.2.1 (by omega)
          have hpc : p < cs.size := (Array.getElem?_eq_some_iff.1 (hc p hp)).1
          rw [e1] at h
          refine (fill_any p (w.heap.size + 1) gf g2 m m d c' Wn Hn Wn Hn B g V h.1 h.2.1 (hB.ext h.2.2.2.2) hp hp (by omega) (by omega) cs hb hpc).mono fun e V' hh => ?_
          obtain ⟨hu1, V1, hV1, rfl⟩ := hh
          refine ⟨hu1, ⟨(h.1.ext hV1).far (by simp; omega) _, by rw [e1]; exact (h.2.1.ext hV1).far (by simp; omega) _, (h.2.2.1.ext hV1).far (by simp; omega) _, fun _ => ⟨_, (hb.ext hV1).set_ p _, fun k hk => ?_⟩, (h.2.2.2.2.trans hV1).setCell (by simp; omega) _⟩, ?_, ?_⟩
          · rw [mix_set (r := (r0, r1, r2, r3)) hu]
            by_cases e : k = p
            · subst e; rw [if_pos rfl]; simp [hpc]
            · rw [if_neg e, Array.getElem?_setIfInBounds_ne (Ne.symm e)]; exact hc k hk
          · have := hV1.size; simpa [World.setCell] using this
          · intro k hk hk2
            exact (Below.heap_setCell V1 ⟨g2, p, none⟩ _ k (by simp; omega)).trans (Below.block hV1 k hk2))
        hJ0.out).mono ?_
      rintro e V2 ⟨⟨vv, rfl⟩, hJ2⟩
      obtain ⟨-, hG2, hR2, hM2, hEw⟩ := hJ2
      obtain ⟨gc, gff, gfl⟩ := hG2.rules
      obtain ⟨rc, rf, rl⟩ := hR2.rules
      have hfin := hpost.out (.returned (.tuple #[img Wn Hn A' m c', .int .i64 0])) (((V2.setCell ⟨w.heap.size + 1 + 1 + 1, 0, none⟩ (.int .i64 Wn)).setCell ⟨w.heap.size + 1 + 1 + 1, 1, none⟩ (.int .i64 Hn)).setCell ⟨w.heap.size + 1 + 1 + 1, 2, none⟩ (.slice A' m c'))
        ⟨A', c', rfl, hcap, fun h0 => by
          obtain ⟨e1, e2, e3, e4, -⟩ := hg2.out h0
          obtain ⟨cs, hb, hc⟩ := hM2 h0
          exact ⟨g2, e1, by omega, cs, ((hb.far (p := ⟨w.heap.size + 1 + 1 + 1, 0, none⟩) (by simp; omega) _).far (p := ⟨w.heap.size + 1 + 1 + 1, 1, none⟩) (by simp; omega) _).far (p := ⟨w.heap.size + 1 + 1 + 1, 2, none⟩) (by simp; omega) _, fun k hk => by rw [hc k hk, mix_all hk]⟩,
          ((hEw.setCell (by simp; omega) _).setCell (by simp; omega) _).setCell (by simp; omega) _⟩
      replace hfin := Lib.hid hfin
      clear hpost hM2 hEw hG2 hR2 c1c c1f c1l c3c c3f c3l
      go_wp2_with fail
      exact bodyPost_ret (v := .tuple #[img Wn Hn A' m c', .int .i64 0]) (by simp [results, Try.results16, go_sem, *]) rfl hfin.out
end Go.Proofs.Ytcdnpnbjloaihaa
end

section
/- Fill, both: any input. Condition: the lengths are at most 2^62. -/
namespace Go.Proofs.Ytcdnpnbjloaihaa
open Go.RowKit Go.Flow Go.Plain
open Go.Proofs

theorem Fill_any (Wx Hx : Int) (A : Option Addr) (n c : Nat) (f : Nat → Int) (Wy Hy : Int) (B : Option Addr) (m d : Nat) (g : Nat → Int) (r0 r1 r2 r3 : Int) (w : World)
    (hn : n ≤ 4611686018427387904) (hm : m ≤ 4611686018427387904) (hA : Ints w A n f) (hB : Ints w B m g) :
    Calls Try.prog 16 #[img Wx Hx A n c, img Wy Hy B m d, rct r0 r1 r2 r3] w (FillPost Wx Hx n f Wy Hy m g (r0, r1, r2, r3) w) := by
  by_cases h1 : chkI Wx Hx n f = 0
  · by_cases h2 : chkI Wy Hy m g = 0
    · by_cases hd : Wx = Wy ∧ Hx = Hy
      · have he : fillE Wx Hx n f Wy Hy m g = 0 := by unfold fillE; rw [if_pos h1, if_pos h2, if_pos hd]
        obtain ⟨rfl, rfl⟩ := hd
        have hsh := (chkI_ok.1 h1).1
        obtain ⟨Wn, rfl⟩ := Int.eq_ofNat_of_zero_le hsh.1
        obtain ⟨Hn, rfl⟩ := Int.eq_ofNat_of_zero_le hsh.2.2.1
        exact (Fill_ok Wn Hn A n c f B m d g r0 r1 r2 r3 w hA hB h1 h2).mono fun e w' hp => .inr ⟨he, hp⟩
      · have he : fillE Wx Hx n f Wy Hy m g = 13 := by unfold fillE; rw [if_pos h1, if_pos h2, if_neg hd]
        exact (Fill_bad3 Wx Hx A n c f Wy Hy B m d g r0 r1 r2 r3 w hn hm hA hB (by simpa using h1) (by simpa using h2) hd).mono fun e w' hp => .inl ⟨by rw [he]; omega, by rw [he]; exact hp.1, hp.2⟩
    · have he : fillE Wx Hx n f Wy Hy m g = chkI Wy Hy m g := by unfold fillE; rw [if_pos h1, if_neg h2]
      exact (Fill_bad2 Wx Hx A n c f Wy Hy B m d g r0 r1 r2 r3 w hn hm hA hB (by simpa using h1) (by simpa using h2)).mono fun e w' hp => .inl ⟨by rw [he]; exact h2, by rw [he]; exact hp.1, hp.2⟩
  · have he : fillE Wx Hx n f Wy Hy m g = chkI Wx Hx n f := by unfold fillE; rw [if_neg h1]
    exact (Fill_bad1 Wx Hx A n c f Wy Hy B m d g r0 r1 r2 r3 w hn hA hB (by simpa using h1)).mono fun e w' hp => .inl ⟨by rw [he]; exact h1, by rw [he]; exact hp.1, hp.2⟩
end Go.Proofs.Ytcdnpnbjloaihaa
end
