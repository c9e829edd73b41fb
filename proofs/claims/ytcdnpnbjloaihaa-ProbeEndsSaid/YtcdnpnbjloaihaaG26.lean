/- Parts of the proof: PbNext, A33c. -/
import Derived.Test.YtcdnpnbjloaihaaProg
import Derived.Test.YtcdnpnbjloaihaaG22
import Derived.Test.YtcdnpnbjloaihaaG23
import Derived.Test.YtcdnpnbjloaihaaG11
import Derived.Test.YtcdnpnbjloaihaaG16
import Derived.Test.YtcdnpnbjloaihaaG24
import Derived.Test.YtcdnpnbjloaihaaG25
import Derived.Deep.DeepCutAuto
set_option linter.unusedSimpArgs false
set_option linter.unusedVariables false
section
/- probe.Next. No condition but those that each states. -/
namespace Go.Flow
open Go Go.RowKit
theorem Mine.after3 {w0 w : World} {base : Nat} {A : Option Addr} {t : TypeId} {n : Nat} {F : Nat → Value} {k : Nat} {a b c : Value} (h0 : Mine w0 base A t n F) (hE : Ext w0 w) (hk : w0.heap.size ≤ k) :
    Mine (((w.setCell ⟨k, 0, none⟩ a).setCell ⟨k, 1, none⟩ b).setCell ⟨k, 2, none⟩ c) base A t n F := fun hn => by
  obtain ⟨g, e, hb, cs, hB, hc⟩ := h0 hn
  have hne : g ≠ k := by have := hB.lt; omega
  exact ⟨g, e, hb, cs, (((hB.ext hE).far (p := ⟨k, 0, none⟩) hne a).far (p := ⟨k, 1, none⟩) hne b).far (p := ⟨k, 2, none⟩) hne c, hc⟩
/-- A list of bitmaps. -/
def Bms (w : World) (A : Option Addr) (N : Nat) (W H : Nat → Int) (D : Nat → Option Addr) (m c : Nat → Nat) (dot : Nat → Nat → Bool) : Prop :=
  ∀ k, k < N → ∃ g o, A = some ⟨g, o, none⟩ ∧ w.cell? ⟨g, o + k * 3, none⟩ = some (.int .i64 (W k)) ∧ w.cell? ⟨g, o + k * 3 + 1, none⟩ = some (.int .i64 (H k)) ∧ w.cell? ⟨g, o + k * 3 + 2, none⟩ = some (.slice (D k) (m k) (c k)) ∧ Bools w (D k) (m k) (dot k)
/-- A list of matches. -/
def Mts (w : World) (A : Option Addr) (N : Nat) (dx dy lo bl : Nat → Int) : Prop :=
  ∀ k, k < N → ∃ g o, A = some ⟨g, o, none⟩ ∧ w.cell? ⟨g, o + k * 4, none⟩ = some (.int .i64 (dx k)) ∧ w.cell? ⟨g, o + k * 4 + 1, none⟩ = some (.int .i64 (dy k)) ∧ w.cell? ⟨g, o + k * 4 + 2, none⟩ = some (.int .i64 (lo k)) ∧ w.cell? ⟨g, o + k * 4 + 3, none⟩ = some (.int .i64 (bl k))
theorem Ext.cl {w w' : World} {p : Addr} {v : Value} (hE : Ext w w') (h : w.cell? p = some v) : w'.cell? p = some v := (hE.rules.1 p (World.block_lt_of_cell? w p h)).trans h
theorem Bms.ext {w w' : World} {A : Option Addr} {N : Nat} {W H : Nat → Int} {D : Nat → Option Addr} {m c : Nat → Nat} {dot : Nat → Nat → Bool} (h : Bms w A N W H D m c dot) (hE : Ext w w') : Bms w' A N W H D m c dot := fun k hk =>
  let ⟨g, o, e, h1, h2, h3, h4⟩ := h k hk
  ⟨g, o, e, hE.cl h1, hE.cl h2, hE.cl h3, h4.ext hE⟩
theorem Mts.ext {w w' : World} {A : Option Addr} {N : Nat} {dx dy lo bl : Nat → Int} (h : Mts w A N dx dy lo bl) (hE : Ext w w') : Mts w' A N dx dy lo bl := fun k hk =>
  let ⟨g, o, e, h1, h2, h3, h4⟩ := h k hk
  ⟨g, o, e, hE.cl h1, hE.cl h2, hE.cl h3, hE.cl h4⟩
end Go.Flow
namespace Go.Proofs.Ytcdnpnbjloaihaa
open Go.RowKit Go.Flow Go.Plain
open Go.Proofs
attribute [local go_sem] block_add
attribute [local go_sem ↓] Go.wp_at_zero Go.wp_at_succ

theorem PutPost.open_ {W H : Int} {n : Nat} {dot : Nat → Bool} {dx dy : Int} {w : World} {e : Ending} {w' : World} (h : PutPost W H n dot dx dy w e w') :
    ∃ (Wp Hp : Int) (Ap : Option Addr) (mp cp : Nat), e = .returned (.tuple #[img Wp Hp Ap mp cp, .int .i64 (putE W H n dx dy)]) ∧
      (putE W H n dx dy = 0 → Wp = W + 4 ∧ Hp = H + 4 ∧ (mp : Int) = (W + 4) * (H + 4) ∧ Mine w' w.heap.size Ap 3 mp (fun k => .int .i64 (putF W H dot dx dy k))) ∧ Ext w w' := by
  rcases h with ⟨h1, h2, h3⟩ | ⟨h1, A, c, m, h2, h3, h4, h5⟩
  · exact ⟨0, 0, none, 0, 0, h2, fun h => absurd h h1, h3⟩
  · exact ⟨_, _, A, m, c, by rw [h2, h1], fun _ => ⟨rfl, rfl, h3.2, h4⟩, h5⟩
/-- The block that divides best, and how many remain. -/
def nstep (T : Rc → Int) (s : Rc × Int × Bool) (r : Rc) : Rc × Int × Bool := if !s.2.2 || decide (T r < s.2.1) then (r, T r, true) else s
def nst (T : Rc → Int) (l : List Rc) : Rc × Int × Bool := l.foldl (nstep T) ((0, 0, 0, 0), 0, false)
theorem nst_snoc (T : Rc → Int) (l : List Rc) (r : Rc) : nst T (l ++ [r]) = nstep T (nst T l) r := by simp [nst]
noncomputable def togT (W n : Nat) (f : Nat → Int) (N : Nat) (fs : Nat → Nat → Int) (r : Rc) : Int := mK (fun k => .agg (arr (patL (unkR W f r) (fs k) n))) N

theorem info_img : (Try.prog.info? 27).map (fun i => (i.zero, i.size, i.bytes)) = some (some (.agg #[.int .i64 0, .int .i64 0, .slice none 0 0]), 3, 40) := by kernel_rfl
abbrev nret (r : Rc) (n : Int) (ok : Bool) : Ending := .returned (.tuple #[rct r.1 r.2.1 r.2.2.1 r.2.2.2, .int .i64 n, .bool ok])


theorem Next_bad1 (W H : Int) (A : Option Addr) (n c : Nat) (Al : Option Addr) (N cl : Nat) (Ay : Option Addr) (M cy : Nat) (w : World) (hNM : N ≠ M) :
    Calls Try.prog 19 #[img W H A n c, .slice Al N cl, .slice Ay M cy] w fun e w' => e = nret (0, 0, 0, 0) 0 false ∧ Ext w w' := by
  have h1 : ((N : Int) != M) = true := by simp; omega
  have hE1 := Lib.hid (((Ext.refl w).alloc (.cells #[.int .i64 W, .int .i64 H, .slice A n c] 27)).alloc (.cells #[.int .i64 0, .int .i64 0, .int .i64 0, .int .i64 0] 29))
  replace hNM := Lib.hid hNM
  go_enter Try.func19, Try.ntmps19
  go_wp2_with fail
  exact bodyPost_ret (v := .tuple #[rct 0 0 0 0, .int .i64 0, .bool false]) (by simp [results, Try.results19, go_sem, *]) rfl ⟨rfl, hE1.out⟩

theorem Next_bad2 (W H : Int) (A : Option Addr) (n c : Nat) (f : Nat → Int) (Al : Option Addr) (N cl : Nat) (Ay : Option Addr) (cy : Nat) (w : World) (hn : n ≤ 4611686018427387904) (hA : Ints w A n f) (hok : chkI W H n f ≠ 0) :
    Calls Try.prog 19 #[img W H A n c, .slice Al N cl, .slice Ay N cy] w fun e w' => e = nret (0, 0, 0, 0) 0 false ∧ Ext w w' := by
  have h1 : ((N : Int) != N) = false := by simp
  have hne : (chkI W H n f != 0) = true := by simpa using hok
  replace hok := Lib.hid hok
  have hE0 := Lib.hid (((Ext.refl w).alloc (.cells #[.int .i64 W, .int .i64 H, .slice A n c] 27)).alloc (.cells #[.int .i64 0, .int .i64 0, .int .i64 0, .int .i64 0] 29))
  have hR0 := Lib.hid (Blk.new' (g := w.heap.size + 1) (w := w.alloc (.cells #[.int .i64 W, .int .i64 H, .slice A n c] 27)) (by simp) 29 #[.int .i64 0, .int .i64 0, .int .i64 0, .int .i64 0])
  have hA0 := Lib.hid (hA.ext hE0.out)
  go_enter Try.func19, Try.ntmps19
  go_wp2_with fail
  refine (ICheck_any W H A n c f _ hn hA0.out).mono ?_
  rintro e w1 ⟨rfl, hE⟩
  obtain ⟨rc, rf, rl⟩ := (hR0.out.ext hE).rules
  have hE1 := Lib.hid (hE0.out.trans hE)
  clear hE
  go_wp2_with fail
  refine bodyPost_ret (v := .tuple #[rct 0 0 0 0, .int .i64 0, .bool false]) (by simp [results, Try.results19, go_sem, *]) rfl ⟨rfl, ?_⟩
  exact (((hE1.out.setCell (by simp) _).setCell (by simp) _).setCell (by simp) _).setCell (by simp) _

/-- The images that have been laid, up to k of them. -/
def ImgsTo (w : World) (g N k n : Nat) (W H : Int) (A : Nat → Option Addr) (c : Nat → Nat) (f : Nat → Nat → Int) : Prop :=
  ∃ cs, Blk w g 27 cs ∧ cs.size = N * 3 ∧ ∀ i, i < k → cs[i * 3]? = some (.int .i64 W) ∧ cs[i * 3 + 1]? = some (.int .i64 H) ∧ cs[i * 3 + 2]? = some (.slice (A i) n (c i)) ∧ Ints w (A i) n (f i) ∧ (∀ ad, A i = some ad → g < ad.block)
theorem ImgsTo.ext {w w' : World} {g N k n : Nat} {W H : Int} {A : Nat → Option Addr} {c : Nat → Nat} {f : Nat → Nat → Int} (h : ImgsTo w g N k n W H A c f) (hE : Ext w w') : ImgsTo w' g N k n W H A c f :=
  let ⟨cs, hb, hs, hc⟩ := h
  ⟨cs, hb.ext hE, hs, fun i hi => ⟨(hc i hi).1, (hc i hi).2.1, (hc i hi).2.2.1, (hc i hi).2.2.2.1.ext hE, (hc i hi).2.2.2.2⟩⟩
theorem arr_far {w : World} {A : Option Addr} {n : Nat} {F : Nat → Value} {p : Addr} (h : Arr w A n F) (hA : ∀ ad, A = some ad → ad.block ≠ p.block) (u : Value) : Arr (w.setCell p u) A n F := fun k hk => by
  obtain ⟨ad, e, hc⟩ := h k hk
  refine ⟨ad, e, (World.cell?_setCell_other w p (ad.add k) u ?_).trans hc⟩
  intro he
  exact hA ad e (by rw [← block_add ad k, ← he])

theorem cell_far4 {w : World} {g k j : Nat} {u a b c d : Value} (h : w.cell? ⟨g, j, none⟩ = some u) (hne : g ≠ k) : ((((w.setCell ⟨k, 0, none⟩ a).setCell ⟨k, 1, none⟩ b).setCell ⟨k, 2, none⟩ c).setCell ⟨k, 3, none⟩ d).cell? ⟨g, j, none⟩ = some u := by
  have e : ∀ (i : Nat) (w : World) (v : Value), (w.setCell ⟨k, i, none⟩ v).cell? ⟨g, j, none⟩ = w.cell? ⟨g, j, none⟩ := fun i w v => World.cell?_setCell_other w _ _ v (fun h => by injection h with h; exact hne h.symm)
  rw [e, e, e, e]; exact h
theorem ImgsTo.far4 {w : World} {g N k n : Nat} {W H : Int} {A : Nat → Option Addr} {c : Nat → Nat} {f : Nat → Nat → Int} {q : Nat} {a b e d : Value} (h : ImgsTo w g N k n W H A c f) (hne : q < g) (hA : ∀ i, i < k → ∀ ad, A i = some ad → q < ad.block) :
    ImgsTo ((((w.setCell ⟨q, 0, none⟩ a).setCell ⟨q, 1, none⟩ b).setCell ⟨q, 2, none⟩ e).setCell ⟨q, 3, none⟩ d) g N k n W H A c f := by
  obtain ⟨cs, hb, hs, hc⟩ := h
  refine ⟨cs, (((hb.far (p := ⟨q, 0, none⟩) (by simp; omega) _).far (p := ⟨q, 1, none⟩) (by simp; omega) _).far (p := ⟨q, 2, none⟩) (by simp; omega) _).far (p := ⟨q, 3, none⟩) (by simp; omega) _, hs, fun i hi => ?_⟩
  obtain ⟨c1, c2, c3, c4, c5⟩ := hc i hi
  have hq : ∀ ad, A i = some ad → ad.block ≠ q := fun ad h => by have := hA i hi ad h; omega
  exact ⟨c1, c2, c3, arr_far (p := ⟨q, 3, none⟩) (arr_far (p := ⟨q, 2, none⟩) (arr_far (p := ⟨q, 1, none⟩) (arr_far (p := ⟨q, 0, none⟩) c4 hq _) hq _) hq _) hq _, c5⟩
theorem putE_zero {W H : Int} {n : Nat} {dx dy : Int} (h : putE W H n dx dy = 0) : chk W H n = 0 ∧ shiftB dx dy = true := by
  unfold putE at h
  split at h
  · rename_i h1
    split at h
    · exact ⟨h1, ‹_›⟩
    · omega
  · exact absurd h ‹_›
theorem ImgsTo.step {w : World} {g N k n base : Nat} {W H : Int} {A : Nat → Option Addr} {c : Nat → Nat} {f : Nat → Nat → Int} {csr : Array Value} {Ap : Option Addr} {cp : Nat} (hcb : Blk w g 27 csr) (hs : csr.size = N * 3) (hk : k < N)
    (hci : ∀ i, i < k → csr[i * 3]? = some (.int .i64 W) ∧ csr[i * 3 + 1]? = some (.int .i64 H) ∧ csr[i * 3 + 2]? = some (.slice (A i) n (c i)) ∧ Ints w (A i) n (f i) ∧ (∀ ad, A i = some ad → g < ad.block))
    (hM : Mine w base Ap 3 n (fun j => .int .i64 (f k j))) (hb : g < base) (hn : 0 < n) :
    ImgsTo (((w.setCell ⟨g, k * 3, none⟩ (.int .i64 W)).setCell ⟨g, k * 3 + 1, none⟩ (.int .i64 H)).setCell ⟨g, k * 3 + 2, none⟩ (.slice Ap n cp)) g N (k + 1) n W H (fun i => if i = k then Ap else A i) (fun i => if i = k then cp else c i) f := by
  refine ⟨_, ((hcb.set_ _ _).set_ _ _).set_ _ _, by simpa using hs, fun i hi => ?_⟩
  by_cases e : i = k
  · subst e
    simp only [if_true]
    refine ⟨?_, ?_, ?_, ?_, ?_⟩
    · rw [Array.getElem?_setIfInBounds_ne (by omega), Array.getElem?_setIfInBounds_ne (by omega), Array.getElem?_setIfInBounds_self_of_lt (by omega)]
    · rw [Array.getElem?_setIfInBounds_ne (by omega), Array.getElem?_setIfInBounds_self_of_lt (by simp; omega)]
    · rw [Array.getElem?_setIfInBounds_self_of_lt (by simp; omega)]
    · exact (((hM.set_ (p := ⟨g, i * 3, none⟩) hb _).set_ (p := ⟨g, i * 3 + 1, none⟩) hb _).set_ (p := ⟨g, i * 3 + 2, none⟩) hb _).arr
    · intro ad had
      obtain ⟨g', e', hb', -⟩ := hM hn
      rw [had] at e'
      cases e'
      show g < g'
      omega
  · simp only [if_neg e]
    obtain ⟨c1, c2, c3, c4, c5⟩ := hci i (by omega)
    refine ⟨?_, ?_, ?_, ?_, c5⟩
    · rw [Array.getElem?_setIfInBounds_ne (by omega), Array.getElem?_setIfInBounds_ne (by omega), Array.getElem?_setIfInBounds_ne (by omega)]; exact c1
    · rw [Array.getElem?_setIfInBounds_ne (by omega), Array.getElem?_setIfInBounds_ne (by omega), Array.getElem?_setIfInBounds_ne (by omega)]; exact c2
    · rw [Array.getElem?_setIfInBounds_ne (by omega), Array.getElem?_setIfInBounds_ne (by omega), Array.getElem?_setIfInBounds_ne (by omega)]; exact c3
    · exact arr_far (p := ⟨g, k * 3 + 2, none⟩) (arr_far (p := ⟨g, k * 3 + 1, none⟩) (arr_far (p := ⟨g, k * 3, none⟩) c4 (fun ad h => by have := c5 ad h; show ad.block ≠ g; omega) _) (fun ad h => by have := c5 ad h; show ad.block ≠ g; omega) _) (fun ad h => by have := c5 ad h; show ad.block ≠ g; omega) _
noncomputable def nextV (Wn Hn n : Nat) (f : Nat → Int) (N : Nat) (good : Nat → Bool) (fs : Nat → Nat → Int) : Rc × Int × Bool :=
  if (∀ k, k < N → good k = true) ∧ 0 < N then nst (togT Wn n f N fs) (blocks Wn Hn n f) else ((0, 0, 0, 0), 0, false)
def goodB (Wn Hn : Nat) (W H : Int) (m : Nat) (dx dy : Int) : Bool := decide (putE W H m dx dy = 0 ∧ W + 4 = Wn ∧ H + 4 = Hn)


set_option maxHeartbeats 2000000 in
set_option maxRecDepth 100000 in
theorem Next_main (Wn Hn : Nat) (A : Option Addr) (n c : Nat) (f : Nat → Int) (Al : Option Addr) (N cl : Nat) (Wl Hl : Nat → Int) (Dl : Nat → Option Addr) (ml kl : Nat → Nat) (dot : Nat → Nat → Bool) (Ay : Option Addr) (cy : Nat) (dx dy lo bl : Nat → Int) (w : World)
    (hA : Ints w A n f) (hok : chkI Wn Hn n f = 0) (hN : N ≤ 100) (hB : Bms w Al N Wl Hl Dl ml kl dot) (hM : Mts w Ay N dx dy lo bl) (V : Rc × Int × Bool)
    (hV : nextV Wn Hn n f N (fun k => goodB Wn Hn (Wl k) (Hl k) (ml k) (dx k) (dy k)) (fun k => putF (Wl k) (Hl k) (dot k) (dx k) (dy k)) = V) :
    Calls Try.prog 19 #[img Wn Hn A n c, .slice Al N cl, .slice Ay N cy] w fun e w' => e = nret V.1 V.2.1 V.2.2 ∧ Ext w w' := by
  obtain ⟨i0, hi, hz0, hz1, hz2⟩ := info_parts info_img
  obtain ⟨fs, hfs⟩ : ∃ fs : Nat → Nat → Int, (fun k => putF (Wl k) (Hl k) (dot k) (dx k) (dy k)) = fs := ⟨_, rfl⟩
  have hfsk : ∀ k, fs k = putF (Wl k) (Hl k) (dot k) (dx k) (dy k) := fun k => by rw [← hfs]
  rw [hfs] at hV
  clear hfs
  have hsh := (chkI_ok.1 hok).1
  obtain ⟨-, hW, -, hH, hnn⟩ := hsh
  have hn' : n = Wn * Hn := by exact_mod_cast hnn
  have hWb : Wn ≤ 100 := by omega
  have hHb : Hn ≤ 100 := by omega
  have hnb : n ≤ 10000 := by rw [hn']; exact Nat.mul_le_mul hWb hHb
  have h1 : ((N : Int) != N) = false := by simp
  have hne : (chkI Wn Hn n f != 0) = false := by simpa using hok
  replace hok := Lib.hid hok
  replace hn' := Lib.hid hn'
  replace hV := Lib.hid hV
  replace hfsk := Lib.hid hfsk
  clear hnn
  have hE0 := Lib.hid (((Ext.refl w).alloc (.cells #[.int .i64 Wn, .int .i64 Hn, .slice A n c] 27)).alloc (.cells #[.int .i64 0, .int .i64 0, .int .i64 0, .int .i64 0] 29))
  have hX0 := Lib.hid ((Blk.new w 27 #[.int .i64 Wn, .int .i64 Hn, .slice A n c]).alloc (.cells #[.int .i64 0, .int .i64 0, .int .i64 0, .int .i64 0] 29))
  have hR0 := Lib.hid (Blk.new' (g := w.heap.size + 1) (w := w.alloc (.cells #[.int .i64 Wn, .int .i64 Hn, .slice A n c] 27)) (by simp) 29 #[.int .i64 0, .int .i64 0, .int .i64 0, .int .i64 0])
  have hA0 := Lib.hid (hA.ext hE0.out)
  go_enter Try.func19, Try.ntmps19
  go_wp2_with fail
  refine (ICheck_any Wn Hn A n c f _ (by omega) hA0.out).mono ?_
  rintro e w1 ⟨rfl, hE⟩
  have hX1 := Lib.hid (hX0.out.ext hE)
  have hR1 := Lib.hid (hR0.out.ext hE)
  have hws := hR1.out.lt
  replace hE := Lib.hid (hE0.out.trans hE)
  clear hE0 hX0 hR0 hA0
  go_wp2_with (first
    | (at_make; refine wpList_makes rfl (.tmp 29) (.tmp 29) 77 rfl 27 i0 _ Try.underlying77 hi hz0 _ _ _ _ N rfl rfl rfl rfl (by rw [hz2]; omega) (by omega) ?_))
  intro w2 hO hE2
  have hX2 := Lib.hid (hX1.out.ext hE2)
  have hR2 := Lib.hid (hR1.out.ext hE2)
  have hI2 : ImgsTo w2 w1.heap.size N 0 n Wn Hn (fun _ => none) (fun _ => 0) fs := ⟨_, hO, by rw [size_madeCells], fun i hi => absurd hi (by omega)⟩
  replace hI2 := Lib.hid hI2
  replace hE2 := Lib.hid (hE.out.trans hE2)
  have hw12 := hO.lt
  clear hX1 hR1 hE hO
  go_wp2_with fail
  go_loopw [7, 8, 33] (fun s7 s8 i wr => ∃ (k : Nat) (As : Nat → Option Addr) (cs : Nat → Nat), k ≤ N ∧ i = .int .i64 k ∧ s7 = .int .i64 0 ∧ s8 = .bool false ∧ Hid (∀ j, j < k → goodB Wn Hn (Wl j) (Hl j) (ml j) (dx j) (dy j) = true) ∧ Blk wr w.heap.size 27 #[.int .i64 Wn, .int .i64 Hn, .slice A n c] ∧ Blk wr (w.heap.size + 1) 29 #[.int .i64 0, .int .i64 0, .int .i64 0, .int .i64 0] ∧
    ImgsTo wr w1.heap.size N k n Wn Hn As cs fs ∧ Ext w wr) (fun _ _ i _ => N - (intOf i).toNat)
  case atStart => exact ⟨0, _, _, by omega, rfl, rfl, rfl, Lib.hid fun j hj => absurd hj (by omega), hX2.out, hR2.out, hI2.out, hE2.out⟩
  case round =>
    clear hX2 hR2 hI2 hE2
    obtain ⟨k, As, cs, hk, rfl, rfl, rfl, hgood, hX, hR, hI, hE⟩ := hrel
    have hgl := (show ∃ cs, Blk wr w1.heap.size 27 cs from let ⟨cs, hb, _⟩ := hI; ⟨cs, hb⟩)
    have hgw : w1.heap.size < wr.heap.size := let ⟨_, hb⟩ := hgl; hb.lt
    clear hgl
    by_cases hlt : k < N
    · have hlt' : (k : Int) < N := by omega
      obtain ⟨g, og, rfl, b1, b2, b3, hdots⟩ := (hB.ext hE) k hlt
      obtain ⟨g', og', rfl, m1, m2, m3, m4⟩ := (hM.ext hE) k hlt
      have hgl1 := World.block_lt_of_cell? wr _ b1
      have hgl2 := World.block_lt_of_cell? wr _ m1
      replace hdots := Lib.hid hdots
      have hfk := hfsk.out k
      have hgk : goodB Wn Hn (Wl k) (Hl k) (ml k) (dx k) (dy k) = true → Hid (∀ j, j < k + 1 → goodB Wn Hn (Wl j) (Hl j) (ml j) (dx j) (dy j) = true) := fun h => Lib.hid fun j hj => by
        rcases Nat.lt_or_ge j k with h1 | h1
        · exact hgood.out j h1
        · rw [show j = k by omega]; exact h
      have hngk : goodB Wn Hn (Wl k) (Hl k) (ml k) (dx k) (dy k) ≠ true → V = ((0, 0, 0, 0), 0, false) := fun h => by
        rw [← hV.out]; unfold nextV; rw [if_neg (fun h2 => h (h2.1 k hlt))]
      generalize Wl k = Wk at *
      generalize Hl k = Hk at *
      generalize Dl k = Dk at *
      generalize ml k = mk at *
      generalize kl k = ck at *
      generalize dot k = dk at *
      generalize dx k = dxk at *
      generalize dy k = dyk at *
      generalize lo k = lok at *
      generalize bl k = blk at *
      replace hfk := Lib.hid hfk
      replace hgk := Lib.hid hgk
      replace hngk := Lib.hid hngk
      obtain ⟨xc, xf, xl⟩ := hX.rules
      obtain ⟨rc, rf, rl⟩ := hR.rules
      replace hX := Lib.hid hX
      replace hR := Lib.hid hR
      replace hI := Lib.hid hI
      replace hE := Lib.hid hE
      obtain ⟨Vb, hVb⟩ : ∃ Vb, wr.alloc (.cells #[.int .i64 Wk, .int .i64 Hk, .slice Dk mk ck] 48) = Vb := ⟨_, rfl⟩
      have hEb : Ext wr Vb := by subst hVb; exact (Ext.refl wr).alloc _
      have hBb : Blk Vb wr.heap.size 48 #[.int .i64 Wk, .int .i64 Hk, .slice Dk mk ck] := by subst hVb; exact Blk.new _ _ _
      have hdb := Lib.hid (hdots.out.ext hEb)
      have m1b := hEb.cl m1
      have m2b := hEb.cl m2
      have hgl2b := World.block_lt_of_cell? Vb _ m1b
      obtain ⟨bc, bf, bl'⟩ := hBb.rules
      replace hEb := Lib.hid hEb
      replace hBb := Lib.hid hBb
      go_wp2_with fail
      clear hVb
      go_cut [12, 13] (fun s12 s13 wx => ∃ (gp : Nat) (Wp Hp : Int) (Ap : Option Addr) (mp cp : Nat), s12 = .pointer (some ⟨gp, 0, none⟩) ∧ s13 = .int .i64 (putE Wk Hk mk dxk dyk) ∧ Blk wx gp 27 #[.int .i64 Wp, .int .i64 Hp, .slice Ap mp cp] ∧
        (putE Wk Hk mk dxk dyk = 0 → Wp = Wk + 4 ∧ Hp = Hk + 4 ∧ (mp : Int) = (Wk + 4) * (Hk + 4) ∧ Mine wx Vb.heap.size Ap 3 mp (fun k => .int .i64 (putF Wk Hk dk dxk dyk k))) ∧ Vb.heap.size ≤ gp ∧ Ext Vb wx)
      case first =>
        refine Flow.wp_treeB (B := Vb.heap.size) 18 (.two [(0, true), (1, true), (2, true), (3, true), (4, true), (5, true), (6, true), (7, true), (8, true), (9, true), (10, true)] 11 (.fin [(12, true), (13, true), (14, true), (15, false), (16, false), (17, true)]) 15 (.fin [(11, false), (12, true), (13, true), (14, true), (16, false), (17, true)])) (by kernel_rfl) (by kernel_rfl) ?_
        simp only [Flow.Tr.seq, Flow.sq, List.map_cons, List.map_nil, List.getD_cons_succ, List.getD_cons_zero]
        repeat (first
          | (refine Flow.WalkB.move rfl ?_
             simp only [Act.put, Act.eval, Array.getD_eq_getD_getElem?, List.getElem?_toArray, List.getElem?_cons_succ, List.getElem?_cons_zero, Option.getD_some, List.setIfInBounds_toArray, List.set_cons_zero, List.set_cons_succ])
          | (refine Flow.WalkB.assign rfl ?_
             simp only [Act.put, Act.eval, Array.getD_eq_getD_getElem?, List.getElem?_toArray, List.getElem?_cons_succ, List.getElem?_cons_zero, Option.getD_some, List.setIfInBounds_toArray, List.set_cons_zero, List.set_cons_succ])
          | (refine Flow.WalkB.run (v := ?_) rfl (fun w1 hC => ?_) ?_
             rotate_left
             · obtain ⟨hCc, hCf⟩ := hC.rulesB
               go_simp
               with_reducible rfl
             simp only [Act.put, List.setIfInBounds_toArray, List.set_cons_zero, List.set_cons_succ]))
        refine Flow.WalkB.nil (fun v0 hv0 => Flow.contB_and ?_ ?_)
        · simp only [Flow.Tr.seq, Flow.sq, List.map_cons, List.map_nil, List.getD_cons_succ, List.getD_cons_zero]
          repeat (first
            | (refine Flow.WalkB.move rfl ?_
               simp only [Act.put, Act.eval, Array.getD_eq_getD_getElem?, List.getElem?_toArray, List.getElem?_cons_succ, List.getElem?_cons_zero, Option.getD_some, List.setIfInBounds_toArray, List.set_cons_zero, List.set_cons_succ])
            | (refine Flow.WalkB.assign rfl ?_
               simp only [Act.put, Act.eval, Array.getD_eq_getD_getElem?, List.getElem?_toArray, List.getElem?_cons_succ, List.getElem?_cons_zero, Option.getD_some, List.setIfInBounds_toArray, List.set_cons_zero, List.set_cons_succ])
            | (refine Flow.WalkB.run (v := ?_) rfl (fun w1 hC => ?_) ?_
               rotate_left
               · obtain ⟨hCc, hCf⟩ := hC.rulesB
                 go_simp
                 with_reducible rfl
               simp only [Act.put, List.setIfInBounds_toArray, List.set_cons_zero, List.set_cons_succ]))
          refine Flow.WalkB.openf Try.func22 rfl (by kernel_rfl) rfl rfl rfl (fun v1 hv1 => ?_)
          refine (IPut_any Wk Hk Dk mk ck dk dxk dyk v1 (hdb.out.ext (hv0.ext.trans hv1.ext))).mono ?_
          rintro e v2 hp
          obtain ⟨Wp, Hp, Ap, mp, cp, rfl, hgd, hv2⟩ := hp.open_
          have z0 := hv0.ext.size
          have z1 := hv1.ext.size
          have z2 := hv2.size
          refine ⟨_, rfl, Below.mono hv2 (by omega), ?_⟩
          simp only [Act.put, List.setIfInBounds_toArray, List.set_cons_zero, List.set_cons_succ]
          repeat (first
            | (refine Flow.WalkB.move rfl ?_
               simp only [Act.put, Act.eval, Array.getD_eq_getD_getElem?, List.getElem?_toArray, List.getElem?_cons_succ, List.getElem?_cons_zero, Option.getD_some, List.setIfInBounds_toArray, List.set_cons_zero, List.set_cons_succ])
            | (refine Flow.WalkB.assign rfl ?_
               simp only [Act.put, Act.eval, Array.getD_eq_getD_getElem?, List.getElem?_toArray, List.getElem?_cons_succ, List.getElem?_cons_zero, Option.getD_some, List.setIfInBounds_toArray, List.set_cons_zero, List.set_cons_succ])
            | (refine Flow.WalkB.run (v := ?_) rfl (fun w1 hC => ?_) ?_
               rotate_left
               · obtain ⟨hCc, hCf⟩ := hC.rulesB
                 go_simp
                 with_reducible rfl
               simp only [Act.put, List.setIfInBounds_toArray, List.set_cons_zero, List.set_cons_succ]))
          refine Flow.WalkB.openrun rfl (fun v5 hv5 => ⟨.pointer (some ⟨v5.heap.size, 0, none⟩), v5.alloc (.cells #[.int .i64 0, .int .i64 0, .slice none 0 0] 27), by go_simp; try rfl, Below.alloc (Below.refl _ _) (by have := hv5.low.size; omega) _, ?_⟩)
          simp only [Act.put, List.setIfInBounds_toArray, List.set_cons_zero, List.set_cons_succ]
          have z5 := hv5.ext.size
          refine Flow.WalkB.openskip rfl (fun v6 hv6 => ?_)
          have hS := ((Blk.new v5 _ _)).ext hv6.ext
          obtain ⟨sc, sf, sl⟩ := hS.rules
          have hS6 : Blk (((v6.setCell ⟨v5.heap.size, 0, none⟩ (.int .i64 Wp)).setCell ⟨v5.heap.size, 1, none⟩ (.int .i64 Hp)).setCell ⟨v5.heap.size, 2, none⟩ (.slice Ap mp cp)) v5.heap.size 27 #[.int .i64 Wp, .int .i64 Hp, .slice Ap mp cp] := by
            have := ((hS.set_ 0 (.int .i64 Wp)).set_ 1 (.int .i64 Hp)).set_ 2 (.slice Ap mp cp)
            simpa using this
          replace hS6 := Lib.hid hS6
          replace hS := Lib.hid hS
          refine ⟨((v6.setCell ⟨v5.heap.size, 0, none⟩ (.int .i64 Wp)).setCell ⟨v5.heap.size, 1, none⟩ (.int .i64 Hp)).setCell ⟨v5.heap.size, 2, none⟩ (.slice Ap mp cp), by go_simp; try rfl, ((Below.setCell (Below.refl _ _) (by simp; omega) _).setCell (by simp; omega) _).setCell (by simp; omega) _, ?_⟩
          clear sc sf sl
          simp only [Act.put, List.setIfInBounds_toArray, List.set_cons_zero, List.set_cons_succ]
          have z6 := hv6.ext.size
          simp only [World.size_alloc] at z6
          repeat (first
            | (refine Flow.WalkB.move rfl ?_
               simp only [Act.put, Act.eval, Array.getD_eq_getD_getElem?, List.getElem?_toArray, List.getElem?_cons_succ, List.getElem?_cons_zero, Option.getD_some, List.setIfInBounds_toArray, List.set_cons_zero, List.set_cons_succ])
            | (refine Flow.WalkB.assign rfl ?_
               simp only [Act.put, Act.eval, Array.getD_eq_getD_getElem?, List.getElem?_toArray, List.getElem?_cons_succ, List.getElem?_cons_zero, Option.getD_some, List.setIfInBounds_toArray, List.set_cons_zero, List.set_cons_succ])
            | (refine Flow.WalkB.run (v := ?_) rfl (fun w1 hC => ?_) ?_
               rotate_left
               · obtain ⟨hCc, hCf⟩ := hC.rulesB
                 go_simp
                 with_reducible rfl
               simp only [Act.put, List.setIfInBounds_toArray, List.set_cons_zero, List.set_cons_succ]))
          refine Flow.WalkB.nil (fun v7 hv7 => Flow.contB_fin ?_)
          simp only [List.drop]
          go_wp2_with fail
          go_meet
          refine ⟨v5.heap.size, Wp, Hp, Ap, mp, cp, rfl, rfl, hS6.out.ext hv7.ext, fun h0 => ?_, by omega, ?_⟩
          · obtain ⟨e1, e2, e3, hM⟩ := hgd h0
            exact ⟨e1, e2, e3, ((hM.after3 (hv5.ext.trans (((Ext.refl v5).alloc _).trans hv6.ext)) (by omega)).ext hv7.ext).less (by omega)⟩
          · exact ((((hv0.ext.trans (hv1.ext.trans (hv2.trans (hv5.ext.trans (((Ext.refl v5).alloc _).trans hv6.ext))))).setCell (by simp; omega) _).setCell (by simp; omega) _).setCell (by simp; omega) _).trans hv7.ext
        · simp only [Flow.Tr.seq, Flow.sq, List.map_cons, List.map_nil, List.getD_cons_succ, List.getD_cons_zero]
          repeat (first
            | (refine Flow.WalkB.move rfl ?_
               simp only [Act.put, Act.eval, Array.getD_eq_getD_getElem?, List.getElem?_toArray, List.getElem?_cons_succ, List.getElem?_cons_zero, Option.getD_some, List.setIfInBounds_toArray, List.set_cons_zero, List.set_cons_succ])
            | (refine Flow.WalkB.assign rfl ?_
               simp only [Act.put, Act.eval, Array.getD_eq_getD_getElem?, List.getElem?_toArray, List.getElem?_cons_succ, List.getElem?_cons_zero, Option.getD_some, List.setIfInBounds_toArray, List.set_cons_zero, List.set_cons_succ])
            | (refine Flow.WalkB.run (v := ?_) rfl (fun w1 hC => ?_) ?_
               rotate_left
               · obtain ⟨hCc, hCf⟩ := hC.rulesB
                 go_simp
                 with_reducible rfl
               simp only [Act.put, List.setIfInBounds_toArray, List.set_cons_zero, List.set_cons_succ]))
          have z0 := hv0.ext.size
          refine Flow.WalkB.openrun rfl (fun v5 hv5 => ⟨.pointer (some ⟨v5.heap.size, 0, none⟩), v5.alloc (.cells #[.int .i64 0, .int .i64 0, .slice none 0 0] 27), by go_simp; try rfl, Below.alloc (Below.refl _ _) (by have := hv5.low.size; omega) _, ?_⟩)
          simp only [Act.put, List.setIfInBounds_toArray, List.set_cons_zero, List.set_cons_succ]
          have z5 := hv5.ext.size
          refine Flow.WalkB.openf Try.func22 rfl (by kernel_rfl) rfl rfl rfl (fun v1 hv1 => ?_)
          refine (IPut_any Wk Hk Dk mk ck dk dxk dyk v1 (hdb.out.ext (hv0.ext.trans (hv5.ext.trans (((Ext.refl v5).alloc _).trans hv1.ext))))).mono ?_
          rintro e v2 hp
          obtain ⟨Wp, Hp, Ap, mp, cp, rfl, hgd, hv2⟩ := hp.open_
          have z1 := hv1.ext.size
          have z2 := hv2.size
          simp only [World.size_alloc] at z1
          refine ⟨_, rfl, Below.mono hv2 (by omega), ?_⟩
          simp only [Act.put, List.setIfInBounds_toArray, List.set_cons_zero, List.set_cons_succ]
          repeat (first
            | (refine Flow.WalkB.move rfl ?_
               simp only [Act.put, Act.eval, Array.getD_eq_getD_getElem?, List.getElem?_toArray, List.getElem?_cons_succ, List.getElem?_cons_zero, Option.getD_some, List.setIfInBounds_toArray, List.set_cons_zero, List.set_cons_succ])
            | (refine Flow.WalkB.assign rfl ?_
               simp only [Act.put, Act.eval, Array.getD_eq_getD_getElem?, List.getElem?_toArray, List.getElem?_cons_succ, List.getElem?_cons_zero, Option.getD_some, List.setIfInBounds_toArray, List.set_cons_zero, List.set_cons_succ])
            | (refine Flow.WalkB.run (v := ?_) rfl (fun w1 hC => ?_) ?_
               rotate_left
               · obtain ⟨hCc, hCf⟩ := hC.rulesB
                 go_simp
                 with_reducible rfl
               simp only [Act.put, List.setIfInBounds_toArray, List.set_cons_zero, List.set_cons_succ]))
          refine Flow.WalkB.openskip rfl (fun v6 hv6 => ?_)
          have hS := (((Blk.new v5 _ _).ext (hv1.ext.trans hv2))).ext hv6.ext
          obtain ⟨sc, sf, sl⟩ := hS.rules
          have hS6 : Blk (((v6.setCell ⟨v5.heap.size, 0, none⟩ (.int .i64 Wp)).setCell ⟨v5.heap.size, 1, none⟩ (.int .i64 Hp)).setCell ⟨v5.heap.size, 2, none⟩ (.slice Ap mp cp)) v5.heap.size 27 #[.int .i64 Wp, .int .i64 Hp, .slice Ap mp cp] := by
            have := ((hS.set_ 0 (.int .i64 Wp)).set_ 1 (.int .i64 Hp)).set_ 2 (.slice Ap mp cp)
            simpa using this
          replace hS6 := Lib.hid hS6
          replace hS := Lib.hid hS
          refine ⟨((v6.setCell ⟨v5.heap.size, 0, none⟩ (.int .i64 Wp)).setCell ⟨v5.heap.size, 1, none⟩ (.int .i64 Hp)).setCell ⟨v5.heap.size, 2, none⟩ (.slice Ap mp cp), by go_simp; try rfl, ((Below.setCell (Below.refl _ _) (by simp; omega) _).setCell (by simp; omega) _).setCell (by simp; omega) _, ?_⟩
          clear sc sf sl
          simp only [Act.put, List.setIfInBounds_toArray, List.set_cons_zero, List.set_cons_succ]
          have z6 := hv6.ext.size
          repeat (first
            | (refine Flow.WalkB.move rfl ?_
               simp only [Act.put, Act.eval, Array.getD_eq_getD_getElem?, List.getElem?_toArray, List.getElem?_cons_succ, List.getElem?_cons_zero, Option.getD_some, List.setIfInBounds_toArray, List.set_cons_zero, List.set_cons_succ])
            | (refine Flow.WalkB.assign rfl ?_
               simp only [Act.put, Act.eval, Array.getD_eq_getD_getElem?, List.getElem?_toArray, List.getElem?_cons_succ, List.getElem?_cons_zero, Option.getD_some, List.setIfInBounds_toArray, List.set_cons_zero, List.set_cons_succ])
            | (refine Flow.WalkB.run (v := ?_) rfl (fun w1 hC => ?_) ?_
               rotate_left
               · obtain ⟨hCc, hCf⟩ := hC.rulesB
                 go_simp
                 with_reducible rfl
               simp only [Act.put, List.setIfInBounds_toArray, List.set_cons_zero, List.set_cons_succ]))
          refine Flow.WalkB.nil (fun v7 hv7 => Flow.contB_fin ?_)
          simp only [List.drop]
          go_wp2_with fail
          go_meet
          refine ⟨v5.heap.size, Wp, Hp, Ap, mp, cp, rfl, rfl, hS6.out.ext hv7.ext, fun h0 => ?_, by omega, ?_⟩
          · obtain ⟨e1, e2, e3, hM⟩ := hgd h0
            exact ⟨e1, e2, e3, (((((hM.ext hv6.ext).set_ (by simp; omega) _).set_ (by simp; omega) _).set_ (by simp; omega) _).ext hv7.ext).less (by omega)⟩
          · exact ((((hv0.ext.trans (hv5.ext.trans (((Ext.refl v5).alloc _).trans (hv1.ext.trans (hv2.trans hv6.ext))))).setCell (p := ⟨v5.heap.size, 0, none⟩) (by show Vb.heap.size ≤ v5.heap.size; omega) _).setCell (p := ⟨v5.heap.size, 1, none⟩) (by show Vb.heap.size ≤ v5.heap.size; omega) _).setCell (p := ⟨v5.heap.size, 2, none⟩) (by show Vb.heap.size ≤ v5.heap.size; omega) _).trans hv7.ext
      case rest =>
      obtain ⟨gp, Wp, Hp, Ap, mp, cp, rfl, rfl, hP, hgd, hgp, hEc⟩ := hcut
      have hEw := hEb.out.trans hEc
      have hX1 := Lib.hid (hX.out.ext hEw)
      have hR1 := hR.out.ext hEw
      have hI1 := Lib.hid (hI.out.ext hEw)
      have hE1 := Lib.hid (hE.out.trans hEw)
      have hgs := hEb.out.size
      have hcs := hEc.size
      obtain ⟨pc, pf, pl⟩ := hP.rules
      obtain ⟨xc1, xf1, xl1⟩ := hX1.out.rules
      obtain ⟨rc1, rf1, rl1⟩ := hR1.rules
      replace hR1 := Lib.hid hR1
      replace hP := Lib.hid hP
      clear xc xf xl rc rf rl bc bf bl' m1 m2 m3 m4 m1b m2b b1 b2 b3
      by_cases hz : putE Wk Hk mk dxk dyk = 0
      · obtain ⟨e1, e2, e3, hMine⟩ := hgd hz
        have hz' : (putE Wk Hk mk dxk dyk != 0) = false := by simpa using hz
        by_cases hw1 : Wp = Wn
        · have hw1' : (Wp != (Wn : Int)) = false := by simpa using hw1
          by_cases hh1 : Hp = Hn
          · have hh1' : (Hp != (Hn : Int)) = false := by simpa using hh1
            have hmp : mp = n := by
              have : (mp : Int) = (Wn : Int) * Hn := by rw [e3, ← e1, ← e2, hw1, hh1]
              have h2 := hn'.out
              rw [h2]; exact_mod_cast this
            have hmp0 : 0 < mp := by
              have hk := okB (putE_zero hz).1
              have h2 : 4 * 4 ≤ (Wk + 4) * (Hk + 4) := Int.mul_le_mul (by omega) (by omega) (by omega) (by omega)
              omega
            have hgk1 := hgk.out (by unfold goodB; rw [decide_eq_true]; exact ⟨hz, by rw [← e1]; exact hw1, by rw [← e2]; exact hh1⟩)
            subst hmp
            subst hw1
            subst hh1
            obtain ⟨csr, hcb, hcsz, hci⟩ := hI1.out
            have hk0 : k * 3 < csr.size := by omega
            have hk1 : k * 3 + 1 < csr.size := by omega
            have hk2 : k * 3 + 2 < csr.size := by omega
            have g0 : wc.cell? ⟨w1.heap.size, k * 3, none⟩ = some csr[k * 3] := by rw [hcb.cell]; exact Array.getElem?_eq_getElem hk0
            have g1 : wc.cell? ⟨w1.heap.size, k * 3 + 1, none⟩ = some csr[k * 3 + 1] := by rw [hcb.cell]; exact Array.getElem?_eq_getElem hk1
            have g2 : wc.cell? ⟨w1.heap.size, k * 3 + 2, none⟩ = some csr[k * 3 + 2] := by rw [hcb.cell]; exact Array.getElem?_eq_getElem hk2
            have f0 := hcb.frozen
            have fl := hcb.lt
            replace hcb := Lib.hid hcb
            replace hci := Lib.hid hci
            replace hMine := Lib.hid hMine
            clear hgd e1 e2 e3 hz
            go_wp2_with fail
            exact ⟨⟨k + 1, _, _, by omega, by go_num, rfl, rfl, hgk1, ((hX1.out.far (by simp; omega) _).far (by simp; omega) _).far (by simp; omega) _, ((hR1.out.far (by simp; omega) _).far (by simp; omega) _).far (by simp; omega) _,
              ImgsTo.step hcb.out hcsz hlt hci.out (by rw [hfk.out]; exact hMine.out) (by omega) hmp0, ((hE1.out.setCell (by simp; omega) _).setCell (by simp; omega) _).setCell (by simp; omega) _⟩, by simp only [intOf]; omega⟩
          · have hh1' : (Hp != (Hn : Int)) = true := by simpa using hh1
            subst hw1
            have hVe := hngk.out (by unfold goodB; simp only [ne_eq, decide_eq_true_eq]; exact fun h => hh1 (by rw [e2]; exact h.2.2))
            subst hVe
            clear hgd hgk hngk hV
            go_wp2_with fail
            refine bodyPost_ret (v := .tuple #[rct 0 0 0 0, .int .i64 0, .bool false]) (by simp [results, Try.results19, go_sem, *]) rfl ⟨rfl, ?_⟩
            exact (((hE1.out.setCell (by simp) _).setCell (by simp) _).setCell (by simp) _).setCell (by simp) _
        · have hw1' : (Wp != (Wn : Int)) = true := by simpa using hw1
          have hVe := hngk.out (by unfold goodB; simp only [ne_eq, decide_eq_true_eq]; exact fun h => hw1 (by rw [e1]; exact h.2.1))
          subst hVe
          clear hgd hgk hngk hV
          go_wp2_with fail
          refine bodyPost_ret (v := .tuple #[rct 0 0 0 0, .int .i64 0, .bool false]) (by simp [results, Try.results19, go_sem, *]) rfl ⟨rfl, ?_⟩
          exact (((hE1.out.setCell (by simp) _).setCell (by simp) _).setCell (by simp) _).setCell (by simp) _
      · have hz' : (putE Wk Hk mk dxk dyk != 0) = true := by simpa using hz
        have hVe := hngk.out (by unfold goodB; simp only [ne_eq, decide_eq_true_eq]; exact fun h => hz h.1)
        subst hVe
        clear hgd hgk hngk hV
        go_wp2_with fail
        refine bodyPost_ret (v := .tuple #[rct 0 0 0 0, .int .i64 0, .bool false]) (by simp [results, Try.results19, go_sem, *]) rfl ⟨rfl, ?_⟩
        exact (((hE1.out.setCell (by simp) _).setCell (by simp) _).setCell (by simp) _).setCell (by simp) _
    · obtain rfl : k = N := by omega
      by_cases hN0 : k = 0
      · have hN0' : ((k : Int) == 0) = true := by simp; omega
        have hVe : V = ((0, 0, 0, 0), 0, false) := by rw [← hV.out]; unfold nextV; rw [if_neg (fun h => by omega)]
        subst hVe
        have hE1 := Lib.hid hE
        obtain ⟨rc, rf, rl⟩ := hR.rules
        replace hN0 := Lib.hid hN0
        clear hV hE hI hX hR
        go_wp2_with fail
        refine bodyPost_ret (v := .tuple #[rct 0 0 0 0, .int .i64 0, .bool false]) (by simp [results, Try.results19, go_sem, *]) rfl ⟨rfl, ?_⟩
        exact (((hE1.out.setCell (by simp) _).setCell (by simp) _).setCell (by simp) _).setCell (by simp) _
      · have hN0' : ((k : Int) == 0) = false := by simp; omega
        obtain ⟨T, hT⟩ : ∃ T, togT Wn n f k fs = T := ⟨_, rfl⟩
        have hVn : V = nst T (blocks Wn Hn n f) := by rw [← hV.out]; unfold nextV; rw [if_pos ⟨hgood.out, by omega⟩, hT]
        have hfb : ∀ i, i < k → ∀ j, j < n → 0 ≤ fs i j ∧ fs i j ≤ 2 := fun i _ j _ => by rw [hfsk.out i]; have := putF_bd (Wl i) (Hl i) (dot i) (dx i) (dy i) j; omega
        obtain ⟨L, hL⟩ : ∃ L, blocks Wn Hn n f = L := ⟨_, rfl⟩
        have hLm : ∀ r ∈ L, cnt (unkR Wn f r) n ≤ 16 := fun r hr => by
          rw [← hL] at hr
          obtain ⟨p, -, rfl, -⟩ := bls_mem hr
          exact cap16 hn'.out f p
        have hLl : L.length ≤ 1000 := by
          rw [← hL]
          have h1 := bls_len Wn Hn n f (four Hn * four Wn)
          have h2 : four Hn * four Wn ≤ 25 * 25 := Nat.mul_le_mul (by unfold four; omega) (by unfold four; omega)
          unfold blocks; omega
        rw [hL] at hVn
        have hTr : ∀ r, T r = mK (fun i => .agg (arr (patL (unkB Wn f r.1 r.2.1 r.2.2.1 r.2.2.2) (fs i) n))) k := fun r => by rw [← hT]; rfl
        replace hVn := Lib.hid hVn
        replace hfb := Lib.hid hfb
        replace hLm := Lib.hid hLm
        replace hTr := Lib.hid hTr
        replace hL := Lib.hid hL
        replace hN0 := Lib.hid hN0
        obtain ⟨xc, xf, xl⟩ := hX.rules
        have hA1 := Lib.hid (hA.ext hE)
        replace hX := Lib.hid hX
        replace hR := Lib.hid hR
        replace hI := Lib.hid hI
        replace hE := Lib.hid hE
        clear hV hgood hT
        go_wp2_with fail
        refine (Blocks_ok Wn Hn A n c f wr hA1.out hok.out).mono ?_
        rintro e w5 ⟨v, rfl, hrow, hE5⟩
        rw [hL.out] at hrow
        obtain ⟨Ar, cr, rfl, hcells⟩ := row_open hrow
        have hX5 := Lib.hid (hX.out.ext hE5)
        have hR5 := Lib.hid (hR.out.ext hE5)
        have hI5 := Lib.hid (hI.out.ext hE5)
        replace hcells := Lib.hid hcells
        have hwr5 := hE5.size
        replace hE5 := Lib.hid (hE.out.trans hE5)
        clear hX hR hI hE hA1 hrow xc xf xl
        go_wp2_with fail
        obtain ⟨w9, rfl⟩ : ∃ w9 : World, w9 = wr := ⟨_, rfl⟩
        go_loopw [7, 8, 82] (fun s7 s8 i wr => ∃ (q : Nat) (b0 b1 b2 b3 lv : Int) (okv : Bool), q ≤ L.length ∧ i = .int .i64 q ∧ s7 = .int .i64 lv ∧ s8 = .bool okv ∧ Hid (nst T (L.take q) = ((b0, b1, b2, b3), lv, okv)) ∧
          Blk wr w.heap.size 27 #[.int .i64 Wn, .int .i64 Hn, .slice A n c] ∧ Blk wr (w.heap.size + 1) 29 #[.int .i64 b0, .int .i64 b1, .int .i64 b2, .int .i64 b3] ∧ ImgsTo wr w1.heap.size k k n Wn Hn As cs fs ∧
          (0 < L.length → ∃ g, Ar = some ⟨g, 0, none⟩ ∧ w9.heap.size ≤ g ∧ g < wr.heap.size ∧ ∀ j u, (flat L)[j]? = some u → wr.cell? ⟨g, j, none⟩ = some u) ∧ Ext w wr) (fun _ _ i _ => L.length - (intOf i).toNat)
        case atStart => exact ⟨0, 0, 0, 0, 0, 0, false, by omega, rfl, rfl, rfl, Lib.hid rfl, hX5.out, hR5.out, hI5.out, hcells.out, hE5.out⟩
        case round =>
          clear hX5 hR5 hI5 hE5 hcells
          obtain ⟨q, b0, b1, b2, b3, lv, okv, hq, rfl, rfl, rfl, hst, hX, hR, hI, hcells, hE⟩ := hrel
          obtain ⟨xc, xf, xl⟩ := hX.rules
          obtain ⟨rc, rf, rl⟩ := hR.rules
          by_cases hqt : q < L.length
          · have hqt' : (q : Int) < L.length := by omega
            obtain ⟨g, rfl, hg9, hgw, hcl⟩ := hcells (by omega)
            obtain ⟨⟨r0, r1, r2, r3⟩, hr⟩ : ∃ r, L[q] = r := ⟨_, rfl⟩
            have hrq : L[q]? = some (r0, r1, r2, r3) := by rw [List.getElem?_eq_getElem hqt, hr]
            have k0 := hcl (q * 4) (.int .i64 r0) (by have := flat_get hrq 0 (by omega); simpa [rcells] using this)
            have k1 := hcl (q * 4 + 1) (.int .i64 r1) (by have := flat_get hrq 1 (by omega); simpa [rcells] using this)
            have k2 := hcl (q * 4 + 2) (.int .i64 r2) (by have := flat_get hrq 2 (by omega); simpa [rcells] using this)
            have k3 := hcl (q * 4 + 3) (.int .i64 r3) (by have := flat_get hrq 3 (by omega); simpa [rcells] using this)
            have hcap := hLm.out (r0, r1, r2, r3) (List.mem_of_getElem? hrq)
            have htake : L.take (q + 1) = L.take q ++ [(r0, r1, r2, r3)] := by rw [List.take_succ_eq_append_getElem hqt, hr]
            have hnx : nst T (L.take (q + 1)) = nstep T ((b0, b1, b2, b3), lv, okv) (r0, r1, r2, r3) := by rw [htake, nst_snoc, hst.out]
            replace hnx := Lib.hid hnx
            replace hcl := Lib.hid hcl
            replace hcap := Lib.hid hcap
            have hIm : Imgs wr w1.heap.size k (fun _ => (Wn : Int)) (fun _ => (Hn : Int)) As (fun _ => n) cs fs := by
              obtain ⟨csr, hb, hs, hc⟩ := hI
              exact ⟨fun i hi => by rw [hb.cell]; exact (hc i hi).1, fun i hi => by rw [hb.cell]; exact (hc i hi).2.1, fun i hi => by rw [hb.cell]; exact (hc i hi).2.2.1, fun i hi => (hc i hi).2.2.2.1⟩
            replace hIm := Lib.hid hIm
            replace hX := Lib.hid hX
            replace hR := Lib.hid hR
            replace hI := Lib.hid hI
            replace hE := Lib.hid hE
            clear hcells hr htake hrq hst
            go_wp2_with fail
            refine (together_any Wn Hn n c A f w1.heap.size k k (fun _ => (Wn : Int)) (fun _ => (Hn : Int)) As cs fs r0 r1 r2 r3 _ hWb hHb hn'.out (hA.ext (hE.out.alloc _)) (hIm.out.ext ((Ext.refl wr).alloc _)) (by omega) hcap.out hfb.out).mono ?_
            rintro e w6 ⟨rfl, hE6⟩
            have hT1 := hTr.out (r0, r1, r2, r3)
            obtain ⟨tv, htv⟩ : ∃ tv, T (r0, r1, r2, r3) = tv := ⟨_, rfl⟩
            rw [htv] at hT1
            simp only at hT1
            rw [← hT1]
            have hEr := ((Ext.refl wr).alloc (.cells #[.int .i64 r0, .int .i64 r1, .int .i64 r2, .int .i64 r3] 29)).trans hE6
            have hB6 := (Blk.new wr 29 #[.int .i64 r0, .int .i64 r1, .int .i64 r2, .int .i64 r3]).ext hE6
            have hX6 := hX.out.ext hEr
            have hR6 := hR.out.ext hEr
            have hI6 := Lib.hid (hI.out.ext hEr)
            have hcl6 : Hid (∀ j u, (flat L)[j]? = some u → w6.cell? ⟨g, j, none⟩ = some u) := Lib.hid fun j u hj => hEr.cl (hcl.out j u hj)
            have hgw6 := hEr.size
            have hE6' := hE.out.trans hEr
            clear hE6
            have hE6 := Lib.hid hE6'
            clear hE6' hT1
            obtain ⟨bc, bf, bl'⟩ := hB6.rules
            obtain ⟨xc6, xf6, xl6⟩ := hX6.rules
            obtain ⟨rc6, rf6, rl6⟩ := hR6.rules
            replace hX6 := Lib.hid hX6
            replace hR6 := Lib.hid hR6
            replace hB6 := Lib.hid hB6
            replace hEr := Lib.hid hEr
            replace htv := Lib.hid htv
            clear xc xf xl rc rf rl k0 k1 k2 k3
            cases okv
            · go_wp2_with fail
              exact ⟨⟨q + 1, r0, r1, r2, r3, tv, true, by omega, by go_num, rfl, rfl, Lib.hid (by rw [hnx.out]; simp [nstep, htv.out]), (((hX6.out.far (p := ⟨w.heap.size + 1, 0, none⟩) (by simp) _).far (p := ⟨w.heap.size + 1, 1, none⟩) (by simp) _).far (p := ⟨w.heap.size + 1, 2, none⟩) (by simp) _).far (p := ⟨w.heap.size + 1, 3, none⟩) (by simp) _, by have := (((hR6.out.set_ 0 (.int .i64 r0)).set_ 1 (.int .i64 r1)).set_ 2 (.int .i64 r2)).set_ 3 (.int .i64 r3); simpa using this,
                hI6.out.far4 (by omega) (fun i hi ad h => by obtain ⟨csr, -, -, hc⟩ := hI6.out; have := (hc i hi).2.2.2.2 ad h; omega), fun _ => ⟨g, rfl, hg9, by simp; omega, fun j u hj => cell_far4 (hcl6.out j u hj) (by show g ≠ w.heap.size + 1; omega)⟩, (((hE6.out.setCell (by simp) _).setCell (by simp) _).setCell (by simp) _).setCell (by simp) _⟩, by simp only [intOf]; omega⟩
            · by_cases hlt2 : tv < lv
              · go_wp2_with fail
                exact ⟨⟨q + 1, r0, r1, r2, r3, tv, true, by omega, by go_num, rfl, rfl, Lib.hid (by rw [hnx.out]; simp [nstep, htv.out, hlt2]), (((hX6.out.far (p := ⟨w.heap.size + 1, 0, none⟩) (by simp) _).far (p := ⟨w.heap.size + 1, 1, none⟩) (by simp) _).far (p := ⟨w.heap.size + 1, 2, none⟩) (by simp) _).far (p := ⟨w.heap.size + 1, 3, none⟩) (by simp) _, by have := (((hR6.out.set_ 0 (.int .i64 r0)).set_ 1 (.int .i64 r1)).set_ 2 (.int .i64 r2)).set_ 3 (.int .i64 r3); simpa using this,
                  hI6.out.far4 (by omega) (fun i hi ad h => by obtain ⟨csr, -, -, hc⟩ := hI6.out; have := (hc i hi).2.2.2.2 ad h; omega), fun _ => ⟨g, rfl, hg9, by simp; omega, fun j u hj => cell_far4 (hcl6.out j u hj) (by show g ≠ w.heap.size + 1; omega)⟩, (((hE6.out.setCell (by simp) _).setCell (by simp) _).setCell (by simp) _).setCell (by simp) _⟩, by simp only [intOf]; omega⟩
              · go_wp2_with fail
                exact ⟨⟨q + 1, b0, b1, b2, b3, lv, true, by omega, by go_num, rfl, rfl, Lib.hid (by rw [hnx.out]; simp [nstep, htv.out]; intro h; omega), hX6.out, hR6.out, hI6.out, fun _ => ⟨g, rfl, hg9, by omega, hcl6.out⟩, hE6.out⟩, by simp only [intOf]; omega⟩
          · obtain rfl : q = L.length := by omega
            have hVf : V = ((b0, b1, b2, b3), lv, okv) := by rw [hVn.out, ← hst.out, List.take_length]
            subst hVf
            replace hX := Lib.hid hX
            replace hR := Lib.hid hR
            replace hI := Lib.hid hI
            replace hE := Lib.hid hE
            clear hVn hst hcells
            go_wp2_with fail
            refine bodyPost_ret (v := .tuple #[rct b0 b1 b2 b3, .int .i64 lv, .bool okv]) (by simp [results, Try.results19, go_sem, *]) rfl ⟨rfl, ?_⟩
            exact (((hE.out.setCell (by simp) _).setCell (by simp) _).setCell (by simp) _).setCell (by simp) _
end Go.Proofs.Ytcdnpnbjloaihaa
end

section
/- Chapter 33 over plain values: Next, both. -/
namespace Go.Proofs.Ytcdnpnbjloaihaa
open Go.RowKit Go.Flow Go.AV Go.Plain
theorem nst_congr (T T' : Rc → Int) (l : List Rc) (h : ∀ r ∈ l, T r = T' r) : nst T l = nst T' l := by
  unfold nst
  generalize (((0, 0, 0, 0), 0, false) : Rc × Int × Bool) = s
  induction l generalizing s with
  | nil => rfl
  | cons r l ih =>
    rw [List.foldl_cons, List.foldl_cons, show nstep T s r = nstep T' s r by unfold nstep; rw [h r (by simp)]]
    exact ih (fun r' hr => h r' (by simp [hr])) _
/-- The greatest number of images that agree in a block's unknown pixels, as the reference counts. -/
def mstT (W : Int) (n : Nat) (f : Nat → Int) (N : Nat) (fs : Nat → Nat → Int) (r : Rc) : Int := (mostN (uL (unkR W f r) n).length (fun j => (uL (unkR W f r) n).getD j 0) fs N N : Nat)
theorem tog_most {Wn Hn n : Nat} (hn : n = Wn * Hn) (f : Nat → Int) (N : Nat) (fs : Nat → Nat → Int) (r : Rc) (hr : r ∈ blocks Wn Hn n f) : mstT Wn n f N fs r = togT Wn n f N fs r := by
  obtain ⟨q, -, rfl, -⟩ := bls_mem hr
  have h16 := cap16 hn f q
  rw [← uL_len] at h16
  exact most_mK (fun k => .agg (arr (patL (unkR Wn f (rq Wn Hn q)) (fs k) n))) _ _ fs N fun i k _ _ => agree_key _ n (fs i) (fs k) (by omega)
noncomputable def nextL (W H : Int) (n : Nat) (f : Nat → Int) (L : List Bm) (Y : List Mt) : Rc × Int × Bool :=
  if chkI W H n f = 0 ∧ L.length = Y.length then nextV W.toNat H.toNat n f L.length (fun k => goodB W.toNat H.toNat (L.getD k bmZ).W (L.getD k bmZ).H (L.getD k bmZ).n (Y.getD k mtZ).dx (Y.getD k mtZ).dy) (fun k => putF (L.getD k bmZ).W (L.getD k bmZ).H (L.getD k bmZ).d (Y.getD k mtZ).dx (Y.getD k mtZ).dy)
  else ((0, 0, 0, 0), 0, false)
abbrev nxV (V : Rc × Int × Bool) : AV := .tu [.ag (rcC V.1), .c (iC V.2.1), .c (bC V.2.2)]
theorem rep_bms {O : Nat → Prop} {w : World} {u : Value} {L : List Bm} {N : Nat} (h : RepC (fun _ => none) O w (.ls N 3 (rowF bmC bmZ L)) u) : ∃ (A : Option Addr) (c : Nat) (D : Nat → Option Addr) (kl : Nat → Nat), u = .slice A N c ∧ Bms w A N (fun k => (L.getD k bmZ).W) (fun k => (L.getD k bmZ).H) D (fun k => (L.getD k bmZ).n) kl (fun k => (L.getD k bmZ).d) := by
  obtain ⟨-, A, c, rfl, hc, hx⟩ := h
  have key : ∀ k, k < N → ∃ (g o : Nat) (D : Option Addr) (kl : Nat), A = some ⟨g, o, none⟩ ∧ w.cell? ⟨g, o + k * 3, none⟩ = some (.int .i64 (L.getD k bmZ).W) ∧ w.cell? ⟨g, o + k * 3 + 1, none⟩ = some (.int .i64 (L.getD k bmZ).H) ∧ w.cell? ⟨g, o + k * 3 + 2, none⟩ = some (.slice D (L.getD k bmZ).n kl) ∧ Bools w D (L.getD k bmZ).n (L.getD k bmZ).d := fun k hk => by
    obtain ⟨ad, v0, e0, -, f0, -, g0⟩ := hx k hk 0 (by omega)
    obtain ⟨ad1, v1, e1, -, f1, -, g1⟩ := hx k hk 1 (by omega)
    obtain ⟨ad2, v2, e2, -, f2, h2, g2⟩ := hx k hk 2 (by omega)
    rw [e0] at e1 e2
    cases e1
    cases e2
    obtain ⟨g, o, s⟩ := ad
    obtain ⟨ad', v', e', -, f', -, -⟩ := hx 0 (by omega) 0 (by omega)
    rw [e0] at e'
    cases e'
    have hs : s = none := by
      rw [show (Addr.add ⟨g, o, s⟩ (0 * 3 + 0)) = ⟨g, o, s⟩ by simp [Addr.add]] at f'
      unfold World.cell? at f'
      cases s with
      | none => rfl
      | some x => split at f' <;> simp at f'
    subst hs
    rw [add_off] at f0 f1 f2
    obtain rfl : v0 = .int .i64 (L.getD k bmZ).W := g0
    obtain rfl : v1 = .int .i64 (L.getD k bmZ).H := g1
    obtain ⟨D, kl, rfl, -, hD⟩ := rep_bools (σ := fun _ => none) (O := O) (w := w) (n := (L.getD k bmZ).n) (f := (L.getD k bmZ).d) ⟨h2, g2⟩
    exact ⟨g, o, D, kl, e0, f0, f1, f2, hD⟩
  have key' : ∀ k, ∃ (D : Option Addr) (kl : Nat), k < N → ∃ (g o : Nat), A = some ⟨g, o, none⟩ ∧ w.cell? ⟨g, o + k * 3, none⟩ = some (.int .i64 (L.getD k bmZ).W) ∧ w.cell? ⟨g, o + k * 3 + 1, none⟩ = some (.int .i64 (L.getD k bmZ).H) ∧ w.cell? ⟨g, o + k * 3 + 2, none⟩ = some (.slice D (L.getD k bmZ).n kl) ∧ Bools w D (L.getD k bmZ).n (L.getD k bmZ).d := fun k => by
    by_cases hk : k < N
    · obtain ⟨g, o, D, kl, h⟩ := key k hk
      exact ⟨D, kl, fun _ => ⟨g, o, h⟩⟩
    · exact ⟨none, 0, fun h => absurd h hk⟩
  refine ⟨A, c, fun k => (key' k).choose, fun k => (key' k).choose_spec.choose, rfl, fun k hk => (key' k).choose_spec.choose_spec hk⟩
theorem rep_mts {O : Nat → Prop} {w : World} {u : Value} {Y : List Mt} {N : Nat} (h : RepC (fun _ => none) O w (.ls N 4 (rowF mtC mtZ Y)) u) : ∃ (A : Option Addr) (c : Nat), u = .slice A N c ∧ Mts w A N (fun k => (Y.getD k mtZ).dx) (fun k => (Y.getD k mtZ).dy) (fun k => (Y.getD k mtZ).lo) (fun k => (Y.getD k mtZ).bl) := by
  obtain ⟨-, A, c, rfl, hc, hx⟩ := h
  refine ⟨A, c, rfl, fun k hk => ?_⟩
  obtain ⟨ad, v0, e0, -, f0, -, g0⟩ := hx k hk 0 (by omega)
  obtain ⟨ad1, v1, e1, -, f1, -, g1⟩ := hx k hk 1 (by omega)
  obtain ⟨ad2, v2, e2, -, f2, -, g2⟩ := hx k hk 2 (by omega)
  obtain ⟨ad3, v3, e3, -, f3, -, g3⟩ := hx k hk 3 (by omega)
  rw [e0] at e1 e2 e3
  cases e1
  cases e2
  cases e3
  obtain ⟨g, o, s⟩ := ad
  obtain ⟨ad', v', e', -, f', -, -⟩ := hx 0 (by omega) 0 (by omega)
  rw [e0] at e'
  cases e'
  have hs : s = none := by
    rw [show (Addr.add ⟨g, o, s⟩ (0 * 4 + 0)) = ⟨g, o, s⟩ by simp [Addr.add]] at f'
    unfold World.cell? at f'
    cases s with
    | none => rfl
    | some x => split at f' <;> simp at f'
  subst hs
  rw [add_off] at f0 f1 f2 f3
  obtain rfl : v0 = .int .i64 (Y.getD k mtZ).dx := g0
  obtain rfl : v1 = .int .i64 (Y.getD k mtZ).dy := g1
  obtain rfl : v2 = .int .i64 (Y.getD k mtZ).lo := g2
  obtain rfl : v3 = .int .i64 (Y.getD k mtZ).bl := g3
  exact ⟨g, o, e0, f0, f1, f2, f3⟩
theorem nx_rep {O : Nat → Prop} {w w' : World} {V : Rc × Int × Bool} {e : Ending} (h : e = nret V.1 V.2.1 V.2.2 ∧ Ext w w') : ∃ v, e = .returned v ∧ RepA (fun _ => none) O w' (nxV V) v ∧ Ext w w' :=
  ⟨_, h.1, ⟨[_, _, _], rfl, rct_rep, ⟨rfl, rfl⟩, ⟨rfl, rfl⟩, trivial⟩, h.2⟩
theorem pNext_A (W H : Int) (n : Nat) (f : Nat → Int) (L : List Bm) (Y : List Mt) (hn : n ≤ 4611686018427387904) (hL : L.length ≤ 100) : ACalls Try.prog 19 [.ag (imgV W H n f), .c (.ls L.length 3 (rowF bmC bmZ L)), .c (.ls Y.length 4 (rowF mtC mtZ Y))] (nxV (nextL W H n f L Y)) :=
  ACalls.of fun O w vals hO h => by
    obtain ⟨x, y, z, rfl, h1, h2, h3⟩ := args3 h
    obtain ⟨A, c, rfl, -, hA⟩ := rep_img h1
    obtain ⟨Al, cl, D, kl, rfl, hB⟩ := rep_bms h2
    obtain ⟨Ay, cy, rfl, hM⟩ := rep_mts h3
    unfold nextL
    by_cases hl : L.length = Y.length
    · by_cases hok : chkI W H n f = 0
      · obtain ⟨Wn, Hn, rfl, rfl⟩ := chkI_nat hok
        rw [if_pos ⟨hok, hl⟩]
        rw [← hl] at hM ⊢
        exact (Next_main Wn Hn A n c f Al L.length cl _ _ D _ kl _ Ay cy _ _ _ _ w hA hok hL hB hM _ rfl).mono fun e w' h => nx_rep h
      · rw [if_neg fun h => hok h.1, ← hl]
        exact (Next_bad2 W H A n c f Al L.length cl Ay cy w hn hA hok).mono fun e w' h => nx_rep (V := ((0, 0, 0, 0), 0, false)) h
    · rw [if_neg fun h => hl h.2]
      exact (Next_bad1 W H A n c Al L.length cl Ay Y.length cy w hl).mono fun e w' h => nx_rep (V := ((0, 0, 0, 0), 0, false)) h
end Go.Proofs.Ytcdnpnbjloaihaa
end
