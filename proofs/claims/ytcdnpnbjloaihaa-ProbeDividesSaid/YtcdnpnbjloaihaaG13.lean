/- Parts of the proof: Sum, PbBlk, RbSm, A22. -/
import Derived.WalkKit
import Derived.Test.YtcdnpnbjloaihaaProg
import Derived.Test.YtcdnpnbjloaihaaG12
import Derived.Shelf.Abstract
import Derived.Test.YtcdnpnbjloaihaaG10
import Derived.Test.YtcdnpnbjloaihaaG11
set_option linter.unusedSimpArgs false
set_option linter.unusedVariables false
section
/- Plain laws on sums and counts; no program. No condition. -/
namespace Go.Plain

/-- f 0 + .. + f (n - 1). -/
def sumTo (f : Nat → Int) : Nat → Int
  | 0 => 0
  | n + 1 => sumTo f n + f n
/-- How many j < n there are with p j. -/
def cnt (p : Nat → Bool) (n : Nat) : Int := sumTo (fun j => if p j then 1 else 0) n

theorem sumTo_congr {f g : Nat → Int} : ∀ {n : Nat}, (∀ k, k < n → f k = g k) → sumTo f n = sumTo g n
  | 0, _ => rfl
  | n + 1, h => by simp only [sumTo]; rw [sumTo_congr (n := n) fun k hk => h k (by omega), h n (by omega)]
theorem sumTo_nonneg {f : Nat → Int} : ∀ {n : Nat}, (∀ k, k < n → 0 ≤ f k) → 0 ≤ sumTo f n
  | 0, _ => by simp [sumTo]
  | n + 1, h => by have := sumTo_nonneg (n := n) fun k hk => h k (by omega); have := h n (by omega); simp only [sumTo]; omega
theorem sumTo_le {f g : Nat → Int} : ∀ {n : Nat}, (∀ k, k < n → f k ≤ g k) → sumTo f n ≤ sumTo g n
  | 0, _ => by simp [sumTo]
  | n + 1, h => by have := sumTo_le (n := n) fun k hk => h k (by omega); have := h n (by omega); simp only [sumTo]; omega
theorem sumTo_const (c : Int) : ∀ n : Nat, sumTo (fun _ => c) n = n * c
  | 0 => by simp [sumTo]
  | n + 1 => by simp only [sumTo, sumTo_const c n]; rw [Int.natCast_succ, Int.add_mul]; omega
theorem sumTo_add (f g : Nat → Int) : ∀ n : Nat, sumTo (fun k => f k + g k) n = sumTo f n + sumTo g n
  | 0 => rfl
  | n + 1 => by simp only [sumTo, sumTo_add f g n]; omega
theorem sumTo_sub (f g : Nat → Int) : ∀ n : Nat, sumTo (fun k => f k - g k) n = sumTo f n - sumTo g n
  | 0 => rfl
  | n + 1 => by simp only [sumTo, sumTo_sub f g n]; omega
theorem sumTo_swap (f : Nat → Nat → Int) (m : Nat) : ∀ n : Nat, sumTo (fun i => sumTo (fun j => f i j) m) n = sumTo (fun j => sumTo (fun i => f i j) n) m
  | 0 => by
    simp only [sumTo]
    have h0 : ∀ m : Nat, sumTo (fun _ => 0) m = 0 := fun m => by rw [sumTo_const]; omega
    exact (h0 m).symm
  | n + 1 => by simp only [sumTo, sumTo_swap f m n, sumTo_add]
theorem sumTo_split (f : Nat → Int) (a : Nat) : ∀ b : Nat, sumTo f (a + b) = sumTo f a + sumTo (fun k => f (a + k)) b
  | 0 => by simp [sumTo]
  | b + 1 => by rw [← Nat.add_assoc]; simp only [sumTo, sumTo_split f a b]; omega
/-- Only one term is not 0. -/
theorem sumTo_one (v : Int) (i : Nat) : ∀ n : Nat, sumTo (fun k => if k = i then v else 0) n = if i < n then v else 0
  | 0 => by simp [sumTo]
  | n + 1 => by
    simp only [sumTo, sumTo_one v i n]
    by_cases h : n = i
    · subst h; simp
    · by_cases h2 : i < n
      · simp [h, h2, show i < n + 1 by omega]
      · simp [h, h2, show ¬ i < n + 1 by omega]
theorem cnt_nonneg (p : Nat → Bool) (n : Nat) : 0 ≤ cnt p n := sumTo_nonneg fun k _ => by split <;> omega
theorem cnt_le (p : Nat → Bool) (n : Nat) : cnt p n ≤ n := by
  have := sumTo_le (f := fun j => if p j then 1 else 0) (g := fun _ => 1) (n := n) fun k _ => by split <;> omega
  rw [sumTo_const] at this
  unfold cnt
  omega
theorem cnt_zero (p : Nat → Bool) : cnt p 0 = 0 := rfl
theorem cnt_succ (p : Nat → Bool) (n : Nat) : cnt p (n + 1) = cnt p n + if p n then 1 else 0 := rfl
theorem cnt_congr {p q : Nat → Bool} {n : Nat} (h : ∀ k, k < n → p k = q k) : cnt p n = cnt q n := sumTo_congr fun k hk => by rw [h k hk]
theorem cnt_mono {p q : Nat → Bool} {n : Nat} (h : ∀ k, k < n → p k = true → q k = true) : cnt p n ≤ cnt q n := sumTo_le fun k hk => by
  by_cases hp : p k = true
  · simp [hp, h k hk hp]
  · simp [hp]; split <;> omega

/-- v is the least of f on S. -/
def IsMin {α : Type} (S : α → Prop) (f : α → Int) (v : Int) : Prop := (∃ a, S a ∧ f a = v) ∧ ∀ a, S a → v ≤ f a
theorem IsMin.unique {α : Type} {S : α → Prop} {f : α → Int} {v v' : Int} (h : IsMin S f v) (h' : IsMin S f v') : v = v' := by
  obtain ⟨⟨a, ha, rfl⟩, h2⟩ := h
  obtain ⟨⟨b, hb, rfl⟩, h4⟩ := h'
  have := h2 b hb
  have := h4 a ha
  omega
end Go.Plain
end

section
/- probe.Blocks. No condition but those that each states. -/
namespace Go.Flow
open Go Go.RowKit
theorem own_only_ {w0 V1 V : World} {base : Nat} {e : TypeId} {size : Nat} {v : Value} {n g : Nat} {xs : List Value} (h : w0.ownsRow base e size v n xs) (hE : Ext w0 V1) (hO : Only V1 V g) (hg : w0.heap.size ≤ g) : V.ownsRow base e size v n xs := by
  refine (own_ext h hE).kept hO ?_
  cases hv : v.ownBlock with
  | none => exact .inl rfl
  | some k => right; intro h1; injection h1 with h1; have := (h.lt k hv).2; omega
theorem blk_ne {w : World} {g g' : Nat} {t t' : TypeId} {cs cs' : Array Value} (h : Blk w g t cs) (h' : Blk w g' t' cs') (hne : t ≠ t') : g ≠ g' := by
  rintro rfl
  unfold Blk at h h'
  rw [h] at h'
  injection h' with h'
  injection h' with _ ht
  exact hne ht
/-- What an owned row's cells are. -/
theorem row_open {w : World} {base : Nat} {e : TypeId} {size : Nat} {v : Value} {n : Nat} {xs : List Value} (h : w.ownsRow base e size v n xs) : ∃ A c, v = .slice A n c ∧ (0 < n → ∃ g, A = some ⟨g, 0, none⟩ ∧ base ≤ g ∧ g < w.heap.size ∧ ∀ j u, xs[j]? = some u → w.cell? ⟨g, j, none⟩ = some u) := by
  rcases h.2 with ⟨rfl, rfl⟩ | ⟨g, cap, cur, rfl, hb, hg, hnc, _, _, htake⟩
  · exact ⟨none, 0, rfl, fun h => absurd h (by omega)⟩
  · refine ⟨_, cap, rfl, fun _ => ⟨g, rfl, hb, (Array.getElem?_eq_some_iff.1 hg).1, fun j u hj => ?_⟩⟩
    have := h.cells (g := g) rfl j u hj
    rwa [show (⟨g, 0, none⟩ : Addr).add j = ⟨g, j, none⟩ by unfold Addr.add; split <;> simp_all] at this
theorem row_lst {w : World} {base : Nat} {e : TypeId} {size : Nat} {v : Value} {n : Nat} {xs : List Value} (h : w.ownsRow base e size v n xs) : ∃ A c, v = .slice A n c ∧ Lst w A xs := by
  rcases h.2 with ⟨rfl, rfl⟩ | ⟨g, cap, cur, rfl, hb, hg, hnc, _, _, htake⟩
  · have h1 := h.1
    refine ⟨none, 0, rfl, fun j u hj => ?_⟩
    have : xs = [] := List.eq_nil_of_length_eq_zero (by simpa using h1)
    subst this
    simp at hj
  · exact ⟨_, cap, rfl, fun j u hj => ⟨_, rfl, h.cells (g := g) rfl j u hj⟩⟩
end Go.Flow
namespace Go.Proofs.Ytcdnpnbjloaihaa
open Go.RowKit Go.Flow Go.Plain
open Go.Proofs
attribute [local go_sem] block_add
attribute [local go_sem ↓] Go.wp_at_zero Go.wp_at_succ

/-- A rectangle's four numbers. -/
abbrev Rc := Int × Int × Int × Int
def rcells (r : Rc) : List Value := [.int .i64 r.1, .int .i64 r.2.1, .int .i64 r.2.2.1, .int .i64 r.2.2.2]
def flat (l : List Rc) : List Value := l.flatMap rcells
theorem flat_append (l l' : List Rc) : flat (l ++ l') = flat l ++ flat l' := List.flatMap_append
theorem flat_len (l : List Rc) : (flat l).length = l.length * 4 := by
  induction l with
  | nil => rfl
  | cons r l ih => rw [show flat (r :: l) = rcells r ++ flat l from rfl, List.length_append, ih, List.length_cons]; simp [rcells]; omega
theorem flat_get {l : List Rc} {k : Nat} {r : Rc} (h : l[k]? = some r) (i : Nat) (hi : i < 4) : (flat l)[k * 4 + i]? = (rcells r)[i]? := by
  induction l generalizing k with
  | nil => simp at h
  | cons r' l ih =>
    rw [show flat (r' :: l) = rcells r' ++ flat l from rfl]
    cases k with
    | zero =>
      obtain rfl : r' = r := by simpa using h
      rw [List.getElem?_append_left (by simp [rcells]; omega), Nat.zero_mul, Nat.zero_add]
    | succ k =>
      rw [List.getElem?_append_right (by simp [rcells]; omega)]
      have := ih (k := k) (by simpa using h)
      rw [← this]
      congr 1
      simp [rcells]; omega
def unkR (W : Int) (f : Nat → Int) (r : Rc) : Nat → Bool := unkB W f r.1 r.2.1 r.2.2.1 r.2.2.2
/-- How many blocks there are in a row, or a column. -/
def four (W : Nat) : Nat := (W + 3) / 4
def rectq (W H s t : Nat) : Rc := ((4 * t : Nat), (4 * s : Nat), (min (4 * t + 4) W : Nat) - 1, (min (4 * s + 4) H : Nat) - 1)
def rq (W H q : Nat) : Rc := rectq W H (q / four W) (q % four W)
def hasU (W n : Nat) (f : Nat → Int) (r : Rc) : Bool := decide (0 < cnt (unkR W f r) n)
/-- The blocks among the first q. -/
def bls (W H n : Nat) (f : Nat → Int) : Nat → List Rc
  | 0 => []
  | q + 1 => bls W H n f q ++ (if hasU W n f (rq W H q) then [rq W H q] else [])
theorem bls_succ (W H n : Nat) (f : Nat → Int) (q : Nat) : bls W H n f (q + 1) = bls W H n f q ++ (if hasU W n f (rq W H q) then [rq W H q] else []) := rfl
def blocks (W H n : Nat) (f : Nat → Int) : List Rc := bls W H n f (four H * four W)
theorem bls_len (W H n : Nat) (f : Nat → Int) : ∀ q, (bls W H n f q).length ≤ q
  | 0 => Nat.le_refl _
  | q + 1 => by
    have := bls_len W H n f q
    unfold bls
    rw [List.length_append]
    split <;> simp <;> omega
theorem rq_at {W H s t : Nat} (ht : t < four W) : rq W H (s * four W + t) = rectq W H s t := by
  unfold rq
  rw [Nat.mul_comm, Nat.mul_add_div (by omega), Nat.mul_add_mod, Nat.mod_eq_of_lt ht, Nat.div_eq_of_lt ht, Nat.add_zero]

theorem info_rect : (Try.prog.info? 29).map (fun i => (i.zero, i.size, i.bytes)) = some (some (.agg #[.int .i64 0, .int .i64 0, .int .i64 0, .int .i64 0]), 4, 32) := by kernel_rfl

theorem tick_any (p : Int) (g : Nat) (v : Int) (V : World) (h0 : 0 ≤ v) (h1 : v ≤ 1000000) (hB : Blk V g 3 #[.int .i64 v]) :
    Calls Try.prog 34 #[.int .i64 p, .pointer (some ⟨g, 0, none⟩)] V fun e V' => (∃ u, e = .returned u) ∧ V.setCell ⟨g, 0, none⟩ (.int .i64 (v + 1)) = V' := by
  obtain ⟨bc, bf, bl⟩ := hB.rules
  go_enter Try.func34, Try.ntmps34
  go_wp2_with fail
  go_end0
  exact ⟨⟨_, rfl⟩, rfl⟩

def BlocksPost (L : List Rc) (w : World) (e : Ending) (w' : World) : Prop := ∃ v, e = .returned v ∧ w'.ownsRow w.heap.size 29 4 v L.length (flat L) ∧ Ext w w'

theorem Blocks_bad (W H : Int) (A : Option Addr) (n c : Nat) (f : Nat → Int) (w : World) (hn : n ≤ 4611686018427387904) (hA : Ints w A n f) (hok : chkI W H n f ≠ 0) :
    Calls Try.prog 14 #[img W H A n c] w fun e w' => e = .returned (.slice none 0 0) ∧ Ext w w' := by
  have hne : (chkI W H n f == 0) = false := by simpa using hok
  have hne' : (chkI W H n f != 0) = true := by simpa using hok
  replace hok := Lib.hid hok
  have hE := Lib.hid ((Ext.refl w).alloc (.cells #[.int .i64 W, .int .i64 H, .slice A n c] 27))
  have hA1 := Lib.hid (hA.ext hE.out)
  go_enter Try.func14, Try.ntmps14
  go_wp2_with fail
  refine (ICheck_any W H A n c f _ hn hA1.out).mono ?_
  rintro e w1 ⟨rfl, hE1⟩
  replace hE1 := Lib.hid (hE.out.trans hE1)
  go_wp2_with fail
  go_ret
  exact ⟨rfl, hE1.out⟩

set_option maxHeartbeats 1000000 in
set_option maxRecDepth 100000 in
theorem Blocks_ok (Wn Hn : Nat) (A : Option Addr) (n c : Nat) (f : Nat → Int) (w : World) (hA : Ints w A n f) (hok : chkI Wn Hn n f = 0) :
    Calls Try.prog 14 #[img Wn Hn A n c] w (BlocksPost (blocks Wn Hn n f) w) := by
  have hpost : ∀ e w', (∃ v, e = .returned v ∧ w'.ownsRow w.heap.size 29 4 v (blocks Wn Hn n f).length (flat (blocks Wn Hn n f)) ∧ Ext w w') → BlocksPost (blocks Wn Hn n f) w e w' := fun _ _ h => h
  replace hpost := Lib.hid hpost
  obtain ⟨i0, hi, hz0, hz1, hz2⟩ := info_parts info_rect
  have hsh := (chkI_ok.1 hok).1
  obtain ⟨-, hW, -, hH, hn⟩ := hsh
  have hn' : n = Wn * Hn := by exact_mod_cast hn
  have hWb : Wn ≤ 100 := by omega
  have hHb : Hn ≤ 100 := by omega
  have hnb : n ≤ 10000 := by subst hn'; exact Nat.mul_le_mul hWb hHb
  have hne : (chkI Wn Hn n f != 0) = false := by simpa using hok
  have hc1 : four Wn ≤ 25 := by unfold four; omega
  have hc2 : four Hn ≤ 25 := by unfold four; omega
  have hcW : ∀ t, t < four Wn ↔ 4 * t < Wn := fun t => by unfold four; omega
  have hcH : ∀ t, t < four Hn ↔ 4 * t < Hn := fun t => by unfold four; omega
  replace hok := Lib.hid hok
  replace hn := Lib.hid hn
  replace hn' := Lib.hid hn'
  replace hcW := Lib.hid hcW
  replace hcH := Lib.hid hcH
  have hE0 := Lib.hid ((Ext.refl w).alloc (.cells #[.int .i64 Wn, .int .i64 Hn, .slice A n c] 27))
  have hA0 := Lib.hid (hA.ext hE0.out)
  have hX0 := Lib.hid (Blk.new w 27 #[.int .i64 Wn, .int .i64 Hn, .slice A n c])
  go_enter Try.func14, Try.ntmps14
  go_wp2_with fail
  refine (ICheck_any Wn Hn A n c f _ (by omega) hA0.out).mono ?_
  rintro e w1 ⟨rfl, hE1⟩
  have hX1 := hX0.out.ext hE1
  replace hE1 := hE0.out.trans hE1
  clear hE0 hA0 hX0
  replace hX1 := Lib.hid hX1
  replace hE1 := Lib.hid hE1
  go_wp2_with fail
  go_loopw [3, 4] (fun v i wr => ∃ s j : Nat, s ≤ four Hn ∧ i = .int .i64 j ∧ Hid (j = 4 * s) ∧ Blk wr w.heap.size 27 #[.int .i64 Wn, .int .i64 Hn, .slice A n c] ∧ wr.ownsRow (w.heap.size + 1) 29 4 v (bls Wn Hn n f (s * four Wn)).length (flat (bls Wn Hn n f (s * four Wn))) ∧ Ext w wr) (fun _ i _ => 100 - (intOf i).toNat)
  case atStart => exact ⟨0, 0, by omega, rfl, Lib.hid rfl, hX1.out, by rw [Nat.zero_mul]; exact World.ownsRow_nil _ _ _ _, hE1.out⟩
  case round =>
    clear hX1 hE1
    obtain ⟨s, j, hs, rfl, hj, hX, hrow, hE⟩ := hrel
    obtain ⟨xc, xf, xl⟩ := hX.rules
    by_cases hlt : s < four Hn
    · have hjH : j < Hn := by rw [hj.out]; exact (hcH.out s).1 hlt
      have hjH' : (j : Int) < Hn := by omega
      replace hX := Lib.hid hX
      replace hrow := Lib.hid hrow
      replace hE := Lib.hid hE
      go_wp2_with fail
      obtain ⟨w9, rfl⟩ : ∃ w9 : World, w9 = wr := ⟨_, rfl⟩
      clear xc xf xl
      go_loopw [3, 5] (fun v i wr => ∃ t k : Nat, t ≤ four Wn ∧ i = .int .i64 k ∧ Hid (k = 4 * t) ∧ Blk wr w.heap.size 27 #[.int .i64 Wn, .int .i64 Hn, .slice A n c] ∧ wr.ownsRow (w.heap.size + 1) 29 4 v (bls Wn Hn n f (s * four Wn + t)).length (flat (bls Wn Hn n f (s * four Wn + t))) ∧ Ext w wr) (fun _ i _ => 100 - (intOf i).toNat)
      case atStart => exact ⟨0, 0, by omega, rfl, Lib.hid rfl, hX.out, hrow.out, hE.out⟩
      case round =>
        clear hX hrow hE
        obtain ⟨t, k, ht, rfl, hk, hX, hrow, hE⟩ := hrel
        obtain ⟨xc, xf, xl⟩ := hX.rules
        by_cases hxt : t < four Wn
        · have hkW : k < Wn := by rw [hk.out]; exact (hcW.out t).1 hxt
          have hkW' : (k : Int) < Wn := by omega
          obtain ⟨mW, hmW, hmW2, hmW3⟩ : ∃ mW : Int, (if (Wn : Int) < (k : Int) + 4 then (Wn : Int) else (k : Int) + 4) = mW ∧ mW = ((min (k + 4) Wn : Nat) : Int) ∧ 0 < mW := ⟨_, rfl, by split <;> omega, by split <;> omega⟩
          obtain ⟨mH, hmH, hmH2, hmH3⟩ : ∃ mH : Int, (if (Hn : Int) < (j : Int) + 4 then (Hn : Int) else (j : Int) + 4) = mH ∧ mH = ((min (j + 4) Hn : Nat) : Int) ∧ 0 < mH := ⟨_, rfl, by split <;> omega, by split <;> omega⟩
          have hmWb : mW ≤ 100 := by omega
          have hmHb : mH ≤ 100 := by omega
          have hrq : rq Wn Hn (s * four Wn + t) = ((k : Int), (j : Int), mW - 1, mH - 1) := by
            rw [rq_at hxt]; unfold rectq; rw [← hk.out, ← hj.out, hmW2, hmH2]
          replace hrq := Lib.hid hrq
          replace hmW2 := Lib.hid hmW2
          replace hmH2 := Lib.hid hmH2
          replace hX := Lib.hid hX
          replace hrow := Lib.hid hrow
          replace hE := Lib.hid hE
          go_wp2_with fail
          obtain ⟨V1, hV1⟩ : ∃ V1, (wr.alloc (.cells #[.int .i64 (k : Int), .int .i64 (j : Int), .int .i64 (mW - 1), .int .i64 (mH - 1)] 29)).alloc (.cells #[.int .i64 0] 3) = V1 := ⟨_, rfl⟩
          have hEV : Ext wr V1 := by subst hV1; exact ((Ext.refl wr).alloc _).alloc _
          have hN1 : Blk V1 (wr.heap.size + 1) 3 #[.int .i64 0] := by subst hV1; exact Blk.new' (by simp) _ _
          have hRc1 : Blk V1 wr.heap.size 29 #[.int .i64 (k : Int), .int .i64 (j : Int), .int .i64 (mW - 1), .int .i64 (mH - 1)] := by subst hV1; exact (Blk.new _ _ _).alloc _
          have hsz : V1.heap.size = wr.heap.size + 2 := by subst hV1; simp
          have hU : ∀ p, cnt (unkR Wn f (rq Wn Hn (s * four Wn + t))) p = cnt (unkB Wn f k j (mW - 1) (mH - 1)) p := fun p => by rw [hrq.out]; rfl
          replace hU := Lib.hid hU
          have hcb := fun p => cnt_le (unkB Wn f k j (mW - 1) (mH - 1)) p
          have hcz := fun p => cnt_nonneg (unkB Wn f k j (mW - 1) (mH - 1)) p
          try rw [hV1]
          refine (pixels_any Wn Hn n c A f k j (mW - 1) (mH - 1) 34 #[.pointer (some ⟨wr.heap.size + 1, 0, none⟩)] V1
            (fun p V => Blk V (wr.heap.size + 1) 3 #[.int .i64 (cnt (unkB Wn f k j (mW - 1) (mH - 1)) p)] ∧ Only V1 V (wr.heap.size + 1) ∧ Ext w V)
            hWb hHb hn'.out (enters_of Try.func34 (by kernel_rfl) rfl)
            (fun p V V' h hE' => ⟨h.1.ext hE', h.2.1.trans (Only.of_ext hE' _), h.2.2.trans hE'⟩) (fun p V h => hA.ext h.2.2)
            (fun p V hp hu h => ⟨by rw [cnt_succ, hu]; simpa using h.1, h.2⟩)
            (fun p V hp hu h hs => (tick_any _ _ _ V (hcz p) (by have := hcb p; omega) h.1).mono fun e V' hh => ⟨hh.1, ⟨by
                rw [← hh.2, cnt_succ, hu]; exact h.1.set_ 0 _, by rw [← hh.2]; exact h.2.1.trans (Only.set_ _ _ _ _), by rw [← hh.2]; exact h.2.2.setCell (by have := hE.out.size; simp; omega) _⟩,
              by rw [← hh.2]; exact ⟨by simp [World.setCell], fun k hk hk2 => Below.heap_setCell V ⟨wr.heap.size + 1, 0, none⟩ _ k (by simp; omega)⟩⟩)
            ⟨hN1, Only.refl _ _, hE.out.trans hEV⟩).mono ?_
          rintro e V2 ⟨⟨vv, rfl⟩, hN2, hO2, hE2⟩
          have hRc2 := hO2.blk hRc1 (by omega)
          have hX2 := hO2.blk (hX.out.ext hEV) (by omega)
          have hrow2 := own_only_ hrow.out hEV hO2 (by omega)
          obtain ⟨nc, nf, nl⟩ := hN2.rules
          obtain ⟨rc, rf, rl⟩ := hRc2.rules
          replace hrow2 := Lib.hid hrow2
          replace hX2 := Lib.hid hX2
          have hbl : bls Wn Hn n f (s * four Wn + (t + 1)) = bls Wn Hn n f (s * four Wn + t) ++ (if decide (0 < cnt (unkB Wn f k j (mW - 1) (mH - 1)) n) then [((k : Int), (j : Int), mW - 1, mH - 1)] else []) := by
            rw [show s * four Wn + (t + 1) = s * four Wn + t + 1 from rfl, bls_succ]
            unfold hasU
            rw [hU.out n, hrq.out]
          have hlen := bls_len Wn Hn n f (s * four Wn + t)
          have hlb : s * four Wn + t ≤ 700 := by
            have : s * four Wn ≤ 25 * 25 := Nat.mul_le_mul (by omega) hc1
            omega
          replace hbl := Lib.hid hbl
          generalize cnt (unkB Wn f k j (mW - 1) (mH - 1)) n = cv at *
          clear hU hcb hcz hN1 hRc1 hX hrow hE hEV xc xf xl hN2 hRc2 hO2 hsz
          replace hE2 := Lib.hid hE2
          have hx2s := hX2.out.lt
          by_cases hcv : 0 < cv
          · have hbl2 := hbl.out
            rw [decide_eq_true hcv, if_pos rfl] at hbl2
            replace hbl2 := Lib.hid hbl2
            clear hbl hV1
            go_wp2_with (first
              | (at_builtin; refine wpList_app rfl (.tmp 44) (.tmp 46) 39 rfl i0 _ 32 Try.underlying39 hi hz0 hz1 hz2 rfl (by omega) rfl (own_ext hrow2.out ((Ext.refl V2).alloc _)) (some ⟨V2.heap.size, 0, none⟩) 1 1 rfl (rcells ((k : Int), (j : Int), mW - 1, mH - 1)) rfl (Lst.of_blk (Blk.new V2 29 #[.int .i64 (k : Int), .int .i64 (j : Int), .int .i64 (mW - 1), .int .i64 (mH - 1)])) (by simp [rcells, Value.oneCell']) (by omega) (by omega) (by simp; omega) ?_))
            intro v' w6 hr2 hg2 hk2
            have hE6 := Lib.hid (hk2 w (by omega) (hE2.out.alloc _))
            have hX6 : Blk w6 w.heap.size 27 #[.int .i64 Wn, .int .i64 Hn, .slice A n c] := (hg2.block w.heap.size (by have := hX2.out.lt; simp; omega) (fun e => by
              have := hrow2.out.lt w.heap.size e.symm; omega)).trans (hX2.out.alloc _)
            replace hX6 := Lib.hid hX6
            replace hr2 := Lib.hid hr2
            clear hg2 hk2 nc nf nl rc rf rl
            go_wp2_with fail
            exact ⟨⟨t + 1, k + 4, by omega, by go_num, Lib.hid (by have := hk.out; omega), hX6.out, by rw [hbl2.out, flat_append, List.length_append]; exact hr2.out, hE6.out⟩, by simp only [intOf]; omega⟩
          · have hbl2 := hbl.out
            rw [decide_eq_false hcv] at hbl2
            simp only [Bool.false_eq_true, if_false, List.append_nil] at hbl2
            replace hbl2 := Lib.hid hbl2
            clear hbl hV1
            go_wp2_with fail
            exact ⟨⟨t + 1, k + 4, by omega, by go_num, Lib.hid (by have := hk.out; omega), hX2.out, by rw [hbl2.out]; exact hrow2.out, hE2.out⟩, by simp only [intOf]; omega⟩
        · have hkW : ¬ k < Wn := by rw [hk.out]; exact fun h => hxt ((hcW.out t).2 h)
          obtain rfl : t = four Wn := by omega
          replace hX := Lib.hid hX
          replace hrow := Lib.hid hrow
          replace hE := Lib.hid hE
          go_wp2_with fail
          exact ⟨⟨s + 1, j + 4, by omega, by go_num, Lib.hid (by have := hj.out; omega), hX.out, by rw [Nat.add_mul, Nat.one_mul]; exact hrow.out, hE.out⟩, by simp only [intOf]; omega⟩
    · have hjH : ¬ j < Hn := by rw [hj.out]; exact fun h => hlt ((hcH.out s).2 h)
      obtain rfl : s = four Hn := by omega
      obtain ⟨A', c', rfl, -⟩ := row_open hrow
      have hfin := hpost.out (.returned (.slice A' (bls Wn Hn n f (four Hn * four Wn)).length c')) wr ⟨_, rfl, ⟨hrow.1, by
        rcases hrow.2 with h | ⟨g, cap, cur, h1, h2, h3⟩
        · exact .inl h
        · exact .inr ⟨g, cap, cur, h1, by omega, h3⟩⟩, hE⟩
      replace hfin := Lib.hid hfin
      clear hpost hE hrow hX
      go_wp2_with fail
      go_ret
      exact hfin.out
end Go.Proofs.Ytcdnpnbjloaihaa
end

section
/- law33.in, law33.cut, ref22.Same. No condition but those that each states. -/
namespace Go.Proofs.Ytcdnpnbjloaihaa
open Go.RowKit Go.Flow Go.Plain
open Go.Proofs
attribute [local go_sem] block_add
attribute [local go_sem ↓] Go.wp_at_zero Go.wp_at_succ

def samePx (n m : Nat) (f g : Nat → Int) : Bool := decide (n = m ∧ ∀ k, k < n → f k = g k)

set_option maxHeartbeats 1000000 in
set_option maxRecDepth 100000 in
theorem in_any (a b c d i j : Int) (w : World) :
    Calls Try.prog 21 #[rct a b c d, .int .i64 i, .int .i64 j] w fun e w' => e = .returned (.bool (inR a b c d i j)) ∧ Ext w w' := by
  have hE := Lib.hid ((Ext.refl w).alloc (.cells #[.int .i64 a, .int .i64 b, .int .i64 c, .int .i64 d] 29))
  obtain ⟨v, hv⟩ : ∃ v, inR a b c d i j = v := ⟨_, rfl⟩
  rw [hv]
  replace hv := Lib.hid hv
  by_cases h1 : a ≤ i <;> by_cases h2 : i ≤ c <;> by_cases h3 : b ≤ j <;> by_cases h4 : j ≤ d
  all_goals
    go_enter Try.func21, Try.ntmps21
    go_wp2_with fail
    go_ret
    exact ⟨ret_bool (by rw [← hv.out]; simp [inR, h1, h2, h3, h4]), hE.out⟩

set_option maxHeartbeats 1000000 in
set_option maxRecDepth 100000 in
theorem cut_any (W H : Int) (A : Option Addr) (n c : Nat) (w : World) (hn : n ≤ 4611686018427387904) (hc : n ≤ c) :
    Calls Try.prog 12 #[img W H A n c] w fun e w' => e = .returned (img W H A (min n 150) c) ∧ Ext w w' := by
  by_cases h : n ≤ 150
  · rw [show min n 150 = n by omega]
    go_enter Try.func12, Try.ntmps12
    go_wp2_with fail
    exact bodyPost_ret (v := img W H A n c) (by simp [results, Try.results12, go_sem, *]) rfl ⟨rfl, ((Ext.refl w).alloc _).alloc _⟩
  · rw [show min n 150 = 150 by omega]
    go_enter Try.func12, Try.ntmps12
    go_wp2_with fail
    exact bodyPost_ret (v := img W H A 150 c) (by simp [results, Try.results12, go_sem, *]) rfl ⟨rfl, ((Ext.refl w).alloc _).alloc _⟩

set_option maxHeartbeats 1000000 in
set_option maxRecDepth 100000 in
theorem Same_any (W H W' H' : Int) (A B : Option Addr) (n m c d : Nat) (f g : Nat → Int) (w : World) (hn : n ≤ 4611686018427387904) (hA : Ints w A n f) (hB : Ints w B m g) :
    Calls Try.prog 18 #[img W H A n c, img W' H' B m d] w fun e w' => e = .returned (.bool (decide (W = W') && decide (H = H') && samePx n m f g)) ∧ Ext w w' := by
  obtain ⟨v, hv⟩ : ∃ v, (decide (W = W') && decide (H = H') && samePx n m f g) = v := ⟨_, rfl⟩
  rw [hv]
  replace hv := Lib.hid hv
  have hE0 := Lib.hid (((Ext.refl w).alloc (.cells #[.int .i64 W, .int .i64 H, .slice A n c] 27)).alloc (.cells #[.int .i64 W', .int .i64 H', .slice B m d] 27))
  have hX0 := Lib.hid ((Blk.new w 27 #[.int .i64 W, .int .i64 H, .slice A n c]).alloc (.cells #[.int .i64 W', .int .i64 H', .slice B m d] 27))
  have hY0 := Lib.hid (Blk.new' (g := w.heap.size + 1) (w := w.alloc (.cells #[.int .i64 W, .int .i64 H, .slice A n c] 27)) (by simp) 27 #[.int .i64 W', .int .i64 H', .slice B m d])
  by_cases h1 : W = W'
  · have h1' : (W != W') = false := by simpa using h1
    by_cases h2 : H = H'
    · have h2' : (H != H') = false := by simpa using h2
      by_cases h3 : n = m
      · have h3' : ((n : Int) != m) = false := by simp [h3]
        replace h1 := Lib.hid h1
        replace h2 := Lib.hid h2
        replace h3 := Lib.hid h3
        go_enter Try.func18, Try.ntmps18
        go_wp2_with fail
        go_loopw [5] (fun i wr => ∃ k : Nat, k ≤ n ∧ i = .int .i64 k ∧ Hid (∀ j, j < k → f j = g j) ∧ Blk wr w.heap.size 27 #[.int .i64 W, .int .i64 H, .slice A n c] ∧ Blk wr (w.heap.size + 1) 27 #[.int .i64 W', .int .i64 H', .slice B m d] ∧ Ext w wr) (fun i _ => n - (intOf i).toNat)
        case atStart => exact ⟨0, by omega, rfl, Lib.hid fun j hj => absurd hj (by omega), hX0.out, hY0.out, hE0.out⟩
        case round =>
          clear hX0 hY0 hE0
          obtain ⟨k, hk, rfl, heq, hX, hY, hE⟩ := hrel
          obtain ⟨xc, xf, xl⟩ := hX.rules
          obtain ⟨yc, yf, yl⟩ := hY.rules
          by_cases hlt : k < n
          · have hlt' : (k : Int) < n := by omega
            have hlm : k < m := by rw [← h3.out]; exact hlt
            have hlm' : (k : Int) < m := by omega
            obtain ⟨ad, rfl, hc⟩ := hA.ext hE k hlt
            obtain ⟨bd, rfl, hd⟩ := hB.ext hE k hlm
            have hal := lt_of_cell hc
            have hbl := lt_of_cell hd
            replace hX := Lib.hid hX
            replace hY := Lib.hid hY
            replace hE := Lib.hid hE
            by_cases h : f k = g k
            · have hb : (f k != g k) = false := by simp [h]
              replace h := Lib.hid h
              go_wp2_with fail
              refine Flow.wp_flow 11 [(0, true), (1, true), (2, true), (3, true), (4, true), (5, true), (6, true), (7, true), (8, true), (9, true), (10, true)] (by kernel_rfl) (by kernel_rfl) ?_
              simp only [List.map_cons, List.map_nil, List.getD_cons_succ, List.getD_cons_zero]
              repeat (first
                | (refine Flow.WalkL.move rfl ?_
                   simp only [Act.put, Act.eval, Array.getD_eq_getD_getElem?, List.getElem?_toArray, List.getElem?_cons_succ, List.getElem?_cons_zero, Option.getD_some, List.setIfInBounds_toArray, List.set_cons_zero, List.set_cons_succ])
                | (refine Flow.WalkL.assign rfl ?_
                   simp only [Act.put, Act.eval, Array.getD_eq_getD_getElem?, List.getElem?_toArray, List.getElem?_cons_succ, List.getElem?_cons_zero, Option.getD_some, List.setIfInBounds_toArray, List.set_cons_zero, List.set_cons_succ])
                | (refine Flow.WalkL.run (v := ?_) rfl (fun w1 hC => ?_) ?_
                   rotate_left
                   · obtain ⟨hCc, hCf⟩ := hC.rules
                     go_simp
                     with_reducible rfl
                   simp only [Act.put, List.setIfInBounds_toArray, List.set_cons_zero, List.set_cons_succ]))
              refine Flow.WalkL.nil ?_
              simp only [List.drop]
              intro w1 hC
              have hX1 := Lib.hid (hX.out.ext hC)
              have hY1 := Lib.hid (hY.out.ext hC)
              replace hC := Lib.hid hC
              clear xc xf xl yc yf yl
              go_wp2_with fail
              exact ⟨⟨k + 1, by omega, by go_num, Lib.hid fun j hj => by
                rcases Nat.lt_or_ge j k with hh | hh
                · exact heq.out j hh
                · rw [show j = k by omega]; exact h.out, hX1.out, hY1.out, hE.out.trans hC.out⟩, by simp only [intOf]; omega⟩
            · have hb : (f k != g k) = true := by simp [h]
              obtain rfl : v = false := by rw [← hv.out]; simp only [samePx, Bool.and_eq_false_iff]; exact .inr (decide_eq_false fun hh => h (hh.2 k hlt))
              go_wp2_with fail
              refine Flow.wp_flow 11 [(0, true), (1, true), (2, true), (3, true), (4, true), (5, true), (6, true), (7, true), (8, true), (9, true), (10, true)] (by kernel_rfl) (by kernel_rfl) ?_
              simp only [List.map_cons, List.map_nil, List.getD_cons_succ, List.getD_cons_zero]
              repeat (first
                | (refine Flow.WalkL.move rfl ?_
                   simp only [Act.put, Act.eval, Array.getD_eq_getD_getElem?, List.getElem?_toArray, List.getElem?_cons_succ, List.getElem?_cons_zero, Option.getD_some, List.setIfInBounds_toArray, List.set_cons_zero, List.set_cons_succ])
                | (refine Flow.WalkL.assign rfl ?_
                   simp only [Act.put, Act.eval, Array.getD_eq_getD_getElem?, List.getElem?_toArray, List.getElem?_cons_succ, List.getElem?_cons_zero, Option.getD_some, List.setIfInBounds_toArray, List.set_cons_zero, List.set_cons_succ])
                | (refine Flow.WalkL.run (v := ?_) rfl (fun w1 hC => ?_) ?_
                   rotate_left
                   · obtain ⟨hCc, hCf⟩ := hC.rules
                     go_simp
                     with_reducible rfl
                   simp only [Act.put, List.setIfInBounds_toArray, List.set_cons_zero, List.set_cons_succ]))
              refine Flow.WalkL.nil ?_
              simp only [List.drop]
              intro w1 hC
              replace hC := Lib.hid hC
              clear xc xf xl yc yf yl
              go_wp2_with fail
              go_ret
              exact ⟨rfl, hE.out.trans hC.out⟩
          · obtain rfl : k = n := by omega
            obtain rfl : v = true := by rw [← hv.out, decide_eq_true h1.out, decide_eq_true h2.out]; exact decide_eq_true ⟨h3.out, heq.out⟩
            replace hX := Lib.hid hX
            replace hY := Lib.hid hY
            replace hE := Lib.hid hE
            have hlt' : ¬ ((k : Int) < k) := by omega
            go_wp2_with fail
            go_ret
            exact ⟨rfl, hE.out⟩
      · have h3' : ((n : Int) != m) = true := bne_iff_ne.mpr (by omega)
        obtain rfl : v = false := by rw [← hv.out]; simp [samePx, h3]
        go_enter Try.func18, Try.ntmps18
        go_wp2_with fail
        go_ret
        exact ⟨rfl, ((Ext.refl w).alloc _).alloc _⟩
    · have h2' : (H != H') = true := bne_iff_ne.mpr h2
      obtain rfl : v = false := by rw [← hv.out]; simp [h2]
      go_enter Try.func18, Try.ntmps18
      go_wp2_with fail
      go_ret
      exact ⟨rfl, ((Ext.refl w).alloc _).alloc _⟩
  · have h1' : (W != W') = true := bne_iff_ne.mpr h1
    obtain rfl : v = false := by rw [← hv.out]; simp [h1]
    go_enter Try.func18, Try.ntmps18
    go_wp2_with fail
    go_ret
    exact ⟨rfl, ((Ext.refl w).alloc _).alloc _⟩
end Go.Proofs.Ytcdnpnbjloaihaa
end

section
/- ref22 over plain values: Check, Put, Hide, Same; image.Put. No condition but those that each states. -/
namespace Go.Proofs.Ytcdnpnbjloaihaa
open Go.RowKit Go.Flow Go.AV Go.Plain
theorem rCheck_A (W H : Int) (n : Nat) (f : Nat → Int) (hn : n ≤ 4611686018427387904) : ACalls Try.prog 35 [.ag (imgV W H n f)] (.c (iC (chkI W H n f))) :=
  ACalls.old rfl fun O w vals h => by
    obtain ⟨x, rfl, h1⟩ := args1 h
    obtain ⟨A, c, rfl, -, hA⟩ := rep_img h1
    exact RCheck_any W H A n c f w hn hA
/-- Put's result. -/
abbrev putV (W H : Int) (n : Nat) (dot : Nat → Bool) (dx dy : Int) : AV :=
  if putE W H n dx dy = 0 then .tu [.ag (imgV (W + 4) (H + 4) ((W + 4) * (H + 4)).toNat (putF W H dot dx dy)), .c (iC 0)] else .tu [.ag (imgV 0 0 0 fun _ => 0), .c (iC (putE W H n dx dy))]
theorem put_rep {O : Nat → Prop} {w w' : World} {W H : Int} {n : Nat} {dot : Nat → Bool} {dx dy : Int} {e : Ending} (hO : ∀ b, O b → b < w.heap.size) (h : PutPost W H n dot dx dy w e w') : ∃ v, e = .returned v ∧ RepA (fun _ => none) O w' (putV W H n dot dx dy) v ∧ Ext w w' := by
  unfold putV
  rcases h with ⟨h1, h2, h3⟩ | ⟨h1, A, c, m, h2, ⟨h3, h4⟩, h5, h6⟩
  · rw [if_neg h1]
    exact ⟨_, h2, ⟨[_, _], rfl, ⟨[_, _, _], rfl, ⟨rfl, rfl⟩, ⟨rfl, rfl⟩, nil_rep, trivial⟩, ⟨rfl, rfl⟩, trivial⟩, h3⟩
  · rw [if_pos h1]
    refine ⟨_, h2, ⟨[_, _], rfl, ?_, ⟨rfl, rfl⟩, trivial⟩, h6⟩
    rw [← h4, Int.toNat_natCast]
    exact img_rep hO h3 h5
theorem rPut_A (W H : Int) (n : Nat) (dot : Nat → Bool) (dx dy : Int) : ACalls Try.prog 26 [.ag (bmpV W H n dot), .c (iC dx), .c (iC dy)] (putV W H n dot dx dy) :=
  ACalls.of fun O w vals hO h => by
    obtain ⟨x, y, z, rfl, h1, h2, h3⟩ := args3 h
    obtain ⟨A, c, rfl, -, hA⟩ := rep_bmp h1
    cases rep_c h2
    cases rep_c h3
    exact (RPut_any W H A n c dot dx dy w hA).mono fun e w' hp => put_rep hO hp
theorem iPut_A (W H : Int) (n : Nat) (dot : Nat → Bool) (dx dy : Int) : ACalls Try.prog 22 [.ag (bmpV W H n dot), .c (iC dx), .c (iC dy)] (putV W H n dot dx dy) :=
  ACalls.of fun O w vals hO h => by
    obtain ⟨x, y, z, rfl, h1, h2, h3⟩ := args3 h
    obtain ⟨A, c, rfl, -, hA⟩ := rep_bmp h1
    cases rep_c h2
    cases rep_c h3
    exact (IPut_any W H A n c dot dx dy w hA).mono fun e w' hp => put_rep hO hp
theorem Same_A (W H W' H' : Int) (n m : Nat) (f g : Nat → Int) (hn : n ≤ 4611686018427387904) : ACalls Try.prog 18 [.ag (imgV W H n f), .ag (imgV W' H' m g)] (.c (bC (decide (W = W') && decide (H = H') && samePx n m f g))) :=
  ACalls.old rfl fun O w vals h => by
    obtain ⟨x, y, rfl, h1, h2⟩ := args2 h
    obtain ⟨A, c, rfl, -, hA⟩ := rep_img h1
    obtain ⟨B, d, rfl, -, hB⟩ := rep_img h2
    exact Same_any W H W' H' A B n m c d f g w hn hA hB

abbrev hideR (W : Int) (f : Nat → Int) (a b : Int) (n : Nat) : AB := ⟨true, n, 1, 3, iF (hideF W f a b)⟩
set_option maxRecDepth 100000 in
theorem Hide_O (Wn Hn n : Nat) (f : Nat → Int) (a b : Int) (hok : chkI Wn Hn n f = 0) :
    OCalls Try.prog 27 [.ag (imgV Wn Hn n f), .c (iC a), .c (iC b)] [iC Wn, iC Hn] [] (hideR Wn f a b n) := by
  have hsh := (chkI_ok.1 hok).1
  obtain ⟨-, hW, -, hH, hn⟩ := hsh
  have hn' : n = Wn * Hn := by exact_mod_cast hn
  have hnb : n ≤ 10000 := by subst hn'; exact Nat.mul_le_mul (by omega : Wn ≤ 100) (by omega : Hn ≤ 100)
  refine ocalls_at tyOk Try.func27 rfl rfl Try.ntmps27 rfl rfl ?_
  repeat (first
    | refine AWp.seq ?_
    | refine thenA_n ?_
    | refine AWp.block ?_
    | refine AWp.skip ?_
    | refine AWp.condF rfl (by first | rfl | exact cmF) ?_
    | (refine AWp.region (id := 0) ?_
       refine AList.box rfl rfl rfl rfl rfl ?_
       refine AList.alloc tyOk rfl rfl rfl rfl rfl ?_
       refine AList.nil ?_)
    | (refine AWp.region (id := 1) ?_
       refine AList.loadA tyOk rfl rfl rfl rfl rfl rfl rfl oM oM ?_
       refine AList.call rfl rfl rfl rfl Try.func35 rfl (by kernel_rfl) (rCheck_A Wn Hn n f (by omega)) ?_
       refine AList.cmpF rfl rfl rfl rfl rfl cmF ?_
       refine AList.nil ?_)
    | (refine AWp.region (id := 3) ?_
       refine AList.fieldPt tyOk rfl rfl rfl rfl rfl rfl rfl ?_
       refine AList.load1 tyOk rfl rfl rfl rfl rfl rfl rfl oM oM ?_
       refine AList.fieldPt tyOk rfl rfl rfl rfl rfl rfl rfl ?_
       refine AList.load1 tyOk rfl rfl rfl rfl rfl rfl rfl oM oM ?_
       refine AList.buildSt tyOk rfl rfl rfl rfl rfl rfl rfl rfl ?_
       refine AList.alloc tyOk rfl rfl rfl rfl rfl ?_
       refine AList.store tyOk rfl rfl rfl rfl rfl rfl rfl rfl oM oM ?_
       refine AList.nil ?_)
    | (refine AWp.region (id := 4) ?_
       refine AList.assign rfl rfl rfl ?_
       refine AList.nil ?_))
  refine AWp.round (fun k : Nat => mkSt 52 [(1, .c (iC a)), (2, .c (iC b)), (3, .c (.pt 3 3 0 0)), (6, .c (.pt 6 3 0 0)), (7, .c (.pt 7 3 0 0)), (8, .c (iC k))]
    [(3, ⟨false, 1, 3, 27, lF (imgV Wn Hn n f)⟩), (6, ⟨false, 1, 3, 27, lF [iC 0, iC 0, .p (.slice none 0 0)]⟩), (7, ⟨false, 1, 3, 27, lF [iC Wn, iC Hn, .ow 9]⟩), (9, hideR Wn f a b k)] [3, 6, 7, 9])
    (fun k => k ≤ n) (fun k => n - k) 0 (Nat.zero_le _) ?_ (fun k hk => ?_)
  · refine Wk.mk [(3, some 3), (6, some 6), (7, some 7), (9, none)] rfl rfl rfl ?_ ?_
    · repeat (first | exact trivial | refine ⟨⟨_, rfl, by first | exact LeA.c (LeC.refl _ rfl) | exact LeA.c (LeC.ow _ _ rfl) | exact LeA.c (LeC.pt _ _ _ _ _ rfl) | exact LeA.c (LeC.nil _ rfl) | exact LeA.c (LeC.nils _ _) | (refine LeA.int ?_; omega) | (refine LeA.int ?_; dsimp only; omega) | exact LeA.c (LeC.fz rfl rfl (by first | rfl | omega) (fun i _ j _ => ⟨rfl, by first | rfl | exact rowN_imm (fun _ => rfl) _ i j | exact rowF_imm (fun _ => rfl) _ i j⟩))⟩, ?_⟩)
    · repeat (first | exact trivial | refine ⟨by first | exact HeapOk.same rfl rfl rfl rfl | exact HeapOk.lent rfl rfl rfl rfl | exact HeapOk.nil rfl rfl | exact HeapOk.row rfl rfl (by first | rfl | omega) (fun i _ j _ => ⟨rfl, by first | rfl | exact rowN_imm (fun _ => rfl) _ i j | exact rowF_imm (fun _ => rfl) _ i j⟩) | exact HeapOk.box rfl rfl (by repeat (first | exact trivial | refine ⟨by first | exact LeC.refl _ rfl | exact LeC.ow _ _ rfl | exact LeC.nil _ rfl | exact LeC.nils _ _ | exact LeC.fz rfl rfl (by first | rfl | omega) (fun i _ j _ => ⟨rfl, by first | rfl | exact rowN_imm (fun _ => rfl) _ i j | exact rowF_imm (fun _ => rfl) _ i j⟩) | exact LeC.int (by omega), ?_⟩)) rfl, ?_⟩)
  · by_cases hlt : k < n
    · have hW0 : 0 < Wn := by
        rcases Nat.eq_zero_or_pos Wn with h | h
        · rw [h, Nat.zero_mul] at hn'; omega
        · exact h
      by_cases h1 : a ≤ (k : Int) % Wn
      · by_cases h2 : (k : Int) % Wn < b
        · repeat (first
            | refine AWp.seq ?_
            | refine thenA_n ?_
            | refine AWp.block ?_
            | refine AWp.skip ?_
            | refine inBlk_n ?_
            | refine AWp.condT rfl (by first | rfl | exact cmT) ?_
            | (refine AWp.region (id := 5) ?_
               refine AList.move rfl rfl rfl ?_
               refine AList.fieldPt tyOk rfl rfl rfl rfl rfl rfl rfl ?_
               refine AList.load1 tyOk rfl rfl rfl rfl rfl rfl rfl oM oM ?_
               refine AList.lenLs tyOk rfl rfl rfl rfl rfl ?_
               refine AList.cmpT rfl rfl rfl rfl rfl cmT ?_
               refine AList.nil ?_)
            | (refine AWp.region (id := 6) ?_
               refine AList.move rfl rfl rfl ?_
               refine AList.add rfl rfl rfl rfl (by omega) (by omega) ?_
               refine AList.assign rfl rfl rfl ?_
               refine AList.nil ?_)
            | (refine AWp.region (id := 7) ?_
               refine AList.fieldPt tyOk rfl rfl rfl rfl rfl rfl rfl ?_
               refine AList.load1 tyOk rfl rfl rfl rfl rfl rfl rfl oM oM ?_
               refine AList.move rfl rfl rfl ?_
               refine AList.idx tyOk rfl rfl rfl rfl rfl rfl rfl rfl rfl oM oM ?_
               refine AList.load1l tyOk rfl rfl rfl rfl rfl oM ?_
               refine AList.assign rfl rfl rfl ?_
               refine AList.nil ?_)
            | (refine AWp.region (id := 8) ?_
               refine AList.move rfl rfl rfl ?_
               refine AList.fieldPt tyOk rfl rfl rfl rfl rfl rfl rfl ?_
               refine AList.load1 tyOk rfl rfl rfl rfl rfl rfl rfl oM oM ?_
               refine AList.rem rfl rfl rfl rfl (by omega) (by omega) ?_
               refine AList.move rfl rfl rfl ?_
               refine AList.cmpT rfl rfl rfl rfl rfl cmT ?_
               refine AList.move rfl rfl rfl ?_
               refine AList.move rfl rfl rfl ?_
               refine AList.fieldPt tyOk rfl rfl rfl rfl rfl rfl rfl ?_
               refine AList.load1 tyOk rfl rfl rfl rfl rfl rfl rfl oM oM ?_
               refine AList.rem rfl rfl rfl rfl (by omega) (by omega) ?_
               refine AList.move rfl rfl rfl ?_
               refine AList.cmpT rfl rfl rfl rfl rfl cmT ?_
               refine AList.pickT rfl rfl rfl rfl ?_
               refine AList.nil ?_)
            | (refine AWp.region (id := 9) ?_
               refine AList.assign rfl rfl rfl ?_
               refine AList.nil ?_)
            | (refine AWp.region (id := 10) ?_
               refine AList.fieldPt tyOk rfl rfl rfl rfl rfl rfl rfl ?_
               refine AList.load1 tyOk rfl rfl rfl rfl rfl rfl rfl oM oM ?_
               refine AList.move rfl rfl rfl ?_
               refine AList.litSl tyOk rfl rfl rfl rfl rfl rfl rfl rfl rfl rfl rfl ?_
               refine AList.appL tyOk rfl rfl rfl rfl rfl rfl rfl rfl rfl rfl oM oM ?_
               refine AList.fieldPt tyOk rfl rfl rfl rfl rfl rfl rfl ?_
               refine AList.store tyOk rfl rfl rfl rfl rfl rfl rfl rfl oM oM ?_
               refine AList.nil ?_))
          refine ⟨k + 1, by omega, Wk.mk [(3, some 3), (6, some 6), (7, some 7), (9, some 49)] rfl rfl rfl ?_ ?_, by omega⟩
          · repeat (first | exact trivial | refine ⟨⟨_, rfl, by first | exact LeA.c (LeC.refl _ rfl) | exact LeA.c (LeC.ow _ _ rfl) | exact LeA.c (LeC.pt _ _ _ _ _ rfl) | exact LeA.c (LeC.nil _ rfl) | exact LeA.c (LeC.nils _ _) | (refine LeA.int ?_; omega) | (refine LeA.int ?_; dsimp only; omega) | exact LeA.c (LeC.fz rfl rfl (by first | rfl | omega) (fun i _ j _ => ⟨rfl, by first | rfl | exact rowN_imm (fun _ => rfl) _ i j | exact rowF_imm (fun _ => rfl) _ i j⟩))⟩, ?_⟩)
          · repeat (first | exact trivial | refine ⟨by first | exact HeapOk.same rfl rfl rfl rfl | exact HeapOk.lent rfl rfl rfl rfl | exact HeapOk.nil rfl rfl | exact HeapOk.row rfl rfl (by first | rfl | omega) (fun i _ j _ => ⟨rfl, by first | rfl | exact rowN_imm (fun _ => rfl) _ i j | exact rowF_imm (fun _ => rfl) _ i j⟩) | exact HeapOk.box rfl rfl (by repeat (first | exact trivial | refine ⟨by first | exact LeC.refl _ rfl | exact LeC.ow _ _ rfl | exact LeC.nil _ rfl | exact LeC.nils _ _ | exact LeC.fz rfl rfl (by first | rfl | omega) (fun i _ j _ => ⟨rfl, by first | rfl | exact rowN_imm (fun _ => rfl) _ i j | exact rowF_imm (fun _ => rfl) _ i j⟩) | exact LeC.int (by omega), ?_⟩)) rfl, ?_⟩)
            refine ⟨HeapOk.row rfl rfl rfl (app_one (g := fun i => iC (hideF Wn f a b i)) (fun i hi => rfl) ?_ fun _ _ => rfl), trivial⟩
            simp only [hideF]
            rw [if_pos ⟨h1, h2⟩]
        · repeat (first
            | refine AWp.seq ?_
            | refine thenA_n ?_
            | refine AWp.block ?_
            | refine AWp.skip ?_
            | refine inBlk_n ?_
            | refine AWp.condT rfl (by first | rfl | exact cmT) ?_
            | refine AWp.condF rfl (by first | rfl | exact cmF) ?_
            | (refine AWp.region (id := 5) ?_
               refine AList.move rfl rfl rfl ?_
               refine AList.fieldPt tyOk rfl rfl rfl rfl rfl rfl rfl ?_
               refine AList.load1 tyOk rfl rfl rfl rfl rfl rfl rfl oM oM ?_
               refine AList.lenLs tyOk rfl rfl rfl rfl rfl ?_
               refine AList.cmpT rfl rfl rfl rfl rfl cmT ?_
               refine AList.nil ?_)
            | (refine AWp.region (id := 6) ?_
               refine AList.move rfl rfl rfl ?_
               refine AList.add rfl rfl rfl rfl (by omega) (by omega) ?_
               refine AList.assign rfl rfl rfl ?_
               refine AList.nil ?_)
            | (refine AWp.region (id := 7) ?_
               refine AList.fieldPt tyOk rfl rfl rfl rfl rfl rfl rfl ?_
               refine AList.load1 tyOk rfl rfl rfl rfl rfl rfl rfl oM oM ?_
               refine AList.move rfl rfl rfl ?_
               refine AList.idx tyOk rfl rfl rfl rfl rfl rfl rfl rfl rfl oM oM ?_
               refine AList.load1l tyOk rfl rfl rfl rfl rfl oM ?_
               refine AList.assign rfl rfl rfl ?_
               refine AList.nil ?_)
            | (refine AWp.region (id := 8) ?_
               refine AList.move rfl rfl rfl ?_
               refine AList.fieldPt tyOk rfl rfl rfl rfl rfl rfl rfl ?_
               refine AList.load1 tyOk rfl rfl rfl rfl rfl rfl rfl oM oM ?_
               refine AList.rem rfl rfl rfl rfl (by omega) (by omega) ?_
               refine AList.move rfl rfl rfl ?_
               refine AList.cmpT rfl rfl rfl rfl rfl cmT ?_
               refine AList.move rfl rfl rfl ?_
               refine AList.move rfl rfl rfl ?_
               refine AList.fieldPt tyOk rfl rfl rfl rfl rfl rfl rfl ?_
               refine AList.load1 tyOk rfl rfl rfl rfl rfl rfl rfl oM oM ?_
               refine AList.rem rfl rfl rfl rfl (by omega) (by omega) ?_
               refine AList.move rfl rfl rfl ?_
               refine AList.cmpF rfl rfl rfl rfl rfl cmF ?_
               refine AList.pickT rfl rfl rfl rfl ?_
               refine AList.nil ?_)
            | (refine AWp.region (id := 10) ?_
               refine AList.fieldPt tyOk rfl rfl rfl rfl rfl rfl rfl ?_
               refine AList.load1 tyOk rfl rfl rfl rfl rfl rfl rfl oM oM ?_
               refine AList.move rfl rfl rfl ?_
               refine AList.litSl tyOk rfl rfl rfl rfl rfl rfl rfl rfl rfl rfl rfl ?_
               refine AList.appL tyOk rfl rfl rfl rfl rfl rfl rfl rfl rfl rfl oM oM ?_
               refine AList.fieldPt tyOk rfl rfl rfl rfl rfl rfl rfl ?_
               refine AList.store tyOk rfl rfl rfl rfl rfl rfl rfl rfl oM oM ?_
               refine AList.nil ?_))
          refine ⟨k + 1, by omega, Wk.mk [(3, some 3), (6, some 6), (7, some 7), (9, some 49)] rfl rfl rfl ?_ ?_, by omega⟩
          · repeat (first | exact trivial | refine ⟨⟨_, rfl, by first | exact LeA.c (LeC.refl _ rfl) | exact LeA.c (LeC.ow _ _ rfl) | exact LeA.c (LeC.pt _ _ _ _ _ rfl) | exact LeA.c (LeC.nil _ rfl) | exact LeA.c (LeC.nils _ _) | (refine LeA.int ?_; omega) | (refine LeA.int ?_; dsimp only; omega) | exact LeA.c (LeC.fz rfl rfl (by first | rfl | omega) (fun i _ j _ => ⟨rfl, by first | rfl | exact rowN_imm (fun _ => rfl) _ i j | exact rowF_imm (fun _ => rfl) _ i j⟩))⟩, ?_⟩)
          · repeat (first | exact trivial | refine ⟨by first | exact HeapOk.same rfl rfl rfl rfl | exact HeapOk.lent rfl rfl rfl rfl | exact HeapOk.nil rfl rfl | exact HeapOk.row rfl rfl (by first | rfl | omega) (fun i _ j _ => ⟨rfl, by first | rfl | exact rowN_imm (fun _ => rfl) _ i j | exact rowF_imm (fun _ => rfl) _ i j⟩) | exact HeapOk.box rfl rfl (by repeat (first | exact trivial | refine ⟨by first | exact LeC.refl _ rfl | exact LeC.ow _ _ rfl | exact LeC.nil _ rfl | exact LeC.nils _ _ | exact LeC.fz rfl rfl (by first | rfl | omega) (fun i _ j _ => ⟨rfl, by first | rfl | exact rowN_imm (fun _ => rfl) _ i j | exact rowF_imm (fun _ => rfl) _ i j⟩) | exact LeC.int (by omega), ?_⟩)) rfl, ?_⟩)
            refine ⟨HeapOk.row rfl rfl rfl (app_one (g := fun i => iC (hideF Wn f a b i)) (fun i hi => rfl) ?_ fun _ _ => rfl), trivial⟩
            simp only [hideF]
            rw [if_neg (fun h => h2 h.2)]
      · repeat (first
          | refine AWp.seq ?_
          | refine thenA_n ?_
          | refine AWp.block ?_
          | refine AWp.skip ?_
          | refine inBlk_n ?_
          | refine AWp.condT rfl (by first | rfl | exact cmT) ?_
          | refine AWp.condF rfl (by first | rfl | exact cmF) ?_
          | (refine AWp.region (id := 5) ?_
             refine AList.move rfl rfl rfl ?_
             refine AList.fieldPt tyOk rfl rfl rfl rfl rfl rfl rfl ?_
             refine AList.load1 tyOk rfl rfl rfl rfl rfl rfl rfl oM oM ?_
             refine AList.lenLs tyOk rfl rfl rfl rfl rfl ?_
             refine AList.cmpT rfl rfl rfl rfl rfl cmT ?_
             refine AList.nil ?_)
          | (refine AWp.region (id := 6) ?_
             refine AList.move rfl rfl rfl ?_
             refine AList.add rfl rfl rfl rfl (by omega) (by omega) ?_
             refine AList.assign rfl rfl rfl ?_
             refine AList.nil ?_)
          | (refine AWp.region (id := 7) ?_
             refine AList.fieldPt tyOk rfl rfl rfl rfl rfl rfl rfl ?_
             refine AList.load1 tyOk rfl rfl rfl rfl rfl rfl rfl oM oM ?_
             refine AList.move rfl rfl rfl ?_
             refine AList.idx tyOk rfl rfl rfl rfl rfl rfl rfl rfl rfl oM oM ?_
             refine AList.load1l tyOk rfl rfl rfl rfl rfl oM ?_
             refine AList.assign rfl rfl rfl ?_
             refine AList.nil ?_)
          | (refine AWp.region (id := 8) ?_
             refine AList.move rfl rfl rfl ?_
             refine AList.fieldPt tyOk rfl rfl rfl rfl rfl rfl rfl ?_
             refine AList.load1 tyOk rfl rfl rfl rfl rfl rfl rfl oM oM ?_
             refine AList.rem rfl rfl rfl rfl (by omega) (by omega) ?_
             refine AList.move rfl rfl rfl ?_
             refine AList.cmpF rfl rfl rfl rfl rfl cmF ?_
             refine AList.move rfl rfl rfl ?_
             refine AList.skip rfl rfl ?_
             refine AList.skip rfl rfl ?_
             refine AList.skip rfl rfl ?_
             refine AList.skip rfl rfl ?_
             refine AList.skip rfl rfl ?_
             refine AList.skip rfl rfl ?_
             refine AList.pickF rfl rfl rfl rfl ?_
             refine AList.nil ?_)
          | (refine AWp.region (id := 10) ?_
             refine AList.fieldPt tyOk rfl rfl rfl rfl rfl rfl rfl ?_
             refine AList.load1 tyOk rfl rfl rfl rfl rfl rfl rfl oM oM ?_
             refine AList.move rfl rfl rfl ?_
             refine AList.litSl tyOk rfl rfl rfl rfl rfl rfl rfl rfl rfl rfl rfl ?_
             refine AList.appL tyOk rfl rfl rfl rfl rfl rfl rfl rfl rfl rfl oM oM ?_
             refine AList.fieldPt tyOk rfl rfl rfl rfl rfl rfl rfl ?_
             refine AList.store tyOk rfl rfl rfl rfl rfl rfl rfl rfl oM oM ?_
             refine AList.nil ?_))
        refine ⟨k + 1, by omega, Wk.mk [(3, some 3), (6, some 6), (7, some 7), (9, some 49)] rfl rfl rfl ?_ ?_, by omega⟩
        · repeat (first | exact trivial | refine ⟨⟨_, rfl, by first | exact LeA.c (LeC.refl _ rfl) | exact LeA.c (LeC.ow _ _ rfl) | exact LeA.c (LeC.pt _ _ _ _ _ rfl) | exact LeA.c (LeC.nil _ rfl) | exact LeA.c (LeC.nils _ _) | (refine LeA.int ?_; omega) | (refine LeA.int ?_; dsimp only; omega) | exact LeA.c (LeC.fz rfl rfl (by first | rfl | omega) (fun i _ j _ => ⟨rfl, by first | rfl | exact rowN_imm (fun _ => rfl) _ i j | exact rowF_imm (fun _ => rfl) _ i j⟩))⟩, ?_⟩)
        · repeat (first | exact trivial | refine ⟨by first | exact HeapOk.same rfl rfl rfl rfl | exact HeapOk.lent rfl rfl rfl rfl | exact HeapOk.nil rfl rfl | exact HeapOk.row rfl rfl (by first | rfl | omega) (fun i _ j _ => ⟨rfl, by first | rfl | exact rowN_imm (fun _ => rfl) _ i j | exact rowF_imm (fun _ => rfl) _ i j⟩) | exact HeapOk.box rfl rfl (by repeat (first | exact trivial | refine ⟨by first | exact LeC.refl _ rfl | exact LeC.ow _ _ rfl | exact LeC.nil _ rfl | exact LeC.nils _ _ | exact LeC.fz rfl rfl (by first | rfl | omega) (fun i _ j _ => ⟨rfl, by first | rfl | exact rowN_imm (fun _ => rfl) _ i j | exact rowF_imm (fun _ => rfl) _ i j⟩) | exact LeC.int (by omega), ?_⟩)) rfl, ?_⟩)
          refine ⟨HeapOk.row rfl rfl rfl (app_one (g := fun i => iC (hideF Wn f a b i)) (fun i hi => rfl) ?_ fun _ _ => rfl), trivial⟩
          simp only [hideF]
          rw [if_neg (fun h => h1 h.1)]
    · obtain rfl : k = n := by omega
      repeat (first
        | refine AWp.seq ?_
        | refine thenA_n ?_
        | refine AWp.exit ?_
        | refine AWp.ret ?_
        | refine AWp.condF rfl (by first | rfl | exact cmF) ?_
        | (refine AWp.region (id := 5) ?_
           refine AList.move rfl rfl rfl ?_
           refine AList.fieldPt tyOk rfl rfl rfl rfl rfl rfl rfl ?_
           refine AList.load1 tyOk rfl rfl rfl rfl rfl rfl rfl oM oM ?_
           refine AList.lenLs tyOk rfl rfl rfl rfl rfl ?_
           refine AList.cmpF rfl rfl rfl rfl rfl cmF ?_
           refine AList.nil ?_)
        | (refine AWp.region (id := 11) ?_
           refine AList.loadA tyOk rfl rfl rfl rfl rfl rfl rfl oM oM ?_
           refine AList.store tyOk rfl rfl rfl rfl rfl rfl rfl rfl oM oM ?_
           refine AList.nil ?_))
      refine ⟨_, Wk.refl, 6, 27, 6, 3, 27, _, 9, _, rfl, rfl, rfl, rfl, rfl, rfl, rfl, rfl, rfl, fun _ _ _ _ => rfl⟩
end Go.Proofs.Ytcdnpnbjloaihaa
end
