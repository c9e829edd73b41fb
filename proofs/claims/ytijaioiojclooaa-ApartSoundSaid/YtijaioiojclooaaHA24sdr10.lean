/- ApartSound: the statement. No condition. -/
import Derived.Test.YtijaioiojclooaaG25
import Derived.Test.YtijaioiojclooaaG24
import Derived.Test.YtijaioiojclooaaG23
import Derived.Test.YtijaioiojclooaaG18
import Derived.Test.YtijaioiojclooaaHA24sdr07
import Derived.Test.YtijaioiojclooaaHA24sdr06
import Derived.Test.YtijaioiojclooaaG04
import Derived.Scope
import Derived.Test.YtijaioiojclooaaG21
import Derived.Test.YtijaioiojclooaaG22
import Derived.Test.YtijaioiojclooaaG09
import Derived.Test.YtijaioiojclooaaG03
import Derived.RangeFuncLeaves
import Derived.RangeFuncRecord
import Derived.Shelf.Abstract
import Derived.Test.YtijaioiojclooaaG02
import Derived.Test.YtijaioiojclooaaG08
import Derived.Test.YtijaioiojclooaaG01
import Derived.Test.YtijaioiojclooaaG20
import Derived.Test.YtijaioiojclooaaHA24sdr01
import Derived.RangeFuncNested
import Derived.Deep.AppendLies
import Derived.OrdersIn
import Derived.TacticsIn
import Derived.RangeFuncCalls
import Derived.Test.YtijaioiojclooaaG17
import Derived.Maps.AppendAt
import Derived.OwnWalk
import Derived.Test.YtijaioiojclooaaG19
import Derived.Test.YtijaioiojclooaaHA24sdr08
import Derived.Test.YtijaioiojclooaaHA24sdr05
import Derived.Test.YtijaioiojclooaaProg
import Derived.Test.YtijaioiojclooaaG11
import Derived.Laws.Cover3
import Derived.StillTail
import Derived.Below
import Derived.Deep.Draws
import Derived.WalkKit
import Derived.KernelRfl
import Derived.Test.YtijaioiojclooaaG14
import Derived.Test.YtijaioiojclooaaHA24sdr03
import Derived.Test.YtijaioiojclooaaHA24sdr04
import Derived.Test.YtijaioiojclooaaG16
import Derived.Test.YtijaioiojclooaaHA24sdr02
import Derived.Lib.Hide
import Derived.Deep.QuietTactic
import Derived.BigQuiet
import Derived.Deep.DrawnRows
import Derived.Test.YtijaioiojclooaaG07
import Derived.Laws.StructEq
import Derived.Test.YtijaioiojclooaaG13
import Derived.Test.YtijaioiojclooaaG10
import Derived.Test.YtijaioiojclooaaG12
import Derived.Test.YtijaioiojclooaaG06
import Derived.Test.YtijaioiojclooaaG05
import Derived.Great.BuildSlice
import Derived.Test.YtijaioiojclooaaG15
import Derived.Test.YtijaioiojclooaaG32
import Derived.Test.YtijaioiojclooaaG30
import Derived.Test.YtijaioiojclooaaG29
import Derived.Test.YtijaioiojclooaaG26
import Derived.Test.YtijaioiojclooaaG27
import Derived.Test.YtijaioiojclooaaG28
import Derived.Test.YtijaioiojclooaaRows
import Derived.Test.YtijaioiojclooaaG31
import Derived.Test.YtijaioiojclooaaHA24sdr09
import Derived.ProofKit
import Derived.OpenShut
import Derived.Deep.DeepHandedRow
import Derived.SizedLaws
import Derived.ChangeSlices
import Derived.Carry
import Derived.ChangeSame
set_option linter.unusedSimpArgs false
set_option linter.unusedVariables false
section
namespace Go.Proofs.Ytijaioiojclooaa
open Go.RowKit Go.Flow Go.AV Go.Plain
theorem lsN_le {f : Cl → Int} {v : Int} : ∀ {L : List Cl} {z : Int}, lsN f L z ≤ v ↔ z ≤ v ∨ ∃ c, c ∈ L ∧ f c ≤ v
  | [], z => ⟨.inl, fun h => h.elim id fun ⟨_, h, _⟩ => by cases h⟩
  | c :: L, z => by
    show lsN f L (min z (f c)) ≤ v ↔ _
    rw [lsN_le]
    constructor
    · rintro (h | ⟨d, h1, h2⟩)
      · by_cases hz : z ≤ v
        · exact .inl hz
        · exact .inr ⟨c, by simp, by omega⟩
      · exact .inr ⟨d, by simp [h1], h2⟩
    · rintro (h | ⟨d, h1, h2⟩)
      · exact .inl (by omega)
      · rcases List.mem_cons.1 h1 with rfl | h1
        · exact .inl (by omega)
        · exact .inr ⟨d, h1, h2⟩
theorem cnf_slk (a b : Bp) (x y : Bg) (h : cmpOk a b) : (cnfV a b x y).2 = decide ((slkV a b x y).1 ≤ 0) := by
  unfold cnfV slkV
  rw [if_pos h, if_pos h]
  show (cnfR (hitC a b x y) (alL a.W x y)).2 = decide (lsN (xsV a b x y) (alL a.W x y) ((a.n : Int) + 1) ≤ 0)
  unfold cnfR
  cases hf : (alL a.W x y).find? (hitC a b x y) with
  | some c =>
    have h1 := List.find?_some hf
    have h2 := List.mem_of_find?_eq_some hf
    exact (decide_eq_true (lsN_le.2 (.inr ⟨c, h2, of_decide_eq_true h1⟩))).symm
  | none =>
    rw [List.find?_eq_none] at hf
    refine (decide_eq_false fun h => ?_).symm
    rcases lsN_le.1 h with h | ⟨c, hc, h⟩
    · omega
    · exact hf c hc (decide_eq_true h)
def sh5 : Bool := (List.range 5).all fun m => (List.range (2 * m + 1)).all fun i => (List.range (2 * m + 1)).all fun j => decide ((((i : Int) - m, (j : Int) - m) : Int × Int) ∈ shL m)
theorem sh5_ok : sh5 = true := by decide +kernel
theorem sh5_mem {m : Nat} (hm : m ≤ 4) {d : Int × Int} : d ∈ shL m ↔ (-(m : Int) ≤ d.1 ∧ d.1 ≤ m) ∧ -(m : Int) ≤ d.2 ∧ d.2 ≤ m := by
  constructor
  · intro h
    obtain ⟨j, hj, rfl⟩ := List.getElem_of_mem h
    have := sh_bd hj
    rwa [List.getD_eq_getElem?_getD, List.getElem?_eq_getElem hj] at this
  · rintro ⟨⟨h1, h2⟩, h3, h4⟩
    have h := sh5_ok
    unfold sh5 at h
    have h := List.all_eq_true.1 (List.all_eq_true.1 (List.all_eq_true.1 h m (List.mem_range.2 (by omega))) (d.1 + m).toNat (List.mem_range.2 (by omega))) (d.2 + m).toNat (List.mem_range.2 (by omega))
    have h := of_decide_eq_true h
    rwa [show (((d.1 + m).toNat : Nat) : Int) - m = d.1 by omega, show (((d.2 + m).toNat : Nat) : Int) - m = d.2 by omega] at h
theorem al_mem2 {w : Int} {x y : Bg} {c : Cl} (hw : 0 ≤ w) : c ∈ alL w x y ↔ ((-(shN x y : Int) ≤ c.dx ∧ c.dx ≤ shN x y) ∧ -(shN x y : Int) ≤ c.dy ∧ c.dy ≤ shN x y) ∧ -4 ≤ c.col ∧ c.col ≤ w + 4 - stN w x y := by
  rw [mem_al, sh5_mem (shN_eq x y).2]
  have ht := stN_bd x y hw
  have hM : ((alM w x y : Nat) : Int) = w + 9 - stN w x y := by unfold alM; omega
  constructor
  · rintro ⟨h, i, hi, e⟩
    exact ⟨h, by omega, by omega⟩
  · rintro ⟨h, h1, h2⟩
    exact ⟨h, (c.col + 4).toNat, by omega, by omega⟩
/-- Every component of a budget is at most that of another one. -/
def Bg.le (x y : Bg) : Prop := x.lo ≤ y.lo ∧ x.bl ≤ y.bl ∧ x.sh ≤ y.sh ∧ x.st ≤ y.st
end Go.Proofs.Ytijaioiojclooaa
end

section
namespace Go.Proofs.Ytijaioiojclooaa
open Go.RowKit Go.Flow Go.AV Go.Plain
theorem sum_shift (f : Int → Int) (n c : Nat) (hc : c ≤ 4) (h0 : ∀ y, y < 0 → f y = 0) (h1 : ∀ y : Int, (n : Int) ≤ y → f y = 0) : sumTo (fun j => f ((j : Int) - c)) (n + 4) = sumTo (fun j => f j) n := by
  rw [show n + 4 = c + (n + (4 - c)) by omega, sumTo_split, sumTo_split]
  have e1 : sumTo (fun j => f ((j : Int) - c)) c = 0 := by
    rw [sumTo_congr (g := fun _ => 0) fun k hk => h0 _ (by omega)]
    exact sum_zero c
  have e2 : sumTo (fun k => f (((c + (n + k) : Nat) : Int) - c)) (4 - c) = 0 := by
    rw [sumTo_congr (g := fun _ => 0) fun k hk => h1 _ (by omega)]
    exact sum_zero _
  have e3 : sumTo (fun k => f (((c + k : Nat) : Int) - c)) n = sumTo (fun j => f j) n := sumTo_congr fun k hk => by
    rw [show ((c + k : Nat) : Int) - c = k by omega]
  rw [e1, e3]
  show 0 + (_ + sumTo (fun k => f (((c + (n + k) : Nat) : Int) - c)) (4 - c)) = _
  rw [e2]
  omega
theorem cnt_none24 {q : Nat → Bool} {n : Nat} (h : ∀ k, k < n → q k = false) : cnt q n = 0 := by
  unfold cnt
  rw [sumTo_congr (g := fun _ => 0) fun k hk => if_neg (by rw [h k hk]; decide)]
  exact sum_zero n
theorem cnt_grid (p : Nat → Bool) (W : Nat) : ∀ H : Nat, cnt p (H * W) = sumTo (fun j => cnt (fun i => p (j * W + i)) W) H
  | 0 => by rw [Nat.zero_mul]; rfl
  | H + 1 => by
    rw [Nat.succ_mul]
    show sumTo _ (H * W + W) = _
    rw [sumTo_split]
    show cnt p (H * W) + _ = _
    rw [cnt_grid p W H]
    rfl
/-- Dots of a bitmap, counted over the pixels of an image that shows it at a shift. -/
theorem img_cnt (g : Int → Int → Bool) (W H : Nat) (r s : Int) (hr : -2 ≤ r ∧ r ≤ 2) (hs : -2 ≤ s ∧ s ≤ 2) (hg : ∀ x y, g x y = true → (0 ≤ x ∧ x < W) ∧ 0 ≤ y ∧ y < H) :
    cnt (fun k => g ((k : Int) % ((W : Int) + 4) - 2 - r) ((k : Int) / ((W : Int) + 4) - 2 - s)) ((H + 4) * (W + 4)) = sumTo (fun j => cnt (fun i => g i j) W) H := by
  rw [cnt_grid]
  obtain ⟨c, hc⟩ := Int.eq_ofNat_of_zero_le (show 0 ≤ 2 + r by omega)
  obtain ⟨d, hd⟩ := Int.eq_ofNat_of_zero_le (show 0 ≤ 2 + s by omega)
  have e1 : ∀ j i : Nat, i < W + 4 → g (((j * (W + 4) + i : Nat) : Int) % ((W : Int) + 4) - 2 - r) (((j * (W + 4) + i : Nat) : Int) / ((W : Int) + 4) - 2 - s) = g ((i : Int) - c) ((j : Int) - d) := fun j i hi => by
    have e : ((j * (W + 4) + i : Nat) : Int) = (i : Int) + ((W : Int) + 4) * j := by
      rw [Int.natCast_add, Int.natCast_mul, Int.natCast_add, Int.mul_comm]
      exact Int.add_comm _ _
    rw [e, Int.add_mul_emod_self_left, Int.add_mul_ediv_left _ _ (by omega), Int.emod_eq_of_lt (by omega) (by omega), Int.ediv_eq_zero_of_lt (by omega) (by omega)]
    rw [show (i : Int) - 2 - r = (i : Int) - c by omega, show 0 + (j : Int) - 2 - s = (j : Int) - d by omega]
  have e2 : ∀ j : Nat, cnt (fun i => g (((j * (W + 4) + i : Nat) : Int) % ((W : Int) + 4) - 2 - r) (((j * (W + 4) + i : Nat) : Int) / ((W : Int) + 4) - 2 - s)) (W + 4) = cnt (fun i => g i ((j : Int) - d)) W := fun j => by
    rw [cnt_congr (q := fun i => g ((i : Int) - c) ((j : Int) - d)) fun i hi => e1 j i hi]
    refine sum_shift (fun x => if g x ((j : Int) - d) = true then 1 else 0) W c (by omega) (fun y hy => if_neg fun h => ?_) (fun y hy => if_neg fun h => ?_)
    · have := (hg _ _ h).1; omega
    · have := (hg _ _ h).1; omega
  rw [sum_eq e2]
  refine sum_shift (fun y => cnt (fun i => g i y) W) H d (by omega) (fun y hy => ?_) (fun y hy => ?_)
  · refine cnt_none24 fun i hi => ?_
    cases hgv : g i y with
    | false => rfl
    | true => have := (hg _ _ hgv).2; omega
  · refine cnt_none24 fun i hi => ?_
    cases hgv : g i y with
    | false => rfl
    | true => have := (hg _ _ hgv).2; omega
def onG (a b : Bp) (dx dy fr ti : Int) (x y : Int) : Bool := hasB a.W a.H a.d x y && (decide (x < fr) || decide (ti ≤ x)) && !hasB b.W b.H b.d (x - dx) (y - dy)
theorem only_img (a b : Bp) (dx dy fr ti r s : Int) (W H : Nat) (hW : a.W = W) (hH : a.H = H) (hr : -2 ≤ r ∧ r ≤ 2) (hs : -2 ≤ s ∧ s ≤ 2) :
    onlyN a b dx dy fr ti = cnt (fun k => onG a b dx dy fr ti ((k : Int) % (a.W + 4) - 2 - r) ((k : Int) / (a.W + 4) - 2 - s)) ((H + 4) * (W + 4)) := by
  have := img_cnt (onG a b dx dy fr ti) W H r s hr hs (fun x y h => by
    unfold onG hasB at h
    rw [hW, hH] at h
    by_cases hb : 0 ≤ x ∧ x < (W : Int) ∧ 0 ≤ y ∧ y < (H : Int)
    · omega
    · rw [if_neg hb] at h
      simp at h)
  rw [hW, this]
  unfold onlyN
  rw [hW, hH, Int.toNat_natCast, Int.toNat_natCast]
  rfl
end Go.Proofs.Ytijaioiojclooaa
end

section
namespace Go.Proofs.Ytijaioiojclooaa
open Go.RowKit Go.Flow Go.AV Go.Plain
theorem cnt_or {g p q : Nat → Bool} : ∀ {n : Nat}, (∀ k, k < n → g k = true → p k = true ∨ q k = true) → cnt g n ≤ cnt p n + cnt q n
  | 0, _ => by rw [cnt_zero, cnt_zero, cnt_zero]; omega
  | n + 1, h => by
    have h1 := cnt_or (n := n) fun k hk => h k (by omega)
    have h2 := h n (by omega)
    rw [cnt_succ, cnt_succ, cnt_succ]
    by_cases hg : g n = true
    · rw [if_pos hg]
      rcases h2 hg with h3 | h3
      · rw [if_pos h3]; split <;> omega
      · rw [if_pos h3]; split <;> omega
    · rw [if_neg hg]
      split <;> split <;> omega
theorem hasB_bd {W H : Int} {d : Nat → Bool} {x y : Int} (h : hasB W H d x y = true) : 0 ≤ x ∧ x < W := by
  unfold hasB at h
  by_cases hb : 0 ≤ x ∧ x < W ∧ 0 ≤ y ∧ y < H
  · exact ⟨hb.1, hb.2.1⟩
  · rw [if_neg hb] at h; cases h
theorem bothB_iff {i j : Int} {f g : Nat → Int} {k : Nat} : bothB i j f g k = true ↔ f k = i ∧ g k = j := by
  unfold bothB
  rw [Bool.and_eq_true, beq_iff_eq, beq_iff_eq]
/-- Dots that one has alone are lost, or blots to the other one. -/
theorem alone_le {img : Ip} {a b : Bp} {r s u v fr ti : Int} {W H : Nat} (hW : a.W = W) (hH : a.H = H) (hWb : b.W = a.W) (fa : fitOk img a r s) (fb : fitOk img b u v) (hr : -2 ≤ r ∧ r ≤ 2) (hs : -2 ≤ s ∧ s ≤ 2) (dx dy : Int) (hdx : dx = u - r) (hdy : dy = v - s)
    (hT : ∀ k, k < img.n → img.f k = 2 → (0 ≤ (k : Int) % (a.W + 4) - 2 - r ∧ (k : Int) % (a.W + 4) - 2 - r < a.W) → fr ≤ (k : Int) % (a.W + 4) - 2 - r ∧ (k : Int) % (a.W + 4) - 2 - r < ti) :
    onlyN a b dx dy fr ti ≤ fitN img a r s 0 1 + fitN img b u v 1 0 := by
  obtain ⟨p1, p2, p3, p4⟩ := fa
  obtain ⟨⟨-, -, -, -, hn⟩, hpx⟩ := chkI_ok.1 p2
  have hn2 : img.n = (H + 4) * (W + 4) := by
    rw [p3, p4, hW, hH] at hn
    have : ((img.n : Nat) : Int) = (((H + 4) * (W + 4) : Nat) : Int) := by rw [hn, Int.natCast_mul, Int.mul_comm]; rfl
    exact_mod_cast this
  unfold fitN
  rw [if_pos ⟨p1, p2, p3, p4⟩, if_pos fb, only_img a b dx dy fr ti r s W H hW hH hr hs, ← hn2]
  refine cnt_or fun k hk hg => ?_
  unfold onG at hg
  rw [Bool.and_eq_true, Bool.and_eq_true, Bool.or_eq_true, decide_eq_true_eq, decide_eq_true_eq, Bool.not_eq_true'] at hg
  obtain ⟨⟨g1, g2⟩, g3⟩ := hg
  have hx := hasB_bd g1
  have e1 : bpF a r s k = 1 := by
    show (if hasB a.W a.H a.d ((k : Int) % (a.W + 4) - 2 - r) ((k : Int) / (a.W + 4) - 2 - s) = true then (1 : Int) else 0) = 1
    rw [if_pos g1]
  have e2 : bpF b u v k = 0 := by
    show (if hasB b.W b.H b.d ((k : Int) % (b.W + 4) - 2 - u) ((k : Int) / (b.W + 4) - 2 - v) = true then (1 : Int) else 0) = 0
    rw [show (k : Int) % (a.W + 4) - 2 - r - dx = (k : Int) % (b.W + 4) - 2 - u by rw [hWb]; omega, show (k : Int) / (a.W + 4) - 2 - s - dy = (k : Int) / (b.W + 4) - 2 - v by rw [hWb]; omega] at g3
    rw [if_neg (by rw [g3]; decide)]
  have hp := hpx k hk
  rw [bothB_iff, bothB_iff]
  by_cases h2 : img.f k = 2
  · have := hT k hk h2 hx
    omega
  · by_cases h1 : img.f k = 0
    · exact .inl ⟨h1, e1⟩
    · exact .inr ⟨by omega, e2⟩
theorem sound_plain {img : Ip} {a b : Bp} {x y : Bg} {r s u v F T : Int} (h : cmpOk a b) (fa : fitOk img a r s) (fb : fitOk img b u v)
    (la : fitN img a r s 0 1 ≤ (lim4 x).lo) (ba : fitN img a r s 1 0 ≤ (lim4 x).bl) (lb : fitN img b u v 0 1 ≤ (lim4 y).lo) (bb : fitN img b u v 1 0 ≤ (lim4 y).bl)
    (hr : (-(lim4 x).sh ≤ r ∧ r ≤ (lim4 x).sh) ∧ -(lim4 x).sh ≤ s ∧ s ≤ (lim4 x).sh) (hu : (-(lim4 y).sh ≤ u ∧ u ≤ (lim4 y).sh) ∧ -(lim4 y).sh ≤ v ∧ v ≤ (lim4 y).sh)
    (hT : ∀ k, k < img.n → img.f k = 2 → F ≤ (k : Int) % (a.W + 4) ∧ (k : Int) % (a.W + 4) < F + T) (hT1 : T ≤ (lim4 x).st) : (cnfV a b x y).2 = true := by
  rw [cnf_slk a b x y h]
  refine decide_eq_true ?_
  unfold slkV
  rw [if_pos h]
  show lsN (xsV a b x y) (alL a.W x y) ((a.n : Int) + 1) ≤ 0
  obtain ⟨ha, hb, hWb, hHb⟩ := h
  obtain ⟨q0, q1, q2, q3, q4⟩ := okB ha
  obtain ⟨W, hW⟩ := Int.eq_ofNat_of_zero_le q0
  obtain ⟨H, hH⟩ := Int.eq_ofNat_of_zero_le q2
  have b1 := lim_bds x
  have b2 := lim_bds y
  have hm := shN_eq x y
  obtain ⟨t, ht⟩ : ∃ t, stN a.W x y = t := ⟨_, rfl⟩
  have ht2 : t = min (a.W + 8) (max (lim4 x).st (lim4 y).st) := by rw [← ht]; rfl
  obtain ⟨e, he⟩ : ∃ e, e = max (-4) (min (a.W + 4 - t) (F - 2 - r)) := ⟨_, rfl⟩
  rw [lsN_le]
  refine .inr ⟨⟨u - r, v - s, e⟩, (al_mem2 q0).2 ⟨by dsimp only; omega, by rw [ht]; dsimp only; omega⟩, ?_⟩
  unfold xsV ovN
  dsimp only
  rw [ht]
  have k1 : onlyN a b (u - r) (v - s) e (e + t) ≤ fitN img a r s 0 1 + fitN img b u v 1 0 :=
    alone_le hW hH hWb.symm fa fb (by omega) (by omega) _ _ rfl rfl fun k hk h2 hx => by have := hT k hk h2; omega
  have k2 : onlyN b a (-(u - r)) (-(v - s)) (e - (u - r)) (e - (u - r) + t) ≤ fitN img b u v 0 1 + fitN img a r s 1 0 :=
    alone_le (by rw [← hWb]; exact hW) (by rw [← hHb]; exact hH) hWb fb fa (by omega) (by omega) _ _ (by omega) (by omega) fun k hk h2 hx => by
      have := hT k hk h2
      rw [← hWb] at hx ⊢
      omega
  omega
theorem ap_two {b : Bp} {h : Ht} {k : Nat} (h2 : (apP b h).f k = 2) : h.fr ≤ (k : Int) % (b.W + 4) ∧ (k : Int) % (b.W + 4) < h.ti := by
  have hb := setL_bd (px := setL (bpx b h) h.lo 0 h.N) (l := h.bl) (v := 1) (by omega) (setL_bd (l := h.lo) (v := 0) (by omega) (putF_bd b.W b.H b.d h.dx h.dy) h.N) h.M k
  have h3 : hideF (b.W + 4) (setL (setL (bpx b h) h.lo 0 h.N) h.bl 1 h.M) h.fr h.ti k = 2 := h2
  unfold hideF at h3
  split at h3
  · assumption
  · omega
/-- What is damaged within a budget, and explained by another one, makes both confused. -/
theorem sound_hit {a p : Bp} {h : Ht} {x y : Bg} (hc : cmpOk a p) (hw : wiB a h x = true) (he : (exV (apP a h) p y).2 = true) : (cnfV a p x y).2 = true := by
  obtain ⟨w1, w2, w3, w4, w5⟩ := of_decide_eq_true hw
  obtain ⟨⟨u, v⟩, hs, hB⟩ := ex_iff.1 he
  obtain ⟨f1, f2, f3⟩ := of_decide_eq_true hB
  have b1 := lim_bds x
  have b2 := lim_bds y
  have hs2 := (sh5_mem (m := (lim4 y).sh.toNat) (by omega)).1 hs
  dsimp only at hs2 f1 f2 f3
  have l1 := ap_lost w1
  have l2 := ap_blot w1
  exact sound_plain (F := h.fr) (T := h.ti - h.fr) hc (ap_fit w1) f1 (by omega) (by omega) f2 f3 (by omega) (by omega) (fun k _ h2 => by have := ap_two h2; omega) w5
end Go.Proofs.Ytijaioiojclooaa
end

section
namespace Go.Proofs.Ytijaioiojclooaa
open Go.RowKit Go.Flow Go.AV Go.Plain
set_option maxHeartbeats 2000000 in
set_option maxRecDepth 100000 in
theorem ApartSound_A (c : Ca) (hc : c.ok) : ECalls Try.prog 8 [.ag (caC c)] (fun v => v = .c (bC true)) := by
  have hM := made24_A c hc
  have hb := ma_cmp c
  have hba := ma_cmpA c
  have hab := ma_bd c
  obtain ⟨hH, hHN, hHM, hw⟩ := Hit_A c.nH c.fH (maA c) (maX c) hc.2.2.2.2.1 hb.1
  generalize maA c = a at *
  generalize maB c = b at *
  generalize maX c = x at *
  generalize maY c = y at *
  obtain ⟨h, hh⟩ : ∃ h, hitV c.nH c.fH a x = h := ⟨_, rfl⟩
  rw [hh] at hH hHN hHM hw
  have hAp := pApply_A a h (by omega) (by omega)
  have hw0 : apE a h = 0 := (of_decide_eq_true hw).1
  rw [apV, apI, if_pos hw0, hw0] at hAp
  have hWi := pWithin_A a h x (by omega) (by omega)
  rw [hw] at hWi
  obtain ⟨q0, q1, q2, q3, q4⟩ := okB hb.1
  obtain ⟨im, him⟩ : ∃ im, apP a h = im := ⟨_, rfl⟩
  have hAp' : ACalls Try.prog 25 [.ag (bpC a), .ag (htC h)] (.tu [.ag (ipC im), .c (iC 0)]) := by rw [← him]; exact hAp
  have hn0 : im.n ≤ 100000 := by
    rw [← him]
    show ((a.W + 4) * (a.H + 4)).toNat ≤ 100000
    have := Int.mul_le_mul (show a.W + 4 ≤ 100 by omega) (show a.H + 4 ≤ 100 by omega) (by omega) (by omega)
    omega
  clear hAp
  replace hAp := hAp'
  clear hAp'
  refine ecalls_at Try.func8 rfl rfl Try.ntmps8 rfl ?_
  repeat (first
    | refine AWp.seq ?_
    | refine thenA_n ?_
    | refine AWp.block ?_
    | (refine AWp.region (id := 0) ?_; refine AList.box rfl rfl rfl rfl rfl ?_; refine AList.assign rfl rfl rfl ?_; refine AList.nil ?_)
    | (refine AWp.region (id := 1) ?_; refine AList.call rfl rfl rfl rfl Try.func9 rfl (by kernel_rfl) (sanity24_A) ?_; refine AList.assign rfl rfl rfl ?_; refine AList.nil ?_)
    | (refine AWp.region (id := 2) ?_; refine AList.loadA tyOk rfl rfl rfl rfl rfl rfl rfl oM oM ?_; refine AList.call rfl rfl rfl rfl Try.func10 rfl (by kernel_rfl) (hM) ?_; refine AList.move rfl rfl rfl ?_; refine AList.extract rfl rfl rfl rfl ?_; refine AList.extract rfl rfl rfl rfl ?_; refine AList.extract rfl rfl rfl rfl ?_; refine AList.extract rfl rfl rfl rfl ?_; refine AList.alloc tyOk rfl rfl rfl rfl rfl ?_; refine AList.alloc tyOk rfl rfl rfl rfl rfl ?_; refine AList.alloc tyOk rfl rfl rfl rfl rfl ?_; refine AList.alloc tyOk rfl rfl rfl rfl rfl ?_; refine AList.store tyOk rfl rfl rfl rfl rfl rfl rfl rfl oM oM ?_; refine AList.store tyOk rfl rfl rfl rfl rfl rfl rfl rfl oM oM ?_; refine AList.store tyOk rfl rfl rfl rfl rfl rfl rfl rfl oM oM ?_; refine AList.store tyOk rfl rfl rfl rfl rfl rfl rfl rfl oM oM ?_; refine AList.nil ?_)
    | (refine AWp.region (id := 3) ?_; refine AList.loadA tyOk rfl rfl rfl rfl rfl rfl rfl oM oM ?_; refine AList.loadA tyOk rfl rfl rfl rfl rfl rfl rfl oM oM ?_; refine AList.buildArr tyOk rfl rfl rfl rfl rfl rfl rfl rfl ?_; refine AList.move rfl rfl rfl ?_; refine AList.nil ?_))
  refine AWp.round (fun i : Nat => mkSt 74 [(1, .c (.pt 1 6 0 0)), (3, .c (bC true)), (4, .c (.pt 4 3 0 0)), (6, .c (.pt 6 4 0 0)), (7, .c (.pt 7 4 0 0)), (27, .ag (bpC b ++ bpC a)), (28, .c (iC i))] [(1, ⟨false, 1, 6, 24, lF (caC c)⟩), (4, ⟨false, 1, 3, 27, lF (bpC a)⟩), (6, ⟨false, 1, 4, 29, lF (bgC x)⟩), (7, ⟨false, 1, 4, 29, lF (bgC y)⟩)] [1, 4, 6, 7])
    (fun i => i ≤ 2) (fun i => 2 - i) 0 (Nat.zero_le _) ?_ (fun i hi => ?_)
  · refine Wk.mk [(1, some 1), (4, some 4), (6, some 6), (7, some 7)] rfl rfl rfl ?_ ?_
    · repeat (first | exact trivial | refine ⟨⟨_, rfl, by first | exact LeA.ag (leL_imm rfl) | exact LeA.c (LeC.refl _ rfl) | exact LeA.c (LeC.ow _ _ rfl) | exact LeA.c (LeC.pt _ _ _ _ _ rfl) | exact LeA.c (LeC.nil _ rfl) | exact LeA.c (LeC.nils _ _) | (refine LeA.int ?_; omega) | (refine LeA.int ?_; dsimp only; omega) | exact LeA.c (LeC.fz rfl rfl (by first | rfl | omega) (fun i _ j _ => ⟨rfl, by first | rfl | exact rowN_imm (fun _ => rfl) _ i j | exact rowF_imm (fun _ => rfl) _ i j⟩))⟩, ?_⟩)
    · repeat (first | exact trivial | refine ⟨by first | exact HeapOk.same rfl rfl rfl rfl | exact HeapOk.lent rfl rfl rfl rfl | exact HeapOk.nil rfl rfl | exact HeapOk.row rfl rfl (by first | rfl | omega) (fun i _ j _ => ⟨rfl, by first | rfl | exact rowN_imm (fun _ => rfl) _ i j | exact rowF_imm (fun _ => rfl) _ i j⟩) | exact HeapOk.box rfl rfl (by repeat (first | exact trivial | refine ⟨by first | exact LeC.refl _ rfl | exact LeC.ow _ _ rfl | exact LeC.nil _ rfl | exact LeC.nils _ _ | exact LeC.fz rfl rfl (by first | rfl | omega) (fun i _ j _ => ⟨rfl, by first | rfl | exact rowN_imm (fun _ => rfl) _ i j | exact rowF_imm (fun _ => rfl) _ i j⟩) | exact LeC.int (by omega), ?_⟩)) rfl, ?_⟩)
  · obtain rfl | rfl | rfl : i = 0 ∨ i = 1 ∨ i = 2 := by omega
    · obtain ⟨V, hV⟩ : ∃ V, exV im b y = V := ⟨_, rfl⟩
      have hE := pExplains_A im b y (by omega)
      rw [hV] at hE
      obtain ⟨vm, vo⟩ := V
      cases vo with
      | false =>
        repeat (first
          | refine AWp.seq ?_
          | refine thenA_n ?_
          | refine AWp.block ?_
          | refine AWp.skip ?_
          | refine AWp.exit ?_
          | refine thenA_e ?_
          | refine inBlk_hit ?_
          | refine AWp.condT rfl (by first | rfl | assumption | exact cmT) ?_
          | (refine AWp.region (id := 4) ?_; refine AList.cmpT rfl rfl rfl rfl rfl cmT ?_; refine AList.nil ?_)
          | (refine AWp.region (id := 5) ?_; refine AList.index (i := 0) tyOk (rfl) rfl rfl rfl rfl rfl rfl rfl rfl (by first | rfl | omega) oM ?_; refine AList.alloc tyOk rfl rfl rfl rfl rfl ?_; refine AList.store tyOk rfl rfl rfl rfl rfl rfl rfl rfl oM oM ?_; refine AList.nil ?_)
          | (refine AWp.region (id := 6) ?_; refine AList.fieldPt tyOk rfl rfl rfl rfl rfl rfl rfl ?_; refine AList.load1 tyOk rfl rfl rfl rfl rfl rfl rfl oM oM ?_; refine AList.loadA tyOk rfl rfl rfl rfl rfl rfl rfl oM oM ?_; refine AList.loadA tyOk rfl rfl rfl rfl rfl rfl rfl oM oM ?_; refine AList.call rfl rfl rfl rfl Try.func24 rfl (by kernel_rfl) (hH) ?_; refine AList.alloc tyOk rfl rfl rfl rfl rfl ?_; refine AList.store tyOk rfl rfl rfl rfl rfl rfl rfl rfl oM oM ?_; refine AList.nil ?_)
          | (refine AWp.region (id := 7) ?_; refine AList.loadA tyOk rfl rfl rfl rfl rfl rfl rfl oM oM ?_; refine AList.loadA tyOk rfl rfl rfl rfl rfl rfl rfl oM oM ?_; refine AList.call rfl rfl rfl rfl Try.func25 rfl (by kernel_rfl) (hAp) ?_; refine AList.move rfl rfl rfl ?_; refine AList.extract rfl rfl rfl rfl ?_; refine AList.extract rfl rfl rfl rfl ?_; refine AList.alloc tyOk rfl rfl rfl rfl rfl ?_; refine AList.store tyOk rfl rfl rfl rfl rfl rfl rfl rfl oM oM ?_; refine AList.assign rfl rfl rfl ?_; refine AList.nil ?_)
          | (refine AWp.region (id := 8) ?_; refine AList.loadA tyOk rfl rfl rfl rfl rfl rfl rfl oM oM ?_; refine AList.loadA tyOk rfl rfl rfl rfl rfl rfl rfl oM oM ?_; refine AList.loadA tyOk rfl rfl rfl rfl rfl rfl rfl oM oM ?_; refine AList.call rfl rfl rfl rfl Try.func22 rfl (by kernel_rfl) (hE) ?_; refine AList.move rfl rfl rfl ?_; refine AList.extract rfl rfl rfl rfl ?_; refine AList.extract rfl rfl rfl rfl ?_; refine AList.alloc tyOk rfl rfl rfl rfl rfl ?_; refine AList.store tyOk rfl rfl rfl rfl rfl rfl rfl rfl oM oM ?_; refine AList.assign rfl rfl rfl ?_; refine AList.nil ?_)
          | (refine AWp.region (id := 9) ?_; refine AList.move rfl rfl rfl ?_; refine AList.cmpF rfl rfl rfl rfl rfl (by simp only [cmpP, eq_self, decide_true, Bool.not_true]) ?_; refine AList.move rfl rfl rfl ?_; refine AList.loadA tyOk rfl rfl rfl rfl rfl rfl rfl oM oM ?_; refine AList.loadA tyOk rfl rfl rfl rfl rfl rfl rfl oM oM ?_; refine AList.loadA tyOk rfl rfl rfl rfl rfl rfl rfl oM oM ?_; refine AList.call rfl rfl rfl rfl Try.func26 rfl (by kernel_rfl) (hWi) ?_; refine AList.notB rfl rfl rfl ?_; refine AList.pickF rfl rfl rfl rfl ?_; refine AList.move rfl rfl rfl ?_; refine AList.move rfl rfl rfl ?_; refine AList.notB rfl rfl rfl ?_; refine AList.pickF rfl rfl rfl rfl ?_; refine AList.nil ?_)
          | (refine AWp.region (id := 13) ?_; refine AList.add rfl rfl rfl rfl (by omega) (by omega) ?_; refine AList.move rfl rfl rfl ?_; refine AList.nil ?_))
        refine ⟨0 + 1, by omega, Wk.mk [(1, some 1), (4, some 4), (6, some 6), (7, some 7)] rfl rfl rfl ?_ ?_, by omega⟩
        · repeat (first | exact trivial | refine ⟨⟨_, rfl, by first | exact LeA.ag (leL_imm rfl) | exact LeA.c (LeC.refl _ rfl) | exact LeA.c (LeC.ow _ _ rfl) | exact LeA.c (LeC.pt _ _ _ _ _ rfl) | exact LeA.c (LeC.nil _ rfl) | exact LeA.c (LeC.nils _ _) | (refine LeA.int ?_; omega) | (refine LeA.int ?_; dsimp only; omega) | exact LeA.c (LeC.fz rfl rfl (by first | rfl | omega) (fun i _ j _ => ⟨rfl, by first | rfl | exact rowN_imm (fun _ => rfl) _ i j | exact rowF_imm (fun _ => rfl) _ i j⟩))⟩, ?_⟩)
        · repeat (first | exact trivial | refine ⟨by first | exact HeapOk.same rfl rfl rfl rfl | exact HeapOk.lent rfl rfl rfl rfl | exact HeapOk.nil rfl rfl | exact HeapOk.row rfl rfl (by first | rfl | omega) (fun i _ j _ => ⟨rfl, by first | rfl | exact rowN_imm (fun _ => rfl) _ i j | exact rowF_imm (fun _ => rfl) _ i j⟩) | exact HeapOk.box rfl rfl (by repeat (first | exact trivial | refine ⟨by first | exact LeC.refl _ rfl | exact LeC.ow _ _ rfl | exact LeC.nil _ rfl | exact LeC.nils _ _ | exact LeC.fz rfl rfl (by first | rfl | omega) (fun i _ j _ => ⟨rfl, by first | rfl | exact rowN_imm (fun _ => rfl) _ i j | exact rowF_imm (fun _ => rfl) _ i j⟩) | exact LeC.int (by omega), ?_⟩)) rfl, ?_⟩)
      | true =>
        have hcf : (cnfV a b x y).2 = true := by
          refine sound_hit (h := h) hb hw ?_
          rw [him, hV]
        have hC := Confused_A a b x y
        rw [hcf] at hC
        generalize (cnfV a b x y).1 = c1 at *
        repeat (first
          | refine AWp.seq ?_
          | refine thenA_n ?_
          | refine AWp.block ?_
          | refine AWp.skip ?_
          | refine inBlk_n ?_
          | refine AWp.condT rfl (by first | rfl | assumption | exact cmT) ?_
          | refine AWp.condF rfl (by first | rfl | assumption | exact cmF) ?_
          | (refine AWp.region (id := 4) ?_; refine AList.cmpT rfl rfl rfl rfl rfl cmT ?_; refine AList.nil ?_)
          | (refine AWp.region (id := 5) ?_; refine AList.index (i := 0) tyOk (rfl) rfl rfl rfl rfl rfl rfl rfl rfl (by first | rfl | omega) oM ?_; refine AList.alloc tyOk rfl rfl rfl rfl rfl ?_; refine AList.store tyOk rfl rfl rfl rfl rfl rfl rfl rfl oM oM ?_; refine AList.nil ?_)
          | (refine AWp.region (id := 6) ?_; refine AList.fieldPt tyOk rfl rfl rfl rfl rfl rfl rfl ?_; refine AList.load1 tyOk rfl rfl rfl rfl rfl rfl rfl oM oM ?_; refine AList.loadA tyOk rfl rfl rfl rfl rfl rfl rfl oM oM ?_; refine AList.loadA tyOk rfl rfl rfl rfl rfl rfl rfl oM oM ?_; refine AList.call rfl rfl rfl rfl Try.func24 rfl (by kernel_rfl) (hH) ?_; refine AList.alloc tyOk rfl rfl rfl rfl rfl ?_; refine AList.store tyOk rfl rfl rfl rfl rfl rfl rfl rfl oM oM ?_; refine AList.nil ?_)
          | (refine AWp.region (id := 7) ?_; refine AList.loadA tyOk rfl rfl rfl rfl rfl rfl rfl oM oM ?_; refine AList.loadA tyOk rfl rfl rfl rfl rfl rfl rfl oM oM ?_; refine AList.call rfl rfl rfl rfl Try.func25 rfl (by kernel_rfl) (hAp) ?_; refine AList.move rfl rfl rfl ?_; refine AList.extract rfl rfl rfl rfl ?_; refine AList.extract rfl rfl rfl rfl ?_; refine AList.alloc tyOk rfl rfl rfl rfl rfl ?_; refine AList.store tyOk rfl rfl rfl rfl rfl rfl rfl rfl oM oM ?_; refine AList.assign rfl rfl rfl ?_; refine AList.nil ?_)
          | (refine AWp.region (id := 8) ?_; refine AList.loadA tyOk rfl rfl rfl rfl rfl rfl rfl oM oM ?_; refine AList.loadA tyOk rfl rfl rfl rfl rfl rfl rfl oM oM ?_; refine AList.loadA tyOk rfl rfl rfl rfl rfl rfl rfl oM oM ?_; refine AList.call rfl rfl rfl rfl Try.func22 rfl (by kernel_rfl) (hE) ?_; refine AList.move rfl rfl rfl ?_; refine AList.extract rfl rfl rfl rfl ?_; refine AList.extract rfl rfl rfl rfl ?_; refine AList.alloc tyOk rfl rfl rfl rfl rfl ?_; refine AList.store tyOk rfl rfl rfl rfl rfl rfl rfl rfl oM oM ?_; refine AList.assign rfl rfl rfl ?_; refine AList.nil ?_)
          | (refine AWp.region (id := 9) ?_; refine AList.move rfl rfl rfl ?_; refine AList.cmpF rfl rfl rfl rfl rfl (by simp only [cmpP, eq_self, decide_true, Bool.not_true]) ?_; refine AList.move rfl rfl rfl ?_; refine AList.loadA tyOk rfl rfl rfl rfl rfl rfl rfl oM oM ?_; refine AList.loadA tyOk rfl rfl rfl rfl rfl rfl rfl oM oM ?_; refine AList.loadA tyOk rfl rfl rfl rfl rfl rfl rfl oM oM ?_; refine AList.call rfl rfl rfl rfl Try.func26 rfl (by kernel_rfl) (hWi) ?_; refine AList.notB rfl rfl rfl ?_; refine AList.pickF rfl rfl rfl rfl ?_; refine AList.move rfl rfl rfl ?_; refine AList.move rfl rfl rfl ?_; refine AList.notB rfl rfl rfl ?_; refine AList.pickF rfl rfl rfl rfl ?_; refine AList.nil ?_)
          | (refine AWp.region (id := 10) ?_; refine AList.loadA tyOk rfl rfl rfl rfl rfl rfl rfl oM oM ?_; refine AList.loadA tyOk rfl rfl rfl rfl rfl rfl rfl oM oM ?_; refine AList.loadA tyOk rfl rfl rfl rfl rfl rfl rfl oM oM ?_; refine AList.loadA tyOk rfl rfl rfl rfl rfl rfl rfl oM oM ?_; refine AList.call rfl rfl rfl rfl Try.func13 rfl (by kernel_rfl) (hC) ?_; refine AList.move rfl rfl rfl ?_; refine AList.extract rfl rfl rfl rfl ?_; refine AList.extract rfl rfl rfl rfl ?_; refine AList.alloc tyOk rfl rfl rfl rfl rfl ?_; refine AList.store tyOk rfl rfl rfl rfl rfl rfl rfl rfl oM oM ?_; refine AList.assign rfl rfl rfl ?_; refine AList.nil ?_)
          | (refine AWp.region (id := 11) ?_; refine AList.move rfl rfl rfl ?_; refine AList.notB rfl rfl rfl ?_; refine AList.nil ?_)
          | (refine AWp.region (id := 13) ?_; refine AList.add rfl rfl rfl rfl (by omega) (by omega) ?_; refine AList.move rfl rfl rfl ?_; refine AList.nil ?_))
        refine ⟨0 + 1, by omega, Wk.mk [(1, some 1), (4, some 4), (6, some 6), (7, some 7)] rfl rfl rfl ?_ ?_, by omega⟩
        · repeat (first | exact trivial | refine ⟨⟨_, rfl, by first | exact LeA.ag (leL_imm rfl) | exact LeA.c (LeC.refl _ rfl) | exact LeA.c (LeC.ow _ _ rfl) | exact LeA.c (LeC.pt _ _ _ _ _ rfl) | exact LeA.c (LeC.nil _ rfl) | exact LeA.c (LeC.nils _ _) | (refine LeA.int ?_; omega) | (refine LeA.int ?_; dsimp only; omega) | exact LeA.c (LeC.fz rfl rfl (by first | rfl | omega) (fun i _ j _ => ⟨rfl, by first | rfl | exact rowN_imm (fun _ => rfl) _ i j | exact rowF_imm (fun _ => rfl) _ i j⟩))⟩, ?_⟩)
        · repeat (first | exact trivial | refine ⟨by first | exact HeapOk.same rfl rfl rfl rfl | exact HeapOk.lent rfl rfl rfl rfl | exact HeapOk.nil rfl rfl | exact HeapOk.row rfl rfl (by first | rfl | omega) (fun i _ j _ => ⟨rfl, by first | rfl | exact rowN_imm (fun _ => rfl) _ i j | exact rowF_imm (fun _ => rfl) _ i j⟩) | exact HeapOk.box rfl rfl (by repeat (first | exact trivial | refine ⟨by first | exact LeC.refl _ rfl | exact LeC.ow _ _ rfl | exact LeC.nil _ rfl | exact LeC.nils _ _ | exact LeC.fz rfl rfl (by first | rfl | omega) (fun i _ j _ => ⟨rfl, by first | rfl | exact rowN_imm (fun _ => rfl) _ i j | exact rowF_imm (fun _ => rfl) _ i j⟩) | exact LeC.int (by omega), ?_⟩)) rfl, ?_⟩)
    · obtain ⟨V, hV⟩ : ∃ V, exV im a y = V := ⟨_, rfl⟩
      have hE := pExplains_A im a y (by omega)
      rw [hV] at hE
      obtain ⟨vm, vo⟩ := V
      cases vo with
      | false =>
        repeat (first
          | refine AWp.seq ?_
          | refine thenA_n ?_
          | refine AWp.block ?_
          | refine AWp.skip ?_
          | refine AWp.exit ?_
          | refine thenA_e ?_
          | refine inBlk_hit ?_
          | refine AWp.condT rfl (by first | rfl | assumption | exact cmT) ?_
          | (refine AWp.region (id := 4) ?_; refine AList.cmpT rfl rfl rfl rfl rfl cmT ?_; refine AList.nil ?_)
          | (refine AWp.region (id := 5) ?_; refine AList.index (i := 1) tyOk (rfl) rfl rfl rfl rfl rfl rfl rfl rfl (by first | rfl | omega) oM ?_; refine AList.alloc tyOk rfl rfl rfl rfl rfl ?_; refine AList.store tyOk rfl rfl rfl rfl rfl rfl rfl rfl oM oM ?_; refine AList.nil ?_)
          | (refine AWp.region (id := 6) ?_; refine AList.fieldPt tyOk rfl rfl rfl rfl rfl rfl rfl ?_; refine AList.load1 tyOk rfl rfl rfl rfl rfl rfl rfl oM oM ?_; refine AList.loadA tyOk rfl rfl rfl rfl rfl rfl rfl oM oM ?_; refine AList.loadA tyOk rfl rfl rfl rfl rfl rfl rfl oM oM ?_; refine AList.call rfl rfl rfl rfl Try.func24 rfl (by kernel_rfl) (hH) ?_; refine AList.alloc tyOk rfl rfl rfl rfl rfl ?_; refine AList.store tyOk rfl rfl rfl rfl rfl rfl rfl rfl oM oM ?_; refine AList.nil ?_)
          | (refine AWp.region (id := 7) ?_; refine AList.loadA tyOk rfl rfl rfl rfl rfl rfl rfl oM oM ?_; refine AList.loadA tyOk rfl rfl rfl rfl rfl rfl rfl oM oM ?_; refine AList.call rfl rfl rfl rfl Try.func25 rfl (by kernel_rfl) (hAp) ?_; refine AList.move rfl rfl rfl ?_; refine AList.extract rfl rfl rfl rfl ?_; refine AList.extract rfl rfl rfl rfl ?_; refine AList.alloc tyOk rfl rfl rfl rfl rfl ?_; refine AList.store tyOk rfl rfl rfl rfl rfl rfl rfl rfl oM oM ?_; refine AList.assign rfl rfl rfl ?_; refine AList.nil ?_)
          | (refine AWp.region (id := 8) ?_; refine AList.loadA tyOk rfl rfl rfl rfl rfl rfl rfl oM oM ?_; refine AList.loadA tyOk rfl rfl rfl rfl rfl rfl rfl oM oM ?_; refine AList.loadA tyOk rfl rfl rfl rfl rfl rfl rfl oM oM ?_; refine AList.call rfl rfl rfl rfl Try.func22 rfl (by kernel_rfl) (hE) ?_; refine AList.move rfl rfl rfl ?_; refine AList.extract rfl rfl rfl rfl ?_; refine AList.extract rfl rfl rfl rfl ?_; refine AList.alloc tyOk rfl rfl rfl rfl rfl ?_; refine AList.store tyOk rfl rfl rfl rfl rfl rfl rfl rfl oM oM ?_; refine AList.assign rfl rfl rfl ?_; refine AList.nil ?_)
          | (refine AWp.region (id := 9) ?_; refine AList.move rfl rfl rfl ?_; refine AList.cmpF rfl rfl rfl rfl rfl (by simp only [cmpP, eq_self, decide_true, Bool.not_true]) ?_; refine AList.move rfl rfl rfl ?_; refine AList.loadA tyOk rfl rfl rfl rfl rfl rfl rfl oM oM ?_; refine AList.loadA tyOk rfl rfl rfl rfl rfl rfl rfl oM oM ?_; refine AList.loadA tyOk rfl rfl rfl rfl rfl rfl rfl oM oM ?_; refine AList.call rfl rfl rfl rfl Try.func26 rfl (by kernel_rfl) (hWi) ?_; refine AList.notB rfl rfl rfl ?_; refine AList.pickF rfl rfl rfl rfl ?_; refine AList.move rfl rfl rfl ?_; refine AList.move rfl rfl rfl ?_; refine AList.notB rfl rfl rfl ?_; refine AList.pickF rfl rfl rfl rfl ?_; refine AList.nil ?_)
          | (refine AWp.region (id := 13) ?_; refine AList.add rfl rfl rfl rfl (by omega) (by omega) ?_; refine AList.move rfl rfl rfl ?_; refine AList.nil ?_))
        refine ⟨1 + 1, by omega, Wk.mk [(1, some 1), (4, some 4), (6, some 6), (7, some 7)] rfl rfl rfl ?_ ?_, by omega⟩
        · repeat (first | exact trivial | refine ⟨⟨_, rfl, by first | exact LeA.ag (leL_imm rfl) | exact LeA.c (LeC.refl _ rfl) | exact LeA.c (LeC.ow _ _ rfl) | exact LeA.c (LeC.pt _ _ _ _ _ rfl) | exact LeA.c (LeC.nil _ rfl) | exact LeA.c (LeC.nils _ _) | (refine LeA.int ?_; omega) | (refine LeA.int ?_; dsimp only; omega) | exact LeA.c (LeC.fz rfl rfl (by first | rfl | omega) (fun i _ j _ => ⟨rfl, by first | rfl | exact rowN_imm (fun _ => rfl) _ i j | exact rowF_imm (fun _ => rfl) _ i j⟩))⟩, ?_⟩)
        · repeat (first | exact trivial | refine ⟨by first | exact HeapOk.same rfl rfl rfl rfl | exact HeapOk.lent rfl rfl rfl rfl | exact HeapOk.nil rfl rfl | exact HeapOk.row rfl rfl (by first | rfl | omega) (fun i _ j _ => ⟨rfl, by first | rfl | exact rowN_imm (fun _ => rfl) _ i j | exact rowF_imm (fun _ => rfl) _ i j⟩) | exact HeapOk.box rfl rfl (by repeat (first | exact trivial | refine ⟨by first | exact LeC.refl _ rfl | exact LeC.ow _ _ rfl | exact LeC.nil _ rfl | exact LeC.nils _ _ | exact LeC.fz rfl rfl (by first | rfl | omega) (fun i _ j _ => ⟨rfl, by first | rfl | exact rowN_imm (fun _ => rfl) _ i j | exact rowF_imm (fun _ => rfl) _ i j⟩) | exact LeC.int (by omega), ?_⟩)) rfl, ?_⟩)
      | true =>
        have hcf : (cnfV a a x y).2 = true := by
          refine sound_hit (h := h) hba hw ?_
          rw [him, hV]
        have hC := Confused_A a a x y
        rw [hcf] at hC
        generalize (cnfV a a x y).1 = c1 at *
        repeat (first
          | refine AWp.seq ?_
          | refine thenA_n ?_
          | refine AWp.block ?_
          | refine AWp.skip ?_
          | refine inBlk_n ?_
          | refine AWp.condT rfl (by first | rfl | assumption | exact cmT) ?_
          | refine AWp.condF rfl (by first | rfl | assumption | exact cmF) ?_
          | (refine AWp.region (id := 4) ?_; refine AList.cmpT rfl rfl rfl rfl rfl cmT ?_; refine AList.nil ?_)
          | (refine AWp.region (id := 5) ?_; refine AList.index (i := 1) tyOk (rfl) rfl rfl rfl rfl rfl rfl rfl rfl (by first | rfl | omega) oM ?_; refine AList.alloc tyOk rfl rfl rfl rfl rfl ?_; refine AList.store tyOk rfl rfl rfl rfl rfl rfl rfl rfl oM oM ?_; refine AList.nil ?_)
          | (refine AWp.region (id := 6) ?_; refine AList.fieldPt tyOk rfl rfl rfl rfl rfl rfl rfl ?_; refine AList.load1 tyOk rfl rfl rfl rfl rfl rfl rfl oM oM ?_; refine AList.loadA tyOk rfl rfl rfl rfl rfl rfl rfl oM oM ?_; refine AList.loadA tyOk rfl rfl rfl rfl rfl rfl rfl oM oM ?_; refine AList.call rfl rfl rfl rfl Try.func24 rfl (by kernel_rfl) (hH) ?_; refine AList.alloc tyOk rfl rfl rfl rfl rfl ?_; refine AList.store tyOk rfl rfl rfl rfl rfl rfl rfl rfl oM oM ?_; refine AList.nil ?_)
          | (refine AWp.region (id := 7) ?_; refine AList.loadA tyOk rfl rfl rfl rfl rfl rfl rfl oM oM ?_; refine AList.loadA tyOk rfl rfl rfl rfl rfl rfl rfl oM oM ?_; refine AList.call rfl rfl rfl rfl Try.func25 rfl (by kernel_rfl) (hAp) ?_; refine AList.move rfl rfl rfl ?_; refine AList.extract rfl rfl rfl rfl ?_; refine AList.extract rfl rfl rfl rfl ?_; refine AList.alloc tyOk rfl rfl rfl rfl rfl ?_; refine AList.store tyOk rfl rfl rfl rfl rfl rfl rfl rfl oM oM ?_; refine AList.assign rfl rfl rfl ?_; refine AList.nil ?_)
          | (refine AWp.region (id := 8) ?_; refine AList.loadA tyOk rfl rfl rfl rfl rfl rfl rfl oM oM ?_; refine AList.loadA tyOk rfl rfl rfl rfl rfl rfl rfl oM oM ?_; refine AList.loadA tyOk rfl rfl rfl rfl rfl rfl rfl oM oM ?_; refine AList.call rfl rfl rfl rfl Try.func22 rfl (by kernel_rfl) (hE) ?_; refine AList.move rfl rfl rfl ?_; refine AList.extract rfl rfl rfl rfl ?_; refine AList.extract rfl rfl rfl rfl ?_; refine AList.alloc tyOk rfl rfl rfl rfl rfl ?_; refine AList.store tyOk rfl rfl rfl rfl rfl rfl rfl rfl oM oM ?_; refine AList.assign rfl rfl rfl ?_; refine AList.nil ?_)
          | (refine AWp.region (id := 9) ?_; refine AList.move rfl rfl rfl ?_; refine AList.cmpF rfl rfl rfl rfl rfl (by simp only [cmpP, eq_self, decide_true, Bool.not_true]) ?_; refine AList.move rfl rfl rfl ?_; refine AList.loadA tyOk rfl rfl rfl rfl rfl rfl rfl oM oM ?_; refine AList.loadA tyOk rfl rfl rfl rfl rfl rfl rfl oM oM ?_; refine AList.loadA tyOk rfl rfl rfl rfl rfl rfl rfl oM oM ?_; refine AList.call rfl rfl rfl rfl Try.func26 rfl (by kernel_rfl) (hWi) ?_; refine AList.notB rfl rfl rfl ?_; refine AList.pickF rfl rfl rfl rfl ?_; refine AList.move rfl rfl rfl ?_; refine AList.move rfl rfl rfl ?_; refine AList.notB rfl rfl rfl ?_; refine AList.pickF rfl rfl rfl rfl ?_; refine AList.nil ?_)
          | (refine AWp.region (id := 10) ?_; refine AList.loadA tyOk rfl rfl rfl rfl rfl rfl rfl oM oM ?_; refine AList.loadA tyOk rfl rfl rfl rfl rfl rfl rfl oM oM ?_; refine AList.loadA tyOk rfl rfl rfl rfl rfl rfl rfl oM oM ?_; refine AList.loadA tyOk rfl rfl rfl rfl rfl rfl rfl oM oM ?_; refine AList.call rfl rfl rfl rfl Try.func13 rfl (by kernel_rfl) (hC) ?_; refine AList.move rfl rfl rfl ?_; refine AList.extract rfl rfl rfl rfl ?_; refine AList.extract rfl rfl rfl rfl ?_; refine AList.alloc tyOk rfl rfl rfl rfl rfl ?_; refine AList.store tyOk rfl rfl rfl rfl rfl rfl rfl rfl oM oM ?_; refine AList.assign rfl rfl rfl ?_; refine AList.nil ?_)
          | (refine AWp.region (id := 11) ?_; refine AList.move rfl rfl rfl ?_; refine AList.notB rfl rfl rfl ?_; refine AList.nil ?_)
          | (refine AWp.region (id := 13) ?_; refine AList.add rfl rfl rfl rfl (by omega) (by omega) ?_; refine AList.move rfl rfl rfl ?_; refine AList.nil ?_))
        refine ⟨1 + 1, by omega, Wk.mk [(1, some 1), (4, some 4), (6, some 6), (7, some 7)] rfl rfl rfl ?_ ?_, by omega⟩
        · repeat (first | exact trivial | refine ⟨⟨_, rfl, by first | exact LeA.ag (leL_imm rfl) | exact LeA.c (LeC.refl _ rfl) | exact LeA.c (LeC.ow _ _ rfl) | exact LeA.c (LeC.pt _ _ _ _ _ rfl) | exact LeA.c (LeC.nil _ rfl) | exact LeA.c (LeC.nils _ _) | (refine LeA.int ?_; omega) | (refine LeA.int ?_; dsimp only; omega) | exact LeA.c (LeC.fz rfl rfl (by first | rfl | omega) (fun i _ j _ => ⟨rfl, by first | rfl | exact rowN_imm (fun _ => rfl) _ i j | exact rowF_imm (fun _ => rfl) _ i j⟩))⟩, ?_⟩)
        · repeat (first | exact trivial | refine ⟨by first | exact HeapOk.same rfl rfl rfl rfl | exact HeapOk.lent rfl rfl rfl rfl | exact HeapOk.nil rfl rfl | exact HeapOk.row rfl rfl (by first | rfl | omega) (fun i _ j _ => ⟨rfl, by first | rfl | exact rowN_imm (fun _ => rfl) _ i j | exact rowF_imm (fun _ => rfl) _ i j⟩) | exact HeapOk.box rfl rfl (by repeat (first | exact trivial | refine ⟨by first | exact LeC.refl _ rfl | exact LeC.ow _ _ rfl | exact LeC.nil _ rfl | exact LeC.nils _ _ | exact LeC.fz rfl rfl (by first | rfl | omega) (fun i _ j _ => ⟨rfl, by first | rfl | exact rowN_imm (fun _ => rfl) _ i j | exact rowF_imm (fun _ => rfl) _ i j⟩) | exact LeC.int (by omega), ?_⟩)) rfl, ?_⟩)
    · repeat (first
        | refine AWp.seq ?_
        | refine thenA_n ?_
        | refine AWp.exit ?_
        | refine AWp.ret ?_
        | refine AWp.condF rfl (by first | rfl | assumption | exact cmF) ?_
        | (refine AWp.region (id := 4) ?_; refine AList.cmpF rfl rfl rfl rfl rfl cmF ?_; refine AList.nil ?_)
        | (refine AWp.region (id := 14) ?_; refine AList.move rfl rfl rfl ?_; refine AList.assign rfl rfl rfl ?_; refine AList.nil ?_))
      refine ⟨_, rfl, ?_⟩
      refine ⟨mkSt 74 [(2, .c (bC true))] [] [], [], Wk.mk [] rfl rfl rfl ?_ trivial, rfl, rfl, ARets.one (x := .c _) (ARes.tmp rfl rfl)⟩
      repeat (first | exact trivial | refine ⟨⟨_, rfl, by first | exact LeA.c (LeC.refl _ rfl) | exact LeA.c (LeC.ow _ _ rfl) | exact LeA.c (LeC.pt _ _ _ _ _ rfl) | exact LeA.c (LeC.nil _ rfl) | exact LeA.c (LeC.nils _ _) | (refine LeA.int ?_; omega) | (refine LeA.int ?_; dsimp only; omega) | exact LeA.c (LeC.fz rfl rfl (by first | rfl | omega) (fun i _ j _ => ⟨rfl, by first | rfl | exact rowN_imm (fun _ => rfl) _ i j | exact rowF_imm (fun _ => rfl) _ i j⟩))⟩, ?_⟩)
end Go.Proofs.Ytijaioiojclooaa
end

section
namespace Go.Proofs.Ytijaioiojclooaa.apartSound
open Go.ChangeShapes Go.WideShapes Go.ChangeAt Go.RowKit Go.Flow Go.AV
set_option maxRecDepth 100000 in
theorem contract (H : Type) (enc : TypeId × Value → H) (W : World) (base : Nat) (args : Array Value) (ds gs : List (DataW H)) (before : List MemPlace)
    (hval : ∀ (j : Nat) t v, Try.f8.params[j]? = some t → args[j]? = some v → Value.okWide Try.prog W .any base t v)
    (hW : DataW.Whole enc Try.prog Try.f8.params.toList Rows.apartSoundSpec.vars false W args.toList ds gs before)
    (hsz : (DataW.weightsEach Try.prog (Try.f8.params.toList ++ (OpenSpec.ofChange Rows.apartSoundSpec).bare.plain.varTypes Try.prog) (ds ++ gs)).all (· ≤ reachBytes) = true) :
    Calls Try.prog 8 args W fun e W' => ∃ v, e = .returned v ∧ Rows.apartSoundSpec.post enc Try.prog Try.f8 false true false false W args v W' := by
  have hW' := hW
  obtain ⟨p, q, hA0, hV, rfl, hfz, hnd⟩ := hW
  have hA : DataW.TrodAll enc Try.prog W 0 (fun _ => true) true Try.f8.params.toList args.toList ds p := hA0
  have hAk := hA0
  rw [Try.params8] at hA hval hsz
  obtain ⟨rfl, rfl⟩ := trodVars_none hV
  obtain ⟨v0, vs0, d0, ds0, p0, q0, hargs, rfl, rfl, h0, t0⟩ := trodAll_cons hA
  obtain ⟨rfl, rfl, rfl⟩ := trodAll_nil t0
  obtain rfl : args = #[v0] := by rw [← Array.toList_inj]; exact hargs
  have hlt := fun x hx => hW'.lt x hx
  simp only [List.append_nil] at hW'
  rw [List.append_nil] at hsz
  obtain ⟨a0, ok0, r0⟩ := opn_ca.argS Try.underlying24 (hval 0 24 v0 rfl rfl) h0 (weigh hsz 0 (t := 24) (d := d0) rfl rfl)
  refine ((ApartSound_A a0 ok0) O0 W [_] (fun b h => h.elim) ⟨r0, trivial⟩).mono fun e W' ⟨v, r, he, hr, hv, hE⟩ => ?_
  subst hr
  obtain rfl : v = .bool true := hv.2
  subst he
  exact ⟨_, rfl, post_below (pv := []) hW' (fun _ _ _ => trodAll_cons_mk (shut_bool Try.underlying4 _) trodAll_mk0)
    (fun sp hsp => trodAll_below laidOut hE (by rw [Try.params8]; intro t ht; simp only [List.mem_cons, List.not_mem_nil, or_false] at ht; rcases ht with rfl <;> exact ⟨by kernel_rfl, of_decide_eq_true (by kernel_rfl)⟩) hAk (fun x hx => hlt x (by rw [List.append_nil]; exact hx)) sp (fun x hx => hsp x (by simpa only [List.append_nil] using hx)))
    (fun _ _ => rfl) (by simp) hE (ok_one (by kernel_rfl) rfl (okWide_bool_mk Try.underlying4 _))⟩
theorem own : ownKnob Try.prog.godebug = none := by kernel_rfl
set_option maxRecDepth 100000 in
theorem lifted (os : Os) (started : os.Started) (H : Type) (enc : TypeId × Value → H) :
    ReturnsInHanded {} Try.checked os 8 .any (Rows.apartSoundSpec.pre6 enc Try.prog Try.f8 Rows.apartSoundRow.domain false) (Rows.apartSoundSpec.post enc Try.prog Try.f8 false true false false) := by
  refine returnsInHanded_of_change_sized (C := Try.checked) own started (by kernel_rfl) Try.func8
    (ChangeSpec.witness6 (enc := enc) (C := Try.checked) false ⟨#[], #[.agg #[.slice none 0 0, .slice none 0 0, .slice none 0 0, .slice none 0 0, .slice none 0 0, .int .i64 0]], []⟩ 8 (by kernel_rfl) (by kernel_rfl) (by kernel_rfl) (by kernel_rfl)) ?_
  intro W base args ds gs before hval hW _ hsz _
  exact contract H enc W base args ds gs before hval hW hsz
theorem said : Rows.ApartSoundSaid :=
  OpenClaim.holds_of_wide 8 Try.f8 rfl rfl rfl rfl rfl rfl rfl ⟨rfl, rfl, rfl, rfl, rfl⟩ rfl rfl rfl rfl rfl (by kernel_rfl) Try.func8 (by kernel_rfl)
    (of_decide_eq_true (by kernel_rfl)) (by unfold Func.isWrapper; first | (rw [if_pos (by decide +kernel)]; kernel_rfl) | (rw [if_neg (by decide +kernel)]; exact ⟨rfl, rfl⟩))
    (fun os started H enc _ => lifted os started H enc)
end Go.Proofs.Ytijaioiojclooaa.apartSound
end
