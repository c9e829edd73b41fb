/- Parts of the proof: Sum, RbSm, A22. -/
import Derived.WalkKit
import Derived.Test.YtclaanggpcjnbaaProg
import Derived.Test.YtclaanggpcjnbaaG12
import Derived.Test.YtclaanggpcjnbaaG02
import Derived.Test.YtclaanggpcjnbaaG13
import Derived.Test.YtclaanggpcjnbaaG14
set_option linter.unusedSimpArgs false
set_option linter.unusedVariables false
section
/- Plain laws on sums and counts; no program. No condition. -/
namespace Go.Plain

/-- f 0 + .. + f (n - 1). -/
def sumTo (f : Nat → Int) : Nat → Int
  | 0 => 0
  | n + 1 => sumTo f n + f n
/-- How many j < n there are with p j. -/
def cnt (p : Nat → Bool) (n : Nat) : Int := sumTo (fun j => if p j then 1 else 0) n

theorem sumTo_congr {f g : Nat → Int} : ∀ {n : Nat}, (∀ k, k < n → f k = g k) → sumTo f n = sumTo g n
  | 0, _ => rfl
  | n + 1, h => by simp only [sumTo]; rw [sumTo_congr (n := n) fun k hk => h k (by omega), h n (by omega)]
theorem sumTo_nonneg {f : Nat → Int} : ∀ {n : Nat}, (∀ k, k < n → 0 ≤ f k) → 0 ≤ sumTo f n
  | 0, _ => by simp [sumTo]
  | n + 1, h => by have := sumTo_nonneg (n := n) fun k hk => h k (by omega); have := h n (by omega); simp only [sumTo]; omega
theorem sumTo_le {f g : Nat → Int} : ∀ {n : Nat}, (∀ k, k < n → f k ≤ g k) → sumTo f n ≤ sumTo g n
  | 0, _ => by simp [sumTo]
  | n + 1, h => by have := sumTo_le (n := n) fun k hk => h k (by omega); have := h n (by omega); simp only [sumTo]; omega
theorem sumTo_const (c : Int) : ∀ n : Nat, sumTo (fun _ => c) n = n * c
  | 0 => by simp [sumTo]
  | n + 1 => by simp only [sumTo, sumTo_const c n]; rw [Int.natCast_succ, Int.add_mul]; omega
theorem sumTo_add (f g : Nat → Int) : ∀ n : Nat, sumTo (fun k => f k + g k) n = sumTo f n + sumTo g n
  | 0 => rfl
  | n + 1 => by simp only [sumTo, sumTo_add f g n]; omega
theorem sumTo_sub (f g : Nat → Int) : ∀ n : Nat, sumTo (fun k => f k - g k) n = sumTo f n - sumTo g n
  | 0 => rfl
  | n + 1 => by simp only [sumTo, sumTo_sub f g n]; omega
theorem sumTo_swap (f : Nat → Nat → Int) (m : Nat) : ∀ n : Nat, sumTo (fun i => sumTo (fun j => f i j) m) n = sumTo (fun j => sumTo (fun i => f i j) n) m
  | 0 => by
    simp only [sumTo]
    have h0 : ∀ m : Nat, sumTo (fun _ => 0) m = 0 := fun m => by rw [sumTo_const]; omega
    exact (h0 m).symm
  | n + 1 => by simp only [sumTo, sumTo_swap f m n, sumTo_add]
theorem sumTo_split (f : Nat → Int) (a : Nat) : ∀ b : Nat, sumTo f (a + b) = sumTo f a + sumTo (fun k => f (a + k)) b
  | 0 => by simp [sumTo]
  | b + 1 => by rw [← Nat.add_assoc]; simp only [sumTo, sumTo_split f a b]; omega
/-- Only one term is not 0. -/
theorem sumTo_one (v : Int) (i : Nat) : ∀ n : Nat, sumTo (fun k => if k = i then v else 0) n = if i < n then v else 0
  | 0 => by simp [sumTo]
  | n + 1 => by
    simp only [sumTo, sumTo_one v i n]
    by_cases h : n = i
    · subst h; simp
    · by_cases h2 : i < n
      · simp [h, h2, show i < n + 1 by omega]
      · simp [h, h2, show ¬ i < n + 1 by omega]
theorem cnt_nonneg (p : Nat → Bool) (n : Nat) : 0 ≤ cnt p n := sumTo_nonneg fun k _ => by split <;> omega
theorem cnt_le (p : Nat → Bool) (n : Nat) : cnt p n ≤ n := by
  have := sumTo_le (f := fun j => if p j then 1 else 0) (g := fun _ => 1) (n := n) fun k _ => by split <;> omega
  rw [sumTo_const] at this
  unfold cnt
  omega
theorem cnt_zero (p : Nat → Bool) : cnt p 0 = 0 := rfl
theorem cnt_succ (p : Nat → Bool) (n : Nat) : cnt p (n + 1) = cnt p n + if p n then 1 else 0 := rfl
theorem cnt_congr {p q : Nat → Bool} {n : Nat} (h : ∀ k, k < n → p k = q k) : cnt p n = cnt q n := sumTo_congr fun k hk => by rw [h k hk]
theorem cnt_mono {p q : Nat → Bool} {n : Nat} (h : ∀ k, k < n → p k = true → q k = true) : cnt p n ≤ cnt q n := sumTo_le fun k hk => by
  by_cases hp : p k = true
  · simp [hp, h k hk hp]
  · simp [hp]; split <;> omega

/-- v is the least of f on S. -/
def IsMin {α : Type} (S : α → Prop) (f : α → Int) (v : Int) : Prop := (∃ a, S a ∧ f a = v) ∧ ∀ a, S a → v ≤ f a
theorem IsMin.unique {α : Type} {S : α → Prop} {f : α → Int} {v v' : Int} (h : IsMin S f v) (h' : IsMin S f v') : v = v' := by
  obtain ⟨⟨a, ha, rfl⟩, h2⟩ := h
  obtain ⟨⟨b, hb, rfl⟩, h4⟩ := h'
  have := h2 b hb
  have := h4 a ha
  omega
end Go.Plain
end

section
/- ref22.Same. No condition but those that each states. -/
namespace Go.Proofs.Ytclaanggpcjnbaa
open Go.RowKit Go.Flow Go.Plain
open Go.Proofs
attribute [local go_sem] block_add
attribute [local go_sem ↓] Go.wp_at_zero Go.wp_at_succ

def samePx (n m : Nat) (f g : Nat → Int) : Bool := decide (n = m ∧ ∀ k, k < n → f k = g k)

set_option maxHeartbeats 1000000 in
set_option maxRecDepth 100000 in
theorem Same_any (W H W' H' : Int) (A B : Option Addr) (n m c d : Nat) (f g : Nat → Int) (w : World) (hn : n ≤ 4611686018427387904) (hA : Ints w A n f) (hB : Ints w B m g) :
    Calls Try.prog 25 #[img W H A n c, img W' H' B m d] w fun e w' => e = .returned (.bool (decide (W = W') && decide (H = H') && samePx n m f g)) ∧ Ext w w' := by
  obtain ⟨v, hv⟩ : ∃ v, (decide (W = W') && decide (H = H') && samePx n m f g) = v := ⟨_, rfl⟩
  rw [hv]
  replace hv := Lib.hid hv
  have hE0 := Lib.hid (((Ext.refl w).alloc (.cells #[.int .i64 W, .int .i64 H, .slice A n c] 43)).alloc (.cells #[.int .i64 W', .int .i64 H', .slice B m d] 43))
  have hX0 := Lib.hid ((Blk.new w 43 #[.int .i64 W, .int .i64 H, .slice A n c]).alloc (.cells #[.int .i64 W', .int .i64 H', .slice B m d] 43))
  have hY0 := Lib.hid (Blk.new' (g := w.heap.size + 1) (w := w.alloc (.cells #[.int .i64 W, .int .i64 H, .slice A n c] 43)) (by simp) 43 #[.int .i64 W', .int .i64 H', .slice B m d])
  by_cases h1 : W = W'
  · have h1' : (W != W') = false := by simpa using h1
    by_cases h2 : H = H'
    · have h2' : (H != H') = false := by simpa using h2
      by_cases h3 : n = m
      · have h3' : ((n : Int) != m) = false := by simp [h3]
        replace h1 := Lib.hid h1
        replace h2 := Lib.hid h2
        replace h3 := Lib.hid h3
        go_enter Try.func25, Try.ntmps25
        go_wp2_with fail
        go_loopw [5] (fun i wr => ∃ k : Nat, k ≤ n ∧ i = .int .i64 k ∧ Hid (∀ j, j < k → f j = g j) ∧ Blk wr w.heap.size 43 #[.int .i64 W, .int .i64 H, .slice A n c] ∧ Blk wr (w.heap.size + 1) 43 #[.int .i64 W', .int .i64 H', .slice B m d] ∧ Ext w wr) (fun i _ => n - (intOf i).toNat)
        case atStart => exact ⟨0, by omega, rfl, Lib.hid fun j hj => absurd hj (by omega), hX0.out, hY0.out, hE0.out⟩
        case round =>
          clear hX0 hY0 hE0
          obtain ⟨k, hk, rfl, heq, hX, hY, hE⟩ := hrel
          obtain ⟨xc, xf, xl⟩ := hX.rules
          obtain ⟨yc, yf, yl⟩ := hY.rules
          by_cases hlt : k < n
          · have hlt' : (k : Int) < n := by omega
            have hlm : k < m := by rw [← h3.out]; exact hlt
            have hlm' : (k : Int) < m := by omega
            obtain ⟨ad, rfl, hc⟩ := hA.ext hE k hlt
            obtain ⟨bd, rfl, hd⟩ := hB.ext hE k hlm
            have hal := lt_of_cell hc
            have hbl := lt_of_cell hd
            replace hX := Lib.hid hX
            replace hY := Lib.hid hY
            replace hE := Lib.hid hE
            by_cases h : f k = g k
            · have hb : (f k != g k) = false := by simp [h]
              replace h := Lib.hid h
              go_wp2_with fail
              refine Flow.wp_flow 11 [(0, true), (1, true), (2, true), (3, true), (4, true), (5, true), (6, true), (7, true), (8, true), (9, true), (10, true)] (by kernel_rfl) (by kernel_rfl) ?_
              simp only [List.map_cons, List.map_nil, List.getD_cons_succ, List.getD_cons_zero]
              repeat (first
                | (refine Flow.WalkL.move rfl ?_
                   simp only [Act.put, Act.eval, Array.getD_eq_getD_getElem?, List.getElem?_toArray, List.getElem?_cons_succ, List.getElem?_cons_zero, Option.getD_some, List.setIfInBounds_toArray, List.set_cons_zero, List.set_cons_succ])
                | (refine Flow.WalkL.assign rfl ?_
                   simp only [Act.put, Act.eval, Array.getD_eq_getD_getElem?, List.getElem?_toArray, List.getElem?_cons_succ, List.getElem?_cons_zero, Option.getD_some, List.setIfInBounds_toArray, List.set_cons_zero, List.set_cons_succ])
                | (refine Flow.WalkL.run (v := ?_) rfl (fun w1 hC => ?_) ?_
                   rotate_left
                   · obtain ⟨hCc, hCf⟩ := hC.rules
                     go_simp
                     with_reducible rfl
                   simp only [Act.put, List.setIfInBounds_toArray, List.set_cons_zero, List.set_cons_succ]))
              refine Flow.WalkL.nil ?_
              simp only [List.drop]
              intro w1 hC
              have hX1 := Lib.hid (hX.out.ext hC)
              have hY1 := Lib.hid (hY.out.ext hC)
              replace hC := Lib.hid hC
              clear xc xf xl yc yf yl
              go_wp2_with fail
              exact ⟨⟨k + 1, by omega, by go_num, Lib.hid fun j hj => by
                rcases Nat.lt_or_ge j k with hh | hh
                · exact heq.out j hh
                · rw [show j = k by omega]; exact h.out, hX1.out, hY1.out, hE.out.trans hC.out⟩, by simp only [intOf]; omega⟩
            · have hb : (f k != g k) = true := by simp [h]
              obtain rfl : v = false := by rw [← hv.out]; simp only [samePx, Bool.and_eq_false_iff]; exact .inr (decide_eq_false fun hh => h (hh.2 k hlt))
              go_wp2_with fail
              refine Flow.wp_flow 11 [(0, true), (1, true), (2, true), (3, true), (4, true), (5, true), (6, true), (7, true), (8, true), (9, true), (10, true)] (by kernel_rfl) (by kernel_rfl) ?_
              simp only [List.map_cons, List.map_nil, List.getD_cons_succ, List.getD_cons_zero]
              repeat (first
                | (refine Flow.WalkL.move rfl ?_
                   simp only [Act.put, Act.eval, Array.getD_eq_getD_getElem?, List.getElem?_toArray, List.getElem?_cons_succ, List.getElem?_cons_zero, Option.getD_some, List.setIfInBounds_toArray, List.set_cons_zero, List.set_cons_succ])
                | (refine Flow.WalkL.assign rfl ?_
                   simp only [Act.put, Act.eval, Array.getD_eq_getD_getElem?, List.getElem?_toArray, List.getElem?_cons_succ, List.getElem?_cons_zero, Option.getD_some, List.setIfInBounds_toArray, List.set_cons_zero, List.set_cons_succ])
                | (refine Flow.WalkL.run (v := ?_) rfl (fun w1 hC => ?_) ?_
                   rotate_left
                   · obtain ⟨hCc, hCf⟩ := hC.rules
                     go_simp
                     with_reducible rfl
                   simp only [Act.put, List.setIfInBounds_toArray, List.set_cons_zero, List.set_cons_succ]))
              refine Flow.WalkL.nil ?_
              simp only [List.drop]
              intro w1 hC
              replace hC := Lib.hid hC
              clear xc xf xl yc yf yl
              go_wp2_with fail
              go_ret
              exact ⟨rfl, hE.out.trans hC.out⟩
          · obtain rfl : k = n := by omega
            obtain rfl : v = true := by rw [← hv.out, decide_eq_true h1.out, decide_eq_true h2.out]; exact decide_eq_true ⟨h3.out, heq.out⟩
            replace hX := Lib.hid hX
            replace hY := Lib.hid hY
            replace hE := Lib.hid hE
            have hlt' : ¬ ((k : Int) < k) := by omega
            go_wp2_with fail
            go_ret
            exact ⟨rfl, hE.out⟩
      · have h3' : ((n : Int) != m) = true := bne_iff_ne.mpr (by omega)
        obtain rfl : v = false := by rw [← hv.out]; simp [samePx, h3]
        go_enter Try.func25, Try.ntmps25
        go_wp2_with fail
        go_ret
        exact ⟨rfl, ((Ext.refl w).alloc _).alloc _⟩
    · have h2' : (H != H') = true := bne_iff_ne.mpr h2
      obtain rfl : v = false := by rw [← hv.out]; simp [h2]
      go_enter Try.func25, Try.ntmps25
      go_wp2_with fail
      go_ret
      exact ⟨rfl, ((Ext.refl w).alloc _).alloc _⟩
  · have h1' : (W != W') = true := bne_iff_ne.mpr h1
    obtain rfl : v = false := by rw [← hv.out]; simp [h1]
    go_enter Try.func25, Try.ntmps25
    go_wp2_with fail
    go_ret
    exact ⟨rfl, ((Ext.refl w).alloc _).alloc _⟩
end Go.Proofs.Ytclaanggpcjnbaa
end

section
/- ref22 over plain values: Check, Put, Hide, Same; image.Put. No condition but those that each states. -/
namespace Go.Proofs.Ytclaanggpcjnbaa
open Go.RowKit Go.Flow Go.AV Go.Plain
theorem rCheck_A (W H : Int) (n : Nat) (f : Nat → Int) (hn : n ≤ 4611686018427387904) : ACalls Try.prog 53 [.ag (imgV W H n f)] (.c (iC (chkI W H n f))) :=
  ACalls.old rfl fun O w vals h => by
    obtain ⟨x, rfl, h1⟩ := args1 h
    obtain ⟨A, c, rfl, -, hA⟩ := rep_img h1
    exact RCheck_any W H A n c f w hn hA
/-- Put's result. -/
abbrev putV (W H : Int) (n : Nat) (dot : Nat → Bool) (dx dy : Int) : AV :=
  if putE W H n dx dy = 0 then .tu [.ag (imgV (W + 4) (H + 4) ((W + 4) * (H + 4)).toNat (putF W H dot dx dy)), .c (iC 0)] else .tu [.ag (imgV 0 0 0 fun _ => 0), .c (iC (putE W H n dx dy))]
theorem put_rep {O : Nat → Prop} {w w' : World} {W H : Int} {n : Nat} {dot : Nat → Bool} {dx dy : Int} {e : Ending} (hO : ∀ b, O b → b < w.heap.size) (h : PutPost W H n dot dx dy w e w') : ∃ v, e = .returned v ∧ RepA (fun _ => none) O w' (putV W H n dot dx dy) v ∧ Ext w w' := by
  unfold putV
  rcases h with ⟨h1, h2, h3⟩ | ⟨h1, A, c, m, h2, ⟨h3, h4⟩, h5, h6⟩
  · rw [if_neg h1]
    exact ⟨_, h2, ⟨[_, _], rfl, ⟨[_, _, _], rfl, ⟨rfl, rfl⟩, ⟨rfl, rfl⟩, nil_rep, trivial⟩, ⟨rfl, rfl⟩, trivial⟩, h3⟩
  · rw [if_pos h1]
    refine ⟨_, h2, ⟨[_, _], rfl, ?_, ⟨rfl, rfl⟩, trivial⟩, h6⟩
    rw [← h4, Int.toNat_natCast]
    exact img_rep hO h3 h5
theorem rPut_A (W H : Int) (n : Nat) (dot : Nat → Bool) (dx dy : Int) : ACalls Try.prog 33 [.ag (bmpV W H n dot), .c (iC dx), .c (iC dy)] (putV W H n dot dx dy) :=
  ACalls.of fun O w vals hO h => by
    obtain ⟨x, y, z, rfl, h1, h2, h3⟩ := args3 h
    obtain ⟨A, c, rfl, -, hA⟩ := rep_bmp h1
    cases rep_c h2
    cases rep_c h3
    exact (RPut_any W H A n c dot dx dy w hA).mono fun e w' hp => put_rep hO hp
theorem iPut_A (W H : Int) (n : Nat) (dot : Nat → Bool) (dx dy : Int) : ACalls Try.prog 38 [.ag (bmpV W H n dot), .c (iC dx), .c (iC dy)] (putV W H n dot dx dy) :=
  ACalls.of fun O w vals hO h => by
    obtain ⟨x, y, z, rfl, h1, h2, h3⟩ := args3 h
    obtain ⟨A, c, rfl, -, hA⟩ := rep_bmp h1
    cases rep_c h2
    cases rep_c h3
    exact (IPut_any W H A n c dot dx dy w hA).mono fun e w' hp => put_rep hO hp
theorem Same_A (W H W' H' : Int) (n m : Nat) (f g : Nat → Int) (hn : n ≤ 4611686018427387904) : ACalls Try.prog 25 [.ag (imgV W H n f), .ag (imgV W' H' m g)] (.c (bC (decide (W = W') && decide (H = H') && samePx n m f g))) :=
  ACalls.old rfl fun O w vals h => by
    obtain ⟨x, y, rfl, h1, h2⟩ := args2 h
    obtain ⟨A, c, rfl, -, hA⟩ := rep_img h1
    obtain ⟨B, d, rfl, -, hB⟩ := rep_img h2
    exact Same_any W H W' H' A B n m c d f g w hn hA hB

abbrev hideR (W : Int) (f : Nat → Int) (a b : Int) (n : Nat) : AB := ⟨true, n, 1, 3, iF (hideF W f a b)⟩
set_option maxRecDepth 100000 in
theorem Hide_O (Wn Hn n : Nat) (f : Nat → Int) (a b : Int) (hok : chkI Wn Hn n f = 0) :
    OCalls Try.prog 35 [.ag (imgV Wn Hn n f), .c (iC a), .c (iC b)] [iC Wn, iC Hn] [] (hideR Wn f a b n) := by
  have hsh := (chkI_ok.1 hok).1
  obtain ⟨-, hW, -, hH, hn⟩ := hsh
  have hn' : n = Wn * Hn := by exact_mod_cast hn
  have hnb : n ≤ 10000 := by subst hn'; exact Nat.mul_le_mul (by omega : Wn ≤ 100) (by omega : Hn ≤ 100)
  refine ocalls_at tyOk Try.func35 rfl rfl Try.ntmps35 rfl rfl ?_
  repeat (first
    | refine AWp.seq ?_
    | refine thenA_n ?_
    | refine AWp.block ?_
    | refine AWp.skip ?_
    | refine AWp.condF rfl (by first | rfl | assumption | exact cmF) ?_
    | (refine AWp.region (id := 0) ?_
       refine AList.box rfl rfl rfl rfl rfl ?_
       refine AList.alloc tyOk rfl rfl rfl rfl rfl ?_
       refine AList.nil ?_)
    | (refine AWp.region (id := 1) ?_
       refine AList.loadA tyOk rfl rfl rfl rfl rfl rfl rfl oM oM ?_
       refine AList.call rfl rfl rfl rfl Try.func53 rfl (by kernel_rfl) (rCheck_A Wn Hn n f (by omega)) ?_
       refine AList.cmpF rfl rfl rfl rfl rfl cmF ?_
       refine AList.nil ?_)
    | (refine AWp.region (id := 3) ?_
       refine AList.fieldPt tyOk rfl rfl rfl rfl rfl rfl rfl ?_
       refine AList.load1 tyOk rfl rfl rfl rfl rfl rfl rfl oM oM ?_
       refine AList.fieldPt tyOk rfl rfl rfl rfl rfl rfl rfl ?_
       refine AList.load1 tyOk rfl rfl rfl rfl rfl rfl rfl oM oM ?_
       refine AList.buildSt tyOk rfl rfl rfl rfl rfl rfl rfl rfl ?_
       refine AList.alloc tyOk rfl rfl rfl rfl rfl ?_
       refine AList.store tyOk rfl rfl rfl rfl rfl rfl rfl rfl oM oM ?_
       refine AList.nil ?_)
    | (refine AWp.region (id := 4) ?_
       refine AList.assign rfl rfl rfl ?_
       refine AList.nil ?_))
  refine AWp.round (fun k : Nat => mkSt 52 [(1, .c (iC a)), (2, .c (iC b)), (3, .c (.pt 3 3 0 0)), (6, .c (.pt 6 3 0 0)), (7, .c (.pt 7 3 0 0)), (8, .c (iC k))]
    [(3, ⟨false, 1, 3, 43, lF (imgV Wn Hn n f)⟩), (6, ⟨false, 1, 3, 43, lF [iC 0, iC 0, .p (.slice none 0 0)]⟩), (7, ⟨false, 1, 3, 43, lF [iC Wn, iC Hn, .ow 9]⟩), (9, hideR Wn f a b k)] [3, 6, 7, 9])
    (fun k => k ≤ n) (fun k => n - k) 0 (Nat.zero_le _) ?_ (fun k hk => ?_)
  · refine Wk.mk [(3, some 3), (6, some 6), (7, some 7), (9, none)] rfl rfl rfl ?_ ?_
    · repeat (first | exact trivial | refine ⟨⟨_, rfl, by first | exact LeA.c (LeC.refl _ rfl) | exact LeA.c (LeC.ow _ _ rfl) | exact LeA.c (LeC.pt _ _ _ _ _ rfl) | exact LeA.c (LeC.nil _ rfl) | exact LeA.c (LeC.nils _ _) | (refine LeA.int ?_; omega) | (refine LeA.int ?_; dsimp only; omega) | exact LeA.c (LeC.fz rfl rfl (by first | rfl | omega) (fun i _ j _ => ⟨rfl, by first | rfl | exact rowN_imm (fun _ => rfl) _ i j | exact rowF_imm (fun _ => rfl) _ i j⟩))⟩, ?_⟩)
    · repeat (first | exact trivial | refine ⟨by first | exact HeapOk.same rfl rfl rfl rfl | exact HeapOk.lent rfl rfl rfl rfl | exact HeapOk.nil rfl rfl | exact HeapOk.row rfl rfl (by first | rfl | omega) (fun i _ j _ => ⟨rfl, by first | rfl | exact rowN_imm (fun _ => rfl) _ i j | exact rowF_imm (fun _ => rfl) _ i j⟩) | exact HeapOk.box rfl rfl (by repeat (first | exact trivial | refine ⟨by first | exact LeC.refl _ rfl | exact LeC.ow _ _ rfl | exact LeC.nil _ rfl | exact LeC.nils _ _ | exact LeC.fz rfl rfl (by first | rfl | omega) (fun i _ j _ => ⟨rfl, by first | rfl | exact rowN_imm (fun _ => rfl) _ i j | exact rowF_imm (fun _ => rfl) _ i j⟩) | exact LeC.int (by omega), ?_⟩)) rfl, ?_⟩)
  · by_cases hlt : k < n
    · have hW0 : 0 < Wn := by
        rcases Nat.eq_zero_or_pos Wn with h | h
        · rw [h, Nat.zero_mul] at hn'; omega
        · exact h
      by_cases h1 : a ≤ (k : Int) % Wn
      · by_cases h2 : (k : Int) % Wn < b
        · repeat (first
            | refine AWp.seq ?_
            | refine thenA_n ?_
            | refine AWp.block ?_
            | refine AWp.skip ?_
            | refine inBlk_n ?_
            | refine AWp.condT rfl (by first | rfl | assumption | exact cmT) ?_
            | (refine AWp.region (id := 5) ?_
               refine AList.move rfl rfl rfl ?_
               refine AList.fieldPt tyOk rfl rfl rfl rfl rfl rfl rfl ?_
               refine AList.load1 tyOk rfl rfl rfl rfl rfl rfl rfl oM oM ?_
               refine AList.lenLs tyOk rfl rfl rfl rfl rfl ?_
               refine AList.cmpT rfl rfl rfl rfl rfl cmT ?_
               refine AList.nil ?_)
            | (refine AWp.region (id := 6) ?_
               refine AList.move rfl rfl rfl ?_
               refine AList.add rfl rfl rfl rfl (by omega) (by omega) ?_
               refine AList.assign rfl rfl rfl ?_
               refine AList.nil ?_)
            | (refine AWp.region (id := 7) ?_
               refine AList.fieldPt tyOk rfl rfl rfl rfl rfl rfl rfl ?_
               refine AList.load1 tyOk rfl rfl rfl rfl rfl rfl rfl oM oM ?_
               refine AList.move rfl rfl rfl ?_
               refine AList.idx tyOk rfl rfl rfl rfl rfl rfl rfl rfl rfl oM oM ?_
               refine AList.load1l tyOk rfl rfl rfl rfl rfl oM ?_
               refine AList.assign rfl rfl rfl ?_
               refine AList.nil ?_)
            | (refine AWp.region (id := 8) ?_
               refine AList.move rfl rfl rfl ?_
               refine AList.fieldPt tyOk rfl rfl rfl rfl rfl rfl rfl ?_
               refine AList.load1 tyOk rfl rfl rfl rfl rfl rfl rfl oM oM ?_
               refine AList.rem rfl rfl rfl rfl (by omega) (by omega) ?_
               refine AList.move rfl rfl rfl ?_
               refine AList.cmpT rfl rfl rfl rfl rfl cmT ?_
               refine AList.move rfl rfl rfl ?_
               refine AList.move rfl rfl rfl ?_
               refine AList.fieldPt tyOk rfl rfl rfl rfl rfl rfl rfl ?_
               refine AList.load1 tyOk rfl rfl rfl rfl rfl rfl rfl oM oM ?_
               refine AList.rem rfl rfl rfl rfl (by omega) (by omega) ?_
               refine AList.move rfl rfl rfl ?_
               refine AList.cmpT rfl rfl rfl rfl rfl cmT ?_
               refine AList.pickT rfl rfl rfl rfl ?_
               refine AList.nil ?_)
            | (refine AWp.region (id := 9) ?_
               refine AList.assign rfl rfl rfl ?_
               refine AList.nil ?_)
            | (refine AWp.region (id := 10) ?_
               refine AList.fieldPt tyOk rfl rfl rfl rfl rfl rfl rfl ?_
               refine AList.load1 tyOk rfl rfl rfl rfl rfl rfl rfl oM oM ?_
               refine AList.move rfl rfl rfl ?_
               refine AList.litSl tyOk rfl rfl rfl rfl rfl rfl rfl rfl rfl rfl rfl ?_
               refine AList.appL tyOk rfl rfl rfl rfl rfl rfl rfl rfl rfl rfl oM oM ?_
               refine AList.fieldPt tyOk rfl rfl rfl rfl rfl rfl rfl ?_
               refine AList.store tyOk rfl rfl rfl rfl rfl rfl rfl rfl oM oM ?_
               refine AList.nil ?_))
          refine ⟨k + 1, by omega, Wk.mk [(3, some 3), (6, some 6), (7, some 7), (9, some 49)] rfl rfl rfl ?_ ?_, by omega⟩
          · repeat (first | exact trivial | refine ⟨⟨_, rfl, by first | exact LeA.c (LeC.refl _ rfl) | exact LeA.c (LeC.ow _ _ rfl) | exact LeA.c (LeC.pt _ _ _ _ _ rfl) | exact LeA.c (LeC.nil _ rfl) | exact LeA.c (LeC.nils _ _) | (refine LeA.int ?_; omega) | (refine LeA.int ?_; dsimp only; omega) | exact LeA.c (LeC.fz rfl rfl (by first | rfl | omega) (fun i _ j _ => ⟨rfl, by first | rfl | exact rowN_imm (fun _ => rfl) _ i j | exact rowF_imm (fun _ => rfl) _ i j⟩))⟩, ?_⟩)
          · repeat (first | exact trivial | refine ⟨by first | exact HeapOk.same rfl rfl rfl rfl | exact HeapOk.lent rfl rfl rfl rfl | exact HeapOk.nil rfl rfl | exact HeapOk.row rfl rfl (by first | rfl | omega) (fun i _ j _ => ⟨rfl, by first | rfl | exact rowN_imm (fun _ => rfl) _ i j | exact rowF_imm (fun _ => rfl) _ i j⟩) | exact HeapOk.box rfl rfl (by repeat (first | exact trivial | refine ⟨by first | exact LeC.refl _ rfl | exact LeC.ow _ _ rfl | exact LeC.nil _ rfl | exact LeC.nils _ _ | exact LeC.fz rfl rfl (by first | rfl | omega) (fun i _ j _ => ⟨rfl, by first | rfl | exact rowN_imm (fun _ => rfl) _ i j | exact rowF_imm (fun _ => rfl) _ i j⟩) | exact LeC.int (by omega), ?_⟩)) rfl, ?_⟩)
            refine ⟨HeapOk.row rfl rfl rfl (app_one (g := fun i => iC (hideF Wn f a b i)) (fun i hi => rfl) ?_ fun _ _ => rfl), trivial⟩
            simp only [hideF]
            rw [if_pos ⟨h1, h2⟩]
        · repeat (first
            | refine AWp.seq ?_
            | refine thenA_n ?_
            | refine AWp.block ?_
            | refine AWp.skip ?_
            | refine inBlk_n ?_
            | refine AWp.condT rfl (by first | rfl | assumption | exact cmT) ?_
            | refine AWp.condF rfl (by first | rfl | assumption | exact cmF) ?_
            | (refine AWp.region (id := 5) ?_
               refine AList.move rfl rfl rfl ?_
               refine AList.fieldPt tyOk rfl rfl rfl rfl rfl rfl rfl ?_
               refine AList.load1 tyOk rfl rfl rfl rfl rfl rfl rfl oM oM ?_
               refine AList.lenLs tyOk rfl rfl rfl rfl rfl ?_
               refine AList.cmpT rfl rfl rfl rfl rfl cmT ?_
               refine AList.nil ?_)
            | (refine AWp.region (id := 6) ?_
               refine AList.move rfl rfl rfl ?_
               refine AList.add rfl rfl rfl rfl (by omega) (by omega) ?_
               refine AList.assign rfl rfl rfl ?_
               refine AList.nil ?_)
            | (refine AWp.region (id := 7) ?_
               refine AList.fieldPt tyOk rfl rfl rfl rfl rfl rfl rfl ?_
               refine AList.load1 tyOk rfl rfl rfl rfl rfl rfl rfl oM oM ?_
               refine AList.move rfl rfl rfl ?_
               refine AList.idx tyOk rfl rfl rfl rfl rfl rfl rfl rfl rfl oM oM ?_
               refine AList.load1l tyOk rfl rfl rfl rfl rfl oM ?_
               refine AList.assign rfl rfl rfl ?_
               refine AList.nil ?_)
            | (refine AWp.region (id := 8) ?_
               refine AList.move rfl rfl rfl ?_
               refine AList.fieldPt tyOk rfl rfl rfl rfl rfl rfl rfl ?_
               refine AList.load1 tyOk rfl rfl rfl rfl rfl rfl rfl oM oM ?_
               refine AList.rem rfl rfl rfl rfl (by omega) (by omega) ?_
               refine AList.move rfl rfl rfl ?_
               refine AList.cmpT rfl rfl rfl rfl rfl cmT ?_
               refine AList.move rfl rfl rfl ?_
               refine AList.move rfl rfl rfl ?_
               refine AList.fieldPt tyOk rfl rfl rfl rfl rfl rfl rfl ?_
               refine AList.load1 tyOk rfl rfl rfl rfl rfl rfl rfl oM oM ?_
               refine AList.rem rfl rfl rfl rfl (by omega) (by omega) ?_
               refine AList.move rfl rfl rfl ?_
               refine AList.cmpF rfl rfl rfl rfl rfl cmF ?_
               refine AList.pickT rfl rfl rfl rfl ?_
               refine AList.nil ?_)
            | (refine AWp.region (id := 10) ?_
               refine AList.fieldPt tyOk rfl rfl rfl rfl rfl rfl rfl ?_
               refine AList.load1 tyOk rfl rfl rfl rfl rfl rfl rfl oM oM ?_
               refine AList.move rfl rfl rfl ?_
               refine AList.litSl tyOk rfl rfl rfl rfl rfl rfl rfl rfl rfl rfl rfl ?_
               refine AList.appL tyOk rfl rfl rfl rfl rfl rfl rfl rfl rfl rfl oM oM ?_
               refine AList.fieldPt tyOk rfl rfl rfl rfl rfl rfl rfl ?_
               refine AList.store tyOk rfl rfl rfl rfl rfl rfl rfl rfl oM oM ?_
               refine AList.nil ?_))
          refine ⟨k + 1, by omega, Wk.mk [(3, some 3), (6, some 6), (7, some 7), (9, some 49)] rfl rfl rfl ?_ ?_, by omega⟩
          · repeat (first | exact trivial | refine ⟨⟨_, rfl, by first | exact LeA.c (LeC.refl _ rfl) | exact LeA.c (LeC.ow _ _ rfl) | exact LeA.c (LeC.pt _ _ _ _ _ rfl) | exact LeA.c (LeC.nil _ rfl) | exact LeA.c (LeC.nils _ _) | (refine LeA.int ?_; omega) | (refine LeA.int ?_; dsimp only; omega) | exact LeA.c (LeC.fz rfl rfl (by first | rfl | omega) (fun i _ j _ => ⟨rfl, by first | rfl | exact rowN_imm (fun _ => rfl) _ i j | exact rowF_imm (fun _ => rfl) _ i j⟩))⟩, ?_⟩)
          · repeat (first | exact trivial | refine ⟨by first | exact HeapOk.same rfl rfl rfl rfl | exact HeapOk.lent rfl rfl rfl rfl | exact HeapOk.nil rfl rfl | exact HeapOk.row rfl rfl (by first | rfl | omega) (fun i _ j _ => ⟨rfl, by first | rfl | exact rowN_imm (fun _ => rfl) _ i j | exact rowF_imm (fun _ => rfl) _ i j⟩) | exact HeapOk.box rfl rfl (by repeat (first | exact trivial | refine ⟨by first | exact LeC.refl _ rfl | exact LeC.ow _ _ rfl | exact LeC.nil _ rfl | exact LeC.nils _ _ | exact LeC.fz rfl rfl (by first | rfl | omega) (fun i _ j _ => ⟨rfl, by first | rfl | exact rowN_imm (fun _ => rfl) _ i j | exact rowF_imm (fun _ => rfl) _ i j⟩) | exact LeC.int (by omega), ?_⟩)) rfl, ?_⟩)
            refine ⟨HeapOk.row rfl rfl rfl (app_one (g := fun i => iC (hideF Wn f a b i)) (fun i hi => rfl) ?_ fun _ _ => rfl), trivial⟩
            simp only [hideF]
            rw [if_neg (fun h => h2 h.2)]
      · repeat (first
          | refine AWp.seq ?_
          | refine thenA_n ?_
          | refine AWp.block ?_
          | refine AWp.skip ?_
          | refine inBlk_n ?_
          | refine AWp.condT rfl (by first | rfl | assumption | exact cmT) ?_
          | refine AWp.condF rfl (by first | rfl | assumption | exact cmF) ?_
          | (refine AWp.region (id := 5) ?_
             refine AList.move rfl rfl rfl ?_
             refine AList.fieldPt tyOk rfl rfl rfl rfl rfl rfl rfl ?_
             refine AList.load1 tyOk rfl rfl rfl rfl rfl rfl rfl oM oM ?_
             refine AList.lenLs tyOk rfl rfl rfl rfl rfl ?_
             refine AList.cmpT rfl rfl rfl rfl rfl cmT ?_
             refine AList.nil ?_)
          | (refine AWp.region (id := 6) ?_
             refine AList.move rfl rfl rfl ?_
             refine AList.add rfl rfl rfl rfl (by omega) (by omega) ?_
             refine AList.assign rfl rfl rfl ?_
             refine AList.nil ?_)
          | (refine AWp.region (id := 7) ?_
             refine AList.fieldPt tyOk rfl rfl rfl rfl rfl rfl rfl ?_
             refine AList.load1 tyOk rfl rfl rfl rfl rfl rfl rfl oM oM ?_
             refine AList.move rfl rfl rfl ?_
             refine AList.idx tyOk rfl rfl rfl rfl rfl rfl rfl rfl rfl oM oM ?_
             refine AList.load1l tyOk rfl rfl rfl rfl rfl oM ?_
             refine AList.assign rfl rfl rfl ?_
             refine AList.nil ?_)
          | (refine AWp.region (id := 8) ?_
             refine AList.move rfl rfl rfl ?_
             refine AList.fieldPt tyOk rfl rfl rfl rfl rfl rfl rfl ?_
             refine AList.load1 tyOk rfl rfl rfl rfl rfl rfl rfl oM oM ?_
             refine AList.rem rfl rfl rfl rfl (by omega) (by omega) ?_
             refine AList.move rfl rfl rfl ?_
             refine AList.cmpF rfl rfl rfl rfl rfl cmF ?_
             refine AList.move rfl rfl rfl ?_
             refine AList.skip rfl rfl ?_
             refine AList.skip rfl rfl ?_
             refine AList.skip rfl rfl ?_
             refine AList.skip rfl rfl ?_
             refine AList.skip rfl rfl ?_
             refine AList.skip rfl rfl ?_
             refine AList.pickF rfl rfl rfl rfl ?_
             refine AList.nil ?_)
          | (refine AWp.region (id := 10) ?_
             refine AList.fieldPt tyOk rfl rfl rfl rfl rfl rfl rfl ?_
             refine AList.load1 tyOk rfl rfl rfl rfl rfl rfl rfl oM oM ?_
             refine AList.move rfl rfl rfl ?_
             refine AList.litSl tyOk rfl rfl rfl rfl rfl rfl rfl rfl rfl rfl rfl ?_
             refine AList.appL tyOk rfl rfl rfl rfl rfl rfl rfl rfl rfl rfl oM oM ?_
             refine AList.fieldPt tyOk rfl rfl rfl rfl rfl rfl rfl ?_
             refine AList.store tyOk rfl rfl rfl rfl rfl rfl rfl rfl oM oM ?_
             refine AList.nil ?_))
        refine ⟨k + 1, by omega, Wk.mk [(3, some 3), (6, some 6), (7, some 7), (9, some 49)] rfl rfl rfl ?_ ?_, by omega⟩
        · repeat (first | exact trivial | refine ⟨⟨_, rfl, by first | exact LeA.c (LeC.refl _ rfl) | exact LeA.c (LeC.ow _ _ rfl) | exact LeA.c (LeC.pt _ _ _ _ _ rfl) | exact LeA.c (LeC.nil _ rfl) | exact LeA.c (LeC.nils _ _) | (refine LeA.int ?_; omega) | (refine LeA.int ?_; dsimp only; omega) | exact LeA.c (LeC.fz rfl rfl (by first | rfl | omega) (fun i _ j _ => ⟨rfl, by first | rfl | exact rowN_imm (fun _ => rfl) _ i j | exact rowF_imm (fun _ => rfl) _ i j⟩))⟩, ?_⟩)
        · repeat (first | exact trivial | refine ⟨by first | exact HeapOk.same rfl rfl rfl rfl | exact HeapOk.lent rfl rfl rfl rfl | exact HeapOk.nil rfl rfl | exact HeapOk.row rfl rfl (by first | rfl | omega) (fun i _ j _ => ⟨rfl, by first | rfl | exact rowN_imm (fun _ => rfl) _ i j | exact rowF_imm (fun _ => rfl) _ i j⟩) | exact HeapOk.box rfl rfl (by repeat (first | exact trivial | refine ⟨by first | exact LeC.refl _ rfl | exact LeC.ow _ _ rfl | exact LeC.nil _ rfl | exact LeC.nils _ _ | exact LeC.fz rfl rfl (by first | rfl | omega) (fun i _ j _ => ⟨rfl, by first | rfl | exact rowN_imm (fun _ => rfl) _ i j | exact rowF_imm (fun _ => rfl) _ i j⟩) | exact LeC.int (by omega), ?_⟩)) rfl, ?_⟩)
          refine ⟨HeapOk.row rfl rfl rfl (app_one (g := fun i => iC (hideF Wn f a b i)) (fun i hi => rfl) ?_ fun _ _ => rfl), trivial⟩
          simp only [hideF]
          rw [if_neg (fun h => h1 h.1)]
    · obtain rfl : k = n := by omega
      repeat (first
        | refine AWp.seq ?_
        | refine thenA_n ?_
        | refine AWp.exit ?_
        | refine AWp.ret ?_
        | refine AWp.condF rfl (by first | rfl | assumption | exact cmF) ?_
        | (refine AWp.region (id := 5) ?_
           refine AList.move rfl rfl rfl ?_
           refine AList.fieldPt tyOk rfl rfl rfl rfl rfl rfl rfl ?_
           refine AList.load1 tyOk rfl rfl rfl rfl rfl rfl rfl oM oM ?_
           refine AList.lenLs tyOk rfl rfl rfl rfl rfl ?_
           refine AList.cmpF rfl rfl rfl rfl rfl cmF ?_
           refine AList.nil ?_)
        | (refine AWp.region (id := 11) ?_
           refine AList.loadA tyOk rfl rfl rfl rfl rfl rfl rfl oM oM ?_
           refine AList.store tyOk rfl rfl rfl rfl rfl rfl rfl rfl oM oM ?_
           refine AList.nil ?_))
      refine ⟨_, Wk.refl, 6, 43, 6, 3, 43, _, 9, _, rfl, rfl, rfl, rfl, rfl, rfl, rfl, rfl, rfl, fun _ _ _ _ => rfl⟩
end Go.Proofs.Ytclaanggpcjnbaa
end
