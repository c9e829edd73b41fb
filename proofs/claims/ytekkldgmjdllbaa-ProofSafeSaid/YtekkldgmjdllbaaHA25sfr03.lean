/- Parts of the proof: Sum, A22, A23a, A23b, A23c, A23d, A23e, A23f. -/
import Derived.Test.YtekkldgmjdllbaaG16
import Derived.WalkKit
import Derived.Test.YtekkldgmjdllbaaG14
import Derived.Test.YtekkldgmjdllbaaHA25sfr02
import Derived.Test.YtekkldgmjdllbaaG11
import Derived.Test.YtekkldgmjdllbaaHA25sfr01
import Derived.Test.YtekkldgmjdllbaaProg
import Derived.Test.YtekkldgmjdllbaaG15
import Derived.Test.YtekkldgmjdllbaaG01
import Derived.Test.YtekkldgmjdllbaaG10
import Derived.Test.YtekkldgmjdllbaaG08
import Derived.Lib.Hide
import Derived.Deep.QuietTactic
import Derived.BigQuiet
import Derived.Deep.DrawnRows
import Derived.Deep.AppendLies
import Derived.Laws.StructEq
import Derived.Maps.AppendAt
import Derived.OwnWalk
import Derived.StillTail
import Derived.Below
import Derived.Deep.Draws
import Derived.KernelRfl
import Derived.Test.YtekkldgmjdllbaaG07
import Derived.Test.YtekkldgmjdllbaaG06
import Derived.Test.YtekkldgmjdllbaaG05
import Derived.Great.BuildSlice
import Derived.Test.YtekkldgmjdllbaaG04
import Derived.Test.YtekkldgmjdllbaaG03
import Derived.RangeFuncLeaves
import Derived.RangeFuncRecord
import Derived.Test.YtekkldgmjdllbaaG02
import Derived.OrdersIn
import Derived.TacticsIn
import Derived.RangeFuncCalls
import Derived.Laws.Cover3
set_option linter.unusedSimpArgs false
set_option linter.unusedVariables false
section
namespace Go.Plain
theorem sumTo_congr {f g : Nat → Int} : ∀ {n : Nat}, (∀ k, k < n → f k = g k) → sumTo f n = sumTo g n
 | 0, _ => rfl
 | n + 1, h => by simp only [sumTo]; rw [sumTo_congr (n := n) fun k hk => h k (by omega), h n (by omega)]
theorem sumTo_split (f : Nat → Int) (a : Nat) : ∀ b : Nat, sumTo f (a + b) = sumTo f a + sumTo (fun k => f (a + k)) b
 | 0 => by simp [sumTo]
 | b + 1 => by rw [← Nat.add_assoc]; simp only [sumTo, sumTo_split f a b]; omega
theorem cnt_congr {p q : Nat → Bool} {n : Nat} (h : ∀ k, k < n → p k = q k) : cnt p n = cnt q n := sumTo_congr fun k hk => by rw [h k hk]
theorem cnt_mono {p q : Nat → Bool} {n : Nat} (h : ∀ k, k < n → p k = true → q k = true) : cnt p n ≤ cnt q n := sumTo_le fun k hk => by
 by_cases hp : p k = true
 ·simp [hp, h k hk hp]
 ·simp [hp]; split <;> omega
end Go.Plain
end
section
namespace Go.Proofs.Ytekkldgmjdllbaa
open Go.RowKit Go.Flow Go.AV Go.Plain
abbrev putV (W H : Int) (n : Nat) (dot : Nat → Bool) (dx dy : Int) : AV :=
 if putE W H n dx dy = 0 then .tu [.ag (imgV (W + 4) (H + 4) ((W + 4) * (H + 4)).toNat (putF W H dot dx dy)), .c (iC 0)] else .tu [.ag (imgV 0 0 0 fun _ => 0), .c (iC (putE W H n dx dy))]
theorem put_rep {O : Nat → Prop} {w w' : World} {W H : Int} {n : Nat} {dot : Nat → Bool} {dx dy : Int} {e : Ending} (hO : ∀ b, O b → b < w.heap.size) (h : PutPost W H n dot dx dy w e w') : ∃ v, e = .returned v ∧ RepA (fun _ => none) O w' (putV W H n dot dx dy) v ∧ Ext w w' := by
 unfold putV
 rcases h with ⟨h1, h2, h3⟩ | ⟨h1, A, c, m, h2, ⟨h3, h4⟩, h5, h6⟩
 ·rw [if_neg h1]
  exact ⟨_, h2, ⟨[_, _], rfl, ⟨[_, _, _], rfl, ⟨rfl, rfl⟩, ⟨rfl, rfl⟩, nil_rep, trivial⟩, ⟨rfl, rfl⟩, trivial⟩, h3⟩
 ·rw [if_pos h1]
  refine ⟨_, h2, ⟨[_, _], rfl, ?_, ⟨rfl, rfl⟩, trivial⟩, h6⟩
  rw [← h4, Int.toNat_natCast]
  exact img_rep hO h3 h5
theorem rPut_A (W H : Int) (n : Nat) (dot : Nat → Bool) (dx dy : Int) : ACalls Try.prog 88 [.ag (bmpV W H n dot), .c (iC dx), .c (iC dy)] (putV W H n dot dx dy) :=
 ACalls.of fun O w vals hO h => by
  obtain ⟨x, y, z, rfl, h1, h2, h3⟩ := args3 h
  obtain ⟨A, c, rfl, -, hA⟩ := rep_bmp h1
  cases rep_c h2
  cases rep_c h3
  exact (RPut_any W H A n c dot dx dy w hA).mono fun e w' hp => put_rep hO hp
theorem iPut_A (W H : Int) (n : Nat) (dot : Nat → Bool) (dx dy : Int) : ACalls Try.prog 82 [.ag (bmpV W H n dot), .c (iC dx), .c (iC dy)] (putV W H n dot dx dy) :=
 ACalls.of fun O w vals hO h => by
  obtain ⟨x, y, z, rfl, h1, h2, h3⟩ := args3 h
  obtain ⟨A, c, rfl, -, hA⟩ := rep_bmp h1
  cases rep_c h2
  cases rep_c h3
  exact (IPut_any W H A n c dot dx dy w hA).mono fun e w' hp => put_rep hO hp
theorem plim1_A (n m : Int) : ACalls Try.prog 128 [.c (iC n), .c (iC m)] (.c (iC (lim1 n m))) := by
 refine acalls_at Try.func128 rfl rfl Try.ntmps128 rfl ?_
 repeat (first
  | refine uA ?_
  | refine uB ?_
  | refine uC ?_
  | refine uG ?_
  | refine uH ?_
  | refine AWp.ret ?_
  | refine thenA_e ?_
  | refine thenA_r ?_
  | refine uD ?_
  | refine uE ?_
  | refine uF ?_
  | refine inBlk_miss rfl ?_
  | refine kT ?_
  | refine kU ?_
  | refine AWp.scope (fun _ _ h => h) ?_
  | refine AWp.label ?_
  | (refine rG 0 ?_
     refine kC ?_
     refine aB ?_)
  | (refine rG 1 ?_
     (iterate 2 refine kA ?_)
     refine qr4 AList.minI ?_
     refine qr4 AList.maxI ?_
     refine kC ?_
     refine aB ?_))
 refine ⟨mkSt 9 [(4, .c (iC (lim1 n m)))] [] [], [], Wk.mk [] rfl rfl rfl ?_ trivial, rfl, rfl, aR1⟩
 exact allT
theorem rlim1_A (n m : Int) : ACalls Try.prog 126 [.c (iC n), .c (iC m)] (.c (iC (lim1 n m))) := by
 refine acalls_at Try.func126 rfl rfl Try.ntmps126 rfl ?_
 repeat (first
  | refine uA ?_
  | refine uB ?_
  | refine uC ?_
  | refine uG ?_
  | refine uH ?_
  | refine AWp.ret ?_
  | refine thenA_e ?_
  | refine thenA_r ?_
  | refine uD ?_
  | refine uE ?_
  | refine uF ?_
  | refine inBlk_miss rfl ?_
  | refine kT ?_
  | refine kU ?_
  | refine AWp.scope (fun _ _ h => h) ?_
  | refine AWp.label ?_
  | (refine rG 0 ?_
     refine kC ?_
     refine aB ?_)
  | (refine rG 1 ?_
     (iterate 2 refine kA ?_)
     refine qr4 AList.minI ?_
     refine qr4 AList.maxI ?_
     refine kC ?_
     refine aB ?_))
 refine ⟨mkSt 9 [(4, .c (iC (lim1 n m)))] [] [], [], Wk.mk [] rfl rfl rfl ?_ trivial, rfl, rfl, aR1⟩
 exact allT
set_option maxRecDepth 100000 in
theorem plim_A (x : Bg) : ACalls Try.prog 89 [.ag (bgC x)] (.ag (bgC (lim4 x))) := by
 refine acalls_at Try.func89 rfl rfl Try.ntmps89 rfl ?_
 repeat (first
  | refine uA ?_
  | refine uB ?_
  | refine uC ?_
  | refine uG ?_
  | refine uH ?_
  | refine AWp.ret ?_
  | refine thenA_e ?_
  | refine thenA_r ?_
  | refine uD ?_
  | refine uE ?_
  | refine uF ?_
  | refine inBlk_miss rfl ?_
  | refine kT ?_
  | refine kU ?_
  | refine AWp.scope (fun _ _ h => h) ?_
  | refine AWp.label ?_
  | (refine rG 0 ?_
     refine qr5 aQ ?_
     refine qr5 (aM tyOk) ?_
     refine aB ?_)
  | (refine rG 1 ?_
     refine kC ?_
     refine aB ?_)
  | (refine AWp.draw (id := 2) mixed ?_; refine kA ?_; (first | refine kD ?_ | refine qr7 (AList.fieldPl tyOk) ?_); (first | refine kE ?_ | refine qr5o (aV tyOk) ?_); refine AList.call0 rfl rfl rfl rfl rfl Try.func128 rfl (by kernel_rfl) (plim1_A _ _) ?_; refine kA ?_; (first | refine kD ?_ | refine qr7 (AList.fieldPl tyOk) ?_); (first | refine kE ?_ | refine qr5o (aV tyOk) ?_); refine AList.call0 rfl rfl rfl rfl rfl Try.func128 rfl (by kernel_rfl) (plim1_A _ _) ?_; refine kA ?_; (first | refine kD ?_ | refine qr7 (AList.fieldPl tyOk) ?_); (first | refine kE ?_ | refine qr5o (aV tyOk) ?_); refine AList.call0 rfl rfl rfl rfl rfl Try.func128 rfl (by kernel_rfl) (plim1_A _ _) ?_; refine kA ?_; (first | refine kD ?_ | refine qr7 (AList.fieldPl tyOk) ?_); (first | refine kE ?_ | refine qr5o (aV tyOk) ?_); refine AList.call0 rfl rfl rfl rfl rfl Try.func128 rfl (by kernel_rfl) (plim1_A _ _) ?_; (first | refine qr8 (aX tyOk) ?_ | refine qr8 (AList.buildArr tyOk) ?_); refine kI ?_; refine aB ⟨by kernel_rfl, ?_⟩))
 refine ⟨mkSt 21 [(2, .c (.pt 2 4 0 0))] [(2, ⟨false, 1, 4, 33, lF (bgC (lim4 x))⟩)] [2], [(2, ⟨false, 1, 4, 33, lF (bgC (lim4 x))⟩)], Wk.mk [(2, some 2)] rfl rfl rfl ?_ ?_, rfl, rfl, ARets.one (x := .ag _) (ARes.box tyOk rfl rfl rfl rfl rfl rfl rfl)⟩
 ·exact allT
 ·exact allH
set_option maxRecDepth 100000 in
theorem rlim_A (x : Bg) : ACalls Try.prog 86 [.ag (bgC x)] (.ag (bgC (lim4 x))) := by
 refine acalls_at Try.func86 rfl rfl Try.ntmps86 rfl ?_
 repeat (first
  | refine uA ?_
  | refine uB ?_
  | refine uC ?_
  | refine uG ?_
  | refine uH ?_
  | refine AWp.ret ?_
  | refine thenA_e ?_
  | refine thenA_r ?_
  | refine uD ?_
  | refine uE ?_
  | refine uF ?_
  | refine inBlk_miss rfl ?_
  | refine kT ?_
  | refine kU ?_
  | refine AWp.scope (fun _ _ h => h) ?_
  | refine AWp.label ?_
  | (refine rG 0 ?_
     refine qr5 aQ ?_
     refine qr5 (aM tyOk) ?_
     refine aB ?_)
  | (refine AWp.draw (id := 1) mixed ?_; (first | refine kD ?_ | refine qr7 (AList.fieldPl tyOk) ?_); (first | refine kE ?_ | refine qr5o (aV tyOk) ?_); refine aH rfl rfl rfl rfl Try.func126 rfl (by kernel_rfl) (rlim1_A _ _) ?_; (first | refine kD ?_ | refine qr7 (AList.fieldPl tyOk) ?_); (first | refine kE ?_ | refine qr5o (aV tyOk) ?_); refine aH rfl rfl rfl rfl Try.func126 rfl (by kernel_rfl) (rlim1_A _ _) ?_; (first | refine kD ?_ | refine qr7 (AList.fieldPl tyOk) ?_); (first | refine kE ?_ | refine qr5o (aV tyOk) ?_); refine aH rfl rfl rfl rfl Try.func126 rfl (by kernel_rfl) (rlim1_A _ _) ?_; (first | refine kD ?_ | refine qr7 (AList.fieldPl tyOk) ?_); (first | refine kE ?_ | refine qr5o (aV tyOk) ?_); refine aH rfl rfl rfl rfl Try.func126 rfl (by kernel_rfl) (rlim1_A _ _) ?_; (first | refine qr8 (aX tyOk) ?_ | refine qr8 (AList.buildArr tyOk) ?_); refine kI ?_; refine aB ⟨by kernel_rfl, ?_⟩))
 refine ⟨mkSt 16 [(2, .c (.pt 2 4 0 0))] [(2, ⟨false, 1, 4, 33, lF (bgC (lim4 x))⟩)] [2], [(2, ⟨false, 1, 4, 33, lF (bgC (lim4 x))⟩)], Wk.mk [(2, some 2)] rfl rfl rfl ?_ ?_, rfl, rfl, ARets.one (x := .ag _) (ARes.box tyOk rfl rfl rfl rfl rfl rfl rfl)⟩
 ·exact allT
 ·exact allH
theorem mul_bd {n a A B : Int} (h1 : 0 ≤ n) (h2 : n ≤ A) (h3 : 0 ≤ a) (h4 : a ≤ B) : 0 ≤ n * a ∧ n * a ≤ A * B := ⟨Int.mul_nonneg h1 h3, Int.mul_le_mul h2 h4 h3 (by omega)⟩
abbrev rowI (n : Nat) (px : Nat → Int) : AB := ⟨true, n, 1, 3, iF px⟩
theorem mkAll_no {n N : Nat} {px l : Nat → Int} {kind : Int} {k : Nat} (hk : k < N) (h : ¬ mkOk n px l kind k) : mkAll n px l kind N = false := by
 cases he : mkAll n px l kind N
 ·rfl
 ·exact absurd (mkAll_iff.1 he k hk) h
def setL (px l : Nat → Int) (v : Int) : Nat → Nat → Int
 | 0 => px
 | k + 1 => fun p => if p = (l k).toNat then v else setL px l v k p
def mkPx (n : Nat) (px l : Nat → Int) (fr to : Int) (N : Nat) : Nat → Int := if mkAll n px l fr N = true then setL px l to N else px
set_option maxHeartbeats 1000000 in
set_option maxRecDepth 100000 in
theorem mark_A (W H : Int) (n : Nat) (px : Nat → Int) (N : Nat) (l : Nat → Int) (fr to : Int) (h0 : 0 < n) (hn : n ≤ 1000000) (hN : N ≤ 4611686018427387904) :
 HCalls Try.prog 84 [.ag [iC W, iC H, .ow 1000], .c (.ls N 1 (iF l)), .c (iC fr), .c (iC to)] [(1000, rowI n px)] (.c (bC (mkAll n px l fr N))) [(1000, rowI n (mkPx n px l fr to N))] := by
 refine hcalls_at Try.func84 rfl rfl Try.ntmps84 rfl rfl (fun p hp => by cases hp with | head => exact fun k j _ _ => rfl | tail _ h => cases h) ?_
 repeat (first
  | refine uA ?_
  | refine uB ?_
  | refine uC ?_
  | (refine rG 0 ?_
     refine qr5 aQ ?_
     refine kC ?_
     refine aB ?_)
  | (refine rG 1 ?_
     refine kA ?_
     refine qr5 (aO tyOk) ?_
     refine kA ?_
     refine aB ?_))
 refine AWp.round (fun k : Nat => mkL 64 1 [(1, .c (.ls N 1 (iF l))), (2, .c (iC fr)), (3, .c (iC to)), (4, .c (.pt 4 3 0 0)), (13, .c (.ls N 1 (iF l))), (14, .c (iC N)), (15, .c (iC k))] [(4, ⟨false, 1, 3, 75, lF [iC W, iC H, .ow 1000]⟩), (1000, rowI n px)] [4])
  (fun k => k ≤ N ∧ ∀ j, j < k → mkOk n px l fr j) (fun k => N - k) 0 ⟨Nat.zero_le _, fun j hj => absurd hj (Nat.not_lt_zero _)⟩ ?_ (fun k hk => ?_)
 ·refine Wk.mkL [(4, some 4)] rfl rfl rfl rfl rfl ?_ ?_
  ·exact allT
  ·exact ⟨HeapOk.box rfl rfl ⟨LeC.int rfl, LeC.int rfl, LeC.owB 1000 rfl, trivial⟩ rfl, HeapOk.lentRow rfl rfl (fun i _ => cell1 ⟨rfl, rfl⟩), trivial⟩
 ·obtain ⟨hk, hok⟩ := hk
  by_cases hlt : k < N
  ·by_cases hm : mkOk n px l fr k
   ·have hm' := hm
    obtain ⟨g1, g2, g3, g4⟩ := hm
    obtain ⟨j, hj⟩ := Int.eq_ofNat_of_zero_le g1
    have hjn : j < n := by omega
    have hpj : px j = fr := by rw [← g4, hj]; rfl
    have hnext : ∀ i, i < k + 1 → mkOk n px l fr i := fun i hi => by
     by_cases e : i = k
     ·subst e; exact hm'
     ·exact hok i (by omega)
    have hk0 : k = 0 ∨ (0 < k ∧ l (k - 1) < l k) := by
     rcases Nat.eq_zero_or_pos k with h | h
     ·exact .inl h
     ·exact .inr ⟨h, g3 h⟩
    rcases hk0 with h0 | ⟨h0, h0'⟩
    all_goals
     repeat (first
      | refine uA ?_
      | refine uB ?_
      | refine uC ?_
      | refine uG ?_
      | refine uD ?_
      | refine kT ?_
      | refine kU ?_
      | (refine rG 2 ?_
         refine qr5t aK ?_
         refine aB ?_)
      | (refine rG 3 ?_
         refine kA ?_
         refine qr8eo2 (aP (k := k) tyOk) ?_
         refine qr5o (aV tyOk) ?_
         (iterate 2 refine kC ?_)
         refine aB ?_)
      | (refine rG 4 ?_
         refine kA ?_
         refine qr5f aJ ?_
         (iterate 2 refine kA ?_)
         refine kD ?_
         refine kE ?_
         refine qr7 (AList.lenOw tyOk) ?_
         refine qr5f aJ ?_
         refine qr4 aR ?_
         (iterate 2 refine kA ?_)
         first | refine qr5t aK ?_ | refine qr5f aJ ?_
         refine kA ?_
         first | refine qr2 aG ?_ | refine kA ?_
         first | refine qr2 aG ?_ | refine kA ?_
         first | refine qr2 aG ?_ | refine kA ?_
         first | refine qr2 aG ?_ | refine qr4w2 AList.sub ?_
         first | refine qr2 aG ?_ | refine qr8eo2 (aP (k := (k - 1)) tyOk) ?_
         first | refine qr2 aG ?_ | refine qr5o (aV tyOk) ?_
         first | refine qr2 aG ?_ | refine qr5f aJ ?_
         first | refine qr4 aS ?_ | refine qr4 aR ?_
         refine qr4 aR ?_
         refine kA ?_
         refine kD ?_
         refine kE ?_
         refine kA ?_
         refine qr10eo (AList.idxOw (k := j) tyOk) ?_
         refine kE ?_
         refine kA ?_
         refine qr5f aJ ?_
         refine qr4 aR ?_
         refine aB ?_)
      | (refine rG 6 ?_
         refine qr4w2 aL ?_
         refine kA ?_
         refine aB ?_))
     refine ⟨k + 1, ⟨by omega, hnext⟩, Wk.mkL [(4, some 4)] rfl rfl rfl rfl rfl ?_ ?_, by omega⟩
     ·exact allT
     ·exact ⟨HeapOk.box rfl rfl ⟨LeC.int rfl, LeC.int rfl, LeC.owB 1000 rfl, trivial⟩ rfl, HeapOk.lentRow rfl rfl (fun i _ => cell1 ⟨rfl, rfl⟩), trivial⟩
   ·have he : mkPx n px l fr to N = px := by unfold mkPx; rw [mkAll_no hlt hm]; rfl
    rw [mkAll_no hlt hm, he]
    have hc : ¬ 0 ≤ l k ∨ (0 ≤ l k ∧ ¬ l k < n) ∨ ((0 ≤ l k ∧ l k < n) ∧ 0 < k ∧ ¬ l (k - 1) < l k) ∨ ((0 ≤ l k ∧ l k < n) ∧ (k = 0 ∨ (0 < k ∧ l (k - 1) < l k)) ∧ px (l k).toNat ≠ fr) := by
     unfold mkOk at hm
     by_cases h1 : 0 ≤ l k <;> by_cases h2 : l k < n <;> by_cases h3 : 0 < k <;> by_cases h4 : l (k - 1) < l k <;> by_cases h5 : px (l k).toNat = fr <;> simp_all
    rcases hc with h | ⟨h, h'⟩ | ⟨h, h', h''⟩ | ⟨h, h0 | ⟨h0, h0'⟩, h''⟩
    ·repeat (first
      | refine uA ?_
      | refine uB ?_
      | refine uC ?_
      | refine uG ?_
      | refine AWp.ret ?_
      | refine thenA_r ?_
      | refine uE ?_
      | refine kT ?_
      | (refine rG 2 ?_
         refine qr5t aK ?_
         refine aB ?_)
      | (refine rG 3 ?_
         refine kA ?_
         refine qr8eo2 (aP (k := k) tyOk) ?_
         refine qr5o (aV tyOk) ?_
         (iterate 2 refine kC ?_)
         refine aB ?_)
      | (refine rG 4 ?_
         refine kA ?_
         refine qr5t aK ?_
         refine kA ?_
         (iterate 5 refine qr2 aG ?_)
         refine qr4 aS ?_
         refine kA ?_
         (iterate 11 refine qr2 aG ?_)
         refine qr4 aS ?_
         refine kA ?_
         (iterate 7 refine qr2 aG ?_)
         refine qr4 aS ?_
         refine aB ?_)
      | (refine rG 5 ?_
         refine kC ?_
         refine aB ?_))
     refine ⟨mkL 64 1 [(8, .c (bC false))] [(1000, rowI n px)] [], [], Wk.mkL [] rfl rfl rfl rfl rfl ?_ ?_, rfl, rfl, aR1⟩
     ·exact allT
     ·exact ⟨HeapOk.lentRow rfl rfl (fun i _ => cell1 ⟨rfl, rfl⟩), trivial⟩
    ·repeat (first
      | refine uA ?_
      | refine uB ?_
      | refine uC ?_
      | refine uG ?_
      | refine AWp.ret ?_
      | refine thenA_r ?_
      | refine uE ?_
      | refine kT ?_
      | (refine rG 2 ?_
         refine qr5t aK ?_
         refine aB ?_)
      | (refine rG 3 ?_
         refine kA ?_
         refine qr8eo2 (aP (k := k) tyOk) ?_
         refine qr5o (aV tyOk) ?_
         (iterate 2 refine kC ?_)
         refine aB ?_)
      | (refine rG 4 ?_
         refine kA ?_
         refine qr5f aJ ?_
         (iterate 2 refine kA ?_)
         refine kD ?_
         refine kE ?_
         refine qr7 (AList.lenOw tyOk) ?_
         refine qr5t aK ?_
         refine qr4 aR ?_
         refine kA ?_
         (iterate 11 refine qr2 aG ?_)
         refine qr4 aS ?_
         refine kA ?_
         (iterate 7 refine qr2 aG ?_)
         refine qr4 aS ?_
         refine aB ?_)
      | (refine rG 5 ?_
         refine kC ?_
         refine aB ?_))
     refine ⟨mkL 64 1 [(8, .c (bC false))] [(1000, rowI n px)] [], [], Wk.mkL [] rfl rfl rfl rfl rfl ?_ ?_, rfl, rfl, aR1⟩
     ·exact allT
     ·exact ⟨HeapOk.lentRow rfl rfl (fun i _ => cell1 ⟨rfl, rfl⟩), trivial⟩
    ·repeat (first
      | refine uA ?_
      | refine uB ?_
      | refine uC ?_
      | refine uG ?_
      | refine AWp.ret ?_
      | refine thenA_r ?_
      | refine uE ?_
      | refine kT ?_
      | (refine rG 2 ?_
         refine qr5t aK ?_
         refine aB ?_)
      | (refine rG 3 ?_
         refine kA ?_
         refine qr8eo2 (aP (k := k) tyOk) ?_
         refine qr5o (aV tyOk) ?_
         (iterate 2 refine kC ?_)
         refine aB ?_)
      | (refine rG 4 ?_
         refine kA ?_
         refine qr5f aJ ?_
         (iterate 2 refine kA ?_)
         refine kD ?_
         refine kE ?_
         refine qr7 (AList.lenOw tyOk) ?_
         refine qr5f aJ ?_
         refine qr4 aR ?_
         (iterate 2 refine kA ?_)
         refine qr5t aK ?_
         (iterate 4 refine kA ?_)
         refine qr4w2 AList.sub ?_
         refine qr8eo2 (aP (k := (k - 1)) tyOk) ?_
         refine qr5o (aV tyOk) ?_
         refine qr5t aK ?_
         refine qr4 aS ?_
         refine qr4 aR ?_
         refine kA ?_
         (iterate 7 refine qr2 aG ?_)
         refine qr4 aS ?_
         refine aB ?_)
      | (refine rG 5 ?_
         refine kC ?_
         refine aB ?_))
     refine ⟨mkL 64 1 [(8, .c (bC false))] [(1000, rowI n px)] [], [], Wk.mkL [] rfl rfl rfl rfl rfl ?_ ?_, rfl, rfl, aR1⟩
     ·exact allT
     ·exact ⟨HeapOk.lentRow rfl rfl (fun i _ => cell1 ⟨rfl, rfl⟩), trivial⟩
    all_goals
     obtain ⟨j, hj⟩ := Int.eq_ofNat_of_zero_le h.1
     have hjn : j < n := by omega
     have hpj : px j ≠ fr := by rw [hj] at h''; exact h''
     repeat (first
      | refine uA ?_
      | refine uB ?_
      | refine uC ?_
      | refine uG ?_
      | refine AWp.ret ?_
      | refine thenA_r ?_
      | refine uE ?_
      | refine kT ?_
      | (refine rG 2 ?_
         refine qr5t aK ?_
         refine aB ?_)
      | (refine rG 3 ?_
         refine kA ?_
         refine qr8eo2 (aP (k := k) tyOk) ?_
         refine qr5o (aV tyOk) ?_
         (iterate 2 refine kC ?_)
         refine aB ?_)
      | (refine rG 4 ?_
         refine kA ?_
         refine qr5f aJ ?_
         (iterate 2 refine kA ?_)
         refine kD ?_
         refine kE ?_
         refine qr7 (AList.lenOw tyOk) ?_
         refine qr5f aJ ?_
         refine qr4 aR ?_
         (iterate 2 refine kA ?_)
         first | refine qr5t aK ?_ | refine qr5f aJ ?_
         refine kA ?_
         first | refine qr2 aG ?_ | refine kA ?_
         first | refine qr2 aG ?_ | refine kA ?_
         first | refine qr2 aG ?_ | refine kA ?_
         first | refine qr2 aG ?_ | refine qr4w2 AList.sub ?_
         first | refine qr2 aG ?_ | refine qr8eo2 (aP (k := (k - 1)) tyOk) ?_
         first | refine qr2 aG ?_ | refine qr5o (aV tyOk) ?_
         first | refine qr2 aG ?_ | refine qr5f aJ ?_
         first | refine qr4 aS ?_ | refine qr4 aR ?_
         refine qr4 aR ?_
         refine kA ?_
         refine kD ?_
         refine kE ?_
         refine kA ?_
         refine qr10eo (AList.idxOw (k := j) tyOk) ?_
         refine kE ?_
         refine kA ?_
         refine qr5t aK ?_
         refine qr4 aR ?_
         refine aB ?_)
      | (refine rG 5 ?_
         refine kC ?_
         refine aB ?_))
     refine ⟨mkL 64 1 [(8, .c (bC false))] [(1000, rowI n px)] [], [], Wk.mkL [] rfl rfl rfl rfl rfl ?_ ?_, rfl, rfl, aR1⟩
     ·exact allT
     ·exact ⟨HeapOk.lentRow rfl rfl (fun i _ => cell1 ⟨rfl, rfl⟩), trivial⟩
  ·obtain rfl : k = N := by omega
   have he : mkPx n px l fr to k = setL px l to k := by unfold mkPx; rw [mkAll_iff.2 hok]; rfl
   rw [mkAll_iff.2 hok, he]
   repeat (first
    | refine uA ?_
    | refine uB ?_
    | refine uC ?_
    | refine uH ?_
    | refine kU ?_
    | (refine rG 2 ?_
       refine qr5f aJ ?_
       refine aB ?_)
    | (refine rG 7 ?_
       refine kA ?_
       refine qr5 (aO tyOk) ?_
       refine kA ?_
       refine aB ?_))
   refine AWp.round (fun i : Nat => mkL 64 1 [(3, .c (iC to)), (4, .c (.pt 4 3 0 0)), (52, .c (.ls k 1 (iF l))), (53, .c (iC k)), (54, .c (iC i))] [(4, ⟨false, 1, 3, 75, lF [iC W, iC H, .ow 1000]⟩), (1000, rowI n (setL px l to i))] [4])
    (fun i => i ≤ k) (fun i => k - i) 0 (Nat.zero_le _) ?_ (fun i hi => ?_)
   ·refine Wk.mkL [(4, some 4)] rfl rfl rfl rfl rfl ?_ ?_
    ·exact allT
    ·exact ⟨HeapOk.box rfl rfl ⟨LeC.int rfl, LeC.int rfl, LeC.owB 1000 rfl, trivial⟩ rfl, HeapOk.lentRow rfl rfl (fun i _ => cell1 ⟨rfl, rfl⟩), trivial⟩
   ·by_cases hlti : i < k
    ·obtain ⟨g1, g2, -, -⟩ := hok i hlti
     obtain ⟨j, hj⟩ := Int.eq_ofNat_of_zero_le g1
     have hjn : j < n := by omega
     have hlj : (l i).toNat = j := by omega
     repeat (first
      | refine uA ?_
      | refine uB ?_
      | refine uC ?_
      | refine uG ?_
      | refine uD ?_
      | refine kT ?_
      | (refine rG 8 ?_
         refine qr5t aK ?_
         refine aB ?_)
      | (refine rG 9 ?_
         refine qr8eo2 (aP (k := i) tyOk) ?_
         refine qr5o (aV tyOk) ?_
         refine kC ?_
         refine aB ?_)
      | (refine rG 10 ?_
         refine kD ?_
         refine kE ?_
         (iterate 2 refine kA ?_)
         refine qr10eo (AList.idxOw (k := j) tyOk) ?_
         refine kI ?_
         refine aB ?_)
      | (refine rG 11 ?_
         refine qr4w2 aL ?_
         refine kA ?_
         refine aB ?_))
     refine ⟨i + 1, by omega, Wk.mkL [(4, some 4)] rfl rfl rfl rfl rfl ?_ ?_, by omega⟩
     ·exact allT
     ·exact ⟨HeapOk.box rfl rfl ⟨LeC.int rfl, LeC.int rfl, LeC.owB 1000 rfl, trivial⟩ rfl, HeapOk.lentRow rfl rfl (set_one (setL px l to (i + 1)) (if_pos hlj.symm) (fun p hp => if_neg (by rw [hlj]; exact hp))), trivial⟩
    ·obtain rfl : i = k := by omega
     repeat (first
      | refine uA ?_
      | refine uB ?_
      | refine uH ?_
      | refine AWp.ret ?_
      | refine kU ?_
      | (refine rG 8 ?_
         refine qr5f aJ ?_
         refine aB ?_)
      | (refine rG 12 ?_
         refine kC ?_
         refine aB ?_))
     refine ⟨mkL 64 1 [(8, .c (bC true))] [(1000, rowI n (setL px l to i))] [], [], Wk.mkL [] rfl rfl rfl rfl rfl ?_ ?_, rfl, rfl, aR1⟩
     ·exact allT
     ·exact ⟨HeapOk.lentRow rfl rfl (fun i _ => cell1 ⟨rfl, rfl⟩), trivial⟩
set_option maxRecDepth 100000 in
theorem Clone_T (n : Nat) (f : Nat → Int) (h0 : 0 < n) (hn : n ≤ 1000000) : OTCalls Try.prog 83 [.c (.ls n 1 (iF f))] (fun id => .c (.ow id)) (rowI n f) := by
 refine otcalls_at Try.func83 rfl rfl Try.ntmps83 rfl ?_
 repeat (first
  | refine uA ?_
  | refine uB ?_
  | refine uG ?_
  | refine AWp.ret ?_
  | refine kU ?_
  | (refine rG 0 ?_
     refine kC ?_
     refine aB ?_)
  | (refine rG 1 ?_
     refine kA ?_
     refine AList.nilLs rfl rfl rfl Try.underlying22 oM oM ?_
     refine aB ?_)
  | (refine rG 3 ?_
     refine qr7 (AList.emptySl tyOk) ?_
     refine kA ?_
     refine AList.appL0 tyOk rfl rfl rfl rfl rfl rfl rfl rfl rfl rfl oM oM ?_
     refine kC ?_
     refine aB ?_))
 refine ⟨mkSt 8 [(2, .c (.ow 7))] [(7, rowI n f)] [7], Wk.mk [(7, some 7)] rfl rfl rfl ?_ ?_, 2, 7, rfl, rfl, rfl, rfl, fun _ _ _ _ => rfl⟩
 ·exact allT
 ·exact allH
theorem iCheck_A (W H : Int) (n : Nat) (f : Nat → Int) (hn : n ≤ 4611686018427387904) : ACalls Try.prog 125 [.ag (imgV W H n f)] (.c (iC (chkI W H n f))) :=
 ACalls.old rfl fun O w vals h => by
  obtain ⟨x, rfl, h1⟩ := args1 h
  obtain ⟨A, c, rfl, -, hA⟩ := rep_img h1
  exact ICheck_any W H A n c f w hn hA
def hidK (W : Int) (f : Nat → Int) (a b : Int) (k p : Nat) : Int := if p < k then hideF W f a b p else f p
set_option maxHeartbeats 1000000 in
set_option maxRecDepth 100000 in
theorem iHide_A (Wn Hn n : Nat) (f : Nat → Int) (a b : Int) (hok : chkI Wn Hn n f = 0) (h0 : 0 < n) : ACalls Try.prog 85 [.ag (imgV Wn Hn n f), .c (iC a), .c (iC b)] (.ag (imgV Wn Hn n (hideF Wn f a b))) := by
 have hsh := (chkI_ok.1 hok).1
 obtain ⟨-, hW, -, hH, hn⟩ := hsh
 have hn' : n = Wn * Hn := by exact_mod_cast hn
 have hnb : n ≤ 10000 := by subst hn'; exact Nat.mul_le_mul (by omega : Wn ≤ 100) (by omega : Hn ≤ 100)
 have hW0 : 0 < Wn := by
  rcases Nat.eq_zero_or_pos Wn with h | h
  ·rw [h, Nat.zero_mul] at hn'; omega
  ·exact h
 have hC := iCheck_A Wn Hn n f (by omega)
 rw [hok] at hC
 have hCl := Clone_T n f h0 (by omega)
 refine acalls_at Try.func85 rfl rfl Try.ntmps85 rfl ?_
 repeat (first
  | refine uA ?_
  | refine uB ?_
  | refine uC ?_
  | refine uG ?_
  | refine kU ?_
  | (refine rG 0 ?_
     refine qr5 aQ ?_
     refine qr5 (aM tyOk) ?_
     refine aB ?_)
  | (refine rG 1 ?_
     refine kF ?_
     refine aH rfl rfl rfl rfl Try.func125 rfl (by kernel_rfl) (hC) ?_
     refine qr5 aW ?_
     refine aB ?_)
  | (refine AWp.draw (id := 3) mixed ?_; refine kD ?_; refine kE ?_; refine kD ?_; refine kE ?_; refine kD ?_; refine kE ?_; refine AList.callT rfl rfl rfl rfl rfl Try.func83 rfl (by kernel_rfl) (hCl) (fun _ _ _ _ => rfl) ?_; refine qr8 (aX tyOk) ?_; refine qr5 (aM tyOk) ?_; refine kI ?_; refine aB ⟨by kernel_rfl, ?_⟩)
  | (refine rG 4 ?_
     refine kD ?_
     refine kE ?_
     refine qr7 (AList.lenOw tyOk) ?_
     refine kA ?_
     refine aB ?_))
 refine AWp.round (fun k : Nat => mkSt 46 [(1, .c (iC a)), (2, .c (iC b)), (3, .c (.pt 3 3 0 0)), (6, .c (.pt 6 3 0 0)), (7, .c (.pt 7 3 0 0)), (24, .c (iC n)), (25, .c (iC k))]
  [(3, ⟨false, 1, 3, 75, lF (imgV Wn Hn n f)⟩), (6, ⟨false, 1, 3, 75, lF [iC 0, iC 0, .p (.slice none 0 0)]⟩), (7, ⟨false, 1, 3, 75, lF [iC Wn, iC Hn, .ow 20]⟩), (20, rowI n (hidK Wn f a b k))] [3, 6, 7, 20])
  (fun k => k ≤ n) (fun k => n - k) 0 (Nat.zero_le _) ?_ (fun k hk => ?_)
 ·refine Wk.mk [(3, some 3), (6, some 6), (7, some 7), (20, some 20)] rfl rfl rfl ?_ ?_
  ·exact allT
  ·exact ⟨hSm, hSm, HeapOk.box rfl rfl ⟨LeC.int rfl, LeC.int rfl, LeC.ow _ _ rfl, trivial⟩ rfl, HeapOk.row rfl rfl rfl (fun i _ => cell1 ⟨congrArg iC (if_neg (Nat.not_lt_zero i)).symm, rfl⟩), trivial⟩
 ·by_cases hlt : k < n
  ·have hs : ∀ p, ¬ p = k → hidK Wn f a b (k + 1) p = hidK Wn f a b k p := fun p hp => by
    unfold hidK
    by_cases h : p < k
    ·rw [if_pos h, if_pos (by omega)]
    ·rw [if_neg h, if_neg (by omega)]
   have hk1 : hidK Wn f a b (k + 1) k = hideF Wn f a b k := if_pos (by omega)
   have hk0 : hidK Wn f a b k k = f k := if_neg (by omega)
   by_cases h1 : a ≤ (k : Int) % Wn
   ·by_cases h2 : (k : Int) % Wn < b
    ·have e : hidK Wn f a b (k + 1) k = 2 := by rw [hk1]; exact if_pos ⟨h1, h2⟩
     repeat (first
      | refine uA ?_
      | refine uB ?_
      | refine uC ?_
      | refine uG ?_
      | refine uD ?_
      | refine kT ?_
      | (refine rG 5 ?_
         refine qr5t aK ?_
         refine aB ?_)
      | (refine rG 6 ?_
         refine kA ?_
         refine kC ?_
         refine aB ?_)
      | (refine rG 7 ?_
         refine kA ?_
         refine kD ?_
         refine kE ?_
         refine qr4w2 AList.rem ?_
         refine kC ?_
         refine aB ?_)
      | (refine rG 8 ?_
         (iterate 2 refine kA ?_)
         refine qr5t aK ?_
         (iterate 3 refine kA ?_)
         refine qr5t aK ?_
         refine qr4 aS ?_
         refine aB ?_)
      | (refine rG 9 ?_
         refine kD ?_
         refine kE ?_
         refine kA ?_
         refine qr10eo (AList.idxOw (k := k) tyOk) ?_
         refine kI ?_
         refine aB ?_)
      | (refine rG 10 ?_
         refine qr4w2 aL ?_
         refine kA ?_
         refine aB ?_))
     refine ⟨k + 1, by omega, Wk.mk [(3, some 3), (6, some 6), (7, some 7), (20, some 20)] rfl rfl rfl ?_ ?_, by omega⟩
     ·exact allT
     ·exact ⟨hSm, hSm, HeapOk.box rfl rfl ⟨LeC.int rfl, LeC.int rfl, LeC.ow _ _ rfl, trivial⟩ rfl, HeapOk.row rfl rfl rfl (set_one (hidK Wn f a b (k + 1)) e hs), trivial⟩
    ·have e : hidK Wn f a b (k + 1) k = f k := by rw [hk1]; exact if_neg fun h => h2 h.2
     repeat (first
      | refine uA ?_
      | refine uB ?_
      | refine uC ?_
      | refine uG ?_
      | refine uD ?_
      | refine kT ?_
      | refine kU ?_
      | (refine rG 5 ?_
         refine qr5t aK ?_
         refine aB ?_)
      | (refine rG 6 ?_
         refine kA ?_
         refine kC ?_
         refine aB ?_)
      | (refine rG 7 ?_
         refine kA ?_
         refine kD ?_
         refine kE ?_
         refine qr4w2 AList.rem ?_
         refine kC ?_
         refine aB ?_)
      | (refine rG 8 ?_
         (iterate 2 refine kA ?_)
         refine qr5t aK ?_
         (iterate 3 refine kA ?_)
         refine qr5f aJ ?_
         refine qr4 aS ?_
         refine aB ?_)
      | (refine rG 10 ?_
         refine qr4w2 aL ?_
         refine kA ?_
         refine aB ?_))
     refine ⟨k + 1, by omega, Wk.mk [(3, some 3), (6, some 6), (7, some 7), (20, some 20)] rfl rfl rfl ?_ ?_, by omega⟩
     ·exact allT
     ·exact ⟨hSm, hSm, HeapOk.box rfl rfl ⟨LeC.int rfl, LeC.int rfl, LeC.ow _ _ rfl, trivial⟩ rfl, HeapOk.row rfl rfl rfl (fun i _ => cell1 ⟨congrArg iC (by
       by_cases hi : i = k
       ·subst hi; rw [e, hk0]
       ·exact (hs i hi).symm), rfl⟩), trivial⟩
   ·have e : hidK Wn f a b (k + 1) k = f k := by rw [hk1]; exact if_neg fun h => h1 h.1
    repeat (first
     | refine uA ?_
     | refine uB ?_
     | refine uC ?_
     | refine uG ?_
     | refine uD ?_
     | refine kT ?_
     | refine kU ?_
     | (refine rG 5 ?_
        refine qr5t aK ?_
        refine aB ?_)
     | (refine rG 6 ?_
        refine kA ?_
        refine kC ?_
        refine aB ?_)
     | (refine rG 7 ?_
        refine kA ?_
        refine kD ?_
        refine kE ?_
        refine qr4w2 AList.rem ?_
        refine kC ?_
        refine aB ?_)
     | (refine rG 8 ?_
        (iterate 2 refine kA ?_)
        refine qr5f aJ ?_
        refine kA ?_
        (iterate 3 refine qr2 aG ?_)
        refine qr4 aR ?_
        refine aB ?_)
     | (refine rG 10 ?_
        refine qr4w2 aL ?_
        refine kA ?_
        refine aB ?_))
    refine ⟨k + 1, by omega, Wk.mk [(3, some 3), (6, some 6), (7, some 7), (20, some 20)] rfl rfl rfl ?_ ?_, by omega⟩
    ·exact allT
    ·exact ⟨hSm, hSm, HeapOk.box rfl rfl ⟨LeC.int rfl, LeC.int rfl, LeC.ow _ _ rfl, trivial⟩ rfl, HeapOk.row rfl rfl rfl (fun i _ => cell1 ⟨congrArg iC (by
      by_cases hi : i = k
      ·subst hi; rw [e, hk0]
      ·exact (hs i hi).symm), rfl⟩), trivial⟩
  ·obtain rfl : k = n := by omega
   repeat (first
    | refine uA ?_
    | refine uB ?_
    | refine uH ?_
    | refine AWp.ret ?_
    | refine kU ?_
    | (refine rG 5 ?_
       refine qr5f aJ ?_
       refine aB ?_)
    | (refine rG 11 ?_
       refine kF ?_
       refine kI ?_
       refine aB ?_))
   refine ⟨mkSt 46 [(6, .c (.pt 6 3 0 0))] [(6, ⟨false, 1, 3, 75, lF (imgV Wn Hn k (hideF Wn f a b))⟩)] [6], [(6, ⟨false, 1, 3, 75, lF (imgV Wn Hn k (hideF Wn f a b))⟩)], Wk.mk [(6, some 6)] rfl rfl rfl ?_ ?_, rfl, rfl, ARets.one (x := .ag _) (ARes.box tyOk rfl rfl rfl rfl rfl rfl rfl)⟩
   ·exact allT
   ·exact ⟨HeapOk.box rfl rfl ⟨LeC.int rfl, LeC.int rfl, LeC.fz rfl rfl rfl (fun i hi => cell1 ⟨congrArg iC (if_pos hi), rfl⟩), trivial⟩ rfl, trivial⟩
set_option maxHeartbeats 1000000 in
set_option maxRecDepth 100000 in
theorem iPut_T (Wn Hn n : Nat) (dot : Nat → Bool) (dx dy : Int) (hE : putE Wn Hn n dx dy = 0) :
 OTCalls Try.prog 82 [.ag (bmpV Wn Hn n dot), .c (iC dx), .c (iC dy)] (fun id => .tu [.ag ([iC ((Wn : Int) + 4), iC ((Hn : Int) + 4)] ++ .ow id :: []), .c (iC 0)]) (rowI ((Wn + 4) * (Hn + 4)) (putF Wn Hn dot dx dy)) := by
 unfold putE at hE
 split at hE
 case isFalse h => exact absurd hE h
 rename_i hok
 split at hE
 case isFalse => cases hE
 rename_i hs
 have hs' := shiftB_iff.1 hs
 obtain ⟨-, hW, -, hH, hn⟩ := okB hok
 have hc := bCheck_A Wn Hn n dot
 rw [hok] at hc
 obtain ⟨m, hm⟩ : ∃ m, m = (Wn + 4) * (Hn + 4) := ⟨_, rfl⟩
 have hm' : ((Wn : Int) + 4) * ((Hn : Int) + 4) = (m : Int) := by rw [hm]; simp
 have hmb : m ≤ 10000 := by rw [hm]; exact Nat.mul_le_mul (by omega : Wn + 4 ≤ 100) (by omega : Hn + 4 ≤ 100)
 have hnb : n ≤ 9216 := by
  have : n = Wn * Hn := by exact_mod_cast hn
  rw [this]; exact Nat.mul_le_mul (by omega : Wn ≤ 96) (by omega : Hn ≤ 96)
 rw [← hm]
 refine otcalls2_at tyOk Try.func82 rfl rfl Try.ntmps82 rfl rfl ?_
 repeat (first
  | refine uA ?_
  | refine uB ?_
  | refine uC ?_
  | refine uG ?_
  | refine kU ?_
  | (refine rG 0 ?_
     refine qr5 aQ ?_
     refine qr5 (aM tyOk) ?_
     refine kC ?_
     refine aB ?_)
  | (refine rG 1 ?_
     refine kF ?_
     refine aH rfl rfl rfl rfl Try.func64 rfl (by kernel_rfl) (hc) ?_
     refine kC ?_
     refine aB ?_)
  | (refine rG 2 ?_
     refine kA ?_
     refine qr5 aW ?_
     refine aB ?_)
  | (refine rG 4 ?_
     (iterate 2 refine kA ?_)
     refine qr4 AList.maxI ?_
     refine qr5f aJ ?_
     (iterate 3 refine kA ?_)
     refine qr4 AList.minI ?_
     refine qr5f aJ ?_
     refine qr4 aR ?_
     refine aB ?_)
  | (refine rG 6 ?_
     refine kD ?_
     refine kE ?_
     refine qr4w2 aL ?_
     refine kD ?_
     refine kE ?_
     refine qr4w2 aL ?_
     refine qr8 (aX tyOk) ?_
     refine qr5 (aM tyOk) ?_
     refine kI ?_
     refine aB ?_)
  | (refine rG 7 ?_
     refine kD ?_
     refine kE ?_
     refine kD ?_
     refine kE ?_
     refine qr4w2 AList.mul ?_
     refine qr9e2o2 (AList.makeSl (n := m) tyOk) ?_
     refine kD ?_
     refine kI ?_
     refine aB ?_)
  | (refine rG 8 ?_
     refine kD ?_
     refine kE ?_
     refine qr5 (aO tyOk) ?_
     refine kA ?_
     refine aB ?_))
 refine AWp.round (fun k : Nat => mkSt 75 [(1, .c (iC dx)), (2, .c (iC dy)), (3, .c (.pt 3 3 0 0)), (6, .c (.pt 6 3 0 0)), (9, .c (.pt 9 3 0 0)), (44, .c (.ls n 1 (bF dot))), (45, .c (iC n)), (46, .c (iC k))]
  [(3, ⟨false, 1, 3, 31, lF (bmpV Wn Hn n dot)⟩), (6, ⟨false, 1, 3, 75, lF [iC 0, iC 0, .p (.slice none 0 0)]⟩), (9, ⟨false, 1, 3, 75, lF [iC ((Wn : Int) + 4), iC ((Hn : Int) + 4), .ow 41]⟩), (41, rowI m (putF Wn Hn (below k dot) dx dy))] [3, 6, 9, 41])
  (fun k => k ≤ n) (fun k => n - k) 0 (Nat.zero_le _) ?_ (fun k hk => ?_)
 ·refine Wk.mk [(3, some 3), (6, some 6), (9, some 9), (41, some 41)] rfl rfl rfl ?_ ?_
  ·exact allT
  ·exact ⟨hSm, hSm, HeapOk.box rfl rfl ⟨LeC.int rfl, LeC.int rfl, LeC.ow _ _ rfl, trivial⟩ rfl, HeapOk.row rfl rfl rfl (fun i _ => cell1 ⟨congrArg iC (putF_none _ _ _ _ _ i).symm, rfl⟩), trivial⟩
 ·by_cases hlt : k < n
  ·obtain ⟨t1, t2, t3, t4, t5, t6, t7⟩ := tgt_bd hn hs hlt
   by_cases hd : dot k = true
   ·obtain ⟨j, hj⟩ := Int.eq_ofNat_of_zero_le t1
    have hset := putF_set hn hlt hd hs
    have hjm : j < m := by rw [hm'] at t2; omega
    have htg : ((k : Int) / Wn + 2 + dy) * ((Wn : Int) + 4) + (k : Int) % Wn + 2 + dx = (j : Int) := by rw [← hj]; unfold tgt; rfl
    have hq := mul_bd (n := (k : Int) / Wn + 2 + dy) (a := (Wn : Int) + 4) (A := 200) (B := 100) (by omega) (by omega) (by omega) (by omega)
    repeat (first
     | refine uA ?_
     | refine uB ?_
     | refine uC ?_
     | refine uG ?_
     | refine uD ?_
     | refine kT ?_
     | (refine rG 9 ?_
        refine qr5t aK ?_
        refine aB ?_)
     | (refine rG 10 ?_
        refine kA ?_
        refine qr8eo2 (aP (k := k) tyOk) ?_
        refine qr5o (aV tyOk) ?_
        (iterate 2 refine kC ?_)
        refine aB ?_)
     | (refine rG 11 ?_
        refine kA ?_
        refine aB ?_)
     | (refine AWp.draw (id := 12) mixed ?_; refine kD ?_; refine kE ?_; refine kA ?_; refine kD ?_; refine kE ?_; refine qr4w3 AList.quo ?_; refine qr4w2 aL ?_; refine kA ?_; refine qr4w2 aL ?_; refine kD ?_; refine kE ?_; refine qr4w2 AList.mul ?_; refine kA ?_; refine kD ?_; refine kE ?_; refine qr4w2 AList.rem ?_; (iterate 2 refine qr4w2 aL ?_); refine kA ?_; refine qr4w2 aL ?_; refine qr10eo (AList.idxOw (k := j) tyOk) ?_; refine kI ?_; refine aB ⟨by kernel_rfl, ?_⟩)
     | (refine rG 13 ?_
        refine qr4w2 aL ?_
        refine kA ?_
        refine aB ?_))
    refine ⟨k + 1, by omega, Wk.mk [(3, some 3), (6, some 6), (9, some 9), (41, some 41)] rfl rfl rfl ?_ ?_, by omega⟩
    ·exact allT
    ·exact ⟨hSm, hSm, HeapOk.box rfl rfl ⟨LeC.int rfl, LeC.int rfl, LeC.ow _ _ rfl, trivial⟩ rfl, HeapOk.row rfl rfl rfl (set_one (putF Wn Hn (below (k + 1) dot) dx dy) (by rw [hset, if_pos hj.symm]) (fun i hi => by rw [hset, if_neg (by rw [hj]; omega)])), trivial⟩
   ·have hd' : dot k = false := by cases h : dot k; rfl; exact absurd h hd
    have hskip := putF_skip hd' dx dy (W := Wn) (H := Hn)
    repeat (first
     | refine uA ?_
     | refine uB ?_
     | refine uC ?_
     | refine uG ?_
     | refine uD ?_
     | refine kT ?_
     | refine kU ?_
     | (refine rG 9 ?_
        refine qr5t aK ?_
        refine aB ?_)
     | (refine rG 10 ?_
        refine kA ?_
        refine qr8eo2 (aP (k := k) tyOk) ?_
        refine qr5o (aV tyOk) ?_
        (iterate 2 refine kC ?_)
        refine aB ?_)
     | (refine rG 11 ?_
        refine kA ?_
        refine aB ?_)
     | (refine rG 13 ?_
        refine qr4w2 aL ?_
        refine kA ?_
        refine aB ?_))
    refine ⟨k + 1, by omega, Wk.mk [(3, some 3), (6, some 6), (9, some 9), (41, some 41)] rfl rfl rfl ?_ ?_, by omega⟩
    ·exact allT
    ·exact ⟨hSm, hSm, HeapOk.box rfl rfl ⟨LeC.int rfl, LeC.int rfl, LeC.ow _ _ rfl, trivial⟩ rfl, HeapOk.row rfl rfl rfl (fun i _ => cell1 ⟨congrArg iC (hskip i).symm, rfl⟩), trivial⟩
  ·obtain rfl : k = n := by omega
   repeat (first
    | refine uA ?_
    | refine uB ?_
    | refine uH ?_
    | refine AWp.ret ?_
    | refine kU ?_
    | (refine rG 9 ?_
       refine qr5f aJ ?_
       refine aB ?_)
    | (refine rG 14 ?_
       refine kF ?_
       refine kI ?_
       refine kC ?_
       refine aB ?_))
   refine ⟨mkSt 75 [(6, .c (.pt 6 3 0 0)), (7, .c (iC 0))] [(6, ⟨false, 1, 3, 75, lF [iC ((Wn : Int) + 4), iC ((Hn : Int) + 4), .ow 41]⟩), (41, rowI m (putF Wn Hn dot dx dy))] [6, 41], Wk.mk [(6, some 6), (41, some 41)] rfl rfl rfl ?_ ?_, 6, 75, 6, 3, 75, _, 41, _, 7, rfl, rfl, rfl, rfl, rfl, rfl, rfl, rfl, rfl, rfl, fun _ _ _ _ => rfl⟩
   ·exact allT
   ·exact ⟨HeapOk.box rfl rfl ⟨LeC.int rfl, LeC.int rfl, LeC.ow _ _ rfl, trivial⟩ rfl, HeapOk.row rfl rfl rfl (fun i _ => cell1 ⟨congrArg iC (putF_congr hn (below_all (Nat.le_refl _)) dx dy i), rfl⟩), trivial⟩
end Go.Proofs.Ytekkldgmjdllbaa
end
