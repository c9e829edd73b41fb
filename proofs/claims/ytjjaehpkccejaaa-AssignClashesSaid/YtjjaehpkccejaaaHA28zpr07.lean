/- Parts of the proof: A28p, A28a, A28b, A28c, A28f, A28v. -/
import Derived.Test.YtjjaehpkccejaaaG24
import Derived.Test.YtjjaehpkccejaaaG13
import Derived.Test.YtjjaehpkccejaaaHA28zpr02
import Derived.WalkKit
import Derived.Test.YtjjaehpkccejaaaG10
import Derived.Test.YtjjaehpkccejaaaHA28zpr01
import Derived.Test.YtjjaehpkccejaaaG07
import Derived.Test.YtjjaehpkccejaaaG09
import Derived.Laws.Cover3
import Derived.Test.YtjjaehpkccejaaaProg
import Derived.Test.YtjjaehpkccejaaaG01
import Derived.Test.YtjjaehpkccejaaaG06
import Derived.Laws.StructEq
import Derived.Lib.Hide
import Derived.Deep.QuietTactic
import Derived.BigQuiet
import Derived.Deep.DrawnRows
import Derived.Deep.AppendLies
import Derived.Maps.AppendAt
import Derived.OwnWalk
import Derived.StillTail
import Derived.Below
import Derived.Deep.Draws
import Derived.KernelRfl
import Derived.Test.YtjjaehpkccejaaaG05
import Derived.Test.YtjjaehpkccejaaaG04
import Derived.Great.BuildSlice
import Derived.Test.YtjjaehpkccejaaaG03
import Derived.Test.YtjjaehpkccejaaaG02
import Derived.RangeFuncLeaves
import Derived.RangeFuncRecord
import Derived.OrdersIn
import Derived.TacticsIn
import Derived.RangeFuncCalls
import Derived.Test.YtjjaehpkccejaaaG27
import Derived.Test.YtjjaehpkccejaaaG18
import Derived.Test.YtjjaehpkccejaaaG26
import Derived.Laws.Pointers
import Derived.Test.YtjjaehpkccejaaaG17
import Derived.Test.YtjjaehpkccejaaaG25
import Derived.WideKeyMaps
import Derived.MapKept
import Derived.Carry
import Derived.Test.YtjjaehpkccejaaaG16
import Derived.Test.YtjjaehpkccejaaaHA28zpr03
import Derived.Test.YtjjaehpkccejaaaG08
import Derived.Shelf.Abstract
import Derived.Test.YtjjaehpkccejaaaG14
import Derived.Test.YtjjaehpkccejaaaG15
import Derived.Test.YtjjaehpkccejaaaG12
import Derived.RangeFuncNested
import Derived.Test.YtjjaehpkccejaaaG11
import Derived.Test.YtjjaehpkccejaaaG21
import Derived.Test.YtjjaehpkccejaaaHA28zpr04
import Derived.Test.YtjjaehpkccejaaaG29
import Derived.Test.YtjjaehpkccejaaaG28
import Derived.Test.YtjjaehpkccejaaaG19
import Derived.Scope
import Derived.Test.YtjjaehpkccejaaaG32
import Derived.Test.YtjjaehpkccejaaaG22
import Derived.Test.YtjjaehpkccejaaaHA28zpr05
import Derived.Test.YtjjaehpkccejaaaG31
import Derived.Test.YtjjaehpkccejaaaG20
import Derived.Test.YtjjaehpkccejaaaG30
import Derived.DeepKeys4
set_option linter.unusedSimpArgs false
set_option linter.unusedVariables false
section
namespace Go.Proofs.Ytjjaehpkccejaaa
open Go.RowKit Go.Flow Go.AV Go.Plain
theorem cnt_swap28 (q : Nat → Nat → Bool) (W H : Nat) : sumTo (fun j => cnt (q j) W) H = sumTo (fun i => cnt (fun j => q j i) H) W := by
 unfold cnt
 exact sumTo_swap _ W H
/-- The dots of the square in the columns below i; in column i below j. -/
def arP (W H : Nat) (d : Nat → Bool) (x y bl : Int) (i : Nat) : Int := sumTo (fun i => cnt (fun j => arB W d x y bl j i) H) i
def arC (W : Nat) (d : Nat → Bool) (x y bl : Int) (i j : Nat) : Int := cnt (fun j => arB W d x y bl j i) j
theorem arB_out {W : Nat} {d : Nat → Bool} {x y bl : Int} {j i : Nat} (h : (j : Int) < y - bl ∨ y + bl < j ∨ (i : Int) < x - bl ∨ x + bl < i) : arB W d x y bl j i = false := by
 unfold arB
 rcases h with h | h | h | h
 ·rw [decide_eq_false (show ¬ y - bl ≤ (j : Int) by omega)]; simp
 ·rw [decide_eq_false (show ¬ (j : Int) ≤ y + bl by omega)]; simp
 ·rw [decide_eq_false (show ¬ x - bl ≤ (i : Int) by omega)]; simp
 ·rw [decide_eq_false (show ¬ (i : Int) ≤ x + bl by omega)]; simp
theorem arB_in {W : Nat} {d : Nat → Bool} {x y bl : Int} {j i : Nat} (h1 : y - bl ≤ j) (h2 : (j : Int) ≤ y + bl) (h3 : x - bl ≤ i) (h4 : (i : Int) ≤ x + bl) : arB W d x y bl j i = d (j * W + i) := by
 unfold arB
 rw [decide_eq_true h1, decide_eq_true h2, decide_eq_true h3, decide_eq_true h4]
 rfl
theorem cnt_zero28 {p : Nat → Bool} {n : Nat} (h : ∀ k, k < n → p k = false) : cnt p n = 0 := by
 unfold cnt
 rw [sumTo_congr (g := fun _ => 0) fun k hk => by rw [h k hk]; rfl, sumTo_const]
 omega
theorem arP_start {W H : Nat} {d : Nat → Bool} {x y bl : Int} {i : Nat} (h : i = 0 ∨ (i : Int) ≤ x - bl) : arP W H d x y bl i = 0 := by
 rcases h with rfl | h
 ·rfl
 ·exact sum_zero28 fun k hk => cnt_zero28 fun j _ => arB_out (.inr (.inr (.inl (by omega))))
theorem arC_start {W : Nat} {d : Nat → Bool} {x y bl : Int} {i j : Nat} (h : j = 0 ∨ (j : Int) ≤ y - bl) : arC W d x y bl i j = 0 := by
 rcases h with rfl | h
 ·rfl
 ·exact cnt_zero28 fun k hk => arB_out (.inl (by omega))
theorem arP_end {W H : Nat} {d : Nat → Bool} {x y bl : Int} {i : Nat} (hi : i ≤ W) (h : i = W ∨ x + bl < i) : arP W H d x y bl i = arN W H d x y bl := by
 have e : arN W H d x y bl = arP W H d x y bl W := cnt_swap28 _ W H
 rw [e]
 rcases h with rfl | h
 ·rfl
 ·obtain ⟨a, rfl⟩ : ∃ a, W = i + a := ⟨W - i, by omega⟩
  unfold arP
  rw [sumTo_split _ i a, sum_zero28 (n := a) fun k hk => cnt_zero28 fun j _ => arB_out (.inr (.inr (.inr (by omega))))]
  omega
theorem arC_end {W H : Nat} {d : Nat → Bool} {x y bl : Int} {i j : Nat} (hj : j ≤ H) (h : j = H ∨ y + bl < j) : arP W H d x y bl i + arC W d x y bl i j = arP W H d x y bl (i + 1) := by
 have e : arP W H d x y bl (i + 1) = arP W H d x y bl i + arC W d x y bl i H := rfl
 rw [e]
 rcases h with rfl | h
 ·rfl
 ·obtain ⟨a, rfl⟩ : ∃ a, H = j + a := ⟨H - j, by omega⟩
  unfold arC
  rw [cnt_tail _ j a, cnt_zero28 (n := a) fun k hk => arB_out (.inr (.inl (by omega)))]
  omega
theorem arP_bd {W H : Nat} {d : Nat → Bool} {x y bl : Int} (i : Nat) : 0 ≤ arP W H d x y bl i ∧ arP W H d x y bl i ≤ i * H := by
 refine ⟨sumTo_nonneg fun k _ => cnt_nonneg _ _, ?_⟩
 have := sumTo_le (f := fun i => cnt (fun j => arB W d x y bl j i) H) (g := fun _ => (H : Int)) (n := i) fun k _ => cnt_le _ _
 rw [sumTo_const] at this
 exact this
theorem arC_bd {W : Nat} {d : Nat → Bool} {x y bl : Int} (i j : Nat) : 0 ≤ arC W d x y bl i j ∧ arC W d x y bl i j ≤ j := ⟨cnt_nonneg _ _, cnt_le _ _⟩
theorem arC_succ {W : Nat} {d : Nat → Bool} {x y bl : Int} {i j : Nat} (h1 : y - bl ≤ j) (h2 : (j : Int) ≤ y + bl) (h3 : x - bl ≤ i) (h4 : (i : Int) ≤ x + bl) : arC W d x y bl i (j + 1) = arC W d x y bl i j + if d (j * W + i) then 1 else 0 := by
 rw [← arB_in (W := W) (d := d) h1 h2 h3 h4]
 rfl
theorem cell28 {W H j i n : Nat} (hn : n = W * H) (hi : i < W) (hj : j < H) : j * W + i < n := by
 have := Nat.mul_le_mul_right W (show j + 1 ≤ H by omega)
 rw [Nat.succ_mul, Nat.mul_comm H] at this
 omega
end Go.Proofs.Ytjjaehpkccejaaa
end

section
namespace Go.Proofs.Ytjjaehpkccejaaa
open Go.RowKit Go.Flow Go.AV Go.Plain
set_option maxRecDepth 100000 in
theorem side21_A (bl sh : Int) (hb : -1000000 ≤ bl ∧ bl ≤ 1000000) : ACalls Try.prog 59 [.ag [iC bl, iC sh]] (.c (iC (2 * bl + 1))) := by
 refine acalls_at Try.func59 rfl rfl Try.ntmps59 rfl ?_
 repeat (first
  | refine AWp.seq ?_
  | refine thenA_n ?_
  | refine AWp.ret ?_
  | (refine rG 0 ?_
     refine qr5 aQ ?_
     refine kC ?_
     refine aB ?_)
  | (refine rG 1 ?_
     refine kD ?_
     refine kE ?_
     refine qr4w2 AList.mul ?_
     refine qr4w2 aL ?_
     refine kC ?_
     refine aB ?_))
 refine ⟨mkSt 7 [(2, .c (iC (2 * bl + 1)))] [] [], [], Wk.mk [] rfl rfl rfl ?_ trivial, rfl, rfl, ARets.one (x := .c _) (ARes.tmp rfl rfl)⟩
 exact allT
set_option maxRecDepth 100000 in
theorem RRdCheck0 (bl sh : Int) (hb : -1000000 ≤ bl ∧ bl ≤ 1000000) : ACalls Try.prog 42 [.ag [iC bl, iC sh]] (.c (iC (rdE ⟨bl, sh⟩))) := by
 by_cases c1 : bl < 0
 ·rw [rdE_bad (by dsimp only; omega)]
  refine acalls_at Try.func42 rfl rfl Try.ntmps42 rfl ?_
  repeat (first
   | refine AWp.seq ?_
   | refine thenA_n ?_
   | refine AWp.ret ?_
   | refine thenA_r ?_
   | refine AWp.condT rfl cnT ?_
   | (refine rG 0 ?_
      refine qr5 aQ ?_
      refine kC ?_
      refine aB ?_)
   | (refine AWp.draw (id := 1) mixed ?_; refine kD ?_; refine kE ?_; refine qr5t aK ?_; refine kA ?_; (iterate 3 refine qr2 aG ?_); refine qr4 aS ?_; refine kA ?_; (iterate 3 refine qr2 aG ?_); refine qr4 aS ?_; refine kA ?_; (iterate 8 refine qr2 aG ?_); refine qr4 aS ?_; refine aB ⟨by kernel_rfl, ?_⟩)
   | (refine rG 2 ?_
      refine kC ?_
      refine aB ?_))
  refine ⟨mkSt 26 [(2, .c (iC 3))] [] [], [], Wk.mk [] rfl rfl rfl ?_ trivial, rfl, rfl, ARets.one (x := .c _) (ARes.tmp rfl rfl)⟩
  exact allT
 ·by_cases c2 : 2 < bl
  ·rw [rdE_bad (by dsimp only; omega)]
   refine acalls_at Try.func42 rfl rfl Try.ntmps42 rfl ?_
   repeat (first
    | refine AWp.seq ?_
    | refine thenA_n ?_
    | refine AWp.ret ?_
    | refine thenA_r ?_
    | refine AWp.condT rfl cnT ?_
    | (refine rG 0 ?_
       refine qr5 aQ ?_
       refine kC ?_
       refine aB ?_)
    | (refine AWp.draw (id := 1) mixed ?_; refine kD ?_; refine kE ?_; refine qr5f aJ ?_; refine kA ?_; refine kD ?_; refine kE ?_; refine qr5t aK ?_; refine qr4 aR ?_; refine kA ?_; (iterate 3 refine qr2 aG ?_); refine qr4 aS ?_; refine kA ?_; (iterate 8 refine qr2 aG ?_); refine qr4 aS ?_; refine aB ⟨by kernel_rfl, ?_⟩)
    | (refine rG 2 ?_
       refine kC ?_
       refine aB ?_))
   refine ⟨mkSt 26 [(2, .c (iC 3))] [] [], [], Wk.mk [] rfl rfl rfl ?_ trivial, rfl, rfl, ARets.one (x := .c _) (ARes.tmp rfl rfl)⟩
   exact allT
  ·by_cases c3 : sh < 1
   ·rw [rdE_bad (by dsimp only; omega)]
    refine acalls_at Try.func42 rfl rfl Try.ntmps42 rfl ?_
    repeat (first
     | refine AWp.seq ?_
     | refine thenA_n ?_
     | refine AWp.ret ?_
     | refine thenA_r ?_
     | refine AWp.condT rfl cnT ?_
     | (refine rG 0 ?_
        refine qr5 aQ ?_
        refine kC ?_
        refine aB ?_)
     | (refine AWp.draw (id := 1) mixed ?_; refine kD ?_; refine kE ?_; refine qr5f aJ ?_; refine kA ?_; refine kD ?_; refine kE ?_; refine qr5f aJ ?_; refine qr4 aR ?_; refine kA ?_; refine kD ?_; refine kE ?_; refine qr5t aK ?_; refine qr4 aR ?_; refine kA ?_; (iterate 8 refine qr2 aG ?_); refine qr4 aS ?_; refine aB ⟨by kernel_rfl, ?_⟩)
     | (refine rG 2 ?_
        refine kC ?_
        refine aB ?_))
    refine ⟨mkSt 26 [(2, .c (iC 3))] [] [], [], Wk.mk [] rfl rfl rfl ?_ trivial, rfl, rfl, ARets.one (x := .c _) (ARes.tmp rfl rfl)⟩
    exact allT
   ·have c4 : 0 ≤ (2 * bl + 1) * (2 * bl + 1) ∧ (2 * bl + 1) * (2 * bl + 1) ≤ 25 := by
     obtain rfl | rfl | rfl : bl = 0 ∨ bl = 1 ∨ bl = 2 := by omega
     all_goals omega
    have hE : rdE ⟨bl, sh⟩ = if (2 * bl + 1) * (2 * bl + 1) < sh then 3 else 0 := by
     unfold rdE
     dsimp only
     by_cases h : (2 * bl + 1) * (2 * bl + 1) < sh
     ·rw [if_pos h, if_pos (by omega)]
     ·rw [if_neg h, if_neg (by omega)]
    rw [hE]
    by_cases h : (2 * bl + 1) * (2 * bl + 1) < sh
    ·rw [if_pos h]
     refine acalls_at Try.func42 rfl rfl Try.ntmps42 rfl ?_
     repeat (first
      | refine AWp.seq ?_
      | refine thenA_n ?_
      | refine AWp.ret ?_
      | refine thenA_r ?_
      | refine AWp.condT rfl cnT ?_
      | (refine rG 0 ?_
         refine qr5 aQ ?_
         refine kC ?_
         refine aB ?_)
      | (refine AWp.draw (id := 1) mixed ?_; refine kD ?_; refine kE ?_; refine qr5f aJ ?_; refine kA ?_; refine kD ?_; refine kE ?_; refine qr5f aJ ?_; refine qr4 aR ?_; refine kA ?_; refine kD ?_; refine kE ?_; refine qr5f aJ ?_; refine qr4 aR ?_; refine kA ?_; refine kD ?_; refine kE ?_; refine kF ?_; refine aH rfl rfl rfl rfl Try.func59 rfl (by kernel_rfl) (side21_A bl sh hb) ?_; refine kF ?_; refine aH rfl rfl rfl rfl Try.func59 rfl (by kernel_rfl) (side21_A bl sh hb) ?_; refine qr4w2 AList.mul ?_; refine qr5t aK ?_; refine qr4 aR ?_; refine aB ⟨by kernel_rfl, ?_⟩)
      | (refine rG 2 ?_
         refine kC ?_
         refine aB ?_))
     refine ⟨mkSt 26 [(2, .c (iC 3))] [] [], [], Wk.mk [] rfl rfl rfl ?_ trivial, rfl, rfl, ARets.one (x := .c _) (ARes.tmp rfl rfl)⟩
     exact allT
    ·rw [if_neg h]
     refine acalls_at Try.func42 rfl rfl Try.ntmps42 rfl ?_
     repeat (first
      | refine AWp.seq ?_
      | refine thenA_n ?_
      | refine AWp.skip ?_
      | refine AWp.ret ?_
      | refine AWp.condF rfl cnF ?_
      | (refine rG 0 ?_
         refine qr5 aQ ?_
         refine kC ?_
         refine aB ?_)
      | (refine AWp.draw (id := 1) mixed ?_; refine kD ?_; refine kE ?_; refine qr5f aJ ?_; refine kA ?_; refine kD ?_; refine kE ?_; refine qr5f aJ ?_; refine qr4 aR ?_; refine kA ?_; refine kD ?_; refine kE ?_; refine qr5f aJ ?_; refine qr4 aR ?_; refine kA ?_; refine kD ?_; refine kE ?_; refine kF ?_; refine aH rfl rfl rfl rfl Try.func59 rfl (by kernel_rfl) (side21_A bl sh hb) ?_; refine kF ?_; refine aH rfl rfl rfl rfl Try.func59 rfl (by kernel_rfl) (side21_A bl sh hb) ?_; refine qr4w2 AList.mul ?_; refine qr5f aJ ?_; refine qr4 aR ?_; refine aB ⟨by kernel_rfl, ?_⟩)
      | (refine rG 3 ?_
         refine kC ?_
         refine aB ?_))
     refine ⟨mkSt 26 [(2, .c (iC 0))] [] [], [], Wk.mk [] rfl rfl rfl ?_ trivial, rfl, rfl, ARets.one (x := .c _) (ARes.tmp rfl rfl)⟩
     exact allT
theorem RRdCheck_A (r : Rd) (hb : -1000000 ≤ r.bl ∧ r.bl ≤ 1000000) : ACalls Try.prog 42 [.ag (rdC r)] (.c (iC (rdE r))) := RRdCheck0 r.bl r.sh hb
end Go.Proofs.Ytjjaehpkccejaaa
end

section
namespace Go.Proofs.Ytjjaehpkccejaaa
open Go.RowKit Go.Flow Go.AV Go.Plain
set_option maxHeartbeats 2000000 in
set_option maxRecDepth 100000 in
theorem around_A (W H n : Nat) (d : Nat → Bool) (x y bl : Int) (hW : W ≤ 96) (hH : H ≤ 96) (hn : n = W * H) (hx : 0 ≤ x ∧ x < W) (hy : 0 ≤ y ∧ y < H) (hb : 0 ≤ bl ∧ bl ≤ 2) :
 ACalls Try.prog 64 [.ag (bmpV W H n d), .c (iC x), .c (iC y), .c (iC bl)] (.c (iC (arN W H d x y bl))) := by
 have hxm : x - bl ≤ 1000 := by omega
 obtain ⟨i0, hi0⟩ : ∃ i0 : Nat, max 0 (x - bl) = (i0 : Int) := ⟨(max 0 (x - bl)).toNat, by omega⟩
 obtain ⟨j0, hj0⟩ : ∃ j0 : Nat, max 0 (y - bl) = (j0 : Int) := ⟨(max 0 (y - bl)).toNat, by omega⟩
 refine acalls_at Try.func64 rfl rfl Try.ntmps64 rfl ?_
 repeat (first
  | refine AWp.seq ?_
  | refine thenA_n ?_
  | refine AWp.block ?_
  | (refine rG 0 ?_
     refine qr5 aQ ?_
     refine kC ?_
     refine aB ?_)
  | (refine rG 1 ?_
     refine kC ?_
     refine aB ?_)
  | (refine rG 2 ?_
     (iterate 2 refine kA ?_)
     refine qr4w2 AList.sub ?_
     refine qr4 AList.maxI ?_
     refine kC ?_
     refine aB ?_))
 refine AWp.round (fun i : Nat =>
  mkSt 59 [(1, .c (iC x)), (2, .c (iC y)), (3, .c (iC bl)), (4, .c (.pt 4 3 0 0)), (9, .c (iC (arP W H d x y bl i))), (10, .c (iC (i : Nat)))] [(4, ⟨false, 1, 3, 47, lF (bmpV W H n d)⟩)] [4]
  ) (fun i => i0 ≤ i ∧ i ≤ W) (fun i => W - i) i0 ⟨Nat.le_refl _, by omega⟩ ?_ (fun i hi => ?_)
 ·refine Wk.mk [(4, some 4)] rfl rfl rfl ?_ ?_
  ·rw [arP_start (by omega)]
   exact allT
  ·exact allH
 ·obtain ⟨hi1, hi2⟩ := hi
  have hPb := arP_bd (W := W) (H := H) (d := d) (x := x) (y := y) (bl := bl) i
  by_cases c1 : (i : Int) ≤ x + bl
  ·by_cases c2 : i < W
   ·have c2' : (i : Int) < W := by omega
    have hPi : arP W H d x y bl i ≤ 10000 := by
     have := Nat.mul_le_mul (show i ≤ 96 by omega) hH
     have e : ((i * H : Nat) : Int) = (i : Int) * H := by simp
     omega
    obtain ⟨P, hP⟩ : ∃ P, arP W H d x y bl i = P := ⟨_, rfl⟩
    rw [hP] at hPb hPi
    rw [hP]
    repeat (first
     | refine AWp.seq ?_
     | refine thenA_n ?_
     | refine AWp.block ?_
     | refine AWp.skip ?_
     | refine AWp.condT rfl cnT ?_
     | (refine rG 3 ?_
        (iterate 3 refine kA ?_)
        refine qr4w2 aL ?_
        refine qr5t aK ?_
        (iterate 2 refine kA ?_)
        refine kD ?_
        refine kE ?_
        refine qr5t aK ?_
        refine qr4 aS ?_
        refine aB ?_)
     | (refine rG 5 ?_
        (iterate 2 refine kA ?_)
        refine qr4w2 AList.sub ?_
        refine qr4 AList.maxI ?_
        refine kC ?_
        refine aB ?_))
    refine AWp.round (fun j : Nat =>
     mkSt 59 [(1, .c (iC x)), (2, .c (iC y)), (3, .c (iC bl)), (4, .c (.pt 4 3 0 0)), (9, .c (iC (P + arC W d x y bl i j))), (10, .c (iC (i : Nat))), (11, .c (iC (j : Nat)))] [(4, ⟨false, 1, 3, 47, lF (bmpV W H n d)⟩)] [4]
     ) (fun j => j0 ≤ j ∧ j ≤ H) (fun j => H - j) j0 ⟨Nat.le_refl _, by omega⟩ ?_ (fun j hj => ?_)
    ·refine Wk.mk [(4, some 4)] rfl rfl rfl ?_ ?_
     ·rw [arC_start (by omega)]
      exact allT
     ·exact allH
    ·obtain ⟨hj1, hj2⟩ := hj
     have hCb := arC_bd (W := W) (d := d) (x := x) (y := y) (bl := bl) i j
     by_cases c3 : (j : Int) ≤ y + bl
     ·by_cases c4 : j < H
      ·have c4' : (j : Int) < H := by omega
       have hlt := cell28 hn c2 c4
       have hk : (j : Int) * W + i = ((j * W + i : Nat) : Int) := by simp
       have hjw : 0 ≤ (j : Int) * W ∧ (j : Int) * W ≤ 10000 := by
        have := Nat.mul_le_mul (show j ≤ 96 by omega) hW
        have e : ((j * W : Nat) : Int) = (j : Int) * W := by simp
        omega
       have hsu := arC_succ (W := W) (d := d) (x := x) (y := y) (bl := bl) (i := i) (j := j) (by omega) c3 (by omega) c1
       obtain ⟨C, hC⟩ : ∃ C, arC W d x y bl i j = C := ⟨_, rfl⟩
       rw [hC] at hCb hsu
       rw [hC]
       cases hd : d (j * W + i) with
       | true =>
         rw [hd] at hsu
         replace hsu : arC W d x y bl i (j + 1) = C + 1 := hsu
         repeat (first
          | refine AWp.seq ?_
          | refine thenA_n ?_
          | refine AWp.block ?_
          | refine AWp.skip ?_
          | refine inBlk_n ?_
          | refine AWp.condT rfl cnT ?_
          | (refine rG 6 ?_
             (iterate 3 refine kA ?_)
             refine qr4w2 aL ?_
             refine qr5t aK ?_
             (iterate 2 refine kA ?_)
             refine kD ?_
             refine kE ?_
             refine qr5t aK ?_
             refine qr4 aS ?_
             refine aB ?_)
          | (refine rG 7 ?_
             refine kA ?_
             refine qr4w2 aL ?_
             refine kC ?_
             refine aB ?_)
          | (refine rG 8 ?_
             refine kD ?_
             refine kE ?_
             refine kA ?_
             refine kD ?_
             refine kE ?_
             refine qr4w2 AList.mul ?_
             refine kA ?_
             refine qr4w2 aL ?_
             refine qr8eo2 (aP (k := j * W + i) tyOk) ?_
             refine qr5o (aV tyOk) ?_
             refine aB ?_)
          | (refine rG 9 ?_
             refine kA ?_
             refine qr4w2 aL ?_
             refine kC ?_
             refine aB ?_))
         refine ⟨j + 1, ⟨by omega, by omega⟩, Wk.mk [(4, some 4)] rfl rfl rfl ?_ ?_, by omega⟩
         ·rw [hsu]
          exact allT
         ·exact allH
       | false =>
         rw [hd] at hsu
         replace hsu : arC W d x y bl i (j + 1) = C + 0 := hsu
         repeat (first
          | refine AWp.seq ?_
          | refine thenA_n ?_
          | refine AWp.block ?_
          | refine AWp.skip ?_
          | refine inBlk_n ?_
          | refine AWp.condT rfl cnT ?_
          | refine AWp.condF rfl cnF ?_
          | (refine rG 6 ?_
             (iterate 3 refine kA ?_)
             refine qr4w2 aL ?_
             refine qr5t aK ?_
             (iterate 2 refine kA ?_)
             refine kD ?_
             refine kE ?_
             refine qr5t aK ?_
             refine qr4 aS ?_
             refine aB ?_)
          | (refine rG 7 ?_
             refine kA ?_
             refine qr4w2 aL ?_
             refine kC ?_
             refine aB ?_)
          | (refine rG 8 ?_
             refine kD ?_
             refine kE ?_
             refine kA ?_
             refine kD ?_
             refine kE ?_
             refine qr4w2 AList.mul ?_
             refine kA ?_
             refine qr4w2 aL ?_
             refine qr8eo2 (aP (k := j * W + i) tyOk) ?_
             refine qr5o (aV tyOk) ?_
             refine aB ?_))
         refine ⟨j + 1, ⟨by omega, by omega⟩, Wk.mk [(4, some 4)] rfl rfl rfl ?_ ?_, by omega⟩
         ·rw [hsu]
          exact allT
         ·exact allH
      ·have c4' : ¬ (j : Int) < H := by omega
       have hend := arC_end (W := W) (H := H) (d := d) (x := x) (y := y) (bl := bl) (i := i) hj2 (.inl (by omega))
       rw [hP] at hend
       repeat (first
        | refine AWp.seq ?_
        | refine thenA_n ?_
        | refine AWp.exit ?_
        | refine thenA_e ?_
        | refine inBlk_n ?_
        | refine inBlk_hit ?_
        | refine AWp.condF rfl cnF ?_
        | (refine rG 4 ?_
           refine kA ?_
           refine qr4w2 aL ?_
           refine kC ?_
           refine aB ?_)
        | (refine rG 6 ?_
           (iterate 3 refine kA ?_)
           refine qr4w2 aL ?_
           refine qr5t aK ?_
           (iterate 2 refine kA ?_)
           refine kD ?_
           refine kE ?_
           refine qr5f aJ ?_
           refine qr4 aS ?_
           refine aB ?_))
       refine ⟨i + 1, ⟨by omega, by omega⟩, Wk.mk [(4, some 4)] rfl rfl rfl ?_ ?_, by omega⟩
       ·rw [← hend]
        exact allT
       ·exact allH
     ·have hend := arC_end (W := W) (H := H) (d := d) (x := x) (y := y) (bl := bl) (i := i) hj2 (.inr (by omega))
      rw [hP] at hend
      repeat (first
       | refine AWp.seq ?_
       | refine thenA_n ?_
       | refine AWp.exit ?_
       | refine thenA_e ?_
       | refine inBlk_n ?_
       | refine inBlk_hit ?_
       | refine AWp.condF rfl cnF ?_
       | (refine rG 4 ?_
          refine kA ?_
          refine qr4w2 aL ?_
          refine kC ?_
          refine aB ?_)
       | (refine rG 6 ?_
          (iterate 3 refine kA ?_)
          refine qr4w2 aL ?_
          refine qr5f aJ ?_
          refine kA ?_
          (iterate 4 refine qr2 aG ?_)
          refine qr4 aR ?_
          refine aB ?_))
      refine ⟨i + 1, ⟨by omega, by omega⟩, Wk.mk [(4, some 4)] rfl rfl rfl ?_ ?_, by omega⟩
      ·rw [← hend]
       exact allT
      ·exact allH
   ·have c2' : ¬ (i : Int) < W := by omega
    have hend := arP_end (W := W) (H := H) (d := d) (x := x) (y := y) (bl := bl) hi2 (.inl (by omega))
    rw [← hend]
    repeat (first
     | refine AWp.seq ?_
     | refine thenA_n ?_
     | refine AWp.exit ?_
     | refine AWp.ret ?_
     | refine AWp.condF rfl cnF ?_
     | (refine rG 3 ?_
        (iterate 3 refine kA ?_)
        refine qr4w2 aL ?_
        refine qr5t aK ?_
        (iterate 2 refine kA ?_)
        refine kD ?_
        refine kE ?_
        refine qr5f aJ ?_
        refine qr4 aS ?_
        refine aB ?_)
     | (refine rG 10 ?_
        refine kA ?_
        refine kC ?_
        refine aB ?_))
    refine ⟨mkSt 59 [(8, .c (iC (arP W H d x y bl i)))] [] [], [], Wk.mk [] rfl rfl rfl ?_ trivial, rfl, rfl, ARets.one (x := .c _) (ARes.tmp rfl rfl)⟩
    exact allT
  ·have hend := arP_end (W := W) (H := H) (d := d) (x := x) (y := y) (bl := bl) hi2 (.inr (by omega))
   rw [← hend]
   repeat (first
    | refine AWp.seq ?_
    | refine thenA_n ?_
    | refine AWp.exit ?_
    | refine AWp.ret ?_
    | refine AWp.condF rfl cnF ?_
    | (refine rG 3 ?_
       (iterate 3 refine kA ?_)
       refine qr4w2 aL ?_
       refine qr5f aJ ?_
       refine kA ?_
       (iterate 4 refine qr2 aG ?_)
       refine qr4 aR ?_
       refine aB ?_)
    | (refine rG 10 ?_
       refine kA ?_
       refine kC ?_
       refine aB ?_))
   refine ⟨mkSt 59 [(8, .c (iC (arP W H d x y bl i)))] [] [], [], Wk.mk [] rfl rfl rfl ?_ trivial, rfl, rfl, ARets.one (x := .c _) (ARes.tmp rfl rfl)⟩
   exact allT
end Go.Proofs.Ytjjaehpkccejaaa
end

section
namespace Go.Proofs.Ytjjaehpkccejaaa
open Go.RowKit Go.Flow Go.AV Go.Plain
set_option maxHeartbeats 2000000 in
set_option maxRecDepth 100000 in
theorem See21_A (r : Rd) (b : Bp) (hb : -1000000 ≤ r.bl ∧ r.bl ≤ 1000000) : ACalls Try.prog 48 [.ag (rdC r), .ag (bpC b)] (.tu [.ag (bpC (seeB r b)), .c (iC (seeE r b))]) := by
 have h1 := RRdCheck_A r hb
 have h2 := rbCheck_A b.W b.H b.n b.d
 by_cases c1 : rdE r = 0
 ·rw [c1] at h1
  by_cases c2 : chk b.W b.H b.n = 0
  ·have hE : seeE r b = 0 := (seeE_ch c1).trans c2
   rw [seeB_ok hE, hE]
   rw [c2] at h2
   obtain ⟨hw0, hw1, hh0, hh1, hn⟩ := okB c2
   obtain ⟨g1, g2, g3, g4⟩ := rdE_ok c1
   obtain ⟨W, hW⟩ := Int.eq_ofNat_of_zero_le hw0
   obtain ⟨H, hH⟩ := Int.eq_ofNat_of_zero_le hh0
   obtain ⟨bW, bH, n, d⟩ := b
   dsimp only at hW hH hn hw0 hw1 hh0 hh1 h2 ⊢
   subst hW hH
   rw [show Int.toNat (W : Int) = W from rfl, show Int.toNat (H : Int) = H from rfl]
   replace hn : n = W * H := by
    have : ((n : Nat) : Int) = ((W * H : Nat) : Int) := by rw [Int.natCast_mul]; exact hn
    omega
   have hA : ∀ x y : Nat, x < W → y < H → ACalls Try.prog 64 [.ag (bmpV W H n d), .c (iC x), .c (iC y), .c (iC r.bl)] (.c (iC (arN W H d x y r.bl))) := fun x y hx hy => around_A W H n d x y r.bl (by omega) (by omega) hn (by omega) (by omega) (by omega)
   refine acalls_at Try.func48 rfl rfl Try.ntmps48 rfl ?_
   repeat (first
    | refine AWp.seq ?_
    | refine thenA_n ?_
    | refine AWp.block ?_
    | refine AWp.skip ?_
    | refine AWp.condF rfl cnF ?_
    | (refine rG 0 ?_
       (iterate 2 refine qr5 aQ ?_)
       refine qr5 (aM tyOk) ?_
       refine kC ?_
       refine aB ?_)
    | (refine rG 1 ?_
       refine kF ?_
       refine aH rfl rfl rfl rfl Try.func42 rfl (by kernel_rfl) (h1) ?_
       refine kC ?_
       refine aB ?_)
    | (refine rG 2 ?_
       refine kA ?_
       refine qr5 aW ?_
       refine aB ?_)
    | (refine rG 4 ?_
       refine kF ?_
       refine aH rfl rfl rfl rfl Try.func44 rfl (by kernel_rfl) (h2) ?_
       refine kC ?_
       refine aB ?_)
    | (refine rG 5 ?_
       refine kA ?_
       refine qr5 aW ?_
       refine aB ?_)
    | (refine rG 7 ?_
       refine kD ?_
       refine kE ?_
       refine kD ?_
       refine kE ?_
       refine qr8 (aX tyOk) ?_
       refine qr5 (aM tyOk) ?_
       refine kI ?_
       refine aB ?_)
    | (refine rG 8 ?_
       refine kC ?_
       refine aB ?_))
   refine AWp.round (fun y : Nat =>
    mkSt 55 [(2, .c (.pt 2 2 0 0)), (3, .c (.pt 3 3 0 0)), (4, .c (.pt 4 3 0 0)), (8, .c (.pt 8 3 0 0)), (9, .c (iC (y : Nat)))] [(2, ⟨false, 1, 2, 65, lF (rdC r)⟩), (3, ⟨false, 1, 3, 47, lF (bmpV W H n d)⟩), (4, ⟨false, 1, 3, 47, lF (bpC bpZ)⟩), (8, ⟨false, 1, 3, 47, lF [iC W, iC H, .ow 20]⟩), (20, rowBl (y * W) (seeD W H d r))] [2, 3, 4, 8, 20]
    ) (fun y => y ≤ H) (fun y => H - y) 0 (Nat.zero_le _) ?_ (fun y hy => ?_)
   ·refine Wk.mk [(2, some 2), (3, some 3), (4, some 4), (8, some 8), (20, none)] rfl rfl rfl ?_ ?_
    ·exact allT
    ·exact ⟨hSm, hSm, (by first | exact hSm | exact HeapOk.box rfl rfl ⟨LeC.int rfl, LeC.int rfl, LeC.nils _ _, trivial⟩ rfl), HeapOk.box rfl rfl ⟨LeC.int rfl, LeC.int rfl, (LeC.nil _ rfl), trivial⟩ rfl, HeapOk.nil rfl (Nat.zero_mul W), trivial⟩
   ·by_cases hyl : y < H
    ·have hyl' : (y : Int) < H := by omega
     have hbd : y * W + W ≤ n := by
      have := Nat.mul_le_mul_right W (show y + 1 ≤ H by omega)
      rw [Nat.succ_mul, Nat.mul_comm H] at this
      omega
     have hn2 : n ≤ 9216 := by
      have := Nat.mul_le_mul (show W ≤ 96 by omega) (show H ≤ 96 by omega)
      omega
     repeat (first
      | refine AWp.seq ?_
      | refine thenA_n ?_
      | refine AWp.block ?_
      | refine AWp.skip ?_
      | refine AWp.condT rfl cnT ?_
      | (refine rG 9 ?_
         refine kA ?_
         refine kD ?_
         refine kE ?_
         refine qr5t aK ?_
         refine aB ?_)
      | (refine rG 11 ?_
         refine kC ?_
         refine aB ?_))
     refine AWp.round (fun x : Nat =>
      mkSt 55 [(2, .c (.pt 2 2 0 0)), (3, .c (.pt 3 3 0 0)), (4, .c (.pt 4 3 0 0)), (8, .c (.pt 8 3 0 0)), (9, .c (iC (y : Nat))), (10, .c (iC (x : Nat)))] [(2, ⟨false, 1, 2, 65, lF (rdC r)⟩), (3, ⟨false, 1, 3, 47, lF (bmpV W H n d)⟩), (4, ⟨false, 1, 3, 47, lF (bpC bpZ)⟩), (8, ⟨false, 1, 3, 47, lF [iC W, iC H, .ow 20]⟩), (20, rowBl (y * W + x) (seeD W H d r))] [2, 3, 4, 8, 20]
      ) (fun x => x ≤ W) (fun x => W - x) 0 (Nat.zero_le _) ?_ (fun x hx => ?_)
     ·refine Wk.mk [(2, some 2), (3, some 3), (4, some 4), (8, some 8), (20, some 20)] rfl rfl rfl ?_ ?_
      ·exact allT
      ·exact ⟨hSm, hSm, (by first | exact hSm | exact HeapOk.box rfl rfl ⟨LeC.int rfl, LeC.int rfl, LeC.nils _ _, trivial⟩ rfl), HeapOk.box rfl rfl ⟨LeC.int rfl, LeC.int rfl, (LeC.ow _ _ rfl), trivial⟩ rfl, HeapOk.row rfl rfl (Nat.add_zero _) (fun i _ j _ => ⟨rfl, rfl⟩), trivial⟩
     ·by_cases hxl : x < W
      ·have hxl' : (x : Int) < W := by omega
       have hAr := hA x y hxl hyl
       have hsd : seeD W H d r (y * W + x) = decide (r.sh ≤ arN W H d x y r.bl) := by
        unfold seeD
        rw [Nat.add_comm, Nat.add_mul_mod_self_right, Nat.mod_eq_of_lt hxl, Nat.add_mul_div_right _ _ (by omega : 0 < W), Nat.div_eq_of_lt hxl, Nat.zero_add]
       repeat (first
        | refine AWp.seq ?_
        | refine thenA_n ?_
        | refine AWp.block ?_
        | refine AWp.skip ?_
        | refine inBlk_n ?_
        | refine AWp.condT rfl cnT ?_
        | (refine rG 12 ?_
           refine kA ?_
           refine kD ?_
           refine kE ?_
           refine qr5t aK ?_
           refine aB ?_)
        | (refine rG 13 ?_
           refine kA ?_
           refine qr4w2 aL ?_
           refine kC ?_
           refine aB ?_)
        | (refine AWp.draw (id := 14) mixed ?_; refine kD ?_; refine kE ?_; refine kF ?_; (iterate 2 refine kA ?_); refine kD ?_; refine kE ?_; refine aH rfl rfl rfl rfl Try.func64 rfl (by kernel_rfl) (hAr) ?_; refine kD ?_; refine kE ?_; refine qr5 aW ?_; refine qr11 (AList.litSl tyOk) ?_; refine AList.appL tyOk rfl rfl rfl rfl rfl rfl rfl rfl rfl rfl oM oM ?_; refine kD ?_; refine kI ?_; refine aB ⟨by kernel_rfl, ?_⟩))
       refine ⟨x + 1, hxl, Wk.mk [(2, some 2), (3, some 3), (4, some 4), (8, some 8), (20, some 52)] rfl rfl rfl ?_ ?_, by omega⟩
       ·exact allT
       ·exact ⟨hSm, hSm, (by first | exact hSm | exact HeapOk.box rfl rfl ⟨LeC.int rfl, LeC.int rfl, LeC.nils _ _, trivial⟩ rfl), HeapOk.box rfl rfl ⟨LeC.int rfl, LeC.int rfl, (LeC.ow _ _ rfl), trivial⟩ rfl, HeapOk.row rfl rfl rfl (app_F (n := y * W + x) (G := bF (seeD W H d r)) (fun i _ => cell1 rfl) (cell1 (congrArg bC hsd.symm)) (fun _ _ => cell1 rfl)), trivial⟩
      ·have hxl' : ¬ (x : Int) < W := by omega
       obtain rfl : x = W := by omega
       repeat (first
        | refine AWp.seq ?_
        | refine thenA_n ?_
        | refine AWp.exit ?_
        | refine thenA_e ?_
        | refine inBlk_n ?_
        | refine inBlk_hit ?_
        | refine AWp.condF rfl cnF ?_
        | (refine rG 10 ?_
           refine kA ?_
           refine qr4w2 aL ?_
           refine kC ?_
           refine aB ?_)
        | (refine rG 12 ?_
           refine kA ?_
           refine kD ?_
           refine kE ?_
           refine qr5f aJ ?_
           refine aB ?_))
       refine ⟨y + 1, hyl, Wk.mk [(2, some 2), (3, some 3), (4, some 4), (8, some 8), (20, some 20)] rfl rfl rfl ?_ ?_, by omega⟩
       ·exact allT
       ·exact ⟨hSm, hSm, (by first | exact hSm | exact HeapOk.box rfl rfl ⟨LeC.int rfl, LeC.int rfl, LeC.nils _ _, trivial⟩ rfl), HeapOk.box rfl rfl ⟨LeC.int rfl, LeC.int rfl, (LeC.ow _ _ rfl), trivial⟩ rfl, HeapOk.row rfl rfl (Nat.succ_mul y x) (fun i _ j _ => ⟨rfl, rfl⟩), trivial⟩
    ·have hyl' : ¬ (y : Int) < H := by omega
     obtain rfl : y = H := by omega
     have hyn : y * W = n := by rw [hn, Nat.mul_comm]
     repeat (first
      | refine AWp.seq ?_
      | refine thenA_n ?_
      | refine AWp.exit ?_
      | refine AWp.ret ?_
      | refine AWp.condF rfl cnF ?_
      | (refine rG 9 ?_
         refine kA ?_
         refine kD ?_
         refine kE ?_
         refine qr5f aJ ?_
         refine aB ?_)
      | (refine rG 15 ?_
         refine kF ?_
         refine kI ?_
         refine kC ?_
         refine aB ?_))
     refine ⟨mkSt 55 [(4, .c (.pt 4 3 0 0)), (5, .c (iC 0))] [(4, ⟨false, 1, 3, 47, lF (bmpV W y n (seeD W y d r))⟩)] [4], [(4, ⟨false, 1, 3, 47, lF (bmpV W y n (seeD W y d r))⟩)], Wk.mk [(4, some 4)] rfl rfl rfl ?_ ?_, rfl, rfl, ARets.two (x := .ag _) (y := .c _) (ARes.box tyOk rfl rfl rfl rfl rfl rfl rfl) (ARes.tmp rfl rfl)⟩
     ·exact allT
     ·exact ⟨HeapOk.box rfl rfl ⟨LeC.int rfl, LeC.int rfl, LeC.fz rfl rfl hyn.symm (fun i _ j _ => ⟨rfl, rfl⟩), trivial⟩ rfl, trivial⟩
  ·have hE : seeE r b = chk b.W b.H b.n := seeE_ch c1
   rw [seeB_no (by rw [hE]; exact c2), hE]
   generalize chk b.W b.H b.n = e at *
   refine acalls_at Try.func48 rfl rfl Try.ntmps48 rfl ?_
   repeat (first
    | refine AWp.seq ?_
    | refine thenA_n ?_
    | refine AWp.skip ?_
    | refine AWp.ret ?_
    | refine thenA_r ?_
    | refine AWp.condT rfl cnT ?_
    | refine AWp.condF rfl cnF ?_
    | (refine rG 0 ?_
       (iterate 2 refine qr5 aQ ?_)
       refine qr5 (aM tyOk) ?_
       refine kC ?_
       refine aB ?_)
    | (refine rG 1 ?_
       refine kF ?_
       refine aH rfl rfl rfl rfl Try.func42 rfl (by kernel_rfl) (h1) ?_
       refine kC ?_
       refine aB ?_)
    | (refine rG 2 ?_
       refine kA ?_
       refine qr5 aW ?_
       refine aB ?_)
    | (refine rG 4 ?_
       refine kF ?_
       refine aH rfl rfl rfl rfl Try.func44 rfl (by kernel_rfl) (h2) ?_
       refine kC ?_
       refine aB ?_)
    | (refine rG 5 ?_
       refine kA ?_
       refine qr5t aK ?_
       refine aB ?_)
    | (refine rG 6 ?_
       refine qr8 (aX tyOk) ?_
       refine kA ?_
       refine kI ?_
       refine kC ?_
       refine aB ?_))
   refine ⟨mkSt 55 [(4, .c (.pt 4 3 0 0)), (5, .c (iC (e)))] [(4, ⟨false, 1, 3, 47, lF (bpC (bpZ))⟩)] [4], [(4, ⟨false, 1, 3, 47, lF (bpC (bpZ))⟩)], Wk.mk [(4, some 4)] rfl rfl rfl ?_ ?_, rfl, rfl, ARets.two (x := .ag _) (y := .c _) (ARes.box tyOk rfl rfl rfl rfl rfl rfl rfl) (ARes.tmp rfl rfl)⟩
   ·exact allT
   ·exact ⟨HeapOk.box rfl rfl ⟨LeC.int rfl, LeC.int rfl, LeC.nils _ _, trivial⟩ rfl, trivial⟩
 ·have hE : seeE r b = rdE r := seeE_rd c1
  rw [seeB_no (by rw [hE]; exact c1), hE]
  generalize rdE r = e at *
  refine acalls_at Try.func48 rfl rfl Try.ntmps48 rfl ?_
  repeat (first
   | refine AWp.seq ?_
   | refine thenA_n ?_
   | refine AWp.ret ?_
   | refine thenA_r ?_
   | refine AWp.condT rfl cnT ?_
   | (refine rG 0 ?_
      (iterate 2 refine qr5 aQ ?_)
      refine qr5 (aM tyOk) ?_
      refine kC ?_
      refine aB ?_)
   | (refine rG 1 ?_
      refine kF ?_
      refine aH rfl rfl rfl rfl Try.func42 rfl (by kernel_rfl) (h1) ?_
      refine kC ?_
      refine aB ?_)
   | (refine rG 2 ?_
      refine kA ?_
      refine qr5t aK ?_
      refine aB ?_)
   | (refine rG 3 ?_
      refine qr8 (aX tyOk) ?_
      refine kA ?_
      refine kI ?_
      refine kC ?_
      refine aB ?_))
  refine ⟨mkSt 55 [(4, .c (.pt 4 3 0 0)), (5, .c (iC (e)))] [(4, ⟨false, 1, 3, 47, lF (bpC (bpZ))⟩)] [4], [(4, ⟨false, 1, 3, 47, lF (bpC (bpZ))⟩)], Wk.mk [(4, some 4)] rfl rfl rfl ?_ ?_, rfl, rfl, ARets.two (x := .ag _) (y := .c _) (ARes.box tyOk rfl rfl rfl rfl rfl rfl rfl) (ARes.tmp rfl rfl)⟩
  ·exact allT
  ·exact ⟨HeapOk.box rfl rfl ⟨LeC.int rfl, LeC.int rfl, LeC.nils _ _, trivial⟩ rfl, trivial⟩
end Go.Proofs.Ytjjaehpkccejaaa
end

section
namespace Go.Proofs.Ytjjaehpkccejaaa
open Go.RowKit Go.Flow Go.AV Go.Plain
theorem rdC_imm (r : Rd) : (rdC r).all immC = true := rfl
set_option maxHeartbeats 4000000 in
set_option maxRecDepth 100000 in
theorem rClash_A (p : Pb) (a b : Bp) (x y : Bg) (hl : p.R.length ≤ 1000000) (hR : RdOk p.R) : ACalls Try.prog 20 [.ag (pbC p), .ag (bpC a), .ag (bpC b), .ag (bgC x), .ag (bgC y)]
 (.tu [.c (iC (clashV p.R a b x y).1), .ag (clC (clashV p.R a b x y).2.1), .c (bC (clashV p.R a b x y).2.2)]) := by
 unfold clashV
 have hRd := readers_A p hl
 have hRo := rdL_ok hR
 obtain ⟨L, hL⟩ : ∃ L, rdL p.R = L := ⟨_, rfl⟩
 have hLl : L.length ≤ 1000000 := by
  rw [← hL]; unfold rdL; split
  ·simp
  ·exact hl
 have hR0 : p.R.length = 0 → L = [⟨0, 1⟩] := fun h => by rw [← hL]; exact if_pos (List.eq_nil_of_length_eq_zero h)
 have hR1 : ¬ p.R.length = 0 → L = p.R := fun h => by rw [← hL]; exact if_neg fun e => h (by rw [e]; rfl)
 rw [hL] at hRd hRo ⊢
 obtain ⟨n, hn⟩ : ∃ n, L.length = n := ⟨_, rfl⟩
 rw [hn] at hLl
 refine acalls_at Try.func20 rfl rfl Try.ntmps20 rfl ?_
 repeat (first
  | refine AWp.seq ?_
  | refine thenA_n ?_
  | (refine rG 0 ?_
     (iterate 5 refine qr5 aQ ?_)
     refine kC ?_
     refine qr5 (aM tyOk) ?_
     refine kC ?_
     refine aB ?_)
  | (refine rG 1 ?_
     refine kD ?_
     refine kE ?_
     refine kC ?_
     refine aB ?_)
  | (refine rG 2 ?_
     refine kA ?_
     refine qr5 (aO tyOk) ?_
     refine qr5 aW ?_
     refine aB ?_))
 refine AWp.cut (
  mkSt 70 [(5, .c (.pt 5 5 0 0)), (6, .c (.pt 6 3 0 0)), (7, .c (.pt 7 3 0 0)), (8, .c (.pt 8 4 0 0)), (9, .c (.pt 9 4 0 0)), (11, .c (.pt 11 3 0 0)), (10, .c (iC 0)), (12, .c (bC false)), (13, .c (lsR L))] [(5, ⟨false, 1, 5, 32, lF (pbC p)⟩), (6, ⟨false, 1, 3, 47, lF (bpC a)⟩), (7, ⟨false, 1, 3, 47, lF (bpC b)⟩), (8, ⟨false, 1, 4, 42, lF (bgC x)⟩), (9, ⟨false, 1, 4, 42, lF (bgC y)⟩), (11, ⟨false, 1, 3, 54, lF (clC clZ)⟩)] [5, 6, 7, 8, 9, 11]
  ) ?_ (fun S1 hw1 => AWp.weak hw1 ?_)
 ·clear hRd
  by_cases h0 : p.R.length = 0
  ·have h0' : ((p.R.length : Nat) : Int) = 0 := by omega
   have hL1 := hR0 h0
   clear hL
   subst hL1
   repeat (first
    | refine AWp.condT rfl cnT ?_
    | (refine rG 3 ?_
       refine qr8 (aX tyOk) ?_
       refine qr11 (AList.litSl tyOk) ?_
       refine kC ?_
       refine aB ?_))
   refine ⟨rfl, Wk.mk [(5, some 5), (6, some 6), (7, some 7), (8, some 8), (9, some 9), (11, some 11)] rfl rfl rfl ?_ ?_⟩
   ·repeat (first | exact trivial | refine ⟨⟨_, rfl, by first | exact LeA.c (LeC.lz rfl rd1_F) | exact leT⟩, ?_⟩)
   ·exact allH
  ·have h0' : ¬ ((p.R.length : Nat) : Int) = 0 := by omega
   have hL1 := hR1 h0
   clear hL
   subst hL1
   repeat (first
    | refine AWp.skip ?_
    | refine AWp.condF rfl cnF ?_)
   refine ⟨rfl, Wk.mk [(5, some 5), (6, some 6), (7, some 7), (8, some 8), (9, some 9), (11, some 11)] rfl rfl rfl ?_ ?_⟩
   ·exact allT
   ·exact allH
 repeat (first
  | refine AWp.seq ?_
  | refine thenA_n ?_
  | refine AWp.block ?_
  | (refine rG 4 ?_
     refine kC ?_
     refine aB ?_))
 refine AWp.round (fun k : Nat =>
  mkSt 70 [(5, .c (.pt 5 5 0 0)), (6, .c (.pt 6 3 0 0)), (7, .c (.pt 7 3 0 0)), (8, .c (.pt 8 4 0 0)), (9, .c (.pt 9 4 0 0)), (11, .c (.pt 11 3 0 0)), (10, .c (iC 0)), (12, .c (bC false)), (13, .c (lsR L)), (14, .c (iC (k : Nat)))] [(5, ⟨false, 1, 5, 32, lF (pbC p)⟩), (6, ⟨false, 1, 3, 47, lF (bpC a)⟩), (7, ⟨false, 1, 3, 47, lF (bpC b)⟩), (8, ⟨false, 1, 4, 42, lF (bgC x)⟩), (9, ⟨false, 1, 4, 42, lF (bgC y)⟩), (11, ⟨false, 1, 3, 54, lF (clC clZ)⟩)] [5, 6, 7, 8, 9, 11]
  ) (fun k => k ≤ n ∧ ∀ i, i < k → rcB (L.getD i rdZ) a b x y = false) (fun k => n - k) 0 ⟨Nat.zero_le _, fun i hi => absurd hi (Nat.not_lt_zero _)⟩ ?_ (fun k hk => ?_)
 ·refine Wk.mk [(5, some 5), (6, some 6), (7, some 7), (8, some 8), (9, some 9), (11, some 11)] rfl rfl rfl ?_ ?_
  ·exact allT
  ·exact allH
 ·obtain ⟨hk, hno⟩ := hk
  by_cases hkn : k < n
  ·have hkn' : (k : Int) < n := by omega
   have hb := hRo _ (getD_mem28 (L := L) (k := k) (z := rdZ) (by omega))
   have s1 := See21_A (L.getD k rdZ) a hb
   have s2 := See21_A (L.getD k rdZ) b hb
   have hC := rConfused_A (seeB (L.getD k rdZ) a) (seeB (L.getD k rdZ) b) x y
   have hrB : rcB (L.getD k rdZ) a b x y = (decide (seeE (L.getD k rdZ) a = 0) && (decide (seeE (L.getD k rdZ) b = 0) && (cnfV (seeB (L.getD k rdZ) a) (seeB (L.getD k rdZ) b) x y).2)) := rfl
   have hrC : rcC (L.getD k rdZ) a b x y = (cnfV (seeB (L.getD k rdZ) a) (seeB (L.getD k rdZ) b) x y).1 := rfl
   have go : rcB (L.getD k rdZ) a b x y = false → k + 1 ≤ n ∧ ∀ i, i < k + 1 → rcB (L.getD i rdZ) a b x y = false := fun h => ⟨hkn, fun i hi => by
    by_cases e : i = k
    ·rw [e]; exact h
    ·exact hno i (by omega)⟩
   have hit : rcB (L.getD k rdZ) a b x y = true → clashL a b x y L 0 = (k, rcC (L.getD k rdZ) a b x y, true) := fun h => by
    rw [clashL_hit (by omega) hno h, Nat.zero_add]
   generalize seeB (L.getD k rdZ) a = u at *
   generalize seeB (L.getD k rdZ) b = v at *
   generalize seeE (L.getD k rdZ) a = e1 at *
   generalize seeE (L.getD k rdZ) b = e2 at *
   by_cases c1 : e1 = 0
   ·by_cases c2 : e2 = 0
    ·rw [decide_eq_true c1, decide_eq_true c2, Bool.true_and, Bool.true_and] at hrB
     subst c1 c2
     rw [← hrB, ← hrC] at hC
     cases hc : rcB (L.getD k rdZ) a b x y with
     | true =>
       rw [hc] at hC
       rw [hit hc]
       repeat (first
        | refine AWp.seq ?_
        | refine thenA_n ?_
        | refine AWp.block ?_
        | refine AWp.skip ?_
        | refine AWp.ret ?_
        | refine thenA_r ?_
        | refine inBlk_r ?_
        | refine AWp.condT rfl cnT ?_
        | refine AWp.condF rfl cnF ?_
        | (refine rG 5 ?_
           (iterate 2 refine kA ?_)
           refine qr5 (aO tyOk) ?_
           refine qr5t aK ?_
           refine aB ?_)
        | (refine AWp.draw (id := 7) mixed ?_; (iterate 2 refine kA ?_); refine qr8eo2 (aP (k := k) tyOk) ?_; refine qr5o (aT tyOk) ?_; refine kF ?_; refine aH rfl rfl rfl rfl Try.func48 rfl (by kernel_rfl) (s1) ?_; refine kA ?_; (iterate 2 refine qr4 aN ?_); refine qr5 (aM tyOk) ?_; refine kI ?_; refine kC ?_; refine aB ⟨by kernel_rfl, ?_⟩)
        | (refine AWp.draw (id := 8) mixed ?_; (iterate 2 refine kA ?_); refine qr8eo2 (aP (k := k) tyOk) ?_; refine qr5o (aT tyOk) ?_; refine kF ?_; refine aH rfl rfl rfl rfl Try.func48 rfl (by kernel_rfl) (s2) ?_; refine kA ?_; (iterate 2 refine qr4 aN ?_); refine qr5 (aM tyOk) ?_; refine kI ?_; refine kC ?_; refine aB ⟨by kernel_rfl, ?_⟩)
        | (refine rG 9 ?_
           refine kA ?_
           refine qr5 aW ?_
           (iterate 2 refine kA ?_)
           refine qr5 aW ?_
           refine qr4 aR ?_
           refine aB ?_)
        | (refine rG 10 ?_
           (iterate 4 refine kF ?_)
           refine aH rfl rfl rfl rfl Try.func49 rfl (by kernel_rfl) (hC) ?_
           refine kA ?_
           (iterate 2 refine qr4 aN ?_)
           refine qr5 (aM tyOk) ?_
           refine kI ?_
           refine kC ?_
           refine aB ?_)
        | (refine rG 11 ?_
           refine kA ?_
           refine aB ?_)
        | (refine AWp.draw (id := 12) mixed ?_; refine kA ?_; refine kF ?_; refine kC ?_; refine kI ?_; refine kC ?_; refine aB ⟨by kernel_rfl, ?_⟩))
       refine ⟨mkSt 70 [(10, .c (iC (k))), (11, .c (.pt 11 3 0 0)), (12, .c (bC true))] [(11, ⟨false, 1, 3, 54, lF (clC (rcC (L.getD k rdZ) a b x y))⟩)] [11], [(11, ⟨false, 1, 3, 54, lF (clC (rcC (L.getD k rdZ) a b x y))⟩)], Wk.mk [(11, some 11)] rfl rfl rfl ?_ ?_, rfl, rfl, ARets.three (x := .c _) (y := .ag _) (z := .c _) (ARes.tmp rfl rfl) (ARes.box tyOk rfl rfl rfl rfl rfl rfl rfl) (ARes.tmp rfl rfl)⟩
       ·exact allT
       ·exact allH
     | false =>
       rw [hc] at hC
       repeat (first
        | refine AWp.seq ?_
        | refine thenA_n ?_
        | refine AWp.block ?_
        | refine AWp.skip ?_
        | refine inBlk_n ?_
        | refine AWp.condT rfl cnT ?_
        | refine AWp.condF rfl cnF ?_
        | (refine rG 5 ?_
           (iterate 2 refine kA ?_)
           refine qr5 (aO tyOk) ?_
           refine qr5t aK ?_
           refine aB ?_)
        | (refine rG 6 ?_
           refine kA ?_
           refine qr4w2 aL ?_
           refine kC ?_
           refine aB ?_)
        | (refine AWp.draw (id := 7) mixed ?_; (iterate 2 refine kA ?_); refine qr8eo2 (aP (k := k) tyOk) ?_; refine qr5o (aT tyOk) ?_; refine kF ?_; refine aH rfl rfl rfl rfl Try.func48 rfl (by kernel_rfl) (s1) ?_; refine kA ?_; (iterate 2 refine qr4 aN ?_); refine qr5 (aM tyOk) ?_; refine kI ?_; refine kC ?_; refine aB ⟨by kernel_rfl, ?_⟩)
        | (refine AWp.draw (id := 8) mixed ?_; (iterate 2 refine kA ?_); refine qr8eo2 (aP (k := k) tyOk) ?_; refine qr5o (aT tyOk) ?_; refine kF ?_; refine aH rfl rfl rfl rfl Try.func48 rfl (by kernel_rfl) (s2) ?_; refine kA ?_; (iterate 2 refine qr4 aN ?_); refine qr5 (aM tyOk) ?_; refine kI ?_; refine kC ?_; refine aB ⟨by kernel_rfl, ?_⟩)
        | (refine rG 9 ?_
           refine kA ?_
           refine qr5 aW ?_
           (iterate 2 refine kA ?_)
           refine qr5 aW ?_
           refine qr4 aR ?_
           refine aB ?_)
        | (refine rG 10 ?_
           (iterate 4 refine kF ?_)
           refine aH rfl rfl rfl rfl Try.func49 rfl (by kernel_rfl) (hC) ?_
           refine kA ?_
           (iterate 2 refine qr4 aN ?_)
           refine qr5 (aM tyOk) ?_
           refine kI ?_
           refine kC ?_
           refine aB ?_)
        | (refine rG 11 ?_
           refine kA ?_
           refine aB ?_))
       refine ⟨k + 1, go hc, Wk.mk [(5, some 5), (6, some 6), (7, some 7), (8, some 8), (9, some 9), (11, some 11)] rfl rfl rfl ?_ ?_, by omega⟩
       ·exact allT
       ·exact allH
    ·have hc : rcB (L.getD k rdZ) a b x y = false := by rw [hrB, decide_eq_false c2, Bool.false_and, Bool.and_false]
     repeat (first
      | refine AWp.seq ?_
      | refine thenA_n ?_
      | refine AWp.block ?_
      | refine AWp.skip ?_
      | refine AWp.exit ?_
      | refine thenA_e ?_
      | refine inBlk_hit ?_
      | refine AWp.condT rfl cnT ?_
      | (refine rG 5 ?_
         (iterate 2 refine kA ?_)
         refine qr5 (aO tyOk) ?_
         refine qr5t aK ?_
         refine aB ?_)
      | (refine rG 6 ?_
         refine kA ?_
         refine qr4w2 aL ?_
         refine kC ?_
         refine aB ?_)
      | (refine AWp.draw (id := 7) mixed ?_; (iterate 2 refine kA ?_); refine qr8eo2 (aP (k := k) tyOk) ?_; refine qr5o (aT tyOk) ?_; refine kF ?_; refine aH rfl rfl rfl rfl Try.func48 rfl (by kernel_rfl) (s1) ?_; refine kA ?_; (iterate 2 refine qr4 aN ?_); refine qr5 (aM tyOk) ?_; refine kI ?_; refine kC ?_; refine aB ⟨by kernel_rfl, ?_⟩)
      | (refine AWp.draw (id := 8) mixed ?_; (iterate 2 refine kA ?_); refine qr8eo2 (aP (k := k) tyOk) ?_; refine qr5o (aT tyOk) ?_; refine kF ?_; refine aH rfl rfl rfl rfl Try.func48 rfl (by kernel_rfl) (s2) ?_; refine kA ?_; (iterate 2 refine qr4 aN ?_); refine qr5 (aM tyOk) ?_; refine kI ?_; refine kC ?_; refine aB ⟨by kernel_rfl, ?_⟩)
      | (refine rG 9 ?_
         refine kA ?_
         refine qr5f aJ ?_
         (iterate 2 refine kA ?_)
         refine qr5t aK ?_
         refine qr4 aR ?_
         refine aB ?_))
     refine ⟨k + 1, go hc, Wk.mk [(5, some 5), (6, some 6), (7, some 7), (8, some 8), (9, some 9), (11, some 11)] rfl rfl rfl ?_ ?_, by omega⟩
     ·exact allT
     ·exact allH
   ·have hc : rcB (L.getD k rdZ) a b x y = false := by rw [hrB, decide_eq_false c1, Bool.false_and]
    repeat (first
     | refine AWp.seq ?_
     | refine thenA_n ?_
     | refine AWp.block ?_
     | refine AWp.skip ?_
     | refine AWp.exit ?_
     | refine thenA_e ?_
     | refine inBlk_hit ?_
     | refine AWp.condT rfl cnT ?_
     | (refine rG 5 ?_
        (iterate 2 refine kA ?_)
        refine qr5 (aO tyOk) ?_
        refine qr5t aK ?_
        refine aB ?_)
     | (refine rG 6 ?_
        refine kA ?_
        refine qr4w2 aL ?_
        refine kC ?_
        refine aB ?_)
     | (refine AWp.draw (id := 7) mixed ?_; (iterate 2 refine kA ?_); refine qr8eo2 (aP (k := k) tyOk) ?_; refine qr5o (aT tyOk) ?_; refine kF ?_; refine aH rfl rfl rfl rfl Try.func48 rfl (by kernel_rfl) (s1) ?_; refine kA ?_; (iterate 2 refine qr4 aN ?_); refine qr5 (aM tyOk) ?_; refine kI ?_; refine kC ?_; refine aB ⟨by kernel_rfl, ?_⟩)
     | (refine AWp.draw (id := 8) mixed ?_; (iterate 2 refine kA ?_); refine qr8eo2 (aP (k := k) tyOk) ?_; refine qr5o (aT tyOk) ?_; refine kF ?_; refine aH rfl rfl rfl rfl Try.func48 rfl (by kernel_rfl) (s2) ?_; refine kA ?_; (iterate 2 refine qr4 aN ?_); refine qr5 (aM tyOk) ?_; refine kI ?_; refine kC ?_; refine aB ⟨by kernel_rfl, ?_⟩)
     | (refine rG 9 ?_
        refine kA ?_
        refine qr5t aK ?_
        refine kA ?_
        (iterate 2 refine qr2 aG ?_)
        refine qr4 aS ?_
        refine aB ?_))
    refine ⟨k + 1, go hc, Wk.mk [(5, some 5), (6, some 6), (7, some 7), (8, some 8), (9, some 9), (11, some 11)] rfl rfl rfl ?_ ?_, by omega⟩
    ·exact allT
    ·exact allH
  ·have hkn' : ¬ (k : Int) < n := by omega
   obtain rfl : k = n := by omega
   rw [clashL_no (by rw [hn]; exact hno)]
   repeat (first
    | refine AWp.seq ?_
    | refine thenA_n ?_
    | refine AWp.exit ?_
    | refine AWp.ret ?_
    | refine AWp.condF rfl cnF ?_
    | (refine rG 5 ?_
       (iterate 2 refine kA ?_)
       refine qr5 (aO tyOk) ?_
       refine qr5f aJ ?_
       refine aB ?_)
    | (refine rG 13 ?_
       refine qr8 (aX tyOk) ?_
       refine kC ?_
       refine kI ?_
       refine kC ?_
       refine aB ?_))
   refine ⟨mkSt 70 [(10, .c (iC (0))), (11, .c (.pt 11 3 0 0)), (12, .c (bC false))] [(11, ⟨false, 1, 3, 54, lF (clC (clZ))⟩)] [11], [(11, ⟨false, 1, 3, 54, lF (clC (clZ))⟩)], Wk.mk [(11, some 11)] rfl rfl rfl ?_ ?_, rfl, rfl, ARets.three (x := .c _) (y := .ag _) (z := .c _) (ARes.tmp rfl rfl) (ARes.box tyOk rfl rfl rfl rfl rfl rfl rfl) (ARes.tmp rfl rfl)⟩
   ·exact allT
   ·exact allH
end Go.Proofs.Ytjjaehpkccejaaa
end

section
namespace Go.Proofs.Ytjjaehpkccejaaa
open Go.RowKit Go.Flow Go.AV Go.Plain
set_option maxHeartbeats 1000000 in
set_option maxRecDepth 100000 in
theorem md21_A (bl sh : Int) : ACalls Try.prog 33 [.c (iC bl), .c (iC sh)] (.ag (rdC (md21 bl sh))) := by
 unfold md21
 have hM := Mod_A bl 3 (by omega) (by omega)
 have h0 := Int.emod_nonneg bl (show (3 : Int) ≠ 0 by omega)
 have h3 := Int.emod_lt_of_pos bl (show (0 : Int) < 3 by omega)
 generalize bl % 3 = c at *
 have hS := side21_A c 0 (by omega)
 have hpos : 0 < (2 * c + 1) * (2 * c + 1) ∧ (2 * c + 1) * (2 * c + 1) ≤ 25 := by
  have : c = 0 ∨ c = 1 ∨ c = 2 := by omega
  rcases this with rfl | rfl | rfl <;> decide
 have hM2 := Mod_A sh ((2 * c + 1) * (2 * c + 1)) (by omega) (by omega)
 have h4 := Int.emod_nonneg sh (show (2 * c + 1) * (2 * c + 1) ≠ 0 by omega)
 have h5 := Int.emod_lt_of_pos sh (show (0 : Int) < (2 * c + 1) * (2 * c + 1) by omega)
 generalize hs : 2 * c + 1 = s at *
 generalize sh % (s * s) = v at *
 refine acalls_at Try.func33 rfl rfl Try.ntmps33 rfl ?_
 repeat (first
  | refine AWp.seq ?_
  | refine thenA_n ?_
  | refine AWp.ret ?_
  | (refine rG 0 ?_
     refine qr5 (aM tyOk) ?_
     refine aB ?_)
  | (refine rG 1 ?_
     refine kA ?_
     refine aH rfl rfl rfl rfl Try.func18 rfl (by kernel_rfl) (hM) ?_
     refine qr8 (aX tyOk) ?_
     refine qr5 (aM tyOk) ?_
     refine kI ?_
     refine aB ?_)
  | (refine AWp.draw (id := 2) mixed ?_; refine kA ?_; refine kF ?_; refine aH rfl rfl rfl rfl Try.func59 rfl (by kernel_rfl) (hS) ?_; refine kF ?_; refine aH rfl rfl rfl rfl Try.func59 rfl (by kernel_rfl) (hS) ?_; refine qr4w2 AList.mul ?_; refine aH rfl rfl rfl rfl Try.func18 rfl (by kernel_rfl) (hM2) ?_; refine qr4w2 aL ?_; refine kD ?_; refine kI ?_; refine aB ⟨by kernel_rfl, ?_⟩)
  | (refine rG 3 ?_
     refine kF ?_
     refine kI ?_
     refine aB ?_))
 refine ⟨mkSt 19 [(4, .c (.pt 4 2 0 0))] [(4, ⟨false, 1, 2, 65, lF (rdC ⟨c, 1 + v⟩)⟩)] [4], [(4, ⟨false, 1, 2, 65, lF (rdC ⟨c, 1 + v⟩)⟩)], Wk.mk [(4, some 4)] rfl rfl rfl ?_ ?_, rfl, rfl, ARets.one (x := .ag _) (ARes.box tyOk rfl rfl rfl rfl rfl rfl rfl)⟩
 ·exact allT
 ·exact allH
def pasK (d : Nat → Bool) (W H : Int) (e : Nat → Bool) (k p : Nat) : Bool := if p < k then pasD d W H e p else false
theorem pasK_new {d : Nat → Bool} {W H : Int} {e : Nat → Bool} {i j : Nat} (hi : i < 6) : pasK d W H e (j * 6 + i + 1) (j * 6 + i) = (hasB 6 5 d i j || hasB W H e ((i : Int) - 0) ((j : Int) - 0)) := by
 unfold pasK pasD
 rw [if_pos (by omega), show (j * 6 + i) % 6 = i by omega, show (j * 6 + i) / 6 = j by omega]
theorem pasK_old {d : Nat → Bool} {W H : Int} {e : Nat → Bool} {k p : Nat} (h : ¬ p = k) : pasK d W H e (k + 1) p = pasK d W H e k p := by
 unfold pasK
 by_cases h1 : p < k
 ·rw [if_pos h1, if_pos (by omega)]
 ·rw [if_neg h1, if_neg (by omega)]
set_option maxHeartbeats 2000000 in
set_option maxRecDepth 100000 in
theorem Paste_A (d : Nat → Bool) (W H : Int) (n : Nat) (e : Nat → Bool) (hb : chk W H n = 0) : ACalls Try.prog 37 [.ag (bmpV 6 5 30 d), .ag (bmpV W H n e), .c (iC 0), .c (iC 0)] (.ag (bmpV 6 5 30 (pasD d W H e))) := by
 have hN := New_T 6 5 30 (by omega) (by omega) rfl (by omega)
 have ha : chk 6 5 30 = 0 := by decide
 have hC := rbCheck_A 6 5 30 d
 rw [ha] at hC
 refine acalls_at Try.func37 rfl rfl Try.ntmps37 rfl ?_
 repeat (first
  | refine AWp.seq ?_
  | refine thenA_n ?_
  | refine AWp.block ?_
  | refine AWp.skip ?_
  | refine AWp.condF rfl cnF ?_
  | (refine rG 0 ?_
     (iterate 2 refine qr5 aQ ?_)
     refine qr5 (aM tyOk) ?_
     refine aB ?_)
  | (refine rG 1 ?_
     refine kD ?_
     refine kE ?_
     refine kD ?_
     refine kE ?_
     refine AList.callT rfl rfl rfl rfl rfl Try.func34 rfl (by kernel_rfl) (hN) (fun _ _ _ _ => rfl) ?_
     refine kA ?_
     (iterate 2 refine qr4 aN ?_)
     refine qr5 (aM tyOk) ?_
     refine kI ?_
     refine kC ?_
     refine aB ?_)
  | (refine rG 2 ?_
     refine kA ?_
     refine qr5 aW ?_
     refine kA ?_
     refine kF ?_
     refine aH rfl rfl rfl rfl Try.func44 rfl (by kernel_rfl) (hC) ?_
     refine qr5 aW ?_
     refine qr4 aR ?_
     refine aB ?_)
  | (refine rG 4 ?_
     refine kC ?_
     refine aB ?_))
 refine AWp.round (fun j : Nat =>
  mkSt 65 [(4, .c (.pt 4 3 0 0)), (5, .c (.pt 5 3 0 0)), (8, .c (.pt 8 3 0 0)), (9, .c (.pt 9 3 0 0)), (2, .c (iC 0)), (3, .c (iC 0)), (11, .c (iC (j : Nat)))] [(4, ⟨false, 1, 3, 47, lF (bmpV 6 5 30 d)⟩), (5, ⟨false, 1, 3, 47, lF (bmpV W H n e)⟩), (8, ⟨false, 1, 3, 47, lF [iC 0, iC 0, .p (.slice none 0 0)]⟩), (9, ⟨false, 1, 3, 47, lF [iC 6, iC 5, .ow 20]⟩), (20, rowBl 30 (pasK d W H e (j * 6)))] [4, 5, 8, 9, 20]
  ) (fun j => j ≤ 5) (fun j => 5 - j) 0 (Nat.zero_le _) ?_ (fun j hj => ?_)
 ·refine Wk.mk [(4, some 4), (5, some 5), (8, some 8), (9, some 9), (20, some 18)] rfl rfl rfl ?_ ?_
  ·exact allT
  ·exact ⟨hSm, hSm, hSm, HeapOk.box rfl rfl ⟨LeC.int rfl, LeC.int rfl, LeC.ow _ _ rfl, trivial⟩ rfl, HeapOk.row rfl rfl rfl (fun i _ => cell1 ⟨rfl, rfl⟩), trivial⟩
 by_cases hjl : j < 5
 ·have hjl' : (j : Int) < 5 := by omega
  repeat (first
   | refine AWp.seq ?_
   | refine thenA_n ?_
   | refine AWp.block ?_
   | refine AWp.skip ?_
   | refine AWp.condT rfl cnT ?_
   | (refine rG 5 ?_
      refine kA ?_
      refine kD ?_
      refine kE ?_
      refine qr5t aK ?_
      refine aB ?_)
   | (refine rG 7 ?_
      refine kC ?_
      refine aB ?_))
  refine AWp.round (fun i : Nat =>
   mkSt 65 [(4, .c (.pt 4 3 0 0)), (5, .c (.pt 5 3 0 0)), (8, .c (.pt 8 3 0 0)), (9, .c (.pt 9 3 0 0)), (2, .c (iC 0)), (3, .c (iC 0)), (11, .c (iC j)), (12, .c (iC (i : Nat)))] [(4, ⟨false, 1, 3, 47, lF (bmpV 6 5 30 d)⟩), (5, ⟨false, 1, 3, 47, lF (bmpV W H n e)⟩), (8, ⟨false, 1, 3, 47, lF [iC 0, iC 0, .p (.slice none 0 0)]⟩), (9, ⟨false, 1, 3, 47, lF [iC 6, iC 5, .ow 20]⟩), (20, rowBl 30 (pasK d W H e (j * 6 + i)))] [4, 5, 8, 9, 20]
   ) (fun i => i ≤ 6) (fun i => 6 - i) 0 (Nat.zero_le _) ?_ (fun i hi => ?_)
  ·refine Wk.mk [(4, some 4), (5, some 5), (8, some 8), (9, some 9), (20, some 20)] rfl rfl rfl ?_ ?_
   ·exact allT
   ·exact ⟨hSm, hSm, hSm, HeapOk.box rfl rfl ⟨LeC.int rfl, LeC.int rfl, LeC.ow _ _ rfl, trivial⟩ rfl, HeapOk.row rfl rfl rfl (fun i _ => cell1 ⟨rfl, rfl⟩), trivial⟩
  by_cases hil : i < 6
  ·have hil' : (i : Int) < 6 := by omega
   have g1 := Get_A 6 5 30 d i j ha
   have g2 := Get_A W H n e ((i : Int) - 0) ((j : Int) - 0) hb
   have hnew := pasK_new (d := d) (W := W) (H := H) (e := e) (j := j) hil
   have hlt : j * 6 + i < 30 := by omega
   cases h1 : hasB 6 5 d i j with
   | true =>
     rw [h1] at g1 hnew
     repeat (first
      | refine AWp.seq ?_
      | refine thenA_n ?_
      | refine AWp.block ?_
      | refine AWp.skip ?_
      | refine inBlk_n ?_
      | refine AWp.condT rfl cnT ?_
      | (refine rG 8 ?_
         refine kA ?_
         refine kD ?_
         refine kE ?_
         refine qr5t aK ?_
         refine aB ?_)
      | (refine rG 9 ?_
         refine kA ?_
         refine qr4w2 aL ?_
         refine kC ?_
         refine aB ?_)
      | (refine AWp.draw (id := 10) mixed ?_; refine kD ?_; refine kE ?_; refine kA ?_; refine kD ?_; refine kE ?_; refine qr4w2 AList.mul ?_; refine kA ?_; refine qr4w2 aL ?_; refine kF ?_; (iterate 2 refine kA ?_); refine aH rfl rfl rfl rfl Try.func61 rfl (by kernel_rfl) (g1) ?_; refine kA ?_; (iterate 8 refine qr2 aG ?_); refine qr4 aS ?_; refine qr10eo (AList.idxOw (k := j * 6 + i) tyOk) ?_; refine kI ?_; refine aB ⟨by kernel_rfl, ?_⟩))
     refine ⟨i + 1, hil, Wk.mk [(4, some 4), (5, some 5), (8, some 8), (9, some 9), (20, some 20)] rfl rfl rfl ?_ ?_, by omega⟩
     ·exact allT
     ·exact ⟨hSm, hSm, hSm, HeapOk.box rfl rfl ⟨LeC.int rfl, LeC.int rfl, LeC.ow _ _ rfl, trivial⟩ rfl, HeapOk.row rfl rfl rfl (set_oneB (e := true) (pasK d W H e (j * 6 + i + 1)) (by rw [hnew]; rfl) (fun k hk => pasK_old hk)), trivial⟩
   | false =>
     rw [h1] at g1 hnew
     generalize hasB W H e ((i : Int) - 0) ((j : Int) - 0) = v at g2 hnew
     repeat (first
      | refine AWp.seq ?_
      | refine thenA_n ?_
      | refine AWp.block ?_
      | refine AWp.skip ?_
      | refine inBlk_n ?_
      | refine AWp.condT rfl cnT ?_
      | (refine rG 8 ?_
         refine kA ?_
         refine kD ?_
         refine kE ?_
         refine qr5t aK ?_
         refine aB ?_)
      | (refine rG 9 ?_
         refine kA ?_
         refine qr4w2 aL ?_
         refine kC ?_
         refine aB ?_)
      | (refine AWp.draw (id := 10) mixed ?_; refine kD ?_; refine kE ?_; refine kA ?_; refine kD ?_; refine kE ?_; refine qr4w2 AList.mul ?_; refine kA ?_; refine qr4w2 aL ?_; refine kF ?_; (iterate 2 refine kA ?_); refine aH rfl rfl rfl rfl Try.func61 rfl (by kernel_rfl) (g1) ?_; refine kA ?_; refine kF ?_; (iterate 2 refine kA ?_); refine qr4w2 AList.sub ?_; (iterate 2 refine kA ?_); refine qr4w2 AList.sub ?_; refine aH rfl rfl rfl rfl Try.func61 rfl (by kernel_rfl) (g2) ?_; refine qr4 aR ?_; refine qr10eo (AList.idxOw (k := j * 6 + i) tyOk) ?_; refine kI ?_; refine aB ⟨by kernel_rfl, ?_⟩))
     refine ⟨i + 1, hil, Wk.mk [(4, some 4), (5, some 5), (8, some 8), (9, some 9), (20, some 20)] rfl rfl rfl ?_ ?_, by omega⟩
     ·exact allT
     ·exact ⟨hSm, hSm, hSm, HeapOk.box rfl rfl ⟨LeC.int rfl, LeC.int rfl, LeC.ow _ _ rfl, trivial⟩ rfl, HeapOk.row rfl rfl rfl (set_oneB (e := v) (pasK d W H e (j * 6 + i + 1)) (by rw [hnew]; rfl) (fun k hk => pasK_old hk)), trivial⟩
  ·have hil' : ¬ (i : Int) < 6 := by omega
   obtain rfl : i = 6 := by omega
   repeat (first
    | refine AWp.seq ?_
    | refine thenA_n ?_
    | refine AWp.exit ?_
    | refine thenA_e ?_
    | refine inBlk_n ?_
    | refine inBlk_hit ?_
    | refine AWp.condF rfl cnF ?_
    | (refine rG 6 ?_
       refine kA ?_
       refine qr4w2 aL ?_
       refine kC ?_
       refine aB ?_)
    | (refine rG 8 ?_
       refine kA ?_
       refine kD ?_
       refine kE ?_
       refine qr5f aJ ?_
       refine aB ?_))
   refine ⟨j + 1, hjl, Wk.mk [(4, some 4), (5, some 5), (8, some 8), (9, some 9), (20, some 20)] rfl rfl rfl ?_ ?_, by omega⟩
   ·exact allT
   ·exact ⟨hSm, hSm, hSm, HeapOk.box rfl rfl ⟨LeC.int rfl, LeC.int rfl, LeC.ow _ _ rfl, trivial⟩ rfl, HeapOk.row rfl rfl rfl (fun i _ => cell1 ⟨by rw [show (j + 1) * 6 = j * 6 + 6 by omega], rfl⟩), trivial⟩
 ·have hjl' : ¬ (j : Int) < 5 := by omega
  obtain rfl : j = 5 := by omega
  repeat (first
   | refine AWp.seq ?_
   | refine thenA_n ?_
   | refine AWp.exit ?_
   | refine AWp.ret ?_
   | refine AWp.condF rfl cnF ?_
   | (refine rG 5 ?_
      refine kA ?_
      refine kD ?_
      refine kE ?_
      refine qr5f aJ ?_
      refine aB ?_)
   | (refine rG 11 ?_
      refine kF ?_
      refine kI ?_
      refine aB ?_))
  refine ⟨mkSt 65 [(8, .c (.pt 8 3 0 0))] [(8, ⟨false, 1, 3, 47, lF (bmpV 6 5 30 (pasD d W H e))⟩)] [8], [(8, ⟨false, 1, 3, 47, lF (bmpV 6 5 30 (pasD d W H e))⟩)], Wk.mk [(8, some 8)] rfl rfl rfl ?_ ?_, rfl, rfl, ARets.one (x := .ag _) (ARes.box tyOk rfl rfl rfl rfl rfl rfl rfl)⟩
  ·exact allT
  ·exact ⟨HeapOk.box rfl rfl ⟨LeC.int rfl, LeC.int rfl, LeC.fz rfl rfl rfl (fun i hi => cell1 ⟨by show bC _ = bC _; unfold pasK; rw [if_pos (by omega)], rfl⟩), trivial⟩ rfl, trivial⟩
end Go.Proofs.Ytjjaehpkccejaaa
end
