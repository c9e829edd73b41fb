/- Parts of the proof: Made, A23l, A23n, A24i, A24j, A24k, A24p, A24s, A24t. -/
import Derived.Test.YtjjaehpkccejaaaG14
import Derived.Test.YtjjaehpkccejaaaProg
import Derived.Test.YtjjaehpkccejaaaHA28zpr01
import Derived.Test.YtjjaehpkccejaaaG10
import Derived.Test.YtjjaehpkccejaaaG01
import Derived.Lib.Hide
import Derived.Deep.QuietTactic
import Derived.BigQuiet
import Derived.Deep.DrawnRows
import Derived.StillTail
import Derived.Below
import Derived.Deep.Draws
import Derived.WalkKit
import Derived.KernelRfl
import Derived.Test.YtjjaehpkccejaaaG13
import Derived.Test.YtjjaehpkccejaaaHA28zpr02
import Derived.Deep.AppendLies
import Derived.Maps.AppendAt
import Derived.OwnWalk
import Derived.Test.YtjjaehpkccejaaaG07
import Derived.Test.YtjjaehpkccejaaaG09
import Derived.Laws.Cover3
import Derived.Test.YtjjaehpkccejaaaG06
import Derived.Laws.StructEq
import Derived.Test.YtjjaehpkccejaaaG05
import Derived.Test.YtjjaehpkccejaaaG04
import Derived.Great.BuildSlice
import Derived.Test.YtjjaehpkccejaaaG03
import Derived.Test.YtjjaehpkccejaaaG02
import Derived.RangeFuncLeaves
import Derived.RangeFuncRecord
import Derived.OrdersIn
import Derived.TacticsIn
import Derived.RangeFuncCalls
import Derived.Test.YtjjaehpkccejaaaG12
import Derived.Test.YtjjaehpkccejaaaG11
import Derived.Test.YtjjaehpkccejaaaG08
import Derived.Shelf.Abstract
import Derived.RangeFuncNested
import Derived.Test.YtjjaehpkccejaaaG16
import Derived.Test.YtjjaehpkccejaaaG15
import Derived.Test.YtjjaehpkccejaaaG18
import Derived.Test.YtjjaehpkccejaaaG17
import Derived.Test.YtjjaehpkccejaaaG19
import Derived.Scope
set_option linter.unusedSimpArgs false
set_option linter.unusedVariables false
section
namespace Go.Proofs.Ytjjaehpkccejaaa
open Go.RowKit Go.Flow
open Go.Proofs
attribute [local go_sem] block_add

section
variable {w wr w' : World} {gr gd go g : Nat} {A : Option Addr} {N c : Nat} {W H : Int} {n at_ : Nat}
theorem MI.set_ (h : MI w gr gd go g A N c W H n at_ wr) (h1 : w.heap.size ≤ gr) (h2 : gr < gd) (h3 : gd < g) (h4 : g < go) (i : Nat) (b : Bool) : MI w gr gd go g A N c W H n at_ (wr.setCell ⟨g, i, none⟩ (.bool b)) := by
 obtain ⟨F, hF⟩ := h.own
 refine ⟨h.res.far ?_ _, h.draw.far ?_ _, h.out.far ?_ _, ⟨fun k => if k = i then b else F k, (hF.set_ i (.bool b)).congr fun k _ => ?_⟩, h.ext.setCell ?_ _, h.le⟩ <;> try (simp; omega)
 by_cases e : k = i <;> simp [upd, e]
end

end Go.Proofs.Ytjjaehpkccejaaa
end

section
namespace Go.Proofs.Ytjjaehpkccejaaa
open Go.RowKit Go.Flow Go.AV Go.Plain
set_option maxRecDepth 100000 in
theorem Budget_A (N : Nat) (f : Nat → Int) (hN : N ≤ 4611686018427387904) : ACalls Try.prog 38 [.c (.ls N 1 (iF f))] (.ag (bgC (bgN N f))) := by
 have h1 := dat_le (N := N) (Nat.zero_le N)
 have h2 := dat_le (N := N) h1
 have h3 := dat_le (N := N) h2
 have n1 := Next_A N f 0 5 (Nat.zero_le N) hN (by omega) (by omega)
 have n2 := Next_A N f (dat N 0) 4 h1 hN (by omega) (by omega)
 have n3 := Next_A N f (dat N (dat N 0)) 2 h2 hN (by omega) (by omega)
 have n4 := Next_A N f (dat N (dat N (dat N 0))) 4 h3 hN (by omega) (by omega)
 refine acalls_at Try.func38 rfl rfl Try.ntmps38 rfl ?_
 repeat (first
  | refine AWp.seq ?_
  | refine thenA_n ?_
  | refine AWp.ret ?_
  | (refine rG 0 ?_
     refine qr5 (aM tyOk) ?_
     refine aB ?_)
  | (refine rG 1 ?_
     refine kA ?_
     refine qr8 (aX tyOk) ?_
     refine qr5 aQ ?_
     refine kC ?_
     refine aB ?_)
  | (refine rG 2 ?_
     refine kA ?_
     refine AList.callH [6] [drawB N f 0] [drawB N f (dat N 0)] rfl rfl rfl Try.func32 rfl (by kernel_rfl) (LendOk.box rfl rfl rfl trivial) rfl (LendImm.box rfl trivial) (n1) ?_
     refine kA ?_
     refine AList.callH [6] [drawB N f (dat N 0)] [drawB N f (dat N (dat N 0))] rfl rfl rfl Try.func32 rfl (by kernel_rfl) (LendOk.box rfl rfl rfl trivial) rfl (LendImm.box rfl trivial) (n2) ?_
     refine kA ?_
     refine AList.callH [6] [drawB N f (dat N (dat N 0))] [drawB N f (dat N (dat N (dat N 0)))] rfl rfl rfl Try.func32 rfl (by kernel_rfl) (LendOk.box rfl rfl rfl trivial) rfl (LendImm.box rfl trivial) (n3) ?_
     refine kA ?_
     refine AList.callH [6] [drawB N f (dat N (dat N (dat N 0)))] [drawB N f (dat N (dat N (dat N (dat N 0))))] rfl rfl rfl Try.func32 rfl (by kernel_rfl) (LendOk.box rfl rfl rfl trivial) rfl (LendImm.box rfl trivial) (n4) ?_
     refine qr8 (aX tyOk) ?_
     refine kI ?_
     refine aB ?_))
 refine ⟨mkSt 16 [(2, .c (.pt 2 4 0 0))] [(2, ⟨false, 1, 4, 42, lF (bgC (bgN N f))⟩)] [2], [(2, ⟨false, 1, 4, 42, lF (bgC (bgN N f))⟩)], Wk.mk [(2, some 2)] rfl rfl rfl ?_ ?_, rfl, rfl, ARets.one (x := .ag _) (ARes.box tyOk rfl rfl rfl rfl rfl rfl rfl)⟩
 ·exact allT
 ·exact allH
end Go.Proofs.Ytjjaehpkccejaaa
end

section
namespace Go.Proofs.Ytjjaehpkccejaaa
open Go.RowKit Go.Flow Go.AV Go.Plain
set_option maxHeartbeats 1000000 in
set_option maxRecDepth 100000 in
theorem Shifts_A (m : Nat) (hm : m ≤ 4) : ACalls Try.prog 89 [.c (iC m)] (.c (.ls (shL m).length 2 (rowF mvC mvZ (shL m)))) := by
 refine acalls_at Try.func89 rfl rfl Try.ntmps89 rfl ?_
 repeat (first
  | refine AWp.seq ?_
  | refine thenA_n ?_
  | refine AWp.block ?_
  | (refine rG 0 ?_
     refine kC ?_
     refine aB ?_)
  | (refine rG 1 ?_
     refine kC ?_
     refine aB ?_)
  | (refine rG 2 ?_
     refine kC ?_
     refine aB ?_))
 refine AWp.round (fun t : Nat × List (Int × Int) => mkSt 45 [(0, .c (iC m)), (3, .c (.ow 20)), (4, .c (iC t.1))] [(20, ⟨true, t.2.length, 2, 113, rowF mvC mvZ t.2⟩)] [20])
  (fun t => t.1 ≤ 2 * m + 1 ∧ t.2 = shS m t.1 ∧ t.2.length ≤ 81 * t.1) (fun t => 2 * m + 1 - t.1) (0, []) ⟨Nat.zero_le _, rfl, Nat.zero_le _⟩ ?_ (fun t ht => ?_)
 ·refine Wk.mk [(20, none)] rfl rfl rfl ?_ ?_
  ·exact allT
  ·exact allH
 ·obtain ⟨s, L⟩ := t
  obtain ⟨hs, hL, hl⟩ := ht
  dsimp only at hs hL hl
  dsimp only
  by_cases hlts : s < 2 * m + 1
  ·repeat (first
    | refine AWp.seq ?_
    | refine thenA_n ?_
    | refine AWp.block ?_
    | refine AWp.skip ?_
    | refine AWp.condT rfl cnT ?_
    | (refine rG 3 ?_
       (iterate 2 refine kA ?_)
       refine qr4w2 AList.mul ?_
       refine qr5t aK ?_
       refine aB ?_)
    | (refine rG 5 ?_
       refine kA ?_
       refine qr3w2 AList.neg ?_
       refine kC ?_
       refine aB ?_))
   refine AWp.round (fun t : Nat × List (Int × Int) => mkSt 45 [(0, .c (iC m)), (3, .c (.ow 20)), (4, .c (iC s)), (5, .c (iC ((t.1 : Int) - m)))] [(20, ⟨true, t.2.length, 2, 113, rowF mvC mvZ t.2⟩)] [20])
    (fun t => t.1 ≤ 2 * m + 1 ∧ t.2 = shS m s ++ shM m s t.1 ∧ t.2.length ≤ 81 * s + 9 * t.1) (fun t => 2 * m + 1 - t.1) (0, L) ⟨Nat.zero_le _, by rw [hL]; exact (List.append_nil _).symm, by dsimp only; omega⟩ ?_ (fun t ht => ?_)
   ·refine Wk.mk [(20, some 20)] rfl rfl rfl ?_ ?_
    ·exact allT
    ·exact allH
   ·obtain ⟨i, L2⟩ := t
    obtain ⟨hi, hL2, hl2⟩ := ht
    dsimp only at hi hL2 hl2
    dsimp only
    by_cases hlti : i < 2 * m + 1
    ·repeat (first
      | refine AWp.seq ?_
      | refine thenA_n ?_
      | refine AWp.block ?_
      | refine AWp.skip ?_
      | refine AWp.condT rfl cnT ?_
      | (refine rG 6 ?_
         (iterate 2 refine kA ?_)
         refine qr5t aK ?_
         refine aB ?_)
      | (refine rG 8 ?_
         refine kA ?_
         refine qr3w2 AList.neg ?_
         refine kC ?_
         refine aB ?_))
     refine AWp.round (fun t : Nat × List (Int × Int) => mkSt 45 [(0, .c (iC m)), (3, .c (.ow 20)), (4, .c (iC s)), (5, .c (iC ((i : Int) - m))), (6, .c (iC ((t.1 : Int) - m)))] [(20, ⟨true, t.2.length, 2, 113, rowF mvC mvZ t.2⟩)] [20])
      (fun t => t.1 ≤ 2 * m + 1 ∧ t.2 = (shS m s ++ shM m s i) ++ shJ m s i t.1 ∧ t.2.length ≤ 81 * s + 9 * i + t.1) (fun t => 2 * m + 1 - t.1) (0, L2) ⟨Nat.zero_le _, by rw [hL2]; exact (List.append_nil _).symm, by dsimp only; omega⟩ ?_ (fun t ht => ?_)
     ·refine Wk.mk [(20, some 20)] rfl rfl rfl ?_ ?_
      ·exact allT
      ·exact allH
     ·obtain ⟨j, L3⟩ := t
      obtain ⟨hj, hL3, hl3⟩ := ht
      dsimp only at hj hL3 hl3
      dsimp only
      by_cases hltj : j < 2 * m + 1
      ·have hsu : shJ m s i (j + 1) = shJ m s i j ++ if shB m s i j then [((j : Int) - m, (i : Int) - m)] else [] := flat_succ _ _
       by_cases hb : max ((j : Int) - m) (-((j : Int) - m)) + max ((i : Int) - m) (-((i : Int) - m)) = (s : Int)
       ·rw [show shB m s i j = true from decide_eq_true hb, if_pos rfl] at hsu
        have hlen : (L3 ++ [((j : Int) - m, (i : Int) - m)]).length = L3.length + 1 := by simp
        repeat (first
         | refine AWp.seq ?_
         | refine thenA_n ?_
         | refine AWp.block ?_
         | refine AWp.skip ?_
         | refine inBlk_n ?_
         | refine AWp.condT rfl cnT ?_
         | (refine rG 9 ?_
            (iterate 2 refine kA ?_)
            refine qr5t aK ?_
            refine aB ?_)
         | (refine rG 10 ?_
            refine kA ?_
            refine qr4w2 aL ?_
            refine kC ?_
            refine aB ?_)
         | (refine rG 11 ?_
            (iterate 2 refine kA ?_)
            refine qr3w2 AList.neg ?_
            refine qr4 AList.maxI ?_
            (iterate 2 refine kA ?_)
            refine qr3w2 AList.neg ?_
            refine qr4 AList.maxI ?_
            refine qr4w2 aL ?_
            refine kA ?_
            refine qr5t aK ?_
            refine aB ?_)
         | (refine rG 12 ?_
            (iterate 3 refine kA ?_)
            refine qr8 (aX tyOk) ?_
            refine qr11 (AList.litSl tyOk) ?_
            refine AList.appL tyOk rfl rfl rfl rfl rfl rfl rfl rfl rfl rfl oM oM ?_
            refine kC ?_
            refine aB ?_))
        refine ⟨(j + 1, L3 ++ [((j : Int) - m, (i : Int) - m)]), ⟨by dsimp only; omega, by rw [hL3, hsu, List.append_assoc], by rw [hlen]; omega⟩, Wk.mk [(20, some 43)] rfl rfl rfl ?_ ?_, by dsimp only; omega⟩
        ·exact allT
        ·exact ⟨HeapOk.row rfl rfl hlen (row_snoc L3 ((j : Int) - m, (i : Int) - m) mvC_imm rfl), trivial⟩
       ·rw [show shB m s i j = false from decide_eq_false hb, if_neg (by decide), List.append_nil] at hsu
        repeat (first
         | refine AWp.seq ?_
         | refine thenA_n ?_
         | refine AWp.block ?_
         | refine AWp.skip ?_
         | refine inBlk_n ?_
         | refine AWp.condT rfl cnT ?_
         | refine AWp.condF rfl cnF ?_
         | (refine rG 9 ?_
            (iterate 2 refine kA ?_)
            refine qr5t aK ?_
            refine aB ?_)
         | (refine rG 10 ?_
            refine kA ?_
            refine qr4w2 aL ?_
            refine kC ?_
            refine aB ?_)
         | (refine rG 11 ?_
            (iterate 2 refine kA ?_)
            refine qr3w2 AList.neg ?_
            refine qr4 AList.maxI ?_
            (iterate 2 refine kA ?_)
            refine qr3w2 AList.neg ?_
            refine qr4 AList.maxI ?_
            refine qr4w2 aL ?_
            refine kA ?_
            refine qr5f aJ ?_
            refine aB ?_))
        refine ⟨(j + 1, L3), ⟨by dsimp only; omega, by rw [hL3, hsu], by dsimp only; omega⟩, Wk.mk [(20, some 20)] rfl rfl rfl ?_ ?_, by dsimp only; omega⟩
        ·exact allT
        ·exact allH
      ·obtain rfl : j = 2 * m + 1 := by omega
       have hsu : shM m s (i + 1) = shM m s i ++ shJ m s i (2 * m + 1) := flat_succ _ _
       repeat (first
        | refine AWp.seq ?_
        | refine thenA_n ?_
        | refine AWp.exit ?_
        | refine thenA_e ?_
        | refine inBlk_n ?_
        | refine inBlk_hit ?_
        | refine AWp.condF rfl cnF ?_
        | (refine rG 7 ?_
           refine kA ?_
           refine qr4w2 aL ?_
           refine kC ?_
           refine aB ?_)
        | (refine rG 9 ?_
           (iterate 2 refine kA ?_)
           refine qr5f aJ ?_
           refine aB ?_))
       refine ⟨(i + 1, L3), ⟨by dsimp only; omega, by rw [hL3, hsu, List.append_assoc], by dsimp only; omega⟩, Wk.mk [(20, some 20)] rfl rfl rfl ?_ ?_, by dsimp only; omega⟩
       ·exact allT
       ·exact allH
    ·obtain rfl : i = 2 * m + 1 := by omega
     have hsu : shS m (s + 1) = shS m s ++ shM m s (2 * m + 1) := flat_succ _ _
     repeat (first
      | refine AWp.seq ?_
      | refine thenA_n ?_
      | refine AWp.exit ?_
      | refine thenA_e ?_
      | refine inBlk_n ?_
      | refine inBlk_hit ?_
      | refine AWp.condF rfl cnF ?_
      | (refine rG 4 ?_
         refine kA ?_
         refine qr4w2 aL ?_
         refine kC ?_
         refine aB ?_)
      | (refine rG 6 ?_
         (iterate 2 refine kA ?_)
         refine qr5f aJ ?_
         refine aB ?_))
     refine ⟨(s + 1, L2), ⟨by dsimp only; omega, by rw [hL2, hsu], by dsimp only; omega⟩, Wk.mk [(20, some 20)] rfl rfl rfl ?_ ?_, by dsimp only; omega⟩
     ·exact allT
     ·exact allH
  ·obtain rfl : s = 2 * m + 1 := by omega
   subst hL
   repeat (first
    | refine AWp.seq ?_
    | refine thenA_n ?_
    | refine AWp.exit ?_
    | refine AWp.ret ?_
    | refine AWp.condF rfl cnF ?_
    | (refine rG 3 ?_
       (iterate 2 refine kA ?_)
       refine qr4w2 AList.mul ?_
       refine qr5f aJ ?_
       refine aB ?_)
    | (refine rG 13 ?_
       refine kA ?_
       refine kC ?_
       refine aB ?_))
   refine ⟨mkSt 45 [(2, .c (.ls (shL m).length 2 (rowF mvC mvZ (shL m))))] [] [], [], Wk.mk [] rfl rfl rfl ?_ trivial, rfl, rfl, ARets.one (x := .c _) (ARes.tmp rfl rfl)⟩
   unfold shL
   exact allT
end Go.Proofs.Ytjjaehpkccejaaa
end

section
namespace Go.Proofs.Ytjjaehpkccejaaa
open Go.RowKit Go.Flow Go.AV Go.Plain Go.AV.Srt
set_option maxRecDepth 100000 in
theorem rlim24_A (x : Bg) : ACalls Try.prog 84 [.ag (bgC x)] (.ag (bgC (lim4 x))) := by
 have h := rlim_A x
 refine acalls_at Try.func84 rfl rfl Try.ntmps84 rfl ?_
 repeat (first
  | refine AWp.seq ?_
  | refine thenA_n ?_
  | refine AWp.ret ?_
  | (refine rG 0 ?_
     refine qr5 aQ ?_
     refine qr5 (aM tyOk) ?_
     refine aB ?_)
  | (refine rG 1 ?_
     refine kF ?_
     refine aH rfl rfl rfl rfl Try.func90 rfl (by kernel_rfl) (h) ?_
     refine kI ?_
     refine aB ?_))
 refine ⟨mkSt 5 [(2, .c (.pt 2 4 0 0))] [(2, ⟨false, 1, 4, 42, lF (bgC (lim4 x))⟩)] [2], [(2, ⟨false, 1, 4, 42, lF (bgC (lim4 x))⟩)], Wk.mk [(2, some 2)] rfl rfl rfl ?_ ?_, rfl, rfl, ARets.one (x := .ag _) (ARes.box tyOk rfl rfl rfl rfl rfl rfl rfl)⟩
 ·exact allT
 ·exact allH
set_option maxRecDepth 100000 in
theorem rShifts_A (x y : Bg) : ACalls Try.prog 82 [.ag (bgC x), .ag (bgC y)] (.c (.ls (shL (shN x y)).length 2 (rowF mvC mvZ (shL (shN x y))))) := by
 obtain ⟨e, hm⟩ := shN_eq x y
 have h1 := rlim24_A x
 have h2 := rlim24_A y
 have h3 := Shifts_A (shN x y) hm
 rw [e] at h3
 have b1 := lim_bds x
 have b2 := lim_bds y
 generalize shN x y = m at *
 refine acalls_at Try.func82 rfl rfl Try.ntmps82 rfl ?_
 repeat (first
  | refine AWp.seq ?_
  | refine thenA_n ?_
  | refine AWp.ret ?_
  | (refine rG 0 ?_
     (iterate 2 refine qr5 aQ ?_)
     refine kC ?_
     refine aB ?_)
  | (refine AWp.draw (id := 1) mixed ?_; refine kF ?_; refine aH rfl rfl rfl rfl Try.func84 rfl (by kernel_rfl) (h1) ?_; refine AList.field1 tyOk rfl rfl rfl Try.underlying42 rfl rfl rfl rfl ?_; refine kF ?_; refine aH rfl rfl rfl rfl Try.func84 rfl (by kernel_rfl) (h2) ?_; refine AList.field1 tyOk rfl rfl rfl Try.underlying42 rfl rfl rfl rfl ?_; refine qr4w2 aL ?_; refine aH rfl rfl rfl rfl Try.func89 rfl (by kernel_rfl) (h3) ?_; refine kC ?_; refine aB ⟨by kernel_rfl, ?_⟩))
 refine ⟨mkSt 13 [(4, .c (.ls (shL m).length 2 (rowF mvC mvZ (shL m))))] [] [], [], Wk.mk [] rfl rfl rfl ?_ trivial, rfl, rfl, ARets.one (x := .c _) (ARes.tmp rfl rfl)⟩
 exact allT
end Go.Proofs.Ytjjaehpkccejaaa
end

section
namespace Go.Proofs.Ytjjaehpkccejaaa
open Go.RowKit Go.Flow Go.AV Go.Plain
set_option maxRecDepth 100000 in
theorem Comparable_A (a b : Bp) : ACalls Try.prog 65 [.ag (bpC a), .ag (bpC b)] (.c (bC (decide (cmpOk a b)))) := by
 have h1 := rbCheck_A a.W a.H a.n a.d
 have h2 := rbCheck_A b.W b.H b.n b.d
 by_cases c1 : chk a.W a.H a.n = 0
 ·by_cases c2 : chk b.W b.H b.n = 0
  ·by_cases c3 : a.W = b.W
   ·by_cases c4 : a.H = b.H
    ·rw [show decide (cmpOk a b) = true from decide_eq_true ⟨c1, c2, c3, c4⟩]
     refine acalls_at Try.func65 rfl rfl Try.ntmps65 rfl ?_
     repeat (first
      | refine AWp.seq ?_
      | refine thenA_n ?_
      | refine AWp.ret ?_
      | (refine rG 0 ?_
         (iterate 2 refine qr5 aQ ?_)
         refine kC ?_
         refine aB ?_)
      | (refine rG 1 ?_
         refine kF ?_
         refine aH rfl rfl rfl rfl Try.func44 rfl (by kernel_rfl) (h1) ?_
         refine qr5t aK ?_
         refine kA ?_
         refine kF ?_
         refine aH rfl rfl rfl rfl Try.func44 rfl (by kernel_rfl) (h2) ?_
         refine qr5t aK ?_
         refine qr4 aS ?_
         refine kA ?_
         refine kD ?_
         refine kE ?_
         refine kD ?_
         refine kE ?_
         refine qr5t aK ?_
         refine qr4 aS ?_
         refine kA ?_
         refine kD ?_
         refine kE ?_
         refine kD ?_
         refine kE ?_
         refine qr5t aK ?_
         refine qr4 aS ?_
         refine kC ?_
         refine aB ?_))
     refine ⟨mkSt 27 [(4, .c (bC true))] [] [], [], Wk.mk [] rfl rfl rfl ?_ trivial, rfl, rfl, ARets.one (x := .c _) (ARes.tmp rfl rfl)⟩
     exact allT
    ·rw [show decide (cmpOk a b) = false from decide_eq_false fun h => c4 h.2.2.2]
     refine acalls_at Try.func65 rfl rfl Try.ntmps65 rfl ?_
     repeat (first
      | refine AWp.seq ?_
      | refine thenA_n ?_
      | refine AWp.ret ?_
      | (refine rG 0 ?_
         (iterate 2 refine qr5 aQ ?_)
         refine kC ?_
         refine aB ?_)
      | (refine rG 1 ?_
         refine kF ?_
         refine aH rfl rfl rfl rfl Try.func44 rfl (by kernel_rfl) (h1) ?_
         refine qr5t aK ?_
         refine kA ?_
         refine kF ?_
         refine aH rfl rfl rfl rfl Try.func44 rfl (by kernel_rfl) (h2) ?_
         refine qr5t aK ?_
         refine qr4 aS ?_
         refine kA ?_
         refine kD ?_
         refine kE ?_
         refine kD ?_
         refine kE ?_
         refine qr5t aK ?_
         refine qr4 aS ?_
         refine kA ?_
         refine kD ?_
         refine kE ?_
         refine kD ?_
         refine kE ?_
         refine qr5f aJ ?_
         refine qr4 aS ?_
         refine kC ?_
         refine aB ?_))
     refine ⟨mkSt 27 [(4, .c (bC false))] [] [], [], Wk.mk [] rfl rfl rfl ?_ trivial, rfl, rfl, ARets.one (x := .c _) (ARes.tmp rfl rfl)⟩
     exact allT
   ·rw [show decide (cmpOk a b) = false from decide_eq_false fun h => c3 h.2.2.1]
    refine acalls_at Try.func65 rfl rfl Try.ntmps65 rfl ?_
    repeat (first
     | refine AWp.seq ?_
     | refine thenA_n ?_
     | refine AWp.ret ?_
     | (refine rG 0 ?_
        (iterate 2 refine qr5 aQ ?_)
        refine kC ?_
        refine aB ?_)
     | (refine rG 1 ?_
        refine kF ?_
        refine aH rfl rfl rfl rfl Try.func44 rfl (by kernel_rfl) (h1) ?_
        refine qr5t aK ?_
        refine kA ?_
        refine kF ?_
        refine aH rfl rfl rfl rfl Try.func44 rfl (by kernel_rfl) (h2) ?_
        refine qr5t aK ?_
        refine qr4 aS ?_
        refine kA ?_
        refine kD ?_
        refine kE ?_
        refine kD ?_
        refine kE ?_
        refine qr5f aJ ?_
        refine qr4 aS ?_
        refine kA ?_
        (iterate 5 refine qr2 aG ?_)
        refine qr4 aR ?_
        refine kC ?_
        refine aB ?_))
    refine ⟨mkSt 27 [(4, .c (bC false))] [] [], [], Wk.mk [] rfl rfl rfl ?_ trivial, rfl, rfl, ARets.one (x := .c _) (ARes.tmp rfl rfl)⟩
    exact allT
  ·rw [show decide (cmpOk a b) = false from decide_eq_false fun h => c2 h.2.1]
   refine acalls_at Try.func65 rfl rfl Try.ntmps65 rfl ?_
   repeat (first
    | refine AWp.seq ?_
    | refine thenA_n ?_
    | refine AWp.ret ?_
    | (refine rG 0 ?_
       (iterate 2 refine qr5 aQ ?_)
       refine kC ?_
       refine aB ?_)
    | (refine rG 1 ?_
       refine kF ?_
       refine aH rfl rfl rfl rfl Try.func44 rfl (by kernel_rfl) (h1) ?_
       refine qr5t aK ?_
       refine kA ?_
       refine kF ?_
       refine aH rfl rfl rfl rfl Try.func44 rfl (by kernel_rfl) (h2) ?_
       refine qr5f aJ ?_
       refine qr4 aS ?_
       refine kA ?_
       (iterate 5 refine qr2 aG ?_)
       refine qr4 aR ?_
       refine kA ?_
       (iterate 5 refine qr2 aG ?_)
       refine qr4 aR ?_
       refine kC ?_
       refine aB ?_))
   refine ⟨mkSt 27 [(4, .c (bC false))] [] [], [], Wk.mk [] rfl rfl rfl ?_ trivial, rfl, rfl, ARets.one (x := .c _) (ARes.tmp rfl rfl)⟩
   exact allT
 ·rw [show decide (cmpOk a b) = false from decide_eq_false fun h => c1 h.1]
  refine acalls_at Try.func65 rfl rfl Try.ntmps65 rfl ?_
  repeat (first
   | refine AWp.seq ?_
   | refine thenA_n ?_
   | refine AWp.ret ?_
   | (refine rG 0 ?_
      (iterate 2 refine qr5 aQ ?_)
      refine kC ?_
      refine aB ?_)
   | (refine rG 1 ?_
      refine kF ?_
      refine aH rfl rfl rfl rfl Try.func44 rfl (by kernel_rfl) (h1) ?_
      refine qr5f aJ ?_
      refine kA ?_
      (iterate 3 refine qr2 aG ?_)
      refine qr4 aR ?_
      refine kA ?_
      (iterate 5 refine qr2 aG ?_)
      refine qr4 aR ?_
      refine kA ?_
      (iterate 5 refine qr2 aG ?_)
      refine qr4 aR ?_
      refine kC ?_
      refine aB ?_))
  refine ⟨mkSt 27 [(4, .c (bC false))] [] [], [], Wk.mk [] rfl rfl rfl ?_ trivial, rfl, rfl, ARets.one (x := .c _) (ARes.tmp rfl rfl)⟩
  exact allT
set_option maxHeartbeats 2000000 in
set_option maxRecDepth 100000 in
theorem Only_A (a b : Bp) (dx dy fr ti : Int) (ha : chk a.W a.H a.n = 0) (hb : chk b.W b.H b.n = 0) (hx : -1000 ≤ dx ∧ dx ≤ 1000) (hy : -1000 ≤ dy ∧ dy ≤ 1000) :
 ACalls Try.prog 91 [.ag (bpC a), .ag (bpC b), .c (iC dx), .c (iC dy), .c (iC fr), .c (iC ti)] (.c (iC (onlyN a b dx dy fr ti))) := by
 have hC := rbCheck_A a.W a.H a.n a.d
 rw [ha] at hC
 obtain ⟨hw0, hw1, hh0, hh1, hn⟩ := okB ha
 obtain ⟨Wn, hWn⟩ := Int.eq_ofNat_of_zero_le hw0
 obtain ⟨Hn, hHn⟩ := Int.eq_ofNat_of_zero_le hh0
 have hon : onlyN a b dx dy fr ti = sumTo (fun j => cnt (onB a b dx dy fr ti j) Wn) Hn := by unfold onlyN; rw [hWn, hHn]; rfl
 rw [hon]
 have hsb : ∀ m, m ≤ Hn → 0 ≤ sumTo (fun j => cnt (onB a b dx dy fr ti j) Wn) m ∧ sumTo (fun j => cnt (onB a b dx dy fr ti j) Wn) m ≤ 96 * m := fun m hm => by
  refine ⟨sumTo_nonneg fun k _ => Go.Plain.cnt_nonneg _ _, ?_⟩
  induction m with
  | zero => exact Int.le_refl _
  | succ m ih =>
    have h1 := ih (by omega)
    have h2 := cnt_le (onB a b dx dy fr ti m) Wn
    show sumTo _ m + cnt _ Wn ≤ _
    omega
 rw [show bpC a = bmpV Wn Hn a.n a.d by show bmpV a.W a.H a.n a.d = _; rw [hWn, hHn]]
 have hG : ∀ i j : Int, ACalls Try.prog 61 [.ag (bmpV Wn Hn a.n a.d), .c (iC i), .c (iC j)] (.c (bC (hasB a.W a.H a.d i j))) := fun i j => by
  have := Get_A a.W a.H a.n a.d i j ha
  rw [hWn, hHn] at this ⊢
  exact this
 rw [show bmpV a.W a.H a.n a.d = bmpV Wn Hn a.n a.d by rw [hWn, hHn]] at hC
 have hW : (Wn : Int) ≤ 96 := by omega
 have hH : (Hn : Int) ≤ 96 := by omega
 refine acalls_at Try.func91 rfl rfl Try.ntmps91 rfl ?_
 repeat (first
  | refine AWp.seq ?_
  | refine thenA_n ?_
  | refine AWp.block ?_
  | (refine rG 0 ?_
     (iterate 2 refine qr5 aQ ?_)
     refine kC ?_
     refine aB ?_)
  | (refine rG 1 ?_
     refine kC ?_
     refine aB ?_)
  | (refine rG 2 ?_
     refine kC ?_
     refine aB ?_))
 refine AWp.round (fun j : Nat => mkSt 61 [(2, .c (iC dx)), (3, .c (iC dy)), (4, .c (iC fr)), (5, .c (iC ti)), (6, .c (.pt 6 3 0 0)), (7, .c (.pt 7 3 0 0)), (13, .c (iC (sumTo (fun j => cnt (onB a b dx dy fr ti j) Wn) j))), (14, .c (iC j))] [(6, ⟨false, 1, 3, 47, lF (bmpV Wn Hn a.n a.d)⟩), (7, ⟨false, 1, 3, 47, lF (bpC b)⟩)] [6, 7])
  (fun j => j ≤ Hn) (fun j => Hn - j) 0 (Nat.zero_le _) ?_ (fun j hj => ?_)
 ·refine Wk.mk [(6, some 6), (7, some 7)] rfl rfl rfl ?_ ?_
  ·exact allT
  ·exact allH
 ·by_cases hjl : j < Hn
  ·obtain ⟨s, hs⟩ : ∃ s, sumTo (fun j => cnt (onB a b dx dy fr ti j) Wn) j = s := ⟨_, rfl⟩
   have hs1 := hsb j hj
   rw [hs] at hs1
   have hsu : sumTo (fun j => cnt (onB a b dx dy fr ti j) Wn) (j + 1) = s + cnt (onB a b dx dy fr ti j) Wn := by rw [← hs]; rfl
   rw [hs]
   repeat (first
    | refine AWp.seq ?_
    | refine thenA_n ?_
    | refine AWp.block ?_
    | refine AWp.skip ?_
    | refine AWp.condT rfl cnT ?_
    | (refine rG 3 ?_
       refine kF ?_
       refine aH rfl rfl rfl rfl Try.func44 rfl (by kernel_rfl) (hC) ?_
       refine qr5 aW ?_
       (iterate 2 refine kA ?_)
       refine kD ?_
       refine kE ?_
       refine qr5t aK ?_
       refine qr4 aS ?_
       refine aB ?_)
    | (refine rG 5 ?_
       refine kC ?_
       refine aB ?_))
   refine AWp.round (fun i : Nat => mkSt 61 [(2, .c (iC dx)), (3, .c (iC dy)), (4, .c (iC fr)), (5, .c (iC ti)), (6, .c (.pt 6 3 0 0)), (7, .c (.pt 7 3 0 0)), (13, .c (iC (s + cnt (onB a b dx dy fr ti j) i))), (14, .c (iC j)), (15, .c (iC i))] [(6, ⟨false, 1, 3, 47, lF (bmpV Wn Hn a.n a.d)⟩), (7, ⟨false, 1, 3, 47, lF (bpC b)⟩)] [6, 7])
    (fun i => i ≤ Wn) (fun i => Wn - i) 0 (Nat.zero_le _) ?_ (fun i hi => ?_)
   ·refine Wk.mk [(6, some 6), (7, some 7)] rfl rfl rfl ?_ ?_
    ·rw [cnt_zero]
     exact allT
    ·exact allH
   ·obtain ⟨c, hc⟩ : ∃ c, cnt (onB a b dx dy fr ti j) i = c := ⟨_, rfl⟩
    have hcb : 0 ≤ c ∧ c ≤ i := by rw [← hc]; exact ⟨Go.Plain.cnt_nonneg _ _, cnt_le _ _⟩
    have hcs : cnt (onB a b dx dy fr ti j) (i + 1) = c + if onB a b dx dy fr ti j i then 1 else 0 := by rw [← hc]; exact cnt_succ _ _
    rw [hc]
    have hGa := hG i j
    have hGb := Get_A b.W b.H b.n b.d ((i : Int) - dx) ((j : Int) - dy) hb
    by_cases hil : i < Wn
    ·cases g1 : hasB a.W a.H a.d i j with
     | false =>
       rw [g1] at hGa
       rw [show onB a b dx dy fr ti j i = false by unfold onB; rw [g1]; rfl, if_neg (by decide)] at hcs
       repeat (first
        | refine AWp.seq ?_
        | refine thenA_n ?_
        | refine AWp.block ?_
        | refine AWp.skip ?_
        | refine inBlk_n ?_
        | refine AWp.condT rfl cnT ?_
        | refine AWp.condF rfl cnF ?_
        | (refine rG 6 ?_
           refine kA ?_
           refine kD ?_
           refine kE ?_
           refine qr5t aK ?_
           refine aB ?_)
        | (refine rG 7 ?_
           refine kA ?_
           refine qr4w2 aL ?_
           refine kC ?_
           refine aB ?_)
        | (refine rG 8 ?_
           refine kF ?_
           (iterate 2 refine kA ?_)
           refine aH rfl rfl rfl rfl Try.func61 rfl (by kernel_rfl) (hGa) ?_
           refine kA ?_
           (iterate 8 refine qr2 aG ?_)
           refine qr4 aR ?_
           refine kA ?_
           (iterate 9 refine qr2 aG ?_)
           refine qr4 aR ?_
           refine aB ?_))
       refine ⟨i + 1, hil, Wk.mk [(6, some 6), (7, some 7)] rfl rfl rfl ?_ ?_, by omega⟩
       ·rw [hcs]
        exact allT
       ·exact allH
     | true =>
       rw [g1] at hGa
       by_cases g2 : (i : Int) < fr
       ·cases g4 : hasB b.W b.H b.d ((i : Int) - dx) ((j : Int) - dy) with
        | false =>
          rw [g4] at hGb
          rw [show onB a b dx dy fr ti j i = true by unfold onB; rw [g1, g4, decide_eq_true g2]; rfl, if_pos rfl] at hcs
          repeat (first
           | refine AWp.seq ?_
           | refine thenA_n ?_
           | refine AWp.block ?_
           | refine AWp.skip ?_
           | refine inBlk_n ?_
           | refine AWp.condT rfl cnT ?_
           | (refine rG 6 ?_
              refine kA ?_
              refine kD ?_
              refine kE ?_
              refine qr5t aK ?_
              refine aB ?_)
           | (refine rG 7 ?_
              refine kA ?_
              refine qr4w2 aL ?_
              refine kC ?_
              refine aB ?_)
           | (refine rG 8 ?_
              refine kF ?_
              (iterate 2 refine kA ?_)
              refine aH rfl rfl rfl rfl Try.func61 rfl (by kernel_rfl) (hGa) ?_
              (iterate 3 refine kA ?_)
              refine qr5t aK ?_
              refine kA ?_
              (iterate 3 refine qr2 aG ?_)
              (iterate 2 refine qr4 aS ?_)
              refine kA ?_
              refine kF ?_
              (iterate 2 refine kA ?_)
              refine qr4w2 AList.sub ?_
              (iterate 2 refine kA ?_)
              refine qr4w2 AList.sub ?_
              refine aH rfl rfl rfl rfl Try.func61 rfl (by kernel_rfl) (hGb) ?_
              refine qr3 AList.notB ?_
              refine qr4 aS ?_
              refine aB ?_)
           | (refine rG 9 ?_
              refine kA ?_
              refine qr4w2 aL ?_
              refine kC ?_
              refine aB ?_))
          refine ⟨i + 1, hil, Wk.mk [(6, some 6), (7, some 7)] rfl rfl rfl ?_ ?_, by omega⟩
          ·rw [hcs]
           exact allT
          ·exact allH
        | true =>
          rw [g4] at hGb
          rw [show onB a b dx dy fr ti j i = false by unfold onB; rw [g1, g4]; simp, if_neg (by decide)] at hcs
          repeat (first
           | refine AWp.seq ?_
           | refine thenA_n ?_
           | refine AWp.block ?_
           | refine AWp.skip ?_
           | refine inBlk_n ?_
           | refine AWp.condT rfl cnT ?_
           | refine AWp.condF rfl cnF ?_
           | (refine rG 6 ?_
              refine kA ?_
              refine kD ?_
              refine kE ?_
              refine qr5t aK ?_
              refine aB ?_)
           | (refine rG 7 ?_
              refine kA ?_
              refine qr4w2 aL ?_
              refine kC ?_
              refine aB ?_)
           | (refine rG 8 ?_
              refine kF ?_
              (iterate 2 refine kA ?_)
              refine aH rfl rfl rfl rfl Try.func61 rfl (by kernel_rfl) (hGa) ?_
              (iterate 3 refine kA ?_)
              refine qr5t aK ?_
              refine kA ?_
              (iterate 3 refine qr2 aG ?_)
              (iterate 2 refine qr4 aS ?_)
              refine kA ?_
              refine kF ?_
              (iterate 2 refine kA ?_)
              refine qr4w2 AList.sub ?_
              (iterate 2 refine kA ?_)
              refine qr4w2 AList.sub ?_
              refine aH rfl rfl rfl rfl Try.func61 rfl (by kernel_rfl) (hGb) ?_
              refine qr3 AList.notB ?_
              refine qr4 aS ?_
              refine aB ?_))
          refine ⟨i + 1, hil, Wk.mk [(6, some 6), (7, some 7)] rfl rfl rfl ?_ ?_, by omega⟩
          ·rw [hcs]
           exact allT
          ·exact allH
       ·by_cases g3 : ti ≤ (i : Int)
        ·cases g4 : hasB b.W b.H b.d ((i : Int) - dx) ((j : Int) - dy) with
         | false =>
           rw [g4] at hGb
           rw [show onB a b dx dy fr ti j i = true by unfold onB; rw [g1, g4, decide_eq_true g3, Bool.or_true]; rfl, if_pos rfl] at hcs
           repeat (first
            | refine AWp.seq ?_
            | refine thenA_n ?_
            | refine AWp.block ?_
            | refine AWp.skip ?_
            | refine inBlk_n ?_
            | refine AWp.condT rfl cnT ?_
            | (refine rG 6 ?_
               refine kA ?_
               refine kD ?_
               refine kE ?_
               refine qr5t aK ?_
               refine aB ?_)
            | (refine rG 7 ?_
               refine kA ?_
               refine qr4w2 aL ?_
               refine kC ?_
               refine aB ?_)
            | (refine rG 8 ?_
               refine kF ?_
               (iterate 2 refine kA ?_)
               refine aH rfl rfl rfl rfl Try.func61 rfl (by kernel_rfl) (hGa) ?_
               (iterate 3 refine kA ?_)
               refine qr5f aJ ?_
               (iterate 3 refine kA ?_)
               refine qr5t aK ?_
               refine qr4 aR ?_
               refine qr4 aS ?_
               refine kA ?_
               refine kF ?_
               (iterate 2 refine kA ?_)
               refine qr4w2 AList.sub ?_
               (iterate 2 refine kA ?_)
               refine qr4w2 AList.sub ?_
               refine aH rfl rfl rfl rfl Try.func61 rfl (by kernel_rfl) (hGb) ?_
               refine qr3 AList.notB ?_
               refine qr4 aS ?_
               refine aB ?_)
            | (refine rG 9 ?_
               refine kA ?_
               refine qr4w2 aL ?_
               refine kC ?_
               refine aB ?_))
           refine ⟨i + 1, hil, Wk.mk [(6, some 6), (7, some 7)] rfl rfl rfl ?_ ?_, by omega⟩
           ·rw [hcs]
            exact allT
           ·exact allH
         | true =>
           rw [g4] at hGb
           rw [show onB a b dx dy fr ti j i = false by unfold onB; rw [g1, g4]; simp, if_neg (by decide)] at hcs
           repeat (first
            | refine AWp.seq ?_
            | refine thenA_n ?_
            | refine AWp.block ?_
            | refine AWp.skip ?_
            | refine inBlk_n ?_
            | refine AWp.condT rfl cnT ?_
            | refine AWp.condF rfl cnF ?_
            | (refine rG 6 ?_
               refine kA ?_
               refine kD ?_
               refine kE ?_
               refine qr5t aK ?_
               refine aB ?_)
            | (refine rG 7 ?_
               refine kA ?_
               refine qr4w2 aL ?_
               refine kC ?_
               refine aB ?_)
            | (refine rG 8 ?_
               refine kF ?_
               (iterate 2 refine kA ?_)
               refine aH rfl rfl rfl rfl Try.func61 rfl (by kernel_rfl) (hGa) ?_
               (iterate 3 refine kA ?_)
               refine qr5f aJ ?_
               (iterate 3 refine kA ?_)
               refine qr5t aK ?_
               refine qr4 aR ?_
               refine qr4 aS ?_
               refine kA ?_
               refine kF ?_
               (iterate 2 refine kA ?_)
               refine qr4w2 AList.sub ?_
               (iterate 2 refine kA ?_)
               refine qr4w2 AList.sub ?_
               refine aH rfl rfl rfl rfl Try.func61 rfl (by kernel_rfl) (hGb) ?_
               refine qr3 AList.notB ?_
               refine qr4 aS ?_
               refine aB ?_))
           refine ⟨i + 1, hil, Wk.mk [(6, some 6), (7, some 7)] rfl rfl rfl ?_ ?_, by omega⟩
           ·rw [hcs]
            exact allT
           ·exact allH
        ·rw [show onB a b dx dy fr ti j i = false by unfold onB; rw [g1, decide_eq_false g2, decide_eq_false g3]; rfl, if_neg (by decide)] at hcs
         repeat (first
          | refine AWp.seq ?_
          | refine thenA_n ?_
          | refine AWp.block ?_
          | refine AWp.skip ?_
          | refine inBlk_n ?_
          | refine AWp.condT rfl cnT ?_
          | refine AWp.condF rfl cnF ?_
          | (refine rG 6 ?_
             refine kA ?_
             refine kD ?_
             refine kE ?_
             refine qr5t aK ?_
             refine aB ?_)
          | (refine rG 7 ?_
             refine kA ?_
             refine qr4w2 aL ?_
             refine kC ?_
             refine aB ?_)
          | (refine rG 8 ?_
             refine kF ?_
             (iterate 2 refine kA ?_)
             refine aH rfl rfl rfl rfl Try.func61 rfl (by kernel_rfl) (hGa) ?_
             (iterate 3 refine kA ?_)
             refine qr5f aJ ?_
             (iterate 3 refine kA ?_)
             refine qr5f aJ ?_
             refine qr4 aR ?_
             refine qr4 aS ?_
             refine kA ?_
             (iterate 9 refine qr2 aG ?_)
             refine qr4 aR ?_
             refine aB ?_))
         refine ⟨i + 1, hil, Wk.mk [(6, some 6), (7, some 7)] rfl rfl rfl ?_ ?_, by omega⟩
         ·rw [hcs]
          exact allT
         ·exact allH
    ·obtain rfl : i = Wn := by omega
     repeat (first
      | refine AWp.seq ?_
      | refine thenA_n ?_
      | refine AWp.exit ?_
      | refine thenA_e ?_
      | refine inBlk_n ?_
      | refine inBlk_hit ?_
      | refine AWp.condF rfl cnF ?_
      | (refine rG 4 ?_
         refine kA ?_
         refine qr4w2 aL ?_
         refine kC ?_
         refine aB ?_)
      | (refine rG 6 ?_
         refine kA ?_
         refine kD ?_
         refine kE ?_
         refine qr5f aJ ?_
         refine aB ?_))
     refine ⟨j + 1, hjl, Wk.mk [(6, some 6), (7, some 7)] rfl rfl rfl ?_ ?_, by omega⟩
     ·rw [hsu, hc]
      exact allT
     ·exact allH
  ·obtain rfl : j = Hn := by omega
   repeat (first
    | refine AWp.seq ?_
    | refine thenA_n ?_
    | refine AWp.exit ?_
    | refine AWp.ret ?_
    | refine AWp.condF rfl cnF ?_
    | (refine rG 3 ?_
       refine kF ?_
       refine aH rfl rfl rfl rfl Try.func44 rfl (by kernel_rfl) (hC) ?_
       refine qr5 aW ?_
       (iterate 2 refine kA ?_)
       refine kD ?_
       refine kE ?_
       refine qr5f aJ ?_
       refine qr4 aS ?_
       refine aB ?_)
    | (refine rG 10 ?_
       refine kA ?_
       refine kC ?_
       refine aB ?_))
   refine ⟨mkSt 61 [(12, .c (iC (sumTo (fun j => cnt (onB a b dx dy fr ti j) Wn) j)))] [] [], [], Wk.mk [] rfl rfl rfl ?_ trivial, rfl, rfl, ARets.one (x := .c _) (ARes.tmp rfl rfl)⟩
   exact allT
end Go.Proofs.Ytjjaehpkccejaaa
end

section
namespace Go.Proofs.Ytjjaehpkccejaaa
open Go.RowKit Go.Flow Go.AV Go.Plain
theorem clC_imm (c : Cl) : (clC c).all immC = true := rfl
theorem stN_lim (w : Int) (x y : Bg) : stN w (lim4 x) (lim4 y) = stN w x y := by unfold stN; rw [lim_idem, lim_idem]
theorem onlyN_bd (a b : Bp) (dx dy fr ti : Int) (ha : chk a.W a.H a.n = 0) : 0 ≤ onlyN a b dx dy fr ti ∧ onlyN a b dx dy fr ti ≤ 9216 := by
 obtain ⟨hw0, hw1, hh0, hh1, hn⟩ := okB ha
 unfold onlyN
 have : ∀ m : Nat, m ≤ 96 → 0 ≤ sumTo (fun j => cnt (onB a b dx dy fr ti j) a.W.toNat) m ∧ sumTo (fun j => cnt (onB a b dx dy fr ti j) a.W.toNat) m ≤ 96 * m := fun m hm => by
  refine ⟨sumTo_nonneg fun k _ => Go.Plain.cnt_nonneg _ _, ?_⟩
  induction m with
  | zero => exact Int.le_refl _
  | succ m ih =>
    have h1 := ih (by omega)
    have h2 := cnt_le (onB a b dx dy fr ti m) a.W.toNat
    show sumTo _ m + cnt _ a.W.toNat ≤ _
    omega
 have := this a.H.toNat (by omega)
 omega
set_option maxRecDepth 100000 in
theorem rStrip_A (w : Int) (x y : Bg) (h : 0 ≤ w ∧ w ≤ 96) : ACalls Try.prog 83 [.c (iC w), .ag (bgC x), .ag (bgC y)] (.c (iC (stN w x y))) := by
 have h1 := rlim24_A x
 have h2 := rlim24_A y
 have b1 := lim_bds x
 have b2 := lim_bds y
 refine acalls_at Try.func83 rfl rfl Try.ntmps83 rfl ?_
 repeat (first
  | refine AWp.seq ?_
  | refine thenA_n ?_
  | refine AWp.ret ?_
  | (refine rG 0 ?_
     (iterate 2 refine qr5 aQ ?_)
     refine kC ?_
     refine aB ?_)
  | (refine AWp.draw (id := 1) mixed ?_; refine kA ?_; refine qr4w2 aL ?_; refine kF ?_; refine aH rfl rfl rfl rfl Try.func84 rfl (by kernel_rfl) (h1) ?_; refine AList.field1 tyOk rfl rfl rfl Try.underlying42 rfl rfl rfl rfl ?_; refine kF ?_; refine aH rfl rfl rfl rfl Try.func84 rfl (by kernel_rfl) (h2) ?_; refine AList.field1 tyOk rfl rfl rfl Try.underlying42 rfl rfl rfl rfl ?_; refine qr4 AList.maxI ?_; refine qr4 AList.minI ?_; refine kC ?_; refine aB ⟨by kernel_rfl, ?_⟩))
 refine ⟨mkSt 17 [(6, .c (iC (stN w x y)))] [] [], [], Wk.mk [] rfl rfl rfl ?_ trivial, rfl, rfl, ARets.one (x := .c _) (ARes.tmp rfl rfl)⟩
 exact allT
set_option maxRecDepth 100000 in
theorem Alone_A (a b : Bp) (c : Cl) (t : Int) (ha : chk a.W a.H a.n = 0) (hb : chk b.W b.H b.n = 0) (hx : -1000 ≤ c.dx ∧ c.dx ≤ 1000) (hy : -1000 ≤ c.dy ∧ c.dy ≤ 1000) (hc : -1000 ≤ c.col ∧ c.col ≤ 1000) (ht : 0 ≤ t ∧ t ≤ 16) :
 ACalls Try.prog 85 [.ag (bpC a), .ag (bpC b), .ag (clC c), .c (iC t)] (.tu [.c (iC (onlyN a b c.dx c.dy c.col (c.col + t))), .c (iC (onlyN b a (-c.dx) (-c.dy) (c.col - c.dx) (c.col - c.dx + t)))]) := by
 have h1 := Only_A a b c.dx c.dy c.col (c.col + t) ha hb hx hy
 have h2 := Only_A b a (-c.dx) (-c.dy) (c.col - c.dx) (c.col - c.dx + t) hb ha (by omega) (by omega)
 refine acalls_at Try.func85 rfl rfl Try.ntmps85 rfl ?_
 repeat (first
  | refine AWp.seq ?_
  | refine thenA_n ?_
  | refine AWp.ret ?_
  | (refine rG 0 ?_
     (iterate 3 refine qr5 aQ ?_)
     (iterate 2 refine kC ?_)
     refine aB ?_)
  | (refine rG 1 ?_
     (iterate 2 refine kF ?_)
     refine kD ?_
     refine kE ?_
     refine kD ?_
     refine kE ?_
     refine kD ?_
     refine kE ?_
     refine kD ?_
     refine kE ?_
     refine kA ?_
     refine qr4w2 aL ?_
     refine aH rfl rfl rfl rfl Try.func91 rfl (by kernel_rfl) (h1) ?_
     refine kC ?_
     refine aB ?_)
  | (refine rG 2 ?_
     (iterate 2 refine kF ?_)
     refine kD ?_
     refine kE ?_
     refine qr3w2 AList.neg ?_
     refine kD ?_
     refine kE ?_
     refine qr3w2 AList.neg ?_
     refine kD ?_
     refine kE ?_
     refine kD ?_
     refine kE ?_
     refine qr4w2 AList.sub ?_
     refine kD ?_
     refine kE ?_
     refine kD ?_
     refine kE ?_
     refine qr4w2 AList.sub ?_
     refine kA ?_
     refine qr4w2 aL ?_
     refine aH rfl rfl rfl rfl Try.func91 rfl (by kernel_rfl) (h2) ?_
     refine kC ?_
     refine aB ?_)
  | (refine rG 3 ?_
     (iterate 2 refine kA ?_)
     (iterate 2 refine kC ?_)
     refine aB ?_))
 refine ⟨mkSt 48 [(8, .c (iC (onlyN a b c.dx c.dy c.col (c.col + t)))), (9, .c (iC (onlyN b a (-c.dx) (-c.dy) (c.col - c.dx) (c.col - c.dx + t))))] [] [], [], Wk.mk [] rfl rfl rfl ?_ trivial, rfl, rfl, ARets.two (x := .c _) (y := .c _) (ARes.tmp rfl rfl) (ARes.tmp rfl rfl)⟩
 exact allT
set_option maxHeartbeats 1000000 in
set_option maxRecDepth 100000 in
theorem rExcess_A (a b : Bp) (x y : Bg) (c : Cl) (ha : chk a.W a.H a.n = 0) (hb : chk b.W b.H b.n = 0) (hx : -1000 ≤ c.dx ∧ c.dx ≤ 1000) (hy : -1000 ≤ c.dy ∧ c.dy ≤ 1000) (hc : -1000 ≤ c.col ∧ c.col ≤ 1000) :
 ACalls Try.prog 67 [.ag (bpC a), .ag (bpC b), .ag (bgC x), .ag (bgC y), .ag (clC c)] (.c (iC (xsV a b x y c))) := by
 have h1 := rlim24_A x
 have h2 := rlim24_A y
 have b1 := lim_bds x
 have b2 := lim_bds y
 have hw := okB ha
 have hS := rStrip_A a.W (lim4 x) (lim4 y) ⟨hw.1, hw.2.1⟩
 rw [stN_lim] at hS
 have ht := stN_bd x y hw.1
 have hA := Alone_A a b c (stN a.W x y) ha hb hx hy hc (by omega)
 have e1 := onlyN_bd a b c.dx c.dy c.col (c.col + stN a.W x y) ha
 have e2 := onlyN_bd b a (-c.dx) (-c.dy) (c.col - c.dx) (c.col - c.dx + stN a.W x y) hb
 unfold xsV
 obtain ⟨m, hm⟩ : ∃ m, onlyN a b c.dx c.dy c.col (c.col + stN a.W x y) = m := ⟨_, rfl⟩
 obtain ⟨n, hn⟩ : ∃ n, onlyN b a (-c.dx) (-c.dy) (c.col - c.dx) (c.col - c.dx + stN a.W x y) = n := ⟨_, rfl⟩
 rw [hm, hn] at hA ⊢
 rw [hm] at e1
 rw [hn] at e2
 refine acalls_at Try.func67 rfl rfl Try.ntmps67 rfl ?_
 repeat (first
  | refine AWp.seq ?_
  | refine thenA_n ?_
  | refine AWp.ret ?_
  | (refine rG 0 ?_
     (iterate 5 refine qr5 aQ ?_)
     refine kC ?_
     refine aB ?_)
  | (refine rG 1 ?_
     refine kF ?_
     refine aH rfl rfl rfl rfl Try.func84 rfl (by kernel_rfl) (h1) ?_
     refine kI ?_
     refine aB ?_)
  | (refine rG 2 ?_
     refine kF ?_
     refine aH rfl rfl rfl rfl Try.func84 rfl (by kernel_rfl) (h2) ?_
     refine kI ?_
     refine aB ?_)
  | (refine AWp.draw (id := 3) mixed ?_; (iterate 3 refine kF ?_); refine kD ?_; refine kE ?_; (iterate 2 refine kF ?_); refine aH rfl rfl rfl rfl Try.func83 rfl (by kernel_rfl) (hS) ?_; refine aH rfl rfl rfl rfl Try.func85 rfl (by kernel_rfl) (hA) ?_; refine kA ?_; (iterate 2 refine qr4 aN ?_); (iterate 2 refine kC ?_); refine aB ⟨by kernel_rfl, ?_⟩)
  | (refine rG 4 ?_
     refine kA ?_
     refine kD ?_
     refine kE ?_
     refine qr4w2 AList.sub ?_
     refine kD ?_
     refine kE ?_
     refine qr4w2 AList.sub ?_
     refine kA ?_
     refine kD ?_
     refine kE ?_
     refine qr4w2 AList.sub ?_
     refine kD ?_
     refine kE ?_
     refine qr4w2 AList.sub ?_
     refine qr4 AList.maxI ?_
     refine kC ?_
     refine aB ?_))
 refine ⟨mkSt 44 [(10, .c (iC (ovN x y m n)))] [] [], [], Wk.mk [] rfl rfl rfl ?_ trivial, rfl, rfl, ARets.one (x := .c _) (ARes.tmp rfl rfl)⟩
 exact allT
theorem alI_succ (m : Nat) (d : Int × Int) (k : Nat) : alI m d (k + 1) = alI m d k ++ [⟨d.1, d.2, (k : Int) - 4⟩] := by
 unfold alI
 rw [List.range_succ, List.map_append]
 rfl
theorem alK_take (w : Int) (x y : Bg) (L : List (Int × Int)) (k : Nat) (hk : k < L.length) : alK w x y (L.take (k + 1)) = alK w x y (L.take k) ++ alI 0 (L.getD k mvZ) (alM w x y) := by
 unfold alK
 rw [List.take_add_one, List.flatMap_append, List.getElem?_eq_getElem hk, List.getD_eq_getElem?_getD, List.getElem?_eq_getElem hk]
 simp
set_option maxHeartbeats 2000000 in
set_option maxRecDepth 100000 in
theorem All_A (w : Int) (x y : Bg) (hw : 0 ≤ w ∧ w ≤ 96) : ACalls Try.prog 66 [.c (iC w), .ag (bgC x), .ag (bgC y)] (.c (.ls (alL w x y).length 3 (rowF clC clZ (alL w x y)))) := by
 have hSh := rShifts_A x y
 have hSt := rStrip_A w x y hw
 have ht := stN_bd x y hw.1
 obtain ⟨-, hm4⟩ := shN_eq x y
 have hM : ((alM w x y : Nat) : Int) = w + 9 - stN w x y := by unfold alM; omega
 have hbd : ∀ k, k < (shL (shN x y)).length → _ := fun k hk => sh_bd hk
 have hSl : (shL (shN x y)).length ≤ 81 := by
  rw [shL_len hm4]
  have := Nat.mul_le_mul (show 2 * shN x y + 1 ≤ 9 by omega) (show 2 * shN x y + 1 ≤ 9 by omega)
  omega
 have htake : ∀ k, k < (shL (shN x y)).length → alK w x y ((shL (shN x y)).take (k + 1)) = alK w x y ((shL (shN x y)).take k) ++ alI 0 ((shL (shN x y)).getD k mvZ) (alM w x y) := fun k hk => alK_take w x y _ k hk
 have hall : alL w x y = alK w x y ((shL (shN x y)).take (shL (shN x y)).length) := by unfold alL; rw [List.take_length]
 rw [hall]
 generalize shL (shN x y) = S at *
 generalize stN w x y = t at *
 generalize alM w x y = M at *
 generalize hAK : alK w x y = AK at htake hall ⊢
 generalize hnl : S.length = n at hSh hbd hSl htake hall ⊢
 refine acalls_at Try.func66 rfl rfl Try.ntmps66 rfl ?_
 repeat (first
  | refine AWp.seq ?_
  | refine thenA_n ?_
  | refine AWp.block ?_
  | (refine rG 0 ?_
     (iterate 2 refine qr5 aQ ?_)
     refine kC ?_
     refine aB ?_)
  | (refine rG 1 ?_
     refine kC ?_
     refine aB ?_)
  | (refine rG 2 ?_
     (iterate 2 refine kF ?_)
     refine aH rfl rfl rfl rfl Try.func82 rfl (by kernel_rfl) (hSh) ?_
     refine kC ?_
     refine aB ?_)
  | (refine rG 3 ?_
     refine kA ?_
     refine qr4w2 aL ?_
     refine kA ?_
     (iterate 2 refine kF ?_)
     refine aH rfl rfl rfl rfl Try.func83 rfl (by kernel_rfl) (hSt) ?_
     refine qr4w2 AList.sub ?_
     refine kC ?_
     refine aB ?_)
  | (refine rG 4 ?_
     refine kC ?_
     refine aB ?_))
 refine AWp.round (fun s : Nat × List Cl => mkSt 49 [(7, .c (.ow 20)), (8, .c (.ls n 2 (rowF mvC mvZ S))), (9, .c (iC (w + 4 - t))), (10, .c (iC s.1))] [(20, ⟨true, s.2.length, 3, 54, rowF clC clZ s.2⟩)] [20])
  (fun s => s.1 ≤ n ∧ s.2 = AK (S.take s.1) ∧ s.2.length = M * s.1) (fun s => n - s.1) (0, []) ⟨Nat.zero_le _, by rw [List.take_zero, ← hAK]; rfl, by simp⟩ ?_ (fun s hs => ?_)
 ·refine Wk.mk [(20, none)] rfl rfl rfl ?_ ?_
  ·exact allT
  ·exact allH
 ·obtain ⟨k, L⟩ := s
  obtain ⟨hk, hL, hl⟩ := hs
  dsimp only at hk hL hl
  dsimp only
  by_cases hkn : k < n
  ·have hb := hbd k hkn
   have hMk : M * k ≤ 105 * 81 := Nat.mul_le_mul (by omega) (by omega)
   obtain ⟨d, hd⟩ : ∃ d, S.getD k mvZ = d := ⟨_, rfl⟩
   have htk := htake k hkn
   rw [hd] at htk
   repeat (first
    | refine AWp.seq ?_
    | refine thenA_n ?_
    | refine AWp.block ?_
    | refine AWp.skip ?_
    | refine AWp.condT rfl cnT ?_
    | (refine rG 5 ?_
       (iterate 2 refine kA ?_)
       refine qr5 (aO tyOk) ?_
       refine qr5t aK ?_
       refine aB ?_)
    | (refine rG 7 ?_
       refine kC ?_
       refine aB ?_))
   refine AWp.round (fun s : Nat × List Cl => mkSt 49 [(7, .c (.ow 20)), (8, .c (.ls n 2 (rowF mvC mvZ S))), (9, .c (iC (w + 4 - t))), (10, .c (iC k)), (11, .c (iC ((s.1 : Int) - 4)))] [(20, ⟨true, s.2.length, 3, 54, rowF clC clZ s.2⟩)] [20])
    (fun s => s.1 ≤ M ∧ s.2 = AK (S.take k) ++ alI 0 d s.1 ∧ s.2.length = M * k + s.1) (fun s => M - s.1) (0, L) ⟨Nat.zero_le _, by rw [hL]; exact (List.append_nil _).symm, hl⟩ ?_ (fun s hs => ?_)
   ·refine Wk.mk [(20, some 20)] rfl rfl rfl ?_ ?_
    ·exact allT
    ·exact allH
   ·obtain ⟨i, L2⟩ := s
    obtain ⟨hi, hL2, hl2⟩ := hs
    dsimp only at hi hL2 hl2
    dsimp only
    by_cases hiM : i < M
    ·have hlen : (L2 ++ [(⟨d.1, d.2, (i : Int) - 4⟩ : Cl)]).length = L2.length + 1 := by simp
     repeat (first
      | refine AWp.seq ?_
      | refine thenA_n ?_
      | refine AWp.block ?_
      | refine AWp.skip ?_
      | refine inBlk_n ?_
      | refine AWp.condT rfl cnT ?_
      | (refine rG 8 ?_
         (iterate 2 refine kA ?_)
         refine qr5t aK ?_
         refine aB ?_)
      | (refine rG 9 ?_
         refine kA ?_
         refine qr4w2 aL ?_
         refine kC ?_
         refine aB ?_)
      | (refine AWp.draw (id := 10) mixed ?_; (iterate 3 refine kA ?_); refine qr8eo2 (aP (k := k) tyOk) ?_; refine qr7 (AList.fieldPl tyOk) ?_; refine qr5o (aV tyOk) ?_; (iterate 2 refine kA ?_); refine qr8eo2 (aP (k := k) tyOk) ?_; refine qr7 (AList.fieldPl tyOk) ?_; refine qr5o (aV tyOk) ?_; refine kA ?_; refine qr8 (aX tyOk) ?_; refine qr11 (AList.litSl tyOk) ?_; refine AList.appL tyOk rfl rfl rfl rfl rfl rfl rfl rfl rfl rfl oM oM ?_; refine kC ?_; refine aB ⟨by kernel_rfl, ?_⟩))
     refine ⟨(i + 1, L2 ++ [⟨d.1, d.2, (i : Int) - 4⟩]), ⟨by dsimp only; omega, by rw [hL2, alI_succ, List.append_assoc], by rw [hlen]; dsimp only; omega⟩, Wk.mk [(20, some 47)] rfl rfl rfl ?_ ?_, by dsimp only; omega⟩
     ·exact allT
     ·rw [← hd]
      exact ⟨HeapOk.row rfl rfl (by simp) (row_snoc L2 (⟨(S.getD k mvZ).1, (S.getD k mvZ).2, (i : Int) - 4⟩ : Cl) clC_imm rfl), trivial⟩
    ·obtain rfl : i = M := by omega
     repeat (first
      | refine AWp.seq ?_
      | refine thenA_n ?_
      | refine AWp.exit ?_
      | refine thenA_e ?_
      | refine inBlk_n ?_
      | refine inBlk_hit ?_
      | refine AWp.condF rfl cnF ?_
      | (refine rG 6 ?_
         refine kA ?_
         refine qr4w2 aL ?_
         refine kC ?_
         refine aB ?_)
      | (refine rG 8 ?_
         (iterate 2 refine kA ?_)
         refine qr5f aJ ?_
         refine aB ?_))
     refine ⟨(k + 1, L2), ⟨by dsimp only; omega, by rw [hL2, htk], by dsimp only; rw [hl2, Nat.mul_succ]⟩, Wk.mk [(20, some 20)] rfl rfl rfl ?_ ?_, by dsimp only; omega⟩
     ·exact allT
     ·exact allH
  ·obtain rfl : k = n := by omega
   subst hL
   repeat (first
    | refine AWp.seq ?_
    | refine thenA_n ?_
    | refine AWp.exit ?_
    | refine AWp.ret ?_
    | refine AWp.condF rfl cnF ?_
    | (refine rG 5 ?_
       (iterate 2 refine kA ?_)
       refine qr5 (aO tyOk) ?_
       refine qr5f aJ ?_
       refine aB ?_)
    | (refine rG 11 ?_
       refine kA ?_
       refine kC ?_
       refine aB ?_))
   refine ⟨mkSt 49 [(6, .c (.ls (AK (S.take k)).length 3 (rowF clC clZ (AK (S.take k)))))] [] [], [], Wk.mk [] rfl rfl rfl ?_ trivial, rfl, rfl, ARets.one (x := .c _) (ARes.tmp rfl rfl)⟩
   exact allT
end Go.Proofs.Ytjjaehpkccejaaa
end

section
namespace Go.Proofs.Ytjjaehpkccejaaa
open Go.RowKit Go.Flow Go.AV Go.Plain
def slkV (a b : Bp) (x y : Bg) : Int × Bool := if cmpOk a b then (lsN (xsV a b x y) (alL a.W x y) ((a.n : Int) + 1), true) else (0, false)
end Go.Proofs.Ytjjaehpkccejaaa
end

section
namespace Go.Proofs.Ytjjaehpkccejaaa
open Go.RowKit Go.Flow Go.AV Go.Plain
theorem al_mem {w : Int} {x y : Bg} {k : Nat} (hk : k < (alL w x y).length) : ∃ j i, j < (shL (shN x y)).length ∧ i < alM w x y ∧ (alL w x y).getD k clZ = clK (shL (shN x y)) j i := by
 have hm : (alL w x y).getD k clZ ∈ alL w x y := by
  rw [List.getD_eq_getElem?_getD, List.getElem?_eq_getElem hk]
  exact List.getElem_mem hk
 generalize (alL w x y).getD k clZ = c at hm
 unfold alL alK alI at hm
 simp only [List.mem_flatMap, List.mem_map, List.mem_range] at hm
 obtain ⟨d, hd, i, hi, hc⟩ := hm
 obtain ⟨j, hj, rfl⟩ := List.getElem_of_mem hd
 refine ⟨j, i, hj, hi, ?_⟩
 rw [← hc]
 unfold clK
 rw [List.getD_eq_getElem?_getD, List.getElem?_eq_getElem hj]
 rfl
theorem al_bd {w : Int} {x y : Bg} {k : Nat} (hw : 0 ≤ w ∧ w ≤ 96) (hk : k < (alL w x y).length) : ((-4 ≤ ((alL w x y).getD k clZ).dx ∧ ((alL w x y).getD k clZ).dx ≤ 4) ∧ -4 ≤ ((alL w x y).getD k clZ).dy ∧ ((alL w x y).getD k clZ).dy ≤ 4) ∧ -4 ≤ ((alL w x y).getD k clZ).col ∧ ((alL w x y).getD k clZ).col ≤ 105 := by
 obtain ⟨j, i, hj, hi, e⟩ := al_mem hk
 rw [e]
 have h1 := shN_bd hj
 have h2 := stN_bd x y hw.1
 unfold alM at hi
 unfold clK
 refine ⟨h1, ?_⟩
 dsimp only
 omega
theorem al_len {w : Int} {x y : Bg} (hw : 0 ≤ w ∧ w ≤ 96) : 0 < (alL w x y).length ∧ (alL w x y).length ≤ 81 * 105 := by
 have hM : 1 ≤ alM w x y ∧ alM w x y ≤ 105 := by
  have h2 := stN_bd x y hw.1
  unfold alM
  omega
 obtain ⟨-, hm4⟩ := shN_eq x y
 have hl : (alL w x y).length = (shL (shN x y)).length * alM w x y := by
  unfold alL alK
  generalize shL (shN x y) = S
  induction S with
  | nil => simp
  | cons d S ih => rw [List.flatMap_cons, List.length_append, ih, alI_len, List.length_cons, Nat.succ_mul, Nat.add_comm]
 have hs1 : 1 ≤ (2 * shN x y + 1) * (2 * shN x y + 1) := Nat.mul_le_mul (show 1 ≤ 2 * shN x y + 1 by omega) (show 1 ≤ 2 * shN x y + 1 by omega)
 have hs2 : (2 * shN x y + 1) * (2 * shN x y + 1) ≤ 9 * 9 := Nat.mul_le_mul (show 2 * shN x y + 1 ≤ 9 by omega) (show 2 * shN x y + 1 ≤ 9 by omega)
 rw [hl, shL_len hm4]
 exact ⟨Nat.mul_pos hs1 hM.1, Nat.mul_le_mul hs2 hM.2⟩
set_option maxHeartbeats 2000000 in
set_option maxRecDepth 100000 in
theorem rConfused_A (a b : Bp) (x y : Bg) : ACalls Try.prog 49 [.ag (bpC a), .ag (bpC b), .ag (bgC x), .ag (bgC y)] (.tu [.ag (clC (cnfV a b x y).1), .c (bC (cnfV a b x y).2)]) := by
 have hCo := Comparable_A a b
 unfold cnfV
 by_cases hok : cmpOk a b
 ·rw [if_pos hok]
  rw [decide_eq_true hok] at hCo
  obtain ⟨q0, q1, -, -, -⟩ := okB hok.1
  have hAll := All_A a.W x y ⟨q0, q1⟩
  have hlen := al_len (x := x) (y := y) ⟨q0, q1⟩
  have hbd := fun k hk => al_bd (x := x) (y := y) (k := k) ⟨q0, q1⟩ hk
  have hE : ∀ k, k < (alL a.W x y).length → ACalls Try.prog 67 [.ag (bpC a), .ag (bpC b), .ag (bgC x), .ag (bgC y), .ag (clC ((alL a.W x y).getD k clZ))] (.c (iC (xsV a b x y ((alL a.W x y).getD k clZ)))) := fun k hk => by
   have h1 := hbd k hk
   exact rExcess_A a b x y _ hok.1 hok.2.1 (by omega) (by omega) (by omega)
  clear hbd
  generalize alL a.W x y = L at *
  obtain ⟨n, hnl⟩ : ∃ n, L.length = n := ⟨_, rfl⟩
  rw [hnl] at hAll hlen hE
  refine acalls_at Try.func49 rfl rfl Try.ntmps49 rfl ?_
  repeat (first
   | refine AWp.seq ?_
   | refine thenA_n ?_
   | refine AWp.block ?_
   | refine AWp.skip ?_
   | refine AWp.condF rfl cnF ?_
   | (refine rG 0 ?_
      (iterate 4 refine qr5 aQ ?_)
      refine qr5 (aM tyOk) ?_
      refine kC ?_
      refine aB ?_)
   | (refine rG 1 ?_
      (iterate 2 refine kF ?_)
      refine aH rfl rfl rfl rfl Try.func65 rfl (by kernel_rfl) (hCo) ?_
      refine qr3 AList.notB ?_
      refine aB ?_)
   | (refine rG 3 ?_
      refine kD ?_
      refine kE ?_
      (iterate 2 refine kF ?_)
      refine aH rfl rfl rfl rfl Try.func66 rfl (by kernel_rfl) (hAll) ?_
      refine kC ?_
      refine aB ?_)
   | (refine rG 4 ?_
      refine kC ?_
      refine aB ?_))
  refine AWp.round (fun k : Nat => mkSt 43 [(4, .c (.pt 4 3 0 0)), (5, .c (.pt 5 3 0 0)), (6, .c (.pt 6 4 0 0)), (7, .c (.pt 7 4 0 0)), (8, .c (.pt 8 3 0 0)), (10, .c (.ls n 3 (rowF clC clZ L))), (11, .c (iC k))] [(4, ⟨false, 1, 3, 47, lF (bpC a)⟩), (5, ⟨false, 1, 3, 47, lF (bpC b)⟩), (6, ⟨false, 1, 4, 42, lF (bgC x)⟩), (7, ⟨false, 1, 4, 42, lF (bgC y)⟩), (8, ⟨false, 1, 3, 54, lF (clC clZ)⟩)] [4, 5, 6, 7, 8])
   (fun k => k ≤ n ∧ ∀ i, i < k → hitC a b x y (L.getD i clZ) = false) (fun k => n - k) 0 ⟨Nat.zero_le _, fun _ h => absurd h (Nat.not_lt_zero _)⟩ ?_ (fun k hk => ?_)
  ·refine Wk.mk [(4, some 4), (5, some 5), (6, some 6), (7, some 7), (8, some 8)] rfl rfl rfl ?_ ?_
   ·exact allT
   ·exact allH
  ·obtain ⟨hk, hno⟩ := hk
   by_cases hkn : k < n
   ·have hEk := hE k hkn
    by_cases hx : xsV a b x y (L.getD k clZ) ≤ 0
    ·rw [cnfR_hit (find_at (by rw [hnl]; exact hkn) (decide_eq_true hx) hno)]
     repeat (first
      | refine AWp.seq ?_
      | refine thenA_n ?_
      | refine AWp.block ?_
      | refine AWp.skip ?_
      | refine AWp.ret ?_
      | refine thenA_r ?_
      | refine inBlk_r ?_
      | refine AWp.condT rfl cnT ?_
      | (refine rG 5 ?_
         (iterate 2 refine kA ?_)
         refine qr5 (aO tyOk) ?_
         refine qr5t aK ?_
         refine aB ?_)
      | (refine AWp.draw (id := 7) mixed ?_; (iterate 4 refine kF ?_); (iterate 2 refine kA ?_); refine qr8eo2 (aP (k := k) tyOk) ?_; refine qr5o (aT tyOk) ?_; refine aH rfl rfl rfl rfl Try.func67 rfl (by kernel_rfl) (hEk) ?_; refine qr5t aK ?_; refine aB ⟨by kernel_rfl, ?_⟩)
      | (refine rG 8 ?_
         (iterate 2 refine kA ?_)
         refine qr8eo2 (aP (k := k) tyOk) ?_
         refine qr5o (aT tyOk) ?_
         refine kI ?_
         refine kC ?_
         refine aB ?_))
     refine ⟨mkSt 43 [(8, .c (.pt 8 3 0 0)), (9, .c (bC true))] [(8, ⟨false, 1, 3, 54, lF (clC (L.getD k clZ))⟩)] [8], [(8, ⟨false, 1, 3, 54, lF (clC (L.getD k clZ))⟩)], Wk.mk [(8, some 8)] rfl rfl rfl ?_ ?_, rfl, rfl, ARets.two (x := .ag _) (y := .c _) (ARes.box tyOk rfl rfl rfl rfl rfl rfl rfl) (ARes.tmp rfl rfl)⟩
     ·exact allT
     ·exact allH
    ·repeat (first
      | refine AWp.seq ?_
      | refine thenA_n ?_
      | refine AWp.block ?_
      | refine AWp.skip ?_
      | refine inBlk_n ?_
      | refine AWp.condT rfl cnT ?_
      | refine AWp.condF rfl cnF ?_
      | (refine rG 5 ?_
         (iterate 2 refine kA ?_)
         refine qr5 (aO tyOk) ?_
         refine qr5t aK ?_
         refine aB ?_)
      | (refine rG 6 ?_
         refine kA ?_
         refine qr4w2 aL ?_
         refine kC ?_
         refine aB ?_)
      | (refine AWp.draw (id := 7) mixed ?_; (iterate 4 refine kF ?_); (iterate 2 refine kA ?_); refine qr8eo2 (aP (k := k) tyOk) ?_; refine qr5o (aT tyOk) ?_; refine aH rfl rfl rfl rfl Try.func67 rfl (by kernel_rfl) (hEk) ?_; refine qr5f aJ ?_; refine aB ⟨by kernel_rfl, ?_⟩))
     refine ⟨k + 1, ⟨hkn, fun i hi => ?_⟩, Wk.mk [(4, some 4), (5, some 5), (6, some 6), (7, some 7), (8, some 8)] rfl rfl rfl ?_ ?_, by omega⟩
     ·by_cases e : i = k
      ·rw [e]; exact decide_eq_false hx
      ·exact hno i (by omega)
     ·exact allT
     ·exact allH
   ·obtain rfl : k = n := by omega
    rw [cnfR_no (find_no (fun i hi => hno i (by rw [← hnl]; exact hi)))]
    repeat (first
     | refine AWp.seq ?_
     | refine thenA_n ?_
     | refine AWp.exit ?_
     | refine AWp.ret ?_
     | refine AWp.condF rfl cnF ?_
     | (refine rG 5 ?_
        (iterate 2 refine kA ?_)
        refine qr5 (aO tyOk) ?_
        refine qr5f aJ ?_
        refine aB ?_)
     | (refine rG 9 ?_
        refine qr8 (aX tyOk) ?_
        refine kI ?_
        refine kC ?_
        refine aB ?_))
    refine ⟨mkSt 43 [(8, .c (.pt 8 3 0 0)), (9, .c (bC false))] [(8, ⟨false, 1, 3, 54, lF (clC (clZ))⟩)] [8], [(8, ⟨false, 1, 3, 54, lF (clC (clZ))⟩)], Wk.mk [(8, some 8)] rfl rfl rfl ?_ ?_, rfl, rfl, ARets.two (x := .ag _) (y := .c _) (ARes.box tyOk rfl rfl rfl rfl rfl rfl rfl) (ARes.tmp rfl rfl)⟩
    ·exact allT
    ·exact allH
 ·rw [if_neg hok]
  rw [decide_eq_false hok] at hCo
  refine acalls_at Try.func49 rfl rfl Try.ntmps49 rfl ?_
  repeat (first
   | refine AWp.seq ?_
   | refine thenA_n ?_
   | refine AWp.ret ?_
   | refine thenA_r ?_
   | refine AWp.condT rfl cnT ?_
   | (refine rG 0 ?_
      (iterate 4 refine qr5 aQ ?_)
      refine qr5 (aM tyOk) ?_
      refine kC ?_
      refine aB ?_)
   | (refine rG 1 ?_
      (iterate 2 refine kF ?_)
      refine aH rfl rfl rfl rfl Try.func65 rfl (by kernel_rfl) (hCo) ?_
      refine qr3 AList.notB ?_
      refine aB ?_)
   | (refine rG 2 ?_
      refine qr8 (aX tyOk) ?_
      refine kI ?_
      refine kC ?_
      refine aB ?_))
  refine ⟨mkSt 43 [(8, .c (.pt 8 3 0 0)), (9, .c (bC false))] [(8, ⟨false, 1, 3, 54, lF (clC (clZ))⟩)] [8], [(8, ⟨false, 1, 3, 54, lF (clC (clZ))⟩)], Wk.mk [(8, some 8)] rfl rfl rfl ?_ ?_, rfl, rfl, ARets.two (x := .ag _) (y := .c _) (ARes.box tyOk rfl rfl rfl rfl rfl rfl rfl) (ARes.tmp rfl rfl)⟩
  ·exact allT
  ·exact allH
end Go.Proofs.Ytjjaehpkccejaaa
end

section
namespace Go.Proofs.Ytjjaehpkccejaaa
open Go.RowKit Go.Flow Go.AV Go.Plain
theorem cl_ne (r s : Cl) (w : World) : (Go.binOp .neq 54 (.agg #[.int .i64 r.dx, .int .i64 r.dy, .int .i64 r.col]) (.agg #[.int .i64 s.dx, .int .i64 s.dy, .int .i64 s.col])).run Try.prog w = .ok (.bool (!decide (r = s))) w := by
 have hp : Try.prog.stoodInHeld 54 = false := by kernel_rfl
 obtain ⟨a0, a1, a2⟩ := r
 obtain ⟨b0, b1, b2⟩ := s
 go_simp
 by_cases e0 : a0 = b0 <;> by_cases e1 : a1 = b1 <;> by_cases e2 : a2 = b2 <;> simp [e0, e1, e2]
theorem mem_al {w : Int} {x y : Bg} {c : Cl} : c ∈ alL w x y ↔ (c.dx, c.dy) ∈ shL (shN x y) ∧ ∃ i, i < alM w x y ∧ c.col = (i : Int) - 4 := by
 unfold alL alK alI
 simp only [List.mem_flatMap, List.mem_map, List.mem_range]
 constructor
 ·rintro ⟨d, hd, i, hi, rfl⟩
  exact ⟨hd, i, hi, rfl⟩
 ·rintro ⟨hd, i, hi, e⟩
  refine ⟨_, hd, i, hi, ?_⟩
  rw [← e]
end Go.Proofs.Ytjjaehpkccejaaa
end
