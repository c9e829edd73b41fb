/- Parts of the proof: Made, A23n, A23o, A23y, A24i. -/
import Derived.Test.YtekkldgmjdllbaaProg
import Derived.Test.YtekkldgmjdllbaaG10
import Derived.Test.YtekkldgmjdllbaaG14
import Derived.Test.YtekkldgmjdllbaaG08
import Derived.Test.YtekkldgmjdllbaaG11
set_option linter.unusedSimpArgs false
set_option linter.unusedVariables false
section
namespace Go.Proofs.Ytekkldgmjdllbaa
open Go.RowKit Go.Flow
open Go.Proofs
attribute [local go_sem] block_add

structure MI (w : World) (gr gd go g : Nat) (A : Option Addr) (N c : Nat) (W H : Int) (n at_ : Nat) (wr : World) : Prop where
 res : Blk wr gr 31 #[.int .i64 0, .int .i64 0, .slice none 0 0]
 draw : Blk wr gd 146 #[.slice A N c, .int .i64 (at_ : Int)]
 out : Blk wr go 31 #[.int .i64 W, .int .i64 H, .slice (some ⟨g, 0, none⟩) n n]
 own : ∃ F : Nat → Bool, Flow.Own wr g 4 n (fun k => .bool (F k))
 ext : Ext w wr
 le : at_ ≤ N

section
variable {w wr w' : World} {gr gd go g : Nat} {A : Option Addr} {N c : Nat} {W H : Int} {n at_ : Nat}
theorem MI.next (h : MI w gr gd go g A N c W H n at_ wr) (h1 : w.heap.size ≤ gr) (h2 : gr < gd) (h3 : gd < g) (h4 : g < go) {b : Nat} (hb : b ≤ N)
 (hB : Blk w' gd 146 #[.slice A N c, .int .i64 (b : Int)]) (hO : Only wr w' gd) : MI w gr gd go g A N c W H n b w' :=
 ⟨hO.blk h.res (by omega), hB, hO.blk h.out (by omega), let ⟨F, hF⟩ := h.own; ⟨F, hO.own hF (by omega)⟩, hO.ext h.ext (by omega), hb⟩
end
end Go.Proofs.Ytekkldgmjdllbaa
end
section
namespace Go.Proofs.Ytekkldgmjdllbaa
open Go.RowKit Go.Flow Go.AV Go.Plain
abbrev mvC (p : Int × Int) : List CV := [iC p.1, iC p.2]
abbrev mvZ : Int × Int := (0, 0)
theorem mvC_imm (p : Int × Int) : (mvC p).all immC = true := rfl
def shB (m s i j : Nat) : Bool := decide (max ((j : Int) - m) (-((j : Int) - m)) + max ((i : Int) - m) (-((i : Int) - m)) = (s : Int))
def shJ (m s i k : Nat) : List (Int × Int) := (List.range k).flatMap fun j => if shB m s i j then [((j : Int) - m, (i : Int) - m)] else []
def shM (m s k : Nat) : List (Int × Int) := (List.range k).flatMap fun i => shJ m s i (2 * m + 1)
def shS (m k : Nat) : List (Int × Int) := (List.range k).flatMap fun s => shM m s (2 * m + 1)
theorem flat_succ {α : Type} (f : Nat → List α) (k : Nat) : (List.range (k + 1)).flatMap f = (List.range k).flatMap f ++ f k := by
 rw [List.range_succ, List.flatMap_append]
 simp
def shL (m : Nat) : List (Int × Int) := shS m (2 * m + 1)
set_option maxHeartbeats 1000000 in
set_option maxRecDepth 100000 in
theorem Shifts_A (m : Nat) (hm : m ≤ 4) : ACalls Try.prog 98 [.c (iC m)] (.c (.ls (shL m).length 2 (rowF mvC mvZ (shL m)))) := by
 refine acalls_at Try.func98 rfl rfl Try.ntmps98 rfl ?_
 repeat (first
  | refine uA ?_
  | refine uB ?_
  | refine uC ?_
  | (refine rG 0 ?_
     refine kC ?_
     refine aB ?_)
  | (refine rG 1 ?_
     refine kC ?_
     refine aB ?_)
  | (refine rG 2 ?_
     refine kC ?_
     refine aB ?_))
 refine AWp.round (fun t : Nat × List (Int × Int) => mkSt 45 [(0, .c (iC m)), (3, .c (.ow 20)), (4, .c (iC t.1))] [(20, ⟨true, t.2.length, 2, 59, rowF mvC mvZ t.2⟩)] [20])
  (fun t => t.1 ≤ 2 * m + 1 ∧ t.2 = shS m t.1 ∧ t.2.length ≤ 81 * t.1) (fun t => 2 * m + 1 - t.1) (0, []) ⟨Nat.zero_le _, rfl, Nat.zero_le _⟩ ?_ (fun t ht => ?_)
 ·refine Wk.mk [(20, none)] rfl rfl rfl ?_ ?_
  ·exact allT
  ·exact allH
 ·obtain ⟨s, L⟩ := t
  obtain ⟨hs, hL, hl⟩ := ht
  dsimp only at hs hL hl
  dsimp only
  by_cases hlts : s < 2 * m + 1
  ·repeat (first
    | refine uA ?_
    | refine uB ?_
    | refine uC ?_
    | refine uG ?_
    | refine kT ?_
    | (refine rG 3 ?_
       (iterate 2 refine kA ?_)
       refine qr4w2 AList.mul ?_
       refine qr5t aK ?_
       refine aB ?_)
    | (refine rG 5 ?_
       refine kA ?_
       refine qr3w2 AList.neg ?_
       refine kC ?_
       refine aB ?_))
   refine AWp.round (fun t : Nat × List (Int × Int) => mkSt 45 [(0, .c (iC m)), (3, .c (.ow 20)), (4, .c (iC s)), (5, .c (iC ((t.1 : Int) - m)))] [(20, ⟨true, t.2.length, 2, 59, rowF mvC mvZ t.2⟩)] [20])
    (fun t => t.1 ≤ 2 * m + 1 ∧ t.2 = shS m s ++ shM m s t.1 ∧ t.2.length ≤ 81 * s + 9 * t.1) (fun t => 2 * m + 1 - t.1) (0, L) ⟨Nat.zero_le _, by rw [hL]; exact (List.append_nil _).symm, by dsimp only; omega⟩ ?_ (fun t ht => ?_)
   ·refine Wk.mk [(20, some 20)] rfl rfl rfl ?_ ?_
    ·exact allT
    ·exact allH
   ·obtain ⟨i, L2⟩ := t
    obtain ⟨hi, hL2, hl2⟩ := ht
    dsimp only at hi hL2 hl2
    dsimp only
    by_cases hlti : i < 2 * m + 1
    ·repeat (first
      | refine uA ?_
      | refine uB ?_
      | refine uC ?_
      | refine uG ?_
      | refine kT ?_
      | (refine rG 6 ?_
         (iterate 2 refine kA ?_)
         refine qr5t aK ?_
         refine aB ?_)
      | (refine rG 8 ?_
         refine kA ?_
         refine qr3w2 AList.neg ?_
         refine kC ?_
         refine aB ?_))
     refine AWp.round (fun t : Nat × List (Int × Int) => mkSt 45 [(0, .c (iC m)), (3, .c (.ow 20)), (4, .c (iC s)), (5, .c (iC ((i : Int) - m))), (6, .c (iC ((t.1 : Int) - m)))] [(20, ⟨true, t.2.length, 2, 59, rowF mvC mvZ t.2⟩)] [20])
      (fun t => t.1 ≤ 2 * m + 1 ∧ t.2 = (shS m s ++ shM m s i) ++ shJ m s i t.1 ∧ t.2.length ≤ 81 * s + 9 * i + t.1) (fun t => 2 * m + 1 - t.1) (0, L2) ⟨Nat.zero_le _, by rw [hL2]; exact (List.append_nil _).symm, by dsimp only; omega⟩ ?_ (fun t ht => ?_)
     ·refine Wk.mk [(20, some 20)] rfl rfl rfl ?_ ?_
      ·exact allT
      ·exact allH
     ·obtain ⟨j, L3⟩ := t
      obtain ⟨hj, hL3, hl3⟩ := ht
      dsimp only at hj hL3 hl3
      dsimp only
      by_cases hltj : j < 2 * m + 1
      ·have hsu : shJ m s i (j + 1) = shJ m s i j ++ if shB m s i j then [((j : Int) - m, (i : Int) - m)] else [] := flat_succ _ _
       by_cases hb : max ((j : Int) - m) (-((j : Int) - m)) + max ((i : Int) - m) (-((i : Int) - m)) = (s : Int)
       ·rw [show shB m s i j = true from decide_eq_true hb, if_pos rfl] at hsu
        have hlen : (L3 ++ [((j : Int) - m, (i : Int) - m)]).length = L3.length + 1 := by simp
        repeat (first
         | refine uA ?_
         | refine uB ?_
         | refine uC ?_
         | refine uG ?_
         | refine uD ?_
         | refine kT ?_
         | (refine rG 9 ?_
            (iterate 2 refine kA ?_)
            refine qr5t aK ?_
            refine aB ?_)
         | (refine rG 10 ?_
            refine kA ?_
            refine qr4w2 aL ?_
            refine kC ?_
            refine aB ?_)
         | (refine rG 11 ?_
            (iterate 2 refine kA ?_)
            refine qr3w2 AList.neg ?_
            refine qr4 AList.maxI ?_
            (iterate 2 refine kA ?_)
            refine qr3w2 AList.neg ?_
            refine qr4 AList.maxI ?_
            refine qr4w2 aL ?_
            refine kA ?_
            refine qr5t aK ?_
            refine aB ?_)
         | (refine rG 12 ?_
            (iterate 3 refine kA ?_)
            refine qr8 (aX tyOk) ?_
            refine qr11 (AList.litSl tyOk) ?_
            refine AList.appL tyOk rfl rfl rfl rfl rfl rfl rfl rfl rfl rfl oM oM ?_
            refine kC ?_
            refine aB ?_))
        refine ⟨(j + 1, L3 ++ [((j : Int) - m, (i : Int) - m)]), ⟨by dsimp only; omega, by rw [hL3, hsu, List.append_assoc], by rw [hlen]; omega⟩, Wk.mk [(20, some 43)] rfl rfl rfl ?_ ?_, by dsimp only; omega⟩
        ·exact allT
        ·exact ⟨HeapOk.row rfl rfl hlen (row_snoc L3 ((j : Int) - m, (i : Int) - m) mvC_imm rfl), trivial⟩
       ·rw [show shB m s i j = false from decide_eq_false hb, if_neg (by decide), List.append_nil] at hsu
        repeat (first
         | refine uA ?_
         | refine uB ?_
         | refine uC ?_
         | refine uG ?_
         | refine uD ?_
         | refine kT ?_
         | refine kU ?_
         | (refine rG 9 ?_
            (iterate 2 refine kA ?_)
            refine qr5t aK ?_
            refine aB ?_)
         | (refine rG 10 ?_
            refine kA ?_
            refine qr4w2 aL ?_
            refine kC ?_
            refine aB ?_)
         | (refine rG 11 ?_
            (iterate 2 refine kA ?_)
            refine qr3w2 AList.neg ?_
            refine qr4 AList.maxI ?_
            (iterate 2 refine kA ?_)
            refine qr3w2 AList.neg ?_
            refine qr4 AList.maxI ?_
            refine qr4w2 aL ?_
            refine kA ?_
            refine qr5f aJ ?_
            refine aB ?_))
        refine ⟨(j + 1, L3), ⟨by dsimp only; omega, by rw [hL3, hsu], by dsimp only; omega⟩, Wk.mk [(20, some 20)] rfl rfl rfl ?_ ?_, by dsimp only; omega⟩
        ·exact allT
        ·exact allH
      ·obtain rfl : j = 2 * m + 1 := by omega
       have hsu : shM m s (i + 1) = shM m s i ++ shJ m s i (2 * m + 1) := flat_succ _ _
       repeat (first
        | refine uA ?_
        | refine uB ?_
        | refine uH ?_
        | refine thenA_e ?_
        | refine uD ?_
        | refine uF ?_
        | refine kU ?_
        | (refine rG 7 ?_
           refine kA ?_
           refine qr4w2 aL ?_
           refine kC ?_
           refine aB ?_)
        | (refine rG 9 ?_
           (iterate 2 refine kA ?_)
           refine qr5f aJ ?_
           refine aB ?_))
       refine ⟨(i + 1, L3), ⟨by dsimp only; omega, by rw [hL3, hsu, List.append_assoc], by dsimp only; omega⟩, Wk.mk [(20, some 20)] rfl rfl rfl ?_ ?_, by dsimp only; omega⟩
       ·exact allT
       ·exact allH
    ·obtain rfl : i = 2 * m + 1 := by omega
     have hsu : shS m (s + 1) = shS m s ++ shM m s (2 * m + 1) := flat_succ _ _
     repeat (first
      | refine uA ?_
      | refine uB ?_
      | refine uH ?_
      | refine thenA_e ?_
      | refine uD ?_
      | refine uF ?_
      | refine kU ?_
      | (refine rG 4 ?_
         refine kA ?_
         refine qr4w2 aL ?_
         refine kC ?_
         refine aB ?_)
      | (refine rG 6 ?_
         (iterate 2 refine kA ?_)
         refine qr5f aJ ?_
         refine aB ?_))
     refine ⟨(s + 1, L2), ⟨by dsimp only; omega, by rw [hL2, hsu], by dsimp only; omega⟩, Wk.mk [(20, some 20)] rfl rfl rfl ?_ ?_, by dsimp only; omega⟩
     ·exact allT
     ·exact allH
  ·obtain rfl : s = 2 * m + 1 := by omega
   subst hL
   repeat (first
    | refine uA ?_
    | refine uB ?_
    | refine uH ?_
    | refine AWp.ret ?_
    | refine kU ?_
    | (refine rG 3 ?_
       (iterate 2 refine kA ?_)
       refine qr4w2 AList.mul ?_
       refine qr5f aJ ?_
       refine aB ?_)
    | (refine rG 13 ?_
       refine kA ?_
       refine kC ?_
       refine aB ?_))
   refine ⟨mkSt 45 [(2, .c (.ls (shL m).length 2 (rowF mvC mvZ (shL m))))] [] [], [], Wk.mk [] rfl rfl rfl ?_ trivial, rfl, rfl, aR1⟩
   unfold shL
   exact allT
structure Mc where
 dx : Int
 dy : Int
 lo : Int
 bl : Int
theorem cnt_nonneg (q : Nat → Bool) (n : Nat) : 0 ≤ cnt q n := sumTo_nonneg fun k _ => by split <;> omega
theorem lim_bds (y : Bg) : (0 ≤ (lim4 y).lo ∧ (lim4 y).lo ≤ 200) ∧ (0 ≤ (lim4 y).bl ∧ (lim4 y).bl ≤ 200) ∧ (0 ≤ (lim4 y).sh ∧ (lim4 y).sh ≤ 2) ∧ 0 ≤ (lim4 y).st ∧ (lim4 y).st ≤ 16 := lim_bd (lim_idem y).symm
end Go.Proofs.Ytekkldgmjdllbaa
end
section
namespace Go.Proofs.Ytekkldgmjdllbaa
open Go.RowKit Go.Flow Go.AV Go.Plain Go.AV.Srt
theorem shL_len {m : Nat} (hm : m ≤ 4) : (shL m).length = (2 * m + 1) * (2 * m + 1) := by
 obtain h | h | h | h | h : m = 0 ∨ m = 1 ∨ m = 2 ∨ m = 3 ∨ m = 4 := by omega
 all_goals
  subst h
  decide +kernel
def shN (x y : Bg) : Nat := ((lim4 x).sh + (lim4 y).sh).toNat
theorem shN_eq (x y : Bg) : ((shN x y : Nat) : Int) = (lim4 x).sh + (lim4 y).sh ∧ shN x y ≤ 4 := by
 have h1 := lim_bds x
 have h2 := lim_bds y
 unfold shN
 omega
set_option maxRecDepth 100000 in
theorem rlim24_A (x : Bg) : ACalls Try.prog 99 [.ag (bgC x)] (.ag (bgC (lim4 x))) := by
 have h := rlim_A x
 refine acalls_at Try.func99 rfl rfl Try.ntmps99 rfl ?_
 repeat (first
  | refine uA ?_
  | refine uB ?_
  | refine AWp.ret ?_
  | (refine rG 0 ?_
     refine qr5 aQ ?_
     refine qr5 (aM tyOk) ?_
     refine aB ?_)
  | (refine rG 1 ?_
     refine kF ?_
     refine aH rfl rfl rfl rfl Try.func86 rfl (by kernel_rfl) (h) ?_
     refine kI ?_
     refine aB ?_))
 refine ⟨mkSt 5 [(2, .c (.pt 2 4 0 0))] [(2, ⟨false, 1, 4, 33, lF (bgC (lim4 x))⟩)] [2], [(2, ⟨false, 1, 4, 33, lF (bgC (lim4 x))⟩)], Wk.mk [(2, some 2)] rfl rfl rfl ?_ ?_, rfl, rfl, ARets.one (x := .ag _) (ARes.box tyOk rfl rfl rfl rfl rfl rfl rfl)⟩
 ·exact allT
 ·exact allH
set_option maxRecDepth 100000 in
theorem rShifts_A (x y : Bg) : ACalls Try.prog 40 [.ag (bgC x), .ag (bgC y)] (.c (.ls (shL (shN x y)).length 2 (rowF mvC mvZ (shL (shN x y))))) := by
 obtain ⟨e, hm⟩ := shN_eq x y
 have h1 := rlim24_A x
 have h2 := rlim24_A y
 have h3 := Shifts_A (shN x y) hm
 rw [e] at h3
 have b1 := lim_bds x
 have b2 := lim_bds y
 generalize shN x y = m at *
 refine acalls_at Try.func40 rfl rfl Try.ntmps40 rfl ?_
 repeat (first
  | refine uA ?_
  | refine uB ?_
  | refine AWp.ret ?_
  | (refine rG 0 ?_
     (iterate 2 refine qr5 aQ ?_)
     refine kC ?_
     refine aB ?_)
  | (refine AWp.draw (id := 1) mixed ?_; refine kF ?_; refine aH rfl rfl rfl rfl Try.func99 rfl (by kernel_rfl) (h1) ?_; refine AList.field1 tyOk rfl rfl rfl Try.underlying33 rfl rfl rfl rfl ?_; refine kF ?_; refine aH rfl rfl rfl rfl Try.func99 rfl (by kernel_rfl) (h2) ?_; refine AList.field1 tyOk rfl rfl rfl Try.underlying33 rfl rfl rfl rfl ?_; refine qr4w2 aL ?_; refine aH rfl rfl rfl rfl Try.func98 rfl (by kernel_rfl) (h3) ?_; refine kC ?_; refine aB ⟨by kernel_rfl, ?_⟩))
 refine ⟨mkSt 13 [(4, .c (.ls (shL m).length 2 (rowF mvC mvZ (shL m))))] [] [], [], Wk.mk [] rfl rfl rfl ?_ trivial, rfl, rfl, aR1⟩
 exact allT
end Go.Proofs.Ytekkldgmjdllbaa
end
