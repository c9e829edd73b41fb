/- Parts of the proof: A23v, A24p, A24t. -/
import Derived.Test.YtekkldgmjdllbaaG18
import Derived.Test.YtekkldgmjdllbaaHA25sfr05
import Derived.Test.YtekkldgmjdllbaaG17
import Derived.Test.YtekkldgmjdllbaaG11
import Derived.Test.YtekkldgmjdllbaaHA25sfr01
import Derived.Test.YtekkldgmjdllbaaG08
import Derived.Test.YtekkldgmjdllbaaG09
import Derived.Test.YtekkldgmjdllbaaG10
import Derived.Shelf.Abstract
import Derived.Test.YtekkldgmjdllbaaProg
import Derived.Test.YtekkldgmjdllbaaG01
import Derived.Laws.StructEq
import Derived.Lib.Hide
import Derived.Deep.QuietTactic
import Derived.BigQuiet
import Derived.Deep.DrawnRows
import Derived.Deep.AppendLies
import Derived.Test.YtekkldgmjdllbaaG07
import Derived.RangeFuncNested
import Derived.Test.YtekkldgmjdllbaaG16
import Derived.Maps.AppendAt
import Derived.OwnWalk
import Derived.Test.YtekkldgmjdllbaaHA25sfr04
import Derived.Laws.Cover3
import Derived.StillTail
import Derived.Below
import Derived.Deep.Draws
import Derived.WalkKit
import Derived.KernelRfl
import Derived.Test.YtekkldgmjdllbaaG06
import Derived.Test.YtekkldgmjdllbaaG15
import Derived.Test.YtekkldgmjdllbaaHA25sfr02
import Derived.Test.YtekkldgmjdllbaaG05
import Derived.Great.BuildSlice
import Derived.Test.YtekkldgmjdllbaaHA25sfr03
import Derived.Test.YtekkldgmjdllbaaG04
import Derived.Test.YtekkldgmjdllbaaG03
import Derived.RangeFuncLeaves
import Derived.RangeFuncRecord
import Derived.Test.YtekkldgmjdllbaaG02
import Derived.OrdersIn
import Derived.TacticsIn
import Derived.RangeFuncCalls
import Derived.Test.YtekkldgmjdllbaaG14
import Derived.Test.YtekkldgmjdllbaaG21
import Derived.Test.YtekkldgmjdllbaaG20
import Derived.Test.YtekkldgmjdllbaaG19
import Derived.Test.YtekkldgmjdllbaaG13
import Derived.Test.YtekkldgmjdllbaaG12
import Derived.Test.YtekkldgmjdllbaaG22
import Derived.Scope
set_option linter.unusedSimpArgs false
set_option linter.unusedVariables false
section
namespace Go.Proofs.Ytekkldgmjdllbaa
open Go.RowKit Go.Flow Go.AV Go.Plain
theorem InvL.snoc {n : Nat} {px : Nat → Int} {kind : Int} {k : Nat} {L : List Int} (h : InvL n px kind k L) (hk : k < n) (hp : px k = kind) : InvL n px kind (k + 1) (L ++ [(k : Int)]) := by
 have hl := mkAll_iff.1 h.1
 have g1 : ∀ i, i < L.length → (L ++ [(k : Int)]).getD i 0 = L.getD i 0 := fun i hi => by rw [getD_app, if_pos hi]
 have g2 : (L ++ [(k : Int)]).getD L.length 0 = (k : Int) := by rw [getD_app, if_neg (Nat.lt_irrefl _), Nat.sub_self]; rfl
 refine ⟨mkAll_iff.2 fun i hi => ?_, fun a ha => ?_⟩
 ·have hi' : i < L.length + 1 := by simpa using hi
  by_cases e : i < L.length
  ·obtain ⟨q1, q2, q3, q4⟩ := hl i e
   unfold mkOk
   dsimp only
   rw [g1 i e]
   refine ⟨q1, q2, fun h0 => ?_, q4⟩
   rw [g1 (i - 1) (by omega)]
   exact q3 h0
  ·obtain rfl : i = L.length := by omega
   unfold mkOk
   dsimp only
   rw [g2]
   refine ⟨by omega, by omega, fun h0 => ?_, by rw [Int.toNat_natCast]; exact hp⟩
   rw [g1 _ (by omega)]
   refine h.2 _ ?_
   rw [List.getD_eq_getElem?_getD, List.getElem?_eq_getElem (by omega)]
   exact List.getElem_mem _
 ·rcases List.mem_append.1 ha with ha | ha
  ·have := h.2 a ha; omega
  ·obtain rfl := List.mem_singleton.1 ha
   omega
abbrev intC (i : Int) : List CV := [iC i]
abbrev rowB (L : List Int) : AB := ⟨true, L.length, 1, 3, rowF intC 0 L⟩
theorem intC_imm (i : Int) : (intC i).all immC = true := rfl
def htStep (px : Nat → Int) (n : Nat) (lost blots at_ : Int) (k : Nat) (s : List Int × List Int) : List Int × List Int :=
 (if px k = 1 ∧ (s.1.length : Int) < lost ∧ ((k : Int) * 7 + at_) % 5 < 3 then s.1 ++ [(k : Int)] else s.1,
  if px k = 0 ∧ (s.2.length : Int) < blots ∧ ((k : Int) ≥ at_ ∨ (k : Int) + blots > n) ∧ ((k : Int) * 7 + at_) % 5 < 3 then s.2 ++ [(k : Int)] else s.2)
def htS (px : Nat → Int) (n : Nat) (lost blots at_ : Int) : Nat → List Int × List Int
 | 0 => ([], [])
 | k + 1 => htStep px n lost blots at_ k (htS px n lost blots at_ k)
def hitV (N : Nat) (f : Nat → Int) (b : Bp) (x : Bg) : Ht :=
 let y := lim4 x
 let dx := nx N f 0 (2 * y.sh + 1) - y.sh
 let dy := nx N f 1 (2 * y.sh + 1) - y.sh
 let n := ((b.W + 4) * (b.H + 4)).toNat
 let s := htS (putF b.W b.H b.d dx dy) n (nx N f 2 (y.lo + 1)) (nx N f 3 (y.bl + 1)) (nx N f 4 (n : Int)) n
 ⟨dx, dy, s.1.length, fun i => s.1.getD i 0, s.2.length, fun i => s.2.getD i 0, nx N f 5 (b.W + 4), min (b.W + 4) (nx N f 5 (b.W + 4) + nx N f 6 (y.st + 1))⟩
theorem hit_fz (L : List Int) : ∀ k, k < L.length → ∀ j, j < 1 → rowF intC 0 L k j = iF (fun i => L.getD i 0) k j ∧ immC (rowF intC 0 L k j) = true := fun k _ j hj => by
 obtain rfl : j = 0 := by omega
 exact ⟨rfl, rfl⟩
abbrev hit0 : List CV := [iC 0, iC 0, nilC, nilC, iC 0, iC 0]
set_option maxHeartbeats 2000000 in
set_option maxRecDepth 100000 in
theorem Hit_A (N : Nat) (f : Nat → Int) (b : Bp) (x : Bg) (hN : N ≤ 4611686018427387904) (hb : chk b.W b.H b.n = 0) : ACalls Try.prog 32 [.c (.ls N 1 (iF f)), .ag (bpC b), .ag (bgC x)] (.ag (htC (hitV N f b x))) ∧ (hitV N f b x).N ≤ 1000000 ∧ (hitV N f b x).M ≤ 1000000 ∧ wiB b (hitV N f b x) x = true := by
 have hLim := rlim_A x
 obtain ⟨y, hy⟩ : ∃ y, lim4 x = y := ⟨_, rfl⟩
 have hyb := lim_bd (x := y) (by rw [← hy, lim_idem])
 rw [hy] at hLim
 obtain ⟨y1, y2, y3, y4⟩ := hyb
 obtain ⟨dx, hdx⟩ : ∃ dx, nx N f 0 (2 * y.sh + 1) - y.sh = dx := ⟨_, rfl⟩
 obtain ⟨dy, hdy⟩ : ∃ dy, nx N f 1 (2 * y.sh + 1) - y.sh = dy := ⟨_, rfl⟩
 have n0 := Next_k N f 0 (2 * y.sh + 1) hN (by omega) (by omega)
 have n1 := Next_k N f 1 (2 * y.sh + 1) hN (by omega) (by omega)
 have b0 : 0 ≤ nx N f 0 (2 * y.sh + 1) ∧ nx N f 0 (2 * y.sh + 1) < 2 * y.sh + 1 := dval_bd N f (dt N 0) _ (by omega)
 have b1 : 0 ≤ nx N f 1 (2 * y.sh + 1) ∧ nx N f 1 (2 * y.sh + 1) < 2 * y.sh + 1 := dval_bd N f (dt N 1) _ (by omega)
 have hE : putE b.W b.H b.n dx dy = 0 := by
  unfold putE shiftB
  rw [if_pos hb, if_pos]
  simp only [Bool.and_eq_true, decide_eq_true_eq]
  omega
 have hPut := rPut_A b.W b.H b.n b.d dx dy
 rw [putV, if_pos hE] at hPut
 obtain ⟨k1, k2, k3, k4, -⟩ := okB hb
 have hn0 : 16 ≤ (b.W + 4) * (b.H + 4) ∧ (b.W + 4) * (b.H + 4) ≤ 10000 := ⟨by have := Int.mul_le_mul (show (4 : Int) ≤ b.W + 4 by omega) (show (4 : Int) ≤ b.H + 4 by omega) (by omega) (by omega); omega, by have := Int.mul_le_mul (show b.W + 4 ≤ 100 by omega) (show b.H + 4 ≤ 100 by omega) (by omega) (by omega); omega⟩
 obtain ⟨px, hpx⟩ : ∃ px, putF b.W b.H b.d dx dy = px := ⟨_, rfl⟩
 have hpb : ∀ k, 0 ≤ px k ∧ px k ≤ 1 := fun k => by rw [← hpx]; exact putF_bd _ _ _ _ _ k
 obtain ⟨n, hn⟩ : ∃ n, ((b.W + 4) * (b.H + 4)).toNat = n := ⟨_, rfl⟩
 rw [hpx, hn] at hPut
 have hn1 : 16 ≤ n ∧ n ≤ 10000 := by omega
 obtain ⟨lost, hlost⟩ : ∃ z, nx N f 2 (y.lo + 1) = z := ⟨_, rfl⟩
 obtain ⟨blots, hblots⟩ : ∃ z, nx N f 3 (y.bl + 1) = z := ⟨_, rfl⟩
 obtain ⟨at_, hat⟩ : ∃ z, nx N f 4 (n : Int) = z := ⟨_, rfl⟩
 obtain ⟨fr, hfr⟩ : ∃ z, nx N f 5 (b.W + 4) = z := ⟨_, rfl⟩
 obtain ⟨st, hst⟩ : ∃ z, nx N f 6 (y.st + 1) = z := ⟨_, rfl⟩
 have n2 := Next_k N f 2 (y.lo + 1) hN (by omega) (by omega)
 have n3 := Next_k N f 3 (y.bl + 1) hN (by omega) (by omega)
 have n4 := Next_k N f 4 (n : Int) hN (by omega) (by omega)
 have n5 := Next_k N f 5 (b.W + 4) hN (by omega) (by omega)
 have n6 := Next_k N f 6 (y.st + 1) hN (by omega) (by omega)
 have b2 : 0 ≤ lost ∧ lost < y.lo + 1 := by rw [← hlost]; exact dval_bd N f (dt N 2) _ (by omega)
 have b3 : 0 ≤ blots ∧ blots < y.bl + 1 := by rw [← hblots]; exact dval_bd N f (dt N 3) _ (by omega)
 have b4 : 0 ≤ at_ ∧ at_ < (n : Int) := by rw [← hat]; exact dval_bd N f (dt N 4) _ (by omega)
 have b5 : 0 ≤ fr ∧ fr < b.W + 4 := by rw [← hfr]; exact dval_bd N f (dt N 5) _ (by omega)
 have b6 : 0 ≤ st ∧ st < y.st + 1 := by rw [← hst]; exact dval_bd N f (dt N 6) _ (by omega)
 rw [hlost] at n2
 rw [hblots] at n3
 rw [hat] at n4
 rw [hfr] at n5
 rw [hst] at n6
 have hV : hitV N f b x = ⟨dx, dy, (htS px n lost blots at_ n).1.length, fun i => (htS px n lost blots at_ n).1.getD i 0, (htS px n lost blots at_ n).2.length, fun i => (htS px n lost blots at_ n).2.getD i 0, fr, min (b.W + 4) (fr + st)⟩ := by
  subst hy hdx hdy hpx hn hlost hblots hat hfr hst
  rfl
 have hInv : ∀ k, k ≤ n → InvL n px 1 k (htS px n lost blots at_ k).1 ∧ InvL n px 0 k (htS px n lost blots at_ k).2 ∧ ((htS px n lost blots at_ k).1.length : Int) ≤ lost ∧ ((htS px n lost blots at_ k).2.length : Int) ≤ blots := fun k => by
  induction k with
  | zero => exact fun _ => ⟨InvL.nil, InvL.nil, b2.1, b3.1⟩
  | succ k ih =>
    intro hk
    obtain ⟨q1, q2, q3, q4⟩ := ih (by omega)
    show InvL n px 1 (k + 1) (htStep px n lost blots at_ k (htS px n lost blots at_ k)).1 ∧ InvL n px 0 (k + 1) (htStep px n lost blots at_ k (htS px n lost blots at_ k)).2 ∧ ((htStep px n lost blots at_ k (htS px n lost blots at_ k)).1.length : Int) ≤ lost ∧ ((htStep px n lost blots at_ k (htS px n lost blots at_ k)).2.length : Int) ≤ blots
    generalize htS px n lost blots at_ k = s at *
    unfold htStep
    dsimp only
    refine ⟨?_, ?_, ?_, ?_⟩
    ·split
     ·rename_i h; exact q1.snoc (by omega) h.1
     ·exact q1.up
    ·split
     ·rename_i h; exact q2.snoc (by omega) h.1
     ·exact q2.up
    ·split
     ·rename_i h; rw [List.length_append]; simp only [List.length_cons, List.length_nil]; omega
     ·exact q3
    ·split
     ·rename_i h; rw [List.length_append]; simp only [List.length_cons, List.length_nil]; omega
     ·exact q4
 rw [hV]
 refine ⟨?_, ?_⟩
 rotate_left
 ·obtain ⟨hI1, hI2, hl1, hl2⟩ := hInv n (Nat.le_refl _)
  generalize htS px n lost blots at_ n = s at *
  obtain ⟨L1, L2⟩ := s
  dsimp only at hI1 hI2 hl1 hl2 ⊢
  refine ⟨by omega, by omega, ?_⟩
  unfold wiB
  rw [hy]
  refine decide_eq_true ⟨?_, ?_, ?_, ?_, ?_⟩
  ·show apE _ _ = 0
   unfold apE
   rw [if_pos hE]
   refine if_pos ⟨?_, ?_, ?_⟩
   ·show mkAll ((b.W + 4) * (b.H + 4)).toNat (putF b.W b.H b.d dx dy) _ 1 L1.length = true
    rw [hn, hpx]; exact hI1.1
   ·show mkAll ((b.W + 4) * (b.H + 4)).toNat (putF b.W b.H b.d dx dy) _ 0 L2.length = true
    rw [hn, hpx]; exact hI2.1
   ·show 0 ≤ fr ∧ fr ≤ min (b.W + 4) (fr + st) ∧ min (b.W + 4) (fr + st) ≤ b.W + 4
    omega
  ·show max (max (max dx (-dx)) dy) (-dy) ≤ y.sh
   omega
  ·show (L1.length : Int) ≤ y.lo
   omega
  ·show (L2.length : Int) ≤ y.bl
   omega
  ·show min (b.W + 4) (fr + st) - fr ≤ y.st
   omega
 refine acalls_at Try.func32 rfl rfl Try.ntmps32 rfl ?_
 repeat (first
  | refine uA ?_
  | (refine rG 0 ?_
     (iterate 2 refine qr5 aQ ?_)
     refine qr5 (aM tyOk) ?_
     refine aB ?_)
  | (refine rG 1 ?_
     refine kA ?_
     refine qr8 (aX tyOk) ?_
     refine qr5 aQ ?_
     refine kC ?_
     refine aB ?_)
  | (refine rG 2 ?_
     refine kF ?_
     refine aH rfl rfl rfl rfl Try.func86 rfl (by kernel_rfl) (hLim) ?_
     refine kI ?_
     refine aB ?_)
  | (refine AWp.draw (id := 3) mixed ?_; refine kA ?_; refine kD ?_; refine kE ?_; refine qr4w2 AList.mul ?_; refine qr4w2 aL ?_; refine AList.callH [18] [drawB N f (dt N 0)] [drawB N f (dt N 1)] rfl rfl rfl Try.func87 rfl (by kernel_rfl) (LendOk.box rfl rfl rfl trivial) rfl (LendImm.box rfl trivial) (n0) ?_; refine kD ?_; refine kE ?_; refine qr4w2 AList.sub ?_; refine kA ?_; refine kD ?_; refine kE ?_; refine qr4w2 AList.mul ?_; refine qr4w2 aL ?_; refine AList.callH [18] [drawB N f (dt N 1)] [drawB N f (dt N 2)] rfl rfl rfl Try.func87 rfl (by kernel_rfl) (LendOk.box rfl rfl rfl trivial) rfl (LendImm.box rfl trivial) (n1) ?_; refine kD ?_; refine kE ?_; refine qr4w2 AList.sub ?_; refine qr8 (aX tyOk) ?_; refine qr5 (aM tyOk) ?_; refine kI ?_; refine aB ⟨by kernel_rfl, ?_⟩))
 refine AWp.weak (S' := mkSt 163 [(4, .c (.pt 4 3 0 0)), (5, .c (.pt 5 4 0 0)), (6, .c (.pt 6 6 0 0)), (7, .c (.pt 18 2 0 0)), (8, .c (.pt 8 6 0 0))]
  [(4, ⟨false, 1, 3, 31, lF (bpC b)⟩), (5, ⟨false, 1, 4, 33, lF (bgC y)⟩), (6, ⟨false, 1, 6, 79, lF hit0⟩), (18, drawB N f (dt N 2)), (8, ⟨false, 1, 6, 79, lF [iC dx, iC dy, nilC, nilC, iC 0, iC 0]⟩)] [4, 5, 6, 8, 18]) (Wk.mk [(4, some 4), (5, some 5), (6, some 6), (8, some 8), (18, some 18)] rfl rfl rfl ?_ ?_) ?_
 ·exact allT
 ·subst hdx hdy
  exact allH
 repeat (first
  | refine uA ?_
  | refine uB ?_
  | refine uC ?_
  | refine uG ?_
  | refine kU ?_
  | (refine rG 4 ?_
     refine kF ?_
     refine kD ?_
     refine kE ?_
     refine kD ?_
     refine kE ?_
     refine aH rfl rfl rfl rfl Try.func88 rfl (by kernel_rfl) (hPut) ?_
     refine kA ?_
     (iterate 2 refine qr4 aN ?_)
     refine qr5 (aM tyOk) ?_
     refine kI ?_
     refine kC ?_
     refine aB ?_)
  | (refine rG 5 ?_
     refine kA ?_
     refine qr5 aW ?_
     refine kA ?_
     refine kD ?_
     refine kE ?_
     refine qr5 (aO tyOk) ?_
     refine qr5f aJ ?_
     refine qr4 aR ?_
     refine aB ?_)
  | (refine AWp.draw (id := 7) mixed ?_; refine kA ?_; refine kD ?_; refine kE ?_; refine qr4w2 aL ?_; refine AList.callH [18] [drawB N f (dt N 2)] [drawB N f (dt N 3)] rfl rfl rfl Try.func87 rfl (by kernel_rfl) (LendOk.box rfl rfl rfl trivial) rfl (LendImm.box rfl trivial) (n2) ?_; refine kA ?_; refine kD ?_; refine kE ?_; refine qr4w2 aL ?_; refine AList.callH [18] [drawB N f (dt N 3)] [drawB N f (dt N 4)] rfl rfl rfl Try.func87 rfl (by kernel_rfl) (LendOk.box rfl rfl rfl trivial) rfl (LendImm.box rfl trivial) (n3) ?_; (iterate 2 refine kC ?_); refine aB ⟨by kernel_rfl, ?_⟩)
  | (refine rG 8 ?_
     refine kA ?_
     refine kD ?_
     refine kE ?_
     refine qr5 (aO tyOk) ?_
     refine AList.callH [18] [drawB N f (dt N 4)] [drawB N f (dt N 5)] rfl rfl rfl Try.func87 rfl (by kernel_rfl) (LendOk.box rfl rfl rfl trivial) rfl (LendImm.box rfl trivial) (n4) ?_
     refine kC ?_
     refine aB ?_)
  | (refine rG 9 ?_
     refine kC ?_
     refine aB ?_))
 refine AWp.round (fun t : Nat × List Int × List Int => mkSt 163 [(5, .c (.pt 5 4 0 0)), (6, .c (.pt 6 6 0 0)), (7, .c (.pt 18 2 0 0)), (8, .c (.pt 8 6 0 0)), (9, .c (.pt 9 3 0 0)), (11, .c (iC lost)), (12, .c (iC blots)), (13, .c (iC at_)), (14, .c (iC t.1))]
  [(5, ⟨false, 1, 4, 33, lF (bgC y)⟩), (6, ⟨false, 1, 6, 79, lF hit0⟩), (18, drawB N f (dt N 5)), (8, ⟨false, 1, 6, 79, lF [iC dx, iC dy, .ow 20, .ow 21, iC 0, iC 0]⟩), (9, ⟨false, 1, 3, 75, lF (imgV (b.W + 4) (b.H + 4) n px)⟩), (20, rowB t.2.1), (21, rowB t.2.2)] [5, 6, 8, 9, 18, 20, 21]
  ) (fun t => t.1 ≤ n ∧ t.2 = htS px n lost blots at_ t.1) (fun t => n - t.1) (0, [], []) ⟨Nat.zero_le _, rfl⟩ ?_ (fun t ht => ?_)
 ·refine Wk.mk [(5, some 5), (6, some 6), (8, some 8), (9, some 9), (18, some 18), (20, none), (21, none)] rfl rfl rfl ?_ ?_
  ·exact allT
  ·exact allH
 ·obtain ⟨k, L1, L2⟩ := t
  obtain ⟨hk, hS⟩ := ht
  dsimp only at hk hS
  dsimp only
  obtain ⟨-, -, hl1, hl2⟩ := hInv k hk
  rw [← hS] at hl1 hl2
  dsimp only at hl1 hl2
  by_cases hlt : k < n
  ·have hp := hpb k
   have hrm : 0 ≤ ((k : Int) * 7 + at_) % 5 ∧ ((k : Int) * 7 + at_) % 5 < 5 := by omega
   obtain ⟨q, hq⟩ : ∃ q, ((k : Int) * 7 + at_) % 5 = q := ⟨_, rfl⟩
   by_cases hp1 : px k = 1
   ·by_cases c1 : (L1.length : Int) < lost
    ·by_cases c2 : ((k : Int) * 7 + at_) % 5 < 3
     ·repeat (first
       | refine uA ?_
       | refine uB ?_
       | refine uC ?_
       | refine uG ?_
       | refine uD ?_
       | refine kT ?_
       | refine kU ?_
       | (refine rG 10 ?_
          refine kA ?_
          refine kD ?_
          refine kE ?_
          refine qr5 (aO tyOk) ?_
          refine qr5t aK ?_
          refine aB ?_)
       | (refine rG 11 ?_
          refine kA ?_
          refine qr4w2 aL ?_
          refine kC ?_
          refine aB ?_)
       | (refine rG 12 ?_
          refine kA ?_
          refine qr4w2 AList.mul ?_
          refine kA ?_
          refine qr4w2 aL ?_
          refine qr4w2 AList.rem ?_
          refine kC ?_
          refine aB ?_)
       | (refine rG 13 ?_
          refine kD ?_
          refine kE ?_
          refine kA ?_
          refine qr8eo2 (aP (k := k) tyOk) ?_
          refine qr5o (aV tyOk) ?_
          refine qr5t aK ?_
          refine kA ?_
          refine kD ?_
          refine kE ?_
          refine qr7 (AList.lenOw tyOk) ?_
          refine kA ?_
          refine qr5t aK ?_
          refine qr4 aS ?_
          (iterate 2 refine kA ?_)
          refine qr5t aK ?_
          refine qr4 aS ?_
          refine aB ?_)
       | (refine rG 14 ?_
          refine kD ?_
          refine kE ?_
          refine kA ?_
          refine qr11 (AList.litSl tyOk) ?_
          refine AList.appL tyOk rfl rfl rfl rfl rfl rfl rfl rfl rfl rfl oM oM ?_
          refine kD ?_
          refine kI ?_
          refine aB ?_)
       | (refine rG 15 ?_
          refine kD ?_
          refine kE ?_
          refine kA ?_
          refine qr8eo2 (aP (k := k) tyOk) ?_
          refine qr5o (aV tyOk) ?_
          refine qr5f aJ ?_
          refine kA ?_
          (iterate 5 refine qr2 aG ?_)
          refine qr4 aR ?_
          refine kA ?_
          (iterate 12 refine qr2 aG ?_)
          refine qr4 aR ?_
          refine kA ?_
          (iterate 2 refine qr2 aG ?_)
          refine qr4 aR ?_
          refine aB ?_))
      refine ⟨(k + 1, (L1 ++ [(k : Int)]), L2), ⟨by dsimp only; omega, by
       show ((L1 ++ [(k : Int)]), L2) = htStep px n lost blots at_ k (htS px n lost blots at_ k)
       rw [← hS]
       unfold htStep
       dsimp only
       rw [Prod.mk.injEq]
       constructor <;> (split <;> first | rfl | (exfalso; omega))⟩, Wk.mk [(5, some 5), (6, some 6), (8, some 8), (9, some 9), (18, some 18), (20, some 106), (21, some 21)] rfl rfl rfl ?_ ?_, by dsimp only; omega⟩
      ·exact allT
      ·repeat (first | exact trivial | refine ⟨by first | exact HeapOk.row rfl rfl (by rw [List.length_append]; rfl) (row_snoc _ _ intC_imm rfl) | exact hoT, ?_⟩)
     ·repeat (first
       | refine uA ?_
       | refine uB ?_
       | refine uC ?_
       | refine uG ?_
       | refine uD ?_
       | refine kT ?_
       | refine kU ?_
       | (refine rG 10 ?_
          refine kA ?_
          refine kD ?_
          refine kE ?_
          refine qr5 (aO tyOk) ?_
          refine qr5t aK ?_
          refine aB ?_)
       | (refine rG 11 ?_
          refine kA ?_
          refine qr4w2 aL ?_
          refine kC ?_
          refine aB ?_)
       | (refine rG 12 ?_
          refine kA ?_
          refine qr4w2 AList.mul ?_
          refine kA ?_
          refine qr4w2 aL ?_
          refine qr4w2 AList.rem ?_
          refine kC ?_
          refine aB ?_)
       | (refine rG 13 ?_
          refine kD ?_
          refine kE ?_
          refine kA ?_
          refine qr8eo2 (aP (k := k) tyOk) ?_
          refine qr5o (aV tyOk) ?_
          refine qr5t aK ?_
          refine kA ?_
          refine kD ?_
          refine kE ?_
          refine qr7 (AList.lenOw tyOk) ?_
          refine kA ?_
          refine qr5t aK ?_
          refine qr4 aS ?_
          (iterate 2 refine kA ?_)
          refine qr5f aJ ?_
          refine qr4 aS ?_
          refine aB ?_)
       | (refine rG 15 ?_
          refine kD ?_
          refine kE ?_
          refine kA ?_
          refine qr8eo2 (aP (k := k) tyOk) ?_
          refine qr5o (aV tyOk) ?_
          refine qr5f aJ ?_
          refine kA ?_
          (iterate 5 refine qr2 aG ?_)
          refine qr4 aR ?_
          refine kA ?_
          (iterate 12 refine qr2 aG ?_)
          refine qr4 aR ?_
          refine kA ?_
          (iterate 2 refine qr2 aG ?_)
          refine qr4 aR ?_
          refine aB ?_))
      refine ⟨(k + 1, L1, L2), ⟨by dsimp only; omega, by
       show (L1, L2) = htStep px n lost blots at_ k (htS px n lost blots at_ k)
       rw [← hS]
       unfold htStep
       dsimp only
       rw [Prod.mk.injEq]
       constructor <;> (split <;> first | rfl | (exfalso; omega))⟩, Wk.mk [(5, some 5), (6, some 6), (8, some 8), (9, some 9), (18, some 18), (20, some 20), (21, some 21)] rfl rfl rfl ?_ ?_, by dsimp only; omega⟩
      ·exact allT
      ·repeat (first | exact trivial | refine ⟨by first | exact HeapOk.row rfl rfl (by rw [List.length_append]; rfl) (row_snoc _ _ intC_imm rfl) | exact hoT, ?_⟩)
    ·repeat (first
      | refine uA ?_
      | refine uB ?_
      | refine uC ?_
      | refine uG ?_
      | refine uD ?_
      | refine kT ?_
      | refine kU ?_
      | (refine rG 10 ?_
         refine kA ?_
         refine kD ?_
         refine kE ?_
         refine qr5 (aO tyOk) ?_
         refine qr5t aK ?_
         refine aB ?_)
      | (refine rG 11 ?_
         refine kA ?_
         refine qr4w2 aL ?_
         refine kC ?_
         refine aB ?_)
      | (refine rG 12 ?_
         refine kA ?_
         refine qr4w2 AList.mul ?_
         refine kA ?_
         refine qr4w2 aL ?_
         refine qr4w2 AList.rem ?_
         refine kC ?_
         refine aB ?_)
      | (refine rG 13 ?_
         refine kD ?_
         refine kE ?_
         refine kA ?_
         refine qr8eo2 (aP (k := k) tyOk) ?_
         refine qr5o (aV tyOk) ?_
         refine qr5t aK ?_
         refine kA ?_
         refine kD ?_
         refine kE ?_
         refine qr7 (AList.lenOw tyOk) ?_
         refine kA ?_
         refine qr5f aJ ?_
         refine qr4 aS ?_
         refine kA ?_
         (iterate 2 refine qr2 aG ?_)
         refine qr4 aR ?_
         refine aB ?_)
      | (refine rG 15 ?_
         refine kD ?_
         refine kE ?_
         refine kA ?_
         refine qr8eo2 (aP (k := k) tyOk) ?_
         refine qr5o (aV tyOk) ?_
         refine qr5f aJ ?_
         refine kA ?_
         (iterate 5 refine qr2 aG ?_)
         refine qr4 aR ?_
         refine kA ?_
         (iterate 12 refine qr2 aG ?_)
         refine qr4 aR ?_
         refine kA ?_
         (iterate 2 refine qr2 aG ?_)
         refine qr4 aR ?_
         refine aB ?_))
     refine ⟨(k + 1, L1, L2), ⟨by dsimp only; omega, by
      show (L1, L2) = htStep px n lost blots at_ k (htS px n lost blots at_ k)
      rw [← hS]
      unfold htStep
      dsimp only
      rw [Prod.mk.injEq]
      constructor <;> (split <;> first | rfl | (exfalso; omega))⟩, Wk.mk [(5, some 5), (6, some 6), (8, some 8), (9, some 9), (18, some 18), (20, some 20), (21, some 21)] rfl rfl rfl ?_ ?_, by dsimp only; omega⟩
     ·exact allT
     ·repeat (first | exact trivial | refine ⟨by first | exact HeapOk.row rfl rfl (by rw [List.length_append]; rfl) (row_snoc _ _ intC_imm rfl) | exact hoT, ?_⟩)
   ·have hp0 : px k = 0 := by omega
    by_cases c1 : (L2.length : Int) < blots
    ·by_cases c3 : (k : Int) ≥ at_
     ·by_cases c2 : ((k : Int) * 7 + at_) % 5 < 3
      ·repeat (first
        | refine uA ?_
        | refine uB ?_
        | refine uC ?_
        | refine uG ?_
        | refine uD ?_
        | refine kT ?_
        | refine kU ?_
        | (refine rG 10 ?_
           refine kA ?_
           refine kD ?_
           refine kE ?_
           refine qr5 (aO tyOk) ?_
           refine qr5t aK ?_
           refine aB ?_)
        | (refine rG 11 ?_
           refine kA ?_
           refine qr4w2 aL ?_
           refine kC ?_
           refine aB ?_)
        | (refine rG 12 ?_
           refine kA ?_
           refine qr4w2 AList.mul ?_
           refine kA ?_
           refine qr4w2 aL ?_
           refine qr4w2 AList.rem ?_
           refine kC ?_
           refine aB ?_)
        | (refine rG 13 ?_
           refine kD ?_
           refine kE ?_
           refine kA ?_
           refine qr8eo2 (aP (k := k) tyOk) ?_
           refine qr5o (aV tyOk) ?_
           refine qr5f aJ ?_
           refine kA ?_
           (iterate 5 refine qr2 aG ?_)
           refine qr4 aR ?_
           refine kA ?_
           (iterate 2 refine qr2 aG ?_)
           refine qr4 aR ?_
           refine aB ?_)
        | (refine rG 15 ?_
           refine kD ?_
           refine kE ?_
           refine kA ?_
           refine qr8eo2 (aP (k := k) tyOk) ?_
           refine qr5o (aV tyOk) ?_
           refine qr5t aK ?_
           refine kA ?_
           refine kD ?_
           refine kE ?_
           refine qr7 (AList.lenOw tyOk) ?_
           refine kA ?_
           refine qr5t aK ?_
           refine qr4 aS ?_
           (iterate 3 refine kA ?_)
           refine qr5t aK ?_
           refine kA ?_
           (iterate 7 refine qr2 aG ?_)
           (iterate 2 refine qr4 aS ?_)
           (iterate 2 refine kA ?_)
           refine qr5t aK ?_
           refine qr4 aS ?_
           refine aB ?_)
        | (refine rG 16 ?_
           refine kD ?_
           refine kE ?_
           refine kA ?_
           refine qr11 (AList.litSl tyOk) ?_
           refine AList.appL tyOk rfl rfl rfl rfl rfl rfl rfl rfl rfl rfl oM oM ?_
           refine kD ?_
           refine kI ?_
           refine aB ?_))
       refine ⟨(k + 1, L1, (L2 ++ [(k : Int)])), ⟨by dsimp only; omega, by
        show (L1, (L2 ++ [(k : Int)])) = htStep px n lost blots at_ k (htS px n lost blots at_ k)
        rw [← hS]
        unfold htStep
        dsimp only
        rw [Prod.mk.injEq]
        constructor <;> (split <;> first | rfl | (exfalso; omega))⟩, Wk.mk [(5, some 5), (6, some 6), (8, some 8), (9, some 9), (18, some 18), (20, some 20), (21, some 143)] rfl rfl rfl ?_ ?_, by dsimp only; omega⟩
       ·exact allT
       ·repeat (first | exact trivial | refine ⟨by first | exact HeapOk.row rfl rfl (by rw [List.length_append]; rfl) (row_snoc _ _ intC_imm rfl) | exact hoT, ?_⟩)
      ·repeat (first
        | refine uA ?_
        | refine uB ?_
        | refine uC ?_
        | refine uG ?_
        | refine uD ?_
        | refine kT ?_
        | refine kU ?_
        | (refine rG 10 ?_
           refine kA ?_
           refine kD ?_
           refine kE ?_
           refine qr5 (aO tyOk) ?_
           refine qr5t aK ?_
           refine aB ?_)
        | (refine rG 11 ?_
           refine kA ?_
           refine qr4w2 aL ?_
           refine kC ?_
           refine aB ?_)
        | (refine rG 12 ?_
           refine kA ?_
           refine qr4w2 AList.mul ?_
           refine kA ?_
           refine qr4w2 aL ?_
           refine qr4w2 AList.rem ?_
           refine kC ?_
           refine aB ?_)
        | (refine rG 13 ?_
           refine kD ?_
           refine kE ?_
           refine kA ?_
           refine qr8eo2 (aP (k := k) tyOk) ?_
           refine qr5o (aV tyOk) ?_
           refine qr5f aJ ?_
           refine kA ?_
           (iterate 5 refine qr2 aG ?_)
           refine qr4 aR ?_
           refine kA ?_
           (iterate 2 refine qr2 aG ?_)
           refine qr4 aR ?_
           refine aB ?_)
        | (refine rG 15 ?_
           refine kD ?_
           refine kE ?_
           refine kA ?_
           refine qr8eo2 (aP (k := k) tyOk) ?_
           refine qr5o (aV tyOk) ?_
           refine qr5t aK ?_
           refine kA ?_
           refine kD ?_
           refine kE ?_
           refine qr7 (AList.lenOw tyOk) ?_
           refine kA ?_
           refine qr5t aK ?_
           refine qr4 aS ?_
           (iterate 3 refine kA ?_)
           refine qr5t aK ?_
           refine kA ?_
           (iterate 7 refine qr2 aG ?_)
           (iterate 2 refine qr4 aS ?_)
           (iterate 2 refine kA ?_)
           refine qr5f aJ ?_
           refine qr4 aS ?_
           refine aB ?_))
       refine ⟨(k + 1, L1, L2), ⟨by dsimp only; omega, by
        show (L1, L2) = htStep px n lost blots at_ k (htS px n lost blots at_ k)
        rw [← hS]
        unfold htStep
        dsimp only
        rw [Prod.mk.injEq]
        constructor <;> (split <;> first | rfl | (exfalso; omega))⟩, Wk.mk [(5, some 5), (6, some 6), (8, some 8), (9, some 9), (18, some 18), (20, some 20), (21, some 21)] rfl rfl rfl ?_ ?_, by dsimp only; omega⟩
       ·exact allT
       ·repeat (first | exact trivial | refine ⟨by first | exact HeapOk.row rfl rfl (by rw [List.length_append]; rfl) (row_snoc _ _ intC_imm rfl) | exact hoT, ?_⟩)
     ·by_cases c4 : (k : Int) + blots > n
      ·by_cases c2 : ((k : Int) * 7 + at_) % 5 < 3
       ·repeat (first
         | refine uA ?_
         | refine uB ?_
         | refine uC ?_
         | refine uG ?_
         | refine uD ?_
         | refine kT ?_
         | refine kU ?_
         | (refine rG 10 ?_
            refine kA ?_
            refine kD ?_
            refine kE ?_
            refine qr5 (aO tyOk) ?_
            refine qr5t aK ?_
            refine aB ?_)
         | (refine rG 11 ?_
            refine kA ?_
            refine qr4w2 aL ?_
            refine kC ?_
            refine aB ?_)
         | (refine rG 12 ?_
            refine kA ?_
            refine qr4w2 AList.mul ?_
            refine kA ?_
            refine qr4w2 aL ?_
            refine qr4w2 AList.rem ?_
            refine kC ?_
            refine aB ?_)
         | (refine rG 13 ?_
            refine kD ?_
            refine kE ?_
            refine kA ?_
            refine qr8eo2 (aP (k := k) tyOk) ?_
            refine qr5o (aV tyOk) ?_
            refine qr5f aJ ?_
            refine kA ?_
            (iterate 5 refine qr2 aG ?_)
            refine qr4 aR ?_
            refine kA ?_
            (iterate 2 refine qr2 aG ?_)
            refine qr4 aR ?_
            refine aB ?_)
         | (refine rG 15 ?_
            refine kD ?_
            refine kE ?_
            refine kA ?_
            refine qr8eo2 (aP (k := k) tyOk) ?_
            refine qr5o (aV tyOk) ?_
            refine qr5t aK ?_
            refine kA ?_
            refine kD ?_
            refine kE ?_
            refine qr7 (AList.lenOw tyOk) ?_
            refine kA ?_
            refine qr5t aK ?_
            refine qr4 aS ?_
            (iterate 3 refine kA ?_)
            refine qr5f aJ ?_
            (iterate 3 refine kA ?_)
            refine qr4w2 aL ?_
            refine kD ?_
            refine kE ?_
            refine qr5 (aO tyOk) ?_
            refine qr5t aK ?_
            refine qr4 aR ?_
            refine qr4 aS ?_
            (iterate 2 refine kA ?_)
            refine qr5t aK ?_
            refine qr4 aS ?_
            refine aB ?_)
         | (refine rG 16 ?_
            refine kD ?_
            refine kE ?_
            refine kA ?_
            refine qr11 (AList.litSl tyOk) ?_
            refine AList.appL tyOk rfl rfl rfl rfl rfl rfl rfl rfl rfl rfl oM oM ?_
            refine kD ?_
            refine kI ?_
            refine aB ?_))
        refine ⟨(k + 1, L1, (L2 ++ [(k : Int)])), ⟨by dsimp only; omega, by
         show (L1, (L2 ++ [(k : Int)])) = htStep px n lost blots at_ k (htS px n lost blots at_ k)
         rw [← hS]
         unfold htStep
         dsimp only
         rw [Prod.mk.injEq]
         constructor <;> (split <;> first | rfl | (exfalso; omega))⟩, Wk.mk [(5, some 5), (6, some 6), (8, some 8), (9, some 9), (18, some 18), (20, some 20), (21, some 143)] rfl rfl rfl ?_ ?_, by dsimp only; omega⟩
        ·exact allT
        ·repeat (first | exact trivial | refine ⟨by first | exact HeapOk.row rfl rfl (by rw [List.length_append]; rfl) (row_snoc _ _ intC_imm rfl) | exact hoT, ?_⟩)
       ·repeat (first
         | refine uA ?_
         | refine uB ?_
         | refine uC ?_
         | refine uG ?_
         | refine uD ?_
         | refine kT ?_
         | refine kU ?_
         | (refine rG 10 ?_
            refine kA ?_
            refine kD ?_
            refine kE ?_
            refine qr5 (aO tyOk) ?_
            refine qr5t aK ?_
            refine aB ?_)
         | (refine rG 11 ?_
            refine kA ?_
            refine qr4w2 aL ?_
            refine kC ?_
            refine aB ?_)
         | (refine rG 12 ?_
            refine kA ?_
            refine qr4w2 AList.mul ?_
            refine kA ?_
            refine qr4w2 aL ?_
            refine qr4w2 AList.rem ?_
            refine kC ?_
            refine aB ?_)
         | (refine rG 13 ?_
            refine kD ?_
            refine kE ?_
            refine kA ?_
            refine qr8eo2 (aP (k := k) tyOk) ?_
            refine qr5o (aV tyOk) ?_
            refine qr5f aJ ?_
            refine kA ?_
            (iterate 5 refine qr2 aG ?_)
            refine qr4 aR ?_
            refine kA ?_
            (iterate 2 refine qr2 aG ?_)
            refine qr4 aR ?_
            refine aB ?_)
         | (refine rG 15 ?_
            refine kD ?_
            refine kE ?_
            refine kA ?_
            refine qr8eo2 (aP (k := k) tyOk) ?_
            refine qr5o (aV tyOk) ?_
            refine qr5t aK ?_
            refine kA ?_
            refine kD ?_
            refine kE ?_
            refine qr7 (AList.lenOw tyOk) ?_
            refine kA ?_
            refine qr5t aK ?_
            refine qr4 aS ?_
            (iterate 3 refine kA ?_)
            refine qr5f aJ ?_
            (iterate 3 refine kA ?_)
            refine qr4w2 aL ?_
            refine kD ?_
            refine kE ?_
            refine qr5 (aO tyOk) ?_
            refine qr5t aK ?_
            refine qr4 aR ?_
            refine qr4 aS ?_
            (iterate 2 refine kA ?_)
            refine qr5f aJ ?_
            refine qr4 aS ?_
            refine aB ?_))
        refine ⟨(k + 1, L1, L2), ⟨by dsimp only; omega, by
         show (L1, L2) = htStep px n lost blots at_ k (htS px n lost blots at_ k)
         rw [← hS]
         unfold htStep
         dsimp only
         rw [Prod.mk.injEq]
         constructor <;> (split <;> first | rfl | (exfalso; omega))⟩, Wk.mk [(5, some 5), (6, some 6), (8, some 8), (9, some 9), (18, some 18), (20, some 20), (21, some 21)] rfl rfl rfl ?_ ?_, by dsimp only; omega⟩
        ·exact allT
        ·repeat (first | exact trivial | refine ⟨by first | exact HeapOk.row rfl rfl (by rw [List.length_append]; rfl) (row_snoc _ _ intC_imm rfl) | exact hoT, ?_⟩)
      ·repeat (first
        | refine uA ?_
        | refine uB ?_
        | refine uC ?_
        | refine uG ?_
        | refine uD ?_
        | refine kT ?_
        | refine kU ?_
        | (refine rG 10 ?_
           refine kA ?_
           refine kD ?_
           refine kE ?_
           refine qr5 (aO tyOk) ?_
           refine qr5t aK ?_
           refine aB ?_)
        | (refine rG 11 ?_
           refine kA ?_
           refine qr4w2 aL ?_
           refine kC ?_
           refine aB ?_)
        | (refine rG 12 ?_
           refine kA ?_
           refine qr4w2 AList.mul ?_
           refine kA ?_
           refine qr4w2 aL ?_
           refine qr4w2 AList.rem ?_
           refine kC ?_
           refine aB ?_)
        | (refine rG 13 ?_
           refine kD ?_
           refine kE ?_
           refine kA ?_
           refine qr8eo2 (aP (k := k) tyOk) ?_
           refine qr5o (aV tyOk) ?_
           refine qr5f aJ ?_
           refine kA ?_
           (iterate 5 refine qr2 aG ?_)
           refine qr4 aR ?_
           refine kA ?_
           (iterate 2 refine qr2 aG ?_)
           refine qr4 aR ?_
           refine aB ?_)
        | (refine rG 15 ?_
           refine kD ?_
           refine kE ?_
           refine kA ?_
           refine qr8eo2 (aP (k := k) tyOk) ?_
           refine qr5o (aV tyOk) ?_
           refine qr5t aK ?_
           refine kA ?_
           refine kD ?_
           refine kE ?_
           refine qr7 (AList.lenOw tyOk) ?_
           refine kA ?_
           refine qr5t aK ?_
           refine qr4 aS ?_
           (iterate 3 refine kA ?_)
           refine qr5f aJ ?_
           (iterate 3 refine kA ?_)
           refine qr4w2 aL ?_
           refine kD ?_
           refine kE ?_
           refine qr5 (aO tyOk) ?_
           refine qr5f aJ ?_
           refine qr4 aR ?_
           refine qr4 aS ?_
           refine kA ?_
           (iterate 2 refine qr2 aG ?_)
           refine qr4 aR ?_
           refine aB ?_))
       refine ⟨(k + 1, L1, L2), ⟨by dsimp only; omega, by
        show (L1, L2) = htStep px n lost blots at_ k (htS px n lost blots at_ k)
        rw [← hS]
        unfold htStep
        dsimp only
        rw [Prod.mk.injEq]
        constructor <;> (split <;> first | rfl | (exfalso; omega))⟩, Wk.mk [(5, some 5), (6, some 6), (8, some 8), (9, some 9), (18, some 18), (20, some 20), (21, some 21)] rfl rfl rfl ?_ ?_, by dsimp only; omega⟩
       ·exact allT
       ·repeat (first | exact trivial | refine ⟨by first | exact HeapOk.row rfl rfl (by rw [List.length_append]; rfl) (row_snoc _ _ intC_imm rfl) | exact hoT, ?_⟩)
    ·repeat (first
      | refine uA ?_
      | refine uB ?_
      | refine uC ?_
      | refine uG ?_
      | refine uD ?_
      | refine kT ?_
      | refine kU ?_
      | (refine rG 10 ?_
         refine kA ?_
         refine kD ?_
         refine kE ?_
         refine qr5 (aO tyOk) ?_
         refine qr5t aK ?_
         refine aB ?_)
      | (refine rG 11 ?_
         refine kA ?_
         refine qr4w2 aL ?_
         refine kC ?_
         refine aB ?_)
      | (refine rG 12 ?_
         refine kA ?_
         refine qr4w2 AList.mul ?_
         refine kA ?_
         refine qr4w2 aL ?_
         refine qr4w2 AList.rem ?_
         refine kC ?_
         refine aB ?_)
      | (refine rG 13 ?_
         refine kD ?_
         refine kE ?_
         refine kA ?_
         refine qr8eo2 (aP (k := k) tyOk) ?_
         refine qr5o (aV tyOk) ?_
         refine qr5f aJ ?_
         refine kA ?_
         (iterate 5 refine qr2 aG ?_)
         refine qr4 aR ?_
         refine kA ?_
         (iterate 2 refine qr2 aG ?_)
         refine qr4 aR ?_
         refine aB ?_)
      | (refine rG 15 ?_
         refine kD ?_
         refine kE ?_
         refine kA ?_
         refine qr8eo2 (aP (k := k) tyOk) ?_
         refine qr5o (aV tyOk) ?_
         refine qr5t aK ?_
         refine kA ?_
         refine kD ?_
         refine kE ?_
         refine qr7 (AList.lenOw tyOk) ?_
         refine kA ?_
         refine qr5f aJ ?_
         refine qr4 aS ?_
         refine kA ?_
         (iterate 12 refine qr2 aG ?_)
         refine qr4 aR ?_
         refine kA ?_
         (iterate 2 refine qr2 aG ?_)
         refine qr4 aR ?_
         refine aB ?_))
     refine ⟨(k + 1, L1, L2), ⟨by dsimp only; omega, by
      show (L1, L2) = htStep px n lost blots at_ k (htS px n lost blots at_ k)
      rw [← hS]
      unfold htStep
      dsimp only
      rw [Prod.mk.injEq]
      constructor <;> (split <;> first | rfl | (exfalso; omega))⟩, Wk.mk [(5, some 5), (6, some 6), (8, some 8), (9, some 9), (18, some 18), (20, some 20), (21, some 21)] rfl rfl rfl ?_ ?_, by dsimp only; omega⟩
     ·exact allT
     ·repeat (first | exact trivial | refine ⟨by first | exact HeapOk.row rfl rfl (by rw [List.length_append]; rfl) (row_snoc _ _ intC_imm rfl) | exact hoT, ?_⟩)
  ·obtain rfl : k = n := by omega
   rw [← hS]
   dsimp only
   refine AWp.weak (S' := mkSt 163 [(5, .c (.pt 5 4 0 0)), (6, .c (.pt 6 6 0 0)), (7, .c (.pt 18 2 0 0)), (8, .c (.pt 8 6 0 0)), (9, .c (.pt 9 3 0 0)), (14, .c (iC k))]
    [(5, ⟨false, 1, 4, 33, lF (bgC y)⟩), (6, ⟨false, 1, 6, 79, lF hit0⟩), (18, drawB N f (dt N 5)), (8, ⟨false, 1, 6, 79, lF [iC dx, iC dy, .ls L1.length 1 (iF fun i => L1.getD i 0), .ls L2.length 1 (iF fun i => L2.getD i 0), iC 0, iC 0]⟩), (9, ⟨false, 1, 3, 75, lF (imgV (b.W + 4) (b.H + 4) k px)⟩)] [5, 6, 8, 9, 18]) (Wk.mk [(5, some 5), (6, some 6), (8, some 8), (9, some 9), (18, some 18)] rfl rfl rfl ?_ ?_) ?_
   ·exact allT
   ·repeat (first | exact trivial | refine ⟨by first | exact HeapOk.box rfl rfl ⟨LeC.refl _ rfl, LeC.refl _ rfl, LeC.fz rfl rfl rfl (hit_fz _), LeC.fz rfl rfl rfl (hit_fz _), LeC.refl _ rfl, LeC.refl _ rfl, trivial⟩ rfl | exact hoT, ?_⟩)
   repeat (first
    | refine uA ?_
    | refine uB ?_
    | refine uH ?_
    | refine AWp.ret ?_
    | refine kU ?_
    | (refine rG 10 ?_
       refine kA ?_
       refine kD ?_
       refine kE ?_
       refine qr5 (aO tyOk) ?_
       refine qr5f aJ ?_
       refine aB ?_)
    | (refine rG 17 ?_
       refine kA ?_
       refine kD ?_
       refine kE ?_
       refine AList.callH [18] [drawB N f (dt N 5)] [drawB N f (dt N 6)] rfl rfl rfl Try.func87 rfl (by kernel_rfl) (LendOk.box rfl rfl rfl trivial) rfl (LendImm.box rfl trivial) (n5) ?_
       refine kD ?_
       refine kI ?_
       refine aB ?_)
    | (refine AWp.draw (id := 18) mixed ?_; refine kD ?_; refine kE ?_; refine kD ?_; refine kE ?_; refine kA ?_; refine kD ?_; refine kE ?_; refine qr4w2 aL ?_; refine AList.callH [18] [drawB N f (dt N 6)] [drawB N f (dt N 7)] rfl rfl rfl Try.func87 rfl (by kernel_rfl) (LendOk.box rfl rfl rfl trivial) rfl (LendImm.box rfl trivial) (n6) ?_; refine qr4w2 aL ?_; refine qr4 AList.minI ?_; refine kD ?_; refine kI ?_; refine aB ⟨by kernel_rfl, ?_⟩)
    | (refine rG 19 ?_
       refine kF ?_
       refine kI ?_
       refine aB ?_))
   refine ⟨mkSt 163 [(6, .c (.pt 6 6 0 0))] [(6, ⟨false, 1, 6, 79, lF [iC dx, iC dy, .ls L1.length 1 (iF fun i => L1.getD i 0), .ls L2.length 1 (iF fun i => L2.getD i 0), iC fr, iC (min (b.W + 4) (fr + st))]⟩)] [6], [(6, ⟨false, 1, 6, 79, lF [iC dx, iC dy, .ls L1.length 1 (iF fun i => L1.getD i 0), .ls L2.length 1 (iF fun i => L2.getD i 0), iC fr, iC (min (b.W + 4) (fr + st))]⟩)], Wk.mk [(6, some 6)] rfl rfl rfl ?_ ?_, rfl, rfl, ARets.one (x := .ag _) (ARes.box tyOk rfl rfl rfl rfl rfl rfl rfl)⟩
   ·exact allT
   ·exact allH
def lsN (f : Cl → Int) (L : List Cl) (z : Int) : Int := L.foldl (fun m c => min m (f c)) z
def slkV (a b : Bp) (x y : Bg) : Int × Bool := if cmpOk a b then (lsN (xsV a b x y) (alL a.W x y) ((a.n : Int) + 1), true) else (0, false)
theorem mem_al {w : Int} {x y : Bg} {c : Cl} : c ∈ alL w x y ↔ (c.dx, c.dy) ∈ shL (shN x y) ∧ ∃ i, i < alM w x y ∧ c.col = (i : Int) - 4 := by
 unfold alL alK alI
 simp only [List.mem_flatMap, List.mem_map, List.mem_range]
 constructor
 ·rintro ⟨d, hd, i, hi, rfl⟩
  exact ⟨hd, i, hi, rfl⟩
 ·rintro ⟨hd, i, hi, e⟩
  refine ⟨_, hd, i, hi, ?_⟩
  rw [← e]
end Go.Proofs.Ytekkldgmjdllbaa
end
