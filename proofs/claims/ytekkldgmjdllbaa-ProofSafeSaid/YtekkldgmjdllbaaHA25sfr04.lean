/- Parts of the proof: A23h, A23j. -/
import Derived.Test.YtekkldgmjdllbaaG16
import Derived.Test.YtekkldgmjdllbaaHA25sfr03
import Derived.Test.YtekkldgmjdllbaaG11
import Derived.Test.YtekkldgmjdllbaaHA25sfr01
import Derived.Test.YtekkldgmjdllbaaG08
import Derived.Test.YtekkldgmjdllbaaG10
import Derived.Laws.Cover3
import Derived.Test.YtekkldgmjdllbaaProg
import Derived.Test.YtekkldgmjdllbaaG01
import Derived.Test.YtekkldgmjdllbaaG14
import Derived.Test.YtekkldgmjdllbaaHA25sfr02
import Derived.Laws.StructEq
import Derived.Lib.Hide
import Derived.Deep.QuietTactic
import Derived.BigQuiet
import Derived.Deep.DrawnRows
import Derived.Deep.AppendLies
import Derived.Test.YtekkldgmjdllbaaG15
import Derived.WalkKit
import Derived.Test.YtekkldgmjdllbaaG07
import Derived.Maps.AppendAt
import Derived.OwnWalk
import Derived.StillTail
import Derived.Below
import Derived.Deep.Draws
import Derived.KernelRfl
import Derived.Test.YtekkldgmjdllbaaG06
import Derived.Test.YtekkldgmjdllbaaG05
import Derived.Great.BuildSlice
import Derived.Test.YtekkldgmjdllbaaG04
import Derived.Test.YtekkldgmjdllbaaG03
import Derived.RangeFuncLeaves
import Derived.RangeFuncRecord
import Derived.Test.YtekkldgmjdllbaaG02
import Derived.OrdersIn
import Derived.TacticsIn
import Derived.RangeFuncCalls
set_option linter.unusedSimpArgs false
set_option linter.unusedVariables false
section
namespace Go.Proofs.Ytekkldgmjdllbaa
open Go.RowKit Go.Flow Go.AV Go.Plain
structure Ht where
 dx : Int
 dy : Int
 N : Nat
 lo : Nat → Int
 M : Nat
 bl : Nat → Int
 fr : Int
 ti : Int
abbrev htC (h : Ht) : List CV := [iC h.dx, iC h.dy, .ls h.N 1 (iF h.lo), .ls h.M 1 (iF h.bl), iC h.fr, iC h.ti]
abbrev bpx (b : Bp) (h : Ht) : Nat → Int := putF b.W b.H b.d h.dx h.dy
abbrev bpm (b : Bp) : Nat := ((b.W + 4) * (b.H + 4)).toNat
def apE (b : Bp) (h : Ht) : Int := if putE b.W b.H b.n h.dx h.dy = 0 then (if mkAll (bpm b) (bpx b h) h.lo 1 h.N = true ∧ mkAll (bpm b) (bpx b h) h.bl 0 h.M = true ∧ 0 ≤ h.fr ∧ h.fr ≤ h.ti ∧ h.ti ≤ b.W + 4 then 0 else 1) else putE b.W b.H b.n h.dx h.dy
def apF (b : Bp) (h : Ht) : Nat → Int := hideF (b.W + 4) (setL (setL (bpx b h) h.lo 0 h.N) h.bl 1 h.M) h.fr h.ti
abbrev apI (b : Bp) (h : Ht) : List CV := if apE b h = 0 then imgV (b.W + 4) (b.H + 4) (bpm b) (apF b h) else imgV 0 0 0 fun _ => 0
abbrev apV (b : Bp) (h : Ht) : AV := .tu [.ag (apI b h), .c (iC (apE b h))]
theorem setL_bd {px l : Nat → Int} {v : Int} (hv : 0 ≤ v ∧ v ≤ 1) (hp : ∀ p, 0 ≤ px p ∧ px p ≤ 1) : ∀ (k p : Nat), 0 ≤ setL px l v k p ∧ setL px l v k p ≤ 1
 | 0, p => hp p
 | k + 1, p => by
   show 0 ≤ (if p = (l k).toNat then v else setL px l v k p) ∧ (if p = (l k).toNat then v else setL px l v k p) ≤ 1
   split
   ·exact hv
   ·exact setL_bd hv hp k p
set_option maxHeartbeats 2000000 in
set_option maxRecDepth 100000 in
theorem pApply_A (b : Bp) (h : Ht) (hN : h.N ≤ 4611686018427387904) (hM : h.M ≤ 4611686018427387904) : ACalls Try.prog 31 [.ag (bpC b), .ag (htC h)] (apV b h) := by
 obtain ⟨W, H, n, d⟩ := b
 obtain ⟨dx, dy, N, lo, M, bl, fr, ti⟩ := h
 dsimp only at hN hM
 by_cases hp : putE W H n dx dy = 0
 ·have hokb : chk W H n = 0 := by
   unfold putE at hp
   split at hp
   ·assumption
   ·exact absurd hp ‹_›
  obtain ⟨hw0, hW, hh0, hH, hn⟩ := okB hokb
  obtain ⟨Wn, rfl⟩ := Int.eq_ofNat_of_zero_le hw0
  obtain ⟨Hn, rfl⟩ := Int.eq_ofNat_of_zero_le hh0
  have hPut := iPut_T Wn Hn n d dx dy hp
  have hmE : bpm ⟨Wn, Hn, n, d⟩ = (Wn + 4) * (Hn + 4) := by
   show (((Wn : Int) + 4) * ((Hn : Int) + 4)).toNat = _
   have : ((Wn : Int) + 4) * ((Hn : Int) + 4) = (((Wn + 4) * (Hn + 4) : Nat) : Int) := by simp
   rw [this, Int.toNat_natCast]
  obtain ⟨m, hm⟩ : ∃ m, m = (Wn + 4) * (Hn + 4) := ⟨_, rfl⟩
  have hmb : m ≤ 10000 := by rw [hm]; exact Nat.mul_le_mul (by omega : Wn + 4 ≤ 100) (by omega : Hn + 4 ≤ 100)
  have hm0 : 0 < m := by rw [hm]; exact Nat.mul_pos (by omega) (by omega)
  obtain ⟨px, hpx⟩ : ∃ px, px = putF Wn Hn d dx dy := ⟨_, rfl⟩
  have hpb : ∀ p, 0 ≤ px p ∧ px p ≤ 1 := fun p => by rw [hpx]; exact putF_bd _ _ _ _ _ p
  rw [← hm, ← hpx] at hPut
  have hCl := Clone_T m px hm0 (by omega)
  have hK1 := mark_A ((Wn : Int) + 4) ((Hn : Int) + 4) m px N lo 1 0 hm0 (by omega) hN
  have hK2 := mark_A ((Wn : Int) + 4) ((Hn : Int) + 4) m px M bl 0 1 hm0 (by omega) hM
  have hEq : apE ⟨Wn, Hn, n, d⟩ ⟨dx, dy, N, lo, M, bl, fr, ti⟩ = if mkAll m px lo 1 N = true ∧ mkAll m px bl 0 M = true ∧ 0 ≤ fr ∧ fr ≤ ti ∧ ti ≤ (Wn : Int) + 4 then 0 else 1 := by
   unfold apE
   rw [if_pos hp]
   dsimp only
   rw [hmE, ← hm, hpx]
  by_cases hA : mkAll m px lo 1 N = true
  ·have e1 : mkPx m px lo 1 0 N = setL px lo 0 N := if_pos hA
   rw [hA, e1] at hK1
   by_cases hB : mkAll m px bl 0 M = true
   ·rw [hB] at hK2
    have hcs : fr < 0 ∨ (¬ fr < 0 ∧ ti < fr) ∨ (¬ fr < 0 ∧ ¬ ti < fr ∧ (Wn : Int) + 4 < ti) ∨ (0 ≤ fr ∧ fr ≤ ti ∧ ti ≤ (Wn : Int) + 4) := by omega
    rcases hcs with h | ⟨h, h'⟩ | ⟨h, h', h''⟩ | ⟨g1, g2, g3⟩
    case inr.inr.inr =>
     have hE1 : apE ⟨Wn, Hn, n, d⟩ ⟨dx, dy, N, lo, M, bl, fr, ti⟩ = 0 := by rw [hEq, if_pos ⟨hA, hB, g1, g2, g3⟩]
     have hIm : apI ⟨Wn, Hn, n, d⟩ ⟨dx, dy, N, lo, M, bl, fr, ti⟩ = imgV ((Wn : Int) + 4) ((Hn : Int) + 4) m (hideF ((Wn : Int) + 4) (setL (setL px lo 0 N) bl 1 M) fr ti) := by
      rw [apI, if_pos hE1]
      dsimp only [apF, bpx]
      rw [hmE, ← hm, hpx]
     rw [apV, hIm, hE1]
     obtain ⟨p1, hp1⟩ : ∃ p1, p1 = setL px lo 0 N := ⟨_, rfl⟩
     rw [← hp1] at hK1 ⊢
     have hp1b : ∀ p, 0 ≤ p1 p ∧ p1 p ≤ 1 := fun p => by rw [hp1]; exact setL_bd (by omega) hpb N p
     have hp2b := fun p => setL_bd (l := bl) (v := 1) (by omega) hp1b M p
     have hHi := iHide_A (Wn + 4) (Hn + 4) m (setL p1 bl 1 M) fr ti (by
      rw [chkI_ok]
      refine ⟨⟨by omega, by omega, by omega, by omega, by rw [hm]; simp⟩, fun p _ => ⟨(hp2b p).1, Int.le_trans (hp2b p).2 (by decide)⟩⟩) hm0
     rw [show ((Wn + 4 : Nat) : Int) = (Wn : Int) + 4 by simp, show ((Hn + 4 : Nat) : Int) = (Hn : Int) + 4 by simp] at hHi
     have hbl := mkAll_iff.1 hB
     refine acalls_at Try.func31 rfl rfl Try.ntmps31 rfl ?_
     repeat (first
      | refine uA ?_
      | refine uB ?_
      | refine uC ?_
      | refine uG ?_
      | refine kU ?_
      | (refine rG 0 ?_
         (iterate 2 refine qr5 aQ ?_)
         refine qr5 (aM tyOk) ?_
         refine kC ?_
         refine aB ?_)
      | (refine rG 1 ?_
         refine kF ?_
         refine kD ?_
         refine kE ?_
         refine kD ?_
         refine kE ?_
         refine AList.callT rfl rfl rfl rfl rfl Try.func82 rfl (by kernel_rfl) (hPut) (fun _ _ _ _ => rfl) ?_
         refine kA ?_
         (iterate 2 refine qr4 aN ?_)
         refine qr5 (aM tyOk) ?_
         refine kI ?_
         refine kC ?_
         refine aB ?_)
      | (refine rG 2 ?_
         refine kA ?_
         refine qr5 aW ?_
         refine aB ?_)
      | (refine AWp.draw (id := 4) mixed ?_; refine kD ?_; refine kE ?_; refine kD ?_; refine kE ?_; refine kD ?_; refine kE ?_; refine AList.callTP [17] rfl rfl rfl rfl Try.func83 rfl (by kernel_rfl) (hCl) (⟨.inr ⟨17, m, 1, _, _, iF px, rfl, rfl, by simp, rfl, fun _ _ => cell1 ⟨rfl, rfl⟩⟩, trivial⟩) (fun _ _ _ _ => rfl) ?_; refine qr8 (aX tyOk) ?_; refine qr5 (aM tyOk) ?_; refine kI ?_; refine aB ⟨by kernel_rfl, ?_⟩)
      | (refine rG 5 ?_
         refine kF ?_
         refine kD ?_
         refine kE ?_
         refine AList.callH [17] [rowI m px] [rowI m p1] rfl rfl rfl Try.func84 rfl (by kernel_rfl) (LendOk.row rfl hm0 (fun _ _ => cell1 ⟨rfl, rfl⟩) trivial) rfl (LendImm.row (fun _ _ => cell1 rfl) trivial) (hK1) ?_
         refine qr3 AList.notB ?_
         refine kA ?_
         refine kF ?_
         refine kD ?_
         refine kE ?_
         refine AList.callH [30] [rowI m px] [rowI m (mkPx m px bl 0 1 M)] rfl rfl rfl Try.func84 rfl (by kernel_rfl) (LendOk.row rfl hm0 (fun _ _ => cell1 ⟨rfl, rfl⟩) trivial) rfl (LendImm.row (fun _ _ => cell1 rfl) trivial) (hK2) ?_
         refine qr3 AList.notB ?_
         refine qr4 aR ?_
         refine kA ?_
         refine kD ?_
         refine kE ?_
         refine qr5f aJ ?_
         refine qr4 aR ?_
         refine kA ?_
         refine kD ?_
         refine kE ?_
         refine kD ?_
         refine kE ?_
         refine qr5f aJ ?_
         refine qr4 aR ?_
         refine kA ?_
         refine kD ?_
         refine kE ?_
         refine kD ?_
         refine kE ?_
         refine qr5f aJ ?_
         refine qr4 aR ?_
         refine aB ?_)
      | (refine rG 7 ?_
         refine kD ?_
         refine kE ?_
         refine qr5 (aO tyOk) ?_
         refine kA ?_
         refine aB ?_))
     refine AWp.round (fun k : Nat => mkSt 82 [(3, .c (.pt 3 6 0 0)), (4, .c (.pt 4 3 0 0)), (6, .c (.pt 6 3 0 0)), (65, .c (.ls M 1 (iF bl))), (66, .c (iC M)), (67, .c (iC k))]
      [(3, ⟨false, 1, 6, 79, lF [iC dx, iC dy, .ls N 1 (iF lo), .ls M 1 (iF bl), iC fr, iC ti]⟩), (4, ⟨false, 1, 3, 75, lF [iC 0, iC 0, .p (.slice none 0 0)]⟩), (6, ⟨false, 1, 3, 75, lF [iC ((Wn : Int) + 4), iC ((Hn : Int) + 4), .ow 17]⟩), (17, rowI m (setL p1 bl 1 k))] [3, 4, 6, 17])
      (fun k => k ≤ M) (fun k => M - k) 0 (Nat.zero_le _) ?_ (fun k hk => ?_)
     ·refine Wk.mk [(3, some 3), (4, some 4), (6, some 6), (17, some 17)] rfl rfl rfl ?_ ?_
      ·exact allT
      ·exact ⟨hSm, hSm, HeapOk.box rfl rfl ⟨LeC.int rfl, LeC.int rfl, LeC.ow _ _ rfl, trivial⟩ rfl, HeapOk.row rfl rfl rfl (fun i _ => cell1 ⟨rfl, rfl⟩), trivial⟩
     ·by_cases hlt : k < M
      ·obtain ⟨q1, q2, -, -⟩ := hbl k hlt
       obtain ⟨j, hj⟩ := Int.eq_ofNat_of_zero_le q1
       have hjm : j < m := by omega
       have hlj : (bl k).toNat = j := by omega
       repeat (first
        | refine uA ?_
        | refine uB ?_
        | refine uC ?_
        | refine uG ?_
        | refine uD ?_
        | refine kT ?_
        | (refine rG 8 ?_
           refine qr5t aK ?_
           refine aB ?_)
        | (refine rG 9 ?_
           refine qr8eo2 (aP (k := k) tyOk) ?_
           refine qr5o (aV tyOk) ?_
           refine kC ?_
           refine aB ?_)
        | (refine rG 10 ?_
           refine kD ?_
           refine kE ?_
           refine kA ?_
           refine qr10eo (AList.idxOw (k := j) tyOk) ?_
           refine kI ?_
           refine aB ?_)
        | (refine rG 11 ?_
           refine qr4w2 aL ?_
           refine kA ?_
           refine aB ?_))
       refine ⟨k + 1, by omega, Wk.mk [(3, some 3), (4, some 4), (6, some 6), (17, some 17)] rfl rfl rfl ?_ ?_, by omega⟩
       ·exact allT
       ·exact ⟨hSm, hSm, HeapOk.box rfl rfl ⟨LeC.int rfl, LeC.int rfl, LeC.ow _ _ rfl, trivial⟩ rfl, HeapOk.row rfl rfl rfl (set_one (setL p1 bl 1 (k + 1)) (if_pos hlj.symm) (fun p hp => if_neg (by rw [hlj]; exact hp))), trivial⟩
      ·obtain rfl : k = M := by omega
       repeat (first
        | refine uA ?_
        | refine uH ?_
        | refine kU ?_
        | (refine rG 8 ?_
           refine qr5f aJ ?_
           refine aB ?_))
       refine AWp.weak (S' := mkSt 82 [(3, .c (.pt 3 6 0 0)), (4, .c (.pt 4 3 0 0)), (6, .c (.pt 6 3 0 0))]
        [(3, ⟨false, 1, 6, 79, lF [iC dx, iC dy, .ls N 1 (iF lo), .ls k 1 (iF bl), iC fr, iC ti]⟩), (4, ⟨false, 1, 3, 75, lF [iC 0, iC 0, .p (.slice none 0 0)]⟩), (6, ⟨false, 1, 3, 75, lF (imgV ((Wn : Int) + 4) ((Hn : Int) + 4) m (setL p1 bl 1 k))⟩)] [3, 4, 6]) (Wk.mk [(3, some 3), (4, some 4), (6, some 6)] rfl rfl rfl ?_ ?_) ?_
       ·exact allT
       ·exact ⟨hSm, hSm, HeapOk.box rfl rfl ⟨LeC.int rfl, LeC.int rfl, LeC.fz rfl rfl rfl (fun i _ => cell1 ⟨rfl, rfl⟩), trivial⟩ rfl, trivial⟩
       repeat (first
        | refine uB ?_
        | refine AWp.ret ?_
        | (refine rG 12 ?_
           refine kF ?_
           refine kD ?_
           refine kE ?_
           refine kD ?_
           refine kE ?_
           refine aH rfl rfl rfl rfl Try.func85 rfl (by kernel_rfl) (hHi) ?_
           refine kI ?_
           refine kC ?_
           refine aB ?_))
       refine ⟨mkSt 82 [(4, .c (.pt 4 3 0 0)), (5, .c (iC 0))] [(4, ⟨false, 1, 3, 75, lF (imgV ((Wn : Int) + 4) ((Hn : Int) + 4) m (hideF ((Wn : Int) + 4) (setL p1 bl 1 k) fr ti))⟩)] [4], [(4, ⟨false, 1, 3, 75, lF (imgV ((Wn : Int) + 4) ((Hn : Int) + 4) m (hideF ((Wn : Int) + 4) (setL p1 bl 1 k) fr ti))⟩)], Wk.mk [(4, some 4)] rfl rfl rfl ?_ ?_, rfl, rfl, ARets.two (x := .ag _) (y := .c _) (ARes.box tyOk rfl rfl rfl rfl rfl rfl rfl) (ARes.tmp rfl rfl)⟩
       ·exact allT
       ·exact allH
    all_goals
     have hE1 : apE ⟨Wn, Hn, n, d⟩ ⟨dx, dy, N, lo, M, bl, fr, ti⟩ = 1 := by rw [hEq, if_neg fun h => by omega]
     rw [apV, apI, hE1]
     refine acalls_at Try.func31 rfl rfl Try.ntmps31 rfl ?_
     repeat (first
      | refine uA ?_
      | refine uB ?_
      | refine uG ?_
      | refine AWp.ret ?_
      | refine thenA_r ?_
      | refine kT ?_
      | refine kU ?_
      | (refine rG 0 ?_
         (iterate 2 refine qr5 aQ ?_)
         refine qr5 (aM tyOk) ?_
         refine kC ?_
         refine aB ?_)
      | (refine rG 1 ?_
         refine kF ?_
         refine kD ?_
         refine kE ?_
         refine kD ?_
         refine kE ?_
         refine AList.callT rfl rfl rfl rfl rfl Try.func82 rfl (by kernel_rfl) (hPut) (fun _ _ _ _ => rfl) ?_
         refine kA ?_
         (iterate 2 refine qr4 aN ?_)
         refine qr5 (aM tyOk) ?_
         refine kI ?_
         refine kC ?_
         refine aB ?_)
      | (refine rG 2 ?_
         refine kA ?_
         refine qr5 aW ?_
         refine aB ?_)
      | (refine AWp.draw (id := 4) mixed ?_; refine kD ?_; refine kE ?_; refine kD ?_; refine kE ?_; refine kD ?_; refine kE ?_; refine AList.callTP [17] rfl rfl rfl rfl Try.func83 rfl (by kernel_rfl) (hCl) (⟨.inr ⟨17, m, 1, _, _, iF px, rfl, rfl, by simp, rfl, fun _ _ => cell1 ⟨rfl, rfl⟩⟩, trivial⟩) (fun _ _ _ _ => rfl) ?_; refine qr8 (aX tyOk) ?_; refine qr5 (aM tyOk) ?_; refine kI ?_; refine aB ⟨by kernel_rfl, ?_⟩)
      | (refine rG 5 ?_
         refine kF ?_
         refine kD ?_
         refine kE ?_
         refine AList.callH [17] [rowI m px] [rowI m (setL px lo 0 N)] rfl rfl rfl Try.func84 rfl (by kernel_rfl) (LendOk.row rfl hm0 (fun _ _ => cell1 ⟨rfl, rfl⟩) trivial) rfl (LendImm.row (fun _ _ => cell1 rfl) trivial) (hK1) ?_
         refine qr3 AList.notB ?_
         refine kA ?_
         refine kF ?_
         refine kD ?_
         refine kE ?_
         refine AList.callH [30] [rowI m px] [rowI m (mkPx m px bl 0 1 M)] rfl rfl rfl Try.func84 rfl (by kernel_rfl) (LendOk.row rfl hm0 (fun _ _ => cell1 ⟨rfl, rfl⟩) trivial) rfl (LendImm.row (fun _ _ => cell1 rfl) trivial) (hK2) ?_
         refine qr3 AList.notB ?_
         refine qr4 aR ?_
         refine kA ?_
         refine kD ?_
         refine kE ?_
         first | refine qr5t aK ?_ | refine qr5f aJ ?_
         refine qr4 aR ?_
         refine kA ?_
         first | refine qr2 aG ?_ | refine kD ?_
         first | refine qr2 aG ?_ | refine kE ?_
         first | refine qr2 aG ?_ | refine kD ?_
         first | refine qr2 aG ?_ | refine kE ?_
         first | refine qr2 aG ?_ | refine qr5t aK ?_ | refine qr5f aJ ?_
         first | refine qr4 aS ?_ | refine qr4 aR ?_
         refine kA ?_
         first | refine qr2 aG ?_ | refine kD ?_
         first | refine qr2 aG ?_ | refine kE ?_
         first | refine qr2 aG ?_ | refine kD ?_
         first | refine qr2 aG ?_ | refine kE ?_
         first | refine qr2 aG ?_ | refine qr5t aK ?_
         first | refine qr4 aS ?_ | refine qr4 aR ?_
         refine aB ?_)
      | (refine rG 6 ?_
         refine qr8 (aX tyOk) ?_
         refine kI ?_
         refine kC ?_
         refine aB ?_))
     refine ⟨mkSt 82 [(4, .c (.pt 4 3 0 0)), (5, .c (iC (1)))] [(4, ⟨false, 1, 3, 75, lF (imgV 0 0 0 fun _ => 0)⟩)] [4], [(4, ⟨false, 1, 3, 75, lF (imgV 0 0 0 fun _ => 0)⟩)], Wk.mk [(4, some 4)] rfl rfl rfl ?_ ?_, rfl, rfl, ARets.two (x := .ag _) (y := .c _) (ARes.box tyOk rfl rfl rfl rfl rfl rfl rfl) (ARes.tmp rfl rfl)⟩
     ·exact allT
     ·exact ⟨HeapOk.box rfl rfl ⟨LeC.int rfl, LeC.int rfl, LeC.nils _ _, trivial⟩ rfl, trivial⟩
   ·have hB' : mkAll m px bl 0 M = false := by cases hh : mkAll m px bl 0 M; rfl; exact absurd hh hB
    have hE1 : apE ⟨Wn, Hn, n, d⟩ ⟨dx, dy, N, lo, M, bl, fr, ti⟩ = 1 := by rw [hEq, if_neg fun h => hB h.2.1]
    rw [apV, apI, hE1]
    rw [hB'] at hK2
    refine acalls_at Try.func31 rfl rfl Try.ntmps31 rfl ?_
    repeat (first
     | refine uA ?_
     | refine uB ?_
     | refine uG ?_
     | refine AWp.ret ?_
     | refine thenA_r ?_
     | refine kT ?_
     | refine kU ?_
     | (refine rG 0 ?_
        (iterate 2 refine qr5 aQ ?_)
        refine qr5 (aM tyOk) ?_
        refine kC ?_
        refine aB ?_)
     | (refine rG 1 ?_
        refine kF ?_
        refine kD ?_
        refine kE ?_
        refine kD ?_
        refine kE ?_
        refine AList.callT rfl rfl rfl rfl rfl Try.func82 rfl (by kernel_rfl) (hPut) (fun _ _ _ _ => rfl) ?_
        refine kA ?_
        (iterate 2 refine qr4 aN ?_)
        refine qr5 (aM tyOk) ?_
        refine kI ?_
        refine kC ?_
        refine aB ?_)
     | (refine rG 2 ?_
        refine kA ?_
        refine qr5 aW ?_
        refine aB ?_)
     | (refine AWp.draw (id := 4) mixed ?_; refine kD ?_; refine kE ?_; refine kD ?_; refine kE ?_; refine kD ?_; refine kE ?_; refine AList.callTP [17] rfl rfl rfl rfl Try.func83 rfl (by kernel_rfl) (hCl) (⟨.inr ⟨17, m, 1, _, _, iF px, rfl, rfl, by simp, rfl, fun _ _ => cell1 ⟨rfl, rfl⟩⟩, trivial⟩) (fun _ _ _ _ => rfl) ?_; refine qr8 (aX tyOk) ?_; refine qr5 (aM tyOk) ?_; refine kI ?_; refine aB ⟨by kernel_rfl, ?_⟩)
     | (refine rG 5 ?_
        refine kF ?_
        refine kD ?_
        refine kE ?_
        refine AList.callH [17] [rowI m px] [rowI m (setL px lo 0 N)] rfl rfl rfl Try.func84 rfl (by kernel_rfl) (LendOk.row rfl hm0 (fun _ _ => cell1 ⟨rfl, rfl⟩) trivial) rfl (LendImm.row (fun _ _ => cell1 rfl) trivial) (hK1) ?_
        refine qr3 AList.notB ?_
        refine kA ?_
        refine kF ?_
        refine kD ?_
        refine kE ?_
        refine AList.callH [30] [rowI m px] [rowI m (mkPx m px bl 0 1 M)] rfl rfl rfl Try.func84 rfl (by kernel_rfl) (LendOk.row rfl hm0 (fun _ _ => cell1 ⟨rfl, rfl⟩) trivial) rfl (LendImm.row (fun _ _ => cell1 rfl) trivial) (hK2) ?_
        refine qr3 AList.notB ?_
        refine qr4 aR ?_
        refine kA ?_
        (iterate 3 refine qr2 aG ?_)
        refine qr4 aS ?_
        refine kA ?_
        (iterate 5 refine qr2 aG ?_)
        refine qr4 aS ?_
        refine kA ?_
        (iterate 5 refine qr2 aG ?_)
        refine qr4 aS ?_
        refine aB ?_)
     | (refine rG 6 ?_
        refine qr8 (aX tyOk) ?_
        refine kI ?_
        refine kC ?_
        refine aB ?_))
    refine ⟨mkSt 82 [(4, .c (.pt 4 3 0 0)), (5, .c (iC (1)))] [(4, ⟨false, 1, 3, 75, lF (imgV 0 0 0 fun _ => 0)⟩)] [4], [(4, ⟨false, 1, 3, 75, lF (imgV 0 0 0 fun _ => 0)⟩)], Wk.mk [(4, some 4)] rfl rfl rfl ?_ ?_, rfl, rfl, ARets.two (x := .ag _) (y := .c _) (ARes.box tyOk rfl rfl rfl rfl rfl rfl rfl) (ARes.tmp rfl rfl)⟩
    ·exact allT
    ·exact ⟨HeapOk.box rfl rfl ⟨LeC.int rfl, LeC.int rfl, LeC.nils _ _, trivial⟩ rfl, trivial⟩
  ·have hA' : mkAll m px lo 1 N = false := by cases hh : mkAll m px lo 1 N; rfl; exact absurd hh hA
   have hE1 : apE ⟨Wn, Hn, n, d⟩ ⟨dx, dy, N, lo, M, bl, fr, ti⟩ = 1 := by rw [hEq, if_neg fun h => hA h.1]
   rw [apV, apI, hE1]
   rw [hA'] at hK1
   refine acalls_at Try.func31 rfl rfl Try.ntmps31 rfl ?_
   repeat (first
    | refine uA ?_
    | refine uB ?_
    | refine uG ?_
    | refine AWp.ret ?_
    | refine thenA_r ?_
    | refine kT ?_
    | refine kU ?_
    | (refine rG 0 ?_
       (iterate 2 refine qr5 aQ ?_)
       refine qr5 (aM tyOk) ?_
       refine kC ?_
       refine aB ?_)
    | (refine rG 1 ?_
       refine kF ?_
       refine kD ?_
       refine kE ?_
       refine kD ?_
       refine kE ?_
       refine AList.callT rfl rfl rfl rfl rfl Try.func82 rfl (by kernel_rfl) (hPut) (fun _ _ _ _ => rfl) ?_
       refine kA ?_
       (iterate 2 refine qr4 aN ?_)
       refine qr5 (aM tyOk) ?_
       refine kI ?_
       refine kC ?_
       refine aB ?_)
    | (refine rG 2 ?_
       refine kA ?_
       refine qr5 aW ?_
       refine aB ?_)
    | (refine AWp.draw (id := 4) mixed ?_; refine kD ?_; refine kE ?_; refine kD ?_; refine kE ?_; refine kD ?_; refine kE ?_; refine AList.callTP [17] rfl rfl rfl rfl Try.func83 rfl (by kernel_rfl) (hCl) (⟨.inr ⟨17, m, 1, _, _, iF px, rfl, rfl, by simp, rfl, fun _ _ => cell1 ⟨rfl, rfl⟩⟩, trivial⟩) (fun _ _ _ _ => rfl) ?_; refine qr8 (aX tyOk) ?_; refine qr5 (aM tyOk) ?_; refine kI ?_; refine aB ⟨by kernel_rfl, ?_⟩)
    | (refine rG 5 ?_
       refine kF ?_
       refine kD ?_
       refine kE ?_
       refine AList.callH [17] [rowI m px] [rowI m (mkPx m px lo 1 0 N)] rfl rfl rfl Try.func84 rfl (by kernel_rfl) (LendOk.row rfl hm0 (fun _ _ => cell1 ⟨rfl, rfl⟩) trivial) rfl (LendImm.row (fun _ _ => cell1 rfl) trivial) (hK1) ?_
       refine qr3 AList.notB ?_
       refine kA ?_
       (iterate 5 refine qr2 aG ?_)
       refine qr4 aS ?_
       refine kA ?_
       (iterate 3 refine qr2 aG ?_)
       refine qr4 aS ?_
       refine kA ?_
       (iterate 5 refine qr2 aG ?_)
       refine qr4 aS ?_
       refine kA ?_
       (iterate 5 refine qr2 aG ?_)
       refine qr4 aS ?_
       refine aB ?_)
    | (refine rG 6 ?_
       refine qr8 (aX tyOk) ?_
       refine kI ?_
       refine kC ?_
       refine aB ?_))
   refine ⟨mkSt 82 [(4, .c (.pt 4 3 0 0)), (5, .c (iC (1)))] [(4, ⟨false, 1, 3, 75, lF (imgV 0 0 0 fun _ => 0)⟩)] [4], [(4, ⟨false, 1, 3, 75, lF (imgV 0 0 0 fun _ => 0)⟩)], Wk.mk [(4, some 4)] rfl rfl rfl ?_ ?_, rfl, rfl, ARets.two (x := .ag _) (y := .c _) (ARes.box tyOk rfl rfl rfl rfl rfl rfl rfl) (ARes.tmp rfl rfl)⟩
   ·exact allT
   ·exact ⟨HeapOk.box rfl rfl ⟨LeC.int rfl, LeC.int rfl, LeC.nils _ _, trivial⟩ rfl, trivial⟩
 ·have hE1 : apE ⟨W, H, n, d⟩ ⟨dx, dy, N, lo, M, bl, fr, ti⟩ = putE W H n dx dy := if_neg hp
  have hPut := iPut_A W H n d dx dy
  rw [putV, if_neg hp] at hPut
  rw [apV, apI, hE1, if_neg hp]
  refine acalls_at Try.func31 rfl rfl Try.ntmps31 rfl ?_
  repeat (first
   | refine uA ?_
   | refine uB ?_
   | refine AWp.ret ?_
   | refine thenA_r ?_
   | refine kT ?_
   | (refine rG 0 ?_
      (iterate 2 refine qr5 aQ ?_)
      refine qr5 (aM tyOk) ?_
      refine kC ?_
      refine aB ?_)
   | (refine rG 1 ?_
      refine kF ?_
      refine kD ?_
      refine kE ?_
      refine kD ?_
      refine kE ?_
      refine aH rfl rfl rfl rfl Try.func82 rfl (by kernel_rfl) (hPut) ?_
      refine kA ?_
      (iterate 2 refine qr4 aN ?_)
      refine qr5 (aM tyOk) ?_
      refine kI ?_
      refine kC ?_
      refine aB ?_)
   | (refine rG 2 ?_
      refine kA ?_
      refine qr5t aK ?_
      refine aB ?_)
   | (refine rG 3 ?_
      refine qr8 (aX tyOk) ?_
      refine kA ?_
      refine kI ?_
      refine kC ?_
      refine aB ?_))
  refine ⟨mkSt 82 [(4, .c (.pt 4 3 0 0)), (5, .c (iC (putE W H n dx dy)))] [(4, ⟨false, 1, 3, 75, lF (imgV 0 0 0 fun _ => 0)⟩)] [4], [(4, ⟨false, 1, 3, 75, lF (imgV 0 0 0 fun _ => 0)⟩)], Wk.mk [(4, some 4)] rfl rfl rfl ?_ ?_, rfl, rfl, ARets.two (x := .ag _) (y := .c _) (ARes.box tyOk rfl rfl rfl rfl rfl rfl rfl) (ARes.tmp rfl rfl)⟩
  ·exact allT
  ·exact ⟨HeapOk.box rfl rfl ⟨LeC.int rfl, LeC.int rfl, LeC.nils _ _, trivial⟩ rfl, trivial⟩
def wiB (b : Bp) (h : Ht) (x : Bg) : Bool := decide (apE b h = 0 ∧ max (max (max h.dx (-h.dx)) h.dy) (-h.dy) ≤ (lim4 x).sh ∧ (h.N : Int) ≤ (lim4 x).lo ∧ (h.M : Int) ≤ (lim4 x).bl ∧ h.ti - h.fr ≤ (lim4 x).st)
theorem apE_ok {b : Bp} {h : Ht} (he : apE b h = 0) : putE b.W b.H b.n h.dx h.dy = 0 ∧ (-2 ≤ h.dx ∧ h.dx ≤ 2 ∧ -2 ≤ h.dy ∧ h.dy ≤ 2) ∧ (0 ≤ h.fr ∧ h.fr ≤ h.ti ∧ h.ti ≤ b.W + 4) ∧ b.W ≤ 96 := by
 unfold apE at he
 split at he
 ·rename_i hp
  split at he
  ·rename_i h1
   have hp' := hp
   unfold putE at hp'
   split at hp'
   ·rename_i hok
    split at hp'
    ·rename_i hs
     exact ⟨hp, shiftB_iff.1 hs, h1.2.2, (okB hok).2.1⟩
    ·cases hp'
   ·exact absurd hp' ‹_›
  ·cases he
 ·exact absurd he ‹_›
end Go.Proofs.Ytekkldgmjdllbaa
end
