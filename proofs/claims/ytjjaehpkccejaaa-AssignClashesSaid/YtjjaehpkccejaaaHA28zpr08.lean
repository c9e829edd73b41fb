/- Parts of the proof: A28x. -/
import Derived.Test.YtjjaehpkccejaaaG32
import Derived.Test.YtjjaehpkccejaaaG27
import Derived.Test.YtjjaehpkccejaaaHA28zpr07
import Derived.Test.YtjjaehpkccejaaaG26
import Derived.Laws.Pointers
import Derived.Test.YtjjaehpkccejaaaG21
import Derived.Test.YtjjaehpkccejaaaHA28zpr04
import Derived.Test.YtjjaehpkccejaaaG22
import Derived.Test.YtjjaehpkccejaaaHA28zpr05
import Derived.Test.YtjjaehpkccejaaaG25
import Derived.WideKeyMaps
import Derived.MapKept
import Derived.Carry
import Derived.Test.YtjjaehpkccejaaaG14
import Derived.Test.YtjjaehpkccejaaaHA28zpr03
import Derived.Test.YtjjaehpkccejaaaG10
import Derived.Test.YtjjaehpkccejaaaG17
import Derived.Test.YtjjaehpkccejaaaG31
import Derived.Test.YtjjaehpkccejaaaG13
import Derived.Test.YtjjaehpkccejaaaHA28zpr01
import Derived.Test.YtjjaehpkccejaaaG07
import Derived.Test.YtjjaehpkccejaaaHA28zpr02
import Derived.Test.YtjjaehpkccejaaaG20
import Derived.Test.YtjjaehpkccejaaaProg
import Derived.Test.YtjjaehpkccejaaaG08
import Derived.Test.YtjjaehpkccejaaaG29
import Derived.Test.YtjjaehpkccejaaaG09
import Derived.Test.YtjjaehpkccejaaaG06
import Derived.Laws.StructEq
import Derived.WalkKit
import Derived.Test.YtjjaehpkccejaaaG19
import Derived.Shelf.Abstract
import Derived.Test.YtjjaehpkccejaaaG30
import Derived.Test.YtjjaehpkccejaaaG01
import Derived.Test.YtjjaehpkccejaaaG05
import Derived.Laws.Cover3
import Derived.Test.YtjjaehpkccejaaaG15
import Derived.Test.YtjjaehpkccejaaaG28
import Derived.Lib.Hide
import Derived.Deep.QuietTactic
import Derived.BigQuiet
import Derived.Deep.DrawnRows
import Derived.Deep.AppendLies
import Derived.RangeFuncNested
import Derived.Test.YtjjaehpkccejaaaG18
import Derived.Maps.AppendAt
import Derived.OwnWalk
import Derived.Test.YtjjaehpkccejaaaG04
import Derived.Great.BuildSlice
import Derived.Test.YtjjaehpkccejaaaG03
import Derived.Scope
import Derived.DeepKeys4
import Derived.Test.YtjjaehpkccejaaaG02
import Derived.RangeFuncLeaves
import Derived.RangeFuncRecord
import Derived.StillTail
import Derived.Below
import Derived.Deep.Draws
import Derived.KernelRfl
import Derived.Test.YtjjaehpkccejaaaG24
import Derived.Test.YtjjaehpkccejaaaG16
import Derived.OrdersIn
import Derived.TacticsIn
import Derived.RangeFuncCalls
import Derived.Test.YtjjaehpkccejaaaG12
import Derived.Test.YtjjaehpkccejaaaG11
set_option linter.unusedSimpArgs false
set_option linter.unusedVariables false
section
namespace Go.AV
open Go Go.RowKit Go.Flow
end Go.AV
namespace Go.Proofs.Ytjjaehpkccejaaa
open Go.RowKit Go.Flow Go.AV Go.Plain
abbrev rdB (L : List Rd) : AB := ⟨true, L.length, 2, 65, rowF rdC rdZ L⟩
abbrev chB (C : List (List Bp)) : AB := ⟨true, C.length, 1, 29, chF C⟩
abbrev dB (ll : List (List Int)) (a : Nat) : AB := drawB (l0 ll).length (fI (l0 ll)) a
theorem nx_A (ll : List (List Int)) (a : Nat) (m : Int) (ha : a ≤ (l0 ll).length) (hN : (l0 ll).length ≤ 4611686018427387904) (hm : 0 < m) (hM : m ≤ 1000000) : HCalls Try.prog 32 [.c (.pt 1000 2 0 0), .c (iC m)] [(1000, dB ll a)] (.c (iC (dvA ll a m))) [(1000, dB ll (nxA ll a))] := Next_A _ _ _ _ ha hN hm hM
theorem g16_F (f : Nat → Int) (m : Nat) : ∀ i, i < 2 + m → ∀ j, j < 1 → appF (sF [iC 16, iC 12] 1) 2 (iF f) i j = iF (g16 f) i j ∧ immC (appF (sF [iC 16, iC 12] 1) 2 (iF f) i j) = true := fun i hi j hj => by
 obtain rfl : j = 0 := Nat.lt_one_iff.mp hj
 match i with
 | 0 => exact ⟨rfl, rfl⟩
 | 1 => exact ⟨rfl, rfl⟩
 | i + 2 =>
   have e : appF (sF [iC 16, iC 12] 1) 2 (iF f) (i + 2) 0 = iF f i 0 := by
    unfold appF
    rw [show Nat.blt (i + 2) 2 = false from Bool.eq_false_iff.2 fun h => by have := Nat.blt_eq.mp h; omega]
    rfl
   rw [e]
   exact ⟨rfl, rfl⟩
theorem LlOk.l0 {ll : List (List Int)} (h : LlOk ll) : (l0 ll).length ≤ 4611686018427387904 := by
 unfold Go.Proofs.Ytjjaehpkccejaaa.l0
 by_cases h0 : 0 < ll.length
 ·have := h.2 0 h0
  omega
 ·rw [List.getD_eq_getElem?_getD, List.getElem?_eq_none (by omega)]
  simp
set_option maxHeartbeats 4000000 in
set_option maxRecDepth 100000 in
theorem Made28_A (ll : List (List Int)) (hll : LlOk ll) : ACalls Try.prog 10 [.c (lsL ll)] (.ag (pbC (made28 ll))) := by
 have hN := hll.l0
 obtain ⟨hK, hk8⟩ := hll
 refine acalls_at Try.func10 rfl rfl Try.ntmps10 rfl ?_
 repeat (first
  | refine AWp.seq ?_
  | refine thenA_n ?_
  | (refine rG 0 ?_
     refine qr5 (aM tyOk) ?_
     refine aB ?_)
  | (refine rG 1 ?_
     refine qr8 (aX tyOk) ?_
     refine qr5 aQ ?_
     refine kC ?_
     refine aB ?_)
  | (refine rG 2 ?_
     refine kA ?_
     refine qr5 (aO tyOk) ?_
     refine qr5 aW ?_
     refine aB ?_))
 refine AWp.cut (mkSt 147 [(0, .c (lsL ll)), (2, .c (.pt 2 5 0 0)), (3, .c (.pt 19 2 0 0))] [(2, ⟨false, 1, 5, 32, lF [nl8, nl8, nl8, nl8, nl8]⟩), (19, dB ll 0)] [2, 19]) ?_ (fun S1 hw1 => AWp.weak hw1 ?_)
 ·by_cases h0 : 0 < ll.length
  ·have h0' : ((ll.length : Nat) : Int) > 0 := by omega
   repeat (first
    | refine AWp.condT rfl cnT ?_
    | (refine rG 3 ?_
       (iterate 2 refine kA ?_)
       refine qr8eo2 (aP (k := 0) tyOk) ?_
       refine qr5o (aV tyOk) ?_
       refine AList.nilPt rfl rfl rfl rfl ?_
       refine kD ?_
       refine kI ?_
       refine aB ?_))
   refine ⟨rfl, Wk.mk [(2, some 2), (19, some 19)] rfl rfl rfl ?_ ?_⟩
   ·exact allT
   ·exact allH
  ·have h0' : ¬ ((ll.length : Nat) : Int) > 0 := by omega
   have e0 : l0 ll = [] := by unfold l0; rw [List.getD_eq_getElem?_getD, List.getElem?_eq_none (by omega)]; rfl
   repeat (first
    | refine AWp.skip ?_
    | refine AWp.condF rfl cnF ?_)
   refine ⟨rfl, Wk.mk [(2, some 2), (19, some 19)] rfl rfl rfl ?_ ?_⟩
   ·exact allT
   ·exact ⟨hSm, HeapOk.box rfl rfl ⟨(by rw [e0]; exact LeC.nils _ _), LeC.int rfl, trivial⟩ rfl, trivial⟩
 have hn0 := nx_A ll 0 3 (Nat.zero_le _) hN (by decide) (by decide)
 have hd0 := dvA_bd ll 0 3 (by decide)
 have hrn : ((rdN ll : Nat) : Int) = dvA ll 0 3 := by unfold rdN; omega
 rw [← hrn] at hn0
 repeat (first
  | refine AWp.seq ?_
  | refine thenA_n ?_
  | refine AWp.block ?_
  | (refine rG 4 ?_
     refine qr5 (aM tyOk) ?_
     refine aB ?_)
  | (refine rG 5 ?_
     refine kA ?_
     refine AList.callH [19] [dB ll 0] [dB ll (nxA ll 0)] rfl rfl rfl Try.func32 rfl (by kernel_rfl) (LendOk.box rfl rfl rfl trivial) rfl (LendImm.box rfl trivial) (hn0) ?_
     refine kC ?_
     refine aB ?_)
  | (refine rG 6 ?_
     refine kC ?_
     refine aB ?_))
 refine AWp.round (fun k : Nat =>
  mkSt 147 [(0, .c (lsL ll)), (2, .c (.pt 2 5 0 0)), (3, .c (.pt 19 2 0 0)), (4, .c (.pt 4 5 0 0)), (5, .c (iC (rdN ll))), (6, .c (iC (k : Nat)))] [(2, ⟨false, 1, 5, 32, lF [nl8, nl8, nl8, nl8, nl8]⟩), (4, ⟨false, 1, 5, 32, lF [.ow 150, .ow 151, .ow 152, .ow 153, .ow 154]⟩), (19, dB ll ((rdIter ll k).1)), (150, rdB ((rdIter ll k).2)), (151, chB ([])), (152, bpB ([])), (153, bgB ([])), (154, bgB ([])) ] [2, 4, 19, 150, 151, 152, 153, 154 ]
  ) (fun k => k ≤ rdN ll) (fun k => rdN ll - k) 0 (Nat.zero_le _) ?_ (fun k hk => ?_)
 ·refine Wk.mk [(2, some 2), (4, some 4), (19, some 19), (150, none), (151, none), (152, none), (153, none), (154, none)] rfl rfl rfl ?_ ?_
  ·exact allT
  ·exact ⟨hSm, HeapOk.box rfl rfl ⟨LeC.nil _ rfl, LeC.nil _ rfl, LeC.nil _ rfl, LeC.nil _ rfl, LeC.nil _ rfl, trivial⟩ rfl, hSm, HeapOk.nil rfl rfl, HeapOk.nil rfl rfl, HeapOk.nil rfl rfl, HeapOk.nil rfl rfl, HeapOk.nil rfl rfl, trivial⟩
 have hlim : rdN ll ≤ 2 := by omega
 have hR := rdIter_len ll k
 have hle := rdIter_le ll k
 by_cases hkl : k < rdN ll
 ·have hkl' : (k : Int) < rdN ll := by omega
  have n1 := nx_A ll _ 2 hle hN (by decide) (by decide)
  have n2 := nx_A ll _ 4 (nxA_le ll hle) hN (by decide) (by decide)
  repeat (first
   | refine AWp.seq ?_
   | refine thenA_n ?_
   | refine AWp.block ?_
   | refine AWp.skip ?_
   | refine inBlk_n ?_
   | refine AWp.condT rfl cnT ?_
   | (refine rG 7 ?_
      (iterate 2 refine kA ?_)
      refine qr5t aK ?_
      refine aB ?_)
   | (refine rG 8 ?_
      refine kA ?_
      refine qr4w2 aL ?_
      refine kC ?_
      refine aB ?_)
   | (refine AWp.draw (id := 9) mixed ?_; refine kD ?_; refine kE ?_; refine kA ?_; refine AList.callH [19] [dB ll (rdIter ll k).1] [dB ll (nxA ll (rdIter ll k).1)] rfl rfl rfl Try.func32 rfl (by kernel_rfl) (LendOk.box rfl rfl rfl trivial) rfl (LendImm.box rfl trivial) (n1) ?_; refine kA ?_; refine AList.callH [19] [dB ll (nxA ll (rdIter ll k).1)] [dB ll (nxA ll (nxA ll (rdIter ll k).1))] rfl rfl rfl Try.func32 rfl (by kernel_rfl) (LendOk.box rfl rfl rfl trivial) rfl (LendImm.box rfl trivial) (n2) ?_; refine aH rfl rfl rfl rfl Try.func33 rfl (by kernel_rfl) (md21_A _ _) ?_; refine qr11 (AList.litSl tyOk) ?_; refine AList.appL tyOk rfl rfl rfl rfl rfl rfl rfl rfl rfl rfl oM oM ?_; refine kD ?_; refine kI ?_; refine aB ⟨by kernel_rfl, ?_⟩))
  refine ⟨k + 1, hkl, Wk.mk [(2, some 2), (4, some 4), (19, some 19), (150, some 44), (151, some 151), (152, some 152), (153, some 153), (154, some 154)] rfl rfl rfl ?_ ?_, by omega⟩
  ·exact allT
  ·exact ⟨hSm, HeapOk.box rfl rfl ⟨LeC.ow _ _ rfl, LeC.ow _ _ rfl, LeC.ow _ _ rfl, LeC.ow _ _ rfl, LeC.ow _ _ rfl, trivial⟩ rfl, hSm, HeapOk.row rfl rfl List.length_append (row_snoc _ _ rdC_imm rfl), HeapOk.row rfl rfl rfl (fun i hi => absurd hi (Nat.not_lt_zero _)), HeapOk.row rfl rfl rfl (fun i hi => absurd hi (Nat.not_lt_zero _)), HeapOk.row rfl rfl rfl (fun i hi => absurd hi (Nat.not_lt_zero _)), HeapOk.row rfl rfl rfl (fun i hi => absurd hi (Nat.not_lt_zero _)), trivial⟩
 have hkl' : ¬ (k : Int) < rdN ll := by omega
 obtain rfl : k = rdN ll := by omega
 have n1 := nx_A ll _ 4 hle hN (by decide) (by decide)
 have n2 := nx_A ll _ 3 (nxA_le ll hle) hN (by decide) (by decide)
 have hd1 := dvA_bd ll (rdIter ll (rdN ll)).1 4 (by decide)
 have hd2 := dvA_bd ll (nxA ll (rdIter ll (rdN ll)).1) 3 (by decide)
 have hls : ((lsN28 ll : Nat) : Int) = dvA ll (rdIter ll (rdN ll)).1 4 := by unfold lsN28; omega
 have hfx : ((fxN28 ll : Nat) : Int) = dvA ll (nxA ll (rdIter ll (rdN ll)).1) 3 := by unfold fxN28; omega
 rw [← hls] at n1
 rw [← hfx] at n2
 repeat (first
  | refine AWp.seq ?_
  | refine thenA_n ?_
  | refine AWp.block ?_
  | refine AWp.exit ?_
  | refine AWp.condF rfl cnF ?_
  | (refine rG 7 ?_
     (iterate 2 refine kA ?_)
     refine qr5f aJ ?_
     refine aB ?_)
  | (refine rG 10 ?_
     refine kA ?_
     refine AList.callH [19] [dB ll (rdIter ll (rdN ll)).1] [dB ll (nxA ll (rdIter ll (rdN ll)).1)] rfl rfl rfl Try.func32 rfl (by kernel_rfl) (LendOk.box rfl rfl rfl trivial) rfl (LendImm.box rfl trivial) (n1) ?_
     refine kC ?_
     refine aB ?_)
  | (refine rG 11 ?_
     refine kA ?_
     refine AList.callH [19] [dB ll (nxA ll (rdIter ll (rdN ll)).1)] [dB ll (nxA ll (nxA ll (rdIter ll (rdN ll)).1))] rfl rfl rfl Try.func32 rfl (by kernel_rfl) (LendOk.box rfl rfl rfl trivial) rfl (LendImm.box rfl trivial) (n2) ?_
     refine kC ?_
     refine aB ?_)
  | (refine rG 12 ?_
     refine kC ?_
     refine aB ?_)
  | (refine rG 13 ?_
     refine qr8 (aX tyOk) ?_
     refine qr5 (aM tyOk) ?_
     refine kI ?_
     refine aB ?_)
  | (refine rG 14 ?_
     refine kC ?_
     refine aB ?_))
 refine AWp.round (fun k : Nat =>
  mkSt 147 [(0, .c (lsL ll)), (2, .c (.pt 2 5 0 0)), (3, .c (.pt 19 2 0 0)), (4, .c (.pt 4 5 0 0)), (7, .c (iC (lsN28 ll))), (8, .c (iC (fxN28 ll))), (9, .c (iC ((moIter ll k).at_))), (10, .c (.pt 10 3 0 0)), (11, .c (iC (k : Nat))) ] [(2, ⟨false, 1, 5, 32, lF [nl8, nl8, nl8, nl8, nl8]⟩), (4, ⟨false, 1, 5, 32, lF [.ow 150, .ow 151, .ow 152, .ow 153, .ow 154]⟩), (19, dB ll ((moIter ll k).a)), (150, rdB (rdIter ll (rdN ll)).2), (151, chB ((moIter ll k).C)), (152, bpB ((moIter ll k).F)), (153, bgB ((moIter ll k).O)), (154, bgB ((moIter ll k).T)), (10, ⟨false, 1, 3, 47, lF (bpC ((moIter ll k).base))⟩) ] [2, 4, 19, 150, 151, 152, 153, 154, 10 ]
  ) (fun k => k ≤ lsN28 ll + fxN28 ll) (fun k => lsN28 ll + fxN28 ll - k) 0 (Nat.zero_le _) ?_ (fun k hk => ?_)
 ·refine Wk.mk [(2, some 2), (4, some 4), (19, some 19), (150, some 150), (151, some 151), (152, some 152), (153, some 153), (154, some 154), (10, some 10)] rfl rfl rfl ?_ ?_
  ·exact allT
  ·exact ⟨
   hSm, HeapOk.box rfl rfl ⟨LeC.ow _ _ rfl, LeC.ow _ _ rfl, LeC.ow _ _ rfl, LeC.ow _ _ rfl, LeC.ow _ _ rfl, trivial⟩ rfl, hSm, hrF rdC_imm
   , HeapOk.row rfl rfl rfl (fun i hi => absurd hi (Nat.not_lt_zero _)), HeapOk.row rfl rfl rfl (fun i hi => absurd hi (Nat.not_lt_zero _)), HeapOk.row rfl rfl rfl (fun i hi => absurd hi (Nat.not_lt_zero _)), HeapOk.row rfl rfl rfl (fun i hi => absurd hi (Nat.not_lt_zero _)), HeapOk.box rfl rfl ⟨LeC.int rfl, LeC.int rfl, LeC.nils _ _, trivial⟩ rfl, trivial⟩
 have hlists : lsN28 ll ≤ 3 ∧ fxN28 ll ≤ 2 := by omega
 have hok := moIter_ok ll k
 have hnext : moIter ll (k + 1) = moStep ll (decide (k < lsN28 ll)) (moIter ll k) := rfl
 obtain ⟨s, hs⟩ : ∃ s, moIter ll k = s := ⟨_, rfl⟩
 rw [hs] at hok hnext ⊢
 by_cases hkl : k < lsN28 ll + fxN28 ll
 ·have hkl' : (k : Int) < (lsN28 ll : Int) + fxN28 ll := by omega
  have hsa := hok.at_
  have hC := hok.C
  have hF := hok.F
  have hO := hok.O
  have hT := hok.T
  obtain ⟨b, hb⟩ : ∃ b, decide (k < lsN28 ll) = b := ⟨_, rfl⟩
  rw [hb] at hnext
  have hM3 := manyN_le ll b s
  have hin := fun j => miIter_ok ll (moI_ok ll (b := b) hok) j
  repeat (first
   | refine AWp.seq ?_
   | refine thenA_n ?_
   | refine AWp.block ?_
   | refine AWp.skip ?_
   | refine AWp.condT rfl cnT ?_
   | (refine rG 15 ?_
      (iterate 3 refine kA ?_)
      refine qr4w2 aL ?_
      refine qr5t aK ?_
      refine aB ?_)
   | (refine rG 17 ?_
      refine kC ?_
      refine aB ?_)
   | (refine rG 18 ?_
      (iterate 2 refine kA ?_)
      refine qr5 aW ?_
      refine aB ?_))
  refine AWp.cut (
   mkSt 147 [(0, .c (lsL ll)), (2, .c (.pt 2 5 0 0)), (3, .c (.pt 19 2 0 0)), (4, .c (.pt 4 5 0 0)), (7, .c (iC (lsN28 ll))), (8, .c (iC (fxN28 ll))), (9, .c (iC (s.at_))), (10, .c (.pt 10 3 0 0)), (11, .c (iC (k : Nat))) , (12, .c (iC (manyN ll b s)))] [(2, ⟨false, 1, 5, 32, lF [nl8, nl8, nl8, nl8, nl8]⟩), (4, ⟨false, 1, 5, 32, lF [.ow 150, .ow 151, .ow 152, .ow 153, .ow 154]⟩), (19, dB ll (manyA ll b s)), (150, rdB (rdIter ll (rdN ll)).2), (151, chB (s.C)), (152, bpB (s.F)), (153, bgB (s.O)), (154, bgB (s.T)), (10, ⟨false, 1, 3, 47, lF (bpC (s.base))⟩) ] [2, 4, 19, 150, 151, 152, 153, 154, 10 ]
   ) ?_ (fun S1 hw1 => AWp.weak hw1 ?_)
  ·cases b with
   | true =>
     have hlt : (k : Int) < lsN28 ll := by have := of_decide_eq_true hb; omega
     have n1 := nx_A ll s.a 6 hok.a hN (by decide) (by decide)
     have hd := dvA_bd ll s.a 6 (by decide)
     have e1 : manyN ll true s = tabN (dvA ll s.a 6) := rfl
     have e2 : manyA ll true s = nxA ll s.a := rfl
     rw [e2]
     generalize dvA ll s.a 6 = x at n1 hd e1
     have hx : x = 0 ∨ x = 1 ∨ x = 2 ∨ x = 3 ∨ x = 4 ∨ x = 5 := by omega
     rcases hx with rfl | rfl | rfl | rfl | rfl | rfl
     ·repeat (first
       | refine AWp.condT rfl cnT ?_
       | (refine rG 19 ?_
          refine qr11 (AList.litSl tyOk) ?_
          refine kA ?_
          refine AList.callH [19] [dB ll s.a] [dB ll (nxA ll s.a)] rfl rfl rfl Try.func32 rfl (by kernel_rfl) (LendOk.box rfl rfl rfl trivial) rfl (LendImm.box rfl trivial) (n1) ?_
          refine qr8eo2 (aP (k := 0) tyOk) ?_
          refine qr5o (aV tyOk) ?_
          refine kC ?_
          refine aB ?_))
      rw [e1]
      refine ⟨rfl, Wk.mk [(2, some 2), (4, some 4), (19, some 19), (150, some 150), (151, some 151), (152, some 152), (153, some 153), (154, some 154), (10, some 10)] rfl rfl rfl ?_ ?_⟩
      ·repeat (first | exact trivial | refine ⟨⟨_, rfl, by first | exact LeA.c (LeC.eq rfl rfl) | exact leT⟩, ?_⟩)
      ·exact ⟨
       hSm, HeapOk.box rfl rfl ⟨LeC.ow _ _ rfl, LeC.ow _ _ rfl, LeC.ow _ _ rfl, LeC.ow _ _ rfl, LeC.ow _ _ rfl, trivial⟩ rfl, hSm, hrF rdC_imm
       ,
       HeapOk.row rfl rfl rfl (fun i _ => cell1 ⟨rfl, rfl⟩), hrF bpC_imm, hrF bgC_imm28, hrF bgC_imm28, hSm,
       trivial⟩
     ·repeat (first
       | refine AWp.condT rfl cnT ?_
       | (refine rG 19 ?_
          refine qr11 (AList.litSl tyOk) ?_
          refine kA ?_
          refine AList.callH [19] [dB ll s.a] [dB ll (nxA ll s.a)] rfl rfl rfl Try.func32 rfl (by kernel_rfl) (LendOk.box rfl rfl rfl trivial) rfl (LendImm.box rfl trivial) (n1) ?_
          refine qr8eo2 (aP (k := 1) tyOk) ?_
          refine qr5o (aV tyOk) ?_
          refine kC ?_
          refine aB ?_))
      rw [e1]
      refine ⟨rfl, Wk.mk [(2, some 2), (4, some 4), (19, some 19), (150, some 150), (151, some 151), (152, some 152), (153, some 153), (154, some 154), (10, some 10)] rfl rfl rfl ?_ ?_⟩
      ·repeat (first | exact trivial | refine ⟨⟨_, rfl, by first | exact LeA.c (LeC.eq rfl rfl) | exact leT⟩, ?_⟩)
      ·exact ⟨
       hSm, HeapOk.box rfl rfl ⟨LeC.ow _ _ rfl, LeC.ow _ _ rfl, LeC.ow _ _ rfl, LeC.ow _ _ rfl, LeC.ow _ _ rfl, trivial⟩ rfl, hSm, hrF rdC_imm
       ,
       HeapOk.row rfl rfl rfl (fun i _ => cell1 ⟨rfl, rfl⟩), hrF bpC_imm, hrF bgC_imm28, hrF bgC_imm28, hSm,
       trivial⟩
     ·repeat (first
       | refine AWp.condT rfl cnT ?_
       | (refine rG 19 ?_
          refine qr11 (AList.litSl tyOk) ?_
          refine kA ?_
          refine AList.callH [19] [dB ll s.a] [dB ll (nxA ll s.a)] rfl rfl rfl Try.func32 rfl (by kernel_rfl) (LendOk.box rfl rfl rfl trivial) rfl (LendImm.box rfl trivial) (n1) ?_
          refine qr8eo2 (aP (k := 2) tyOk) ?_
          refine qr5o (aV tyOk) ?_
          refine kC ?_
          refine aB ?_))
      rw [e1]
      refine ⟨rfl, Wk.mk [(2, some 2), (4, some 4), (19, some 19), (150, some 150), (151, some 151), (152, some 152), (153, some 153), (154, some 154), (10, some 10)] rfl rfl rfl ?_ ?_⟩
      ·repeat (first | exact trivial | refine ⟨⟨_, rfl, by first | exact LeA.c (LeC.eq rfl rfl) | exact leT⟩, ?_⟩)
      ·exact ⟨
       hSm, HeapOk.box rfl rfl ⟨LeC.ow _ _ rfl, LeC.ow _ _ rfl, LeC.ow _ _ rfl, LeC.ow _ _ rfl, LeC.ow _ _ rfl, trivial⟩ rfl, hSm, hrF rdC_imm
       ,
       HeapOk.row rfl rfl rfl (fun i _ => cell1 ⟨rfl, rfl⟩), hrF bpC_imm, hrF bgC_imm28, hrF bgC_imm28, hSm,
       trivial⟩
     ·repeat (first
       | refine AWp.condT rfl cnT ?_
       | (refine rG 19 ?_
          refine qr11 (AList.litSl tyOk) ?_
          refine kA ?_
          refine AList.callH [19] [dB ll s.a] [dB ll (nxA ll s.a)] rfl rfl rfl Try.func32 rfl (by kernel_rfl) (LendOk.box rfl rfl rfl trivial) rfl (LendImm.box rfl trivial) (n1) ?_
          refine qr8eo2 (aP (k := 3) tyOk) ?_
          refine qr5o (aV tyOk) ?_
          refine kC ?_
          refine aB ?_))
      rw [e1]
      refine ⟨rfl, Wk.mk [(2, some 2), (4, some 4), (19, some 19), (150, some 150), (151, some 151), (152, some 152), (153, some 153), (154, some 154), (10, some 10)] rfl rfl rfl ?_ ?_⟩
      ·repeat (first | exact trivial | refine ⟨⟨_, rfl, by first | exact LeA.c (LeC.eq rfl rfl) | exact leT⟩, ?_⟩)
      ·exact ⟨
       hSm, HeapOk.box rfl rfl ⟨LeC.ow _ _ rfl, LeC.ow _ _ rfl, LeC.ow _ _ rfl, LeC.ow _ _ rfl, LeC.ow _ _ rfl, trivial⟩ rfl, hSm, hrF rdC_imm
       ,
       HeapOk.row rfl rfl rfl (fun i _ => cell1 ⟨rfl, rfl⟩), hrF bpC_imm, hrF bgC_imm28, hrF bgC_imm28, hSm,
       trivial⟩
     ·repeat (first
       | refine AWp.condT rfl cnT ?_
       | (refine rG 19 ?_
          refine qr11 (AList.litSl tyOk) ?_
          refine kA ?_
          refine AList.callH [19] [dB ll s.a] [dB ll (nxA ll s.a)] rfl rfl rfl Try.func32 rfl (by kernel_rfl) (LendOk.box rfl rfl rfl trivial) rfl (LendImm.box rfl trivial) (n1) ?_
          refine qr8eo2 (aP (k := 4) tyOk) ?_
          refine qr5o (aV tyOk) ?_
          refine kC ?_
          refine aB ?_))
      rw [e1]
      refine ⟨rfl, Wk.mk [(2, some 2), (4, some 4), (19, some 19), (150, some 150), (151, some 151), (152, some 152), (153, some 153), (154, some 154), (10, some 10)] rfl rfl rfl ?_ ?_⟩
      ·repeat (first | exact trivial | refine ⟨⟨_, rfl, by first | exact LeA.c (LeC.eq rfl rfl) | exact leT⟩, ?_⟩)
      ·exact ⟨
       hSm, HeapOk.box rfl rfl ⟨LeC.ow _ _ rfl, LeC.ow _ _ rfl, LeC.ow _ _ rfl, LeC.ow _ _ rfl, LeC.ow _ _ rfl, trivial⟩ rfl, hSm, hrF rdC_imm
       ,
       HeapOk.row rfl rfl rfl (fun i _ => cell1 ⟨rfl, rfl⟩), hrF bpC_imm, hrF bgC_imm28, hrF bgC_imm28, hSm,
       trivial⟩
     ·repeat (first
       | refine AWp.condT rfl cnT ?_
       | (refine rG 19 ?_
          refine qr11 (AList.litSl tyOk) ?_
          refine kA ?_
          refine AList.callH [19] [dB ll s.a] [dB ll (nxA ll s.a)] rfl rfl rfl Try.func32 rfl (by kernel_rfl) (LendOk.box rfl rfl rfl trivial) rfl (LendImm.box rfl trivial) (n1) ?_
          refine qr8eo2 (aP (k := 5) tyOk) ?_
          refine qr5o (aV tyOk) ?_
          refine kC ?_
          refine aB ?_))
      rw [e1]
      refine ⟨rfl, Wk.mk [(2, some 2), (4, some 4), (19, some 19), (150, some 150), (151, some 151), (152, some 152), (153, some 153), (154, some 154), (10, some 10)] rfl rfl rfl ?_ ?_⟩
      ·repeat (first | exact trivial | refine ⟨⟨_, rfl, by first | exact LeA.c (LeC.eq rfl rfl) | exact leT⟩, ?_⟩)
      ·exact ⟨
       hSm, HeapOk.box rfl rfl ⟨LeC.ow _ _ rfl, LeC.ow _ _ rfl, LeC.ow _ _ rfl, LeC.ow _ _ rfl, LeC.ow _ _ rfl, trivial⟩ rfl, hSm, hrF rdC_imm
       ,
       HeapOk.row rfl rfl rfl (fun i _ => cell1 ⟨rfl, rfl⟩), hrF bpC_imm, hrF bgC_imm28, hrF bgC_imm28, hSm,
       trivial⟩
   | false =>
     have hlt : ¬ (k : Int) < lsN28 ll := by have := of_decide_eq_false hb; omega
     repeat (first
      | refine AWp.skip ?_
      | refine AWp.condF rfl cnF ?_)
     refine ⟨rfl, Wk.mk [(2, some 2), (4, some 4), (19, some 19), (150, some 150), (151, some 151), (152, some 152), (153, some 153), (154, some 154), (10, some 10)] rfl rfl rfl ?_ ?_⟩
     ·exact allT
     ·exact ⟨
      hSm, HeapOk.box rfl rfl ⟨LeC.ow _ _ rfl, LeC.ow _ _ rfl, LeC.ow _ _ rfl, LeC.ow _ _ rfl, LeC.ow _ _ rfl, trivial⟩ rfl, hSm, hrF rdC_imm
      ,
      HeapOk.row rfl rfl rfl (fun i _ => cell1 ⟨rfl, rfl⟩), hrF bpC_imm, hrF bgC_imm28, hrF bgC_imm28, hSm,
      trivial⟩
  obtain ⟨M, hM⟩ : ∃ M, manyN ll b s = M := ⟨_, rfl⟩
  have hI : moI ll b s = miIter ll M ⟨manyA ll b s, s.at_, s.base, []⟩ := by rw [← hM]; rfl
  rw [hM] at hM3 ⊢
  repeat (first
   | refine AWp.seq ?_
   | refine thenA_n ?_
   | refine AWp.block ?_
   | (refine rG 20 ?_
      refine kC ?_
      refine aB ?_)
   | (refine rG 21 ?_
      refine kC ?_
      refine aB ?_))
  refine AWp.round (fun j : Nat =>
   mkSt 147 [(0, .c (lsL ll)), (2, .c (.pt 2 5 0 0)), (3, .c (.pt 19 2 0 0)), (4, .c (.pt 4 5 0 0)), (7, .c (iC (lsN28 ll))), (8, .c (iC (fxN28 ll))), (9, .c (iC ((miIter ll j ⟨manyA ll b s, s.at_, s.base, []⟩)).at_)), (10, .c (.pt 10 3 0 0)), (11, .c (iC (k : Nat))), (12, .c (iC M)), (13, .c (.ow 155)), (14, .c (iC (j : Nat)))] [(2, ⟨false, 1, 5, 32, lF [nl8, nl8, nl8, nl8, nl8]⟩), (4, ⟨false, 1, 5, 32, lF [.ow 150, .ow 151, .ow 152, .ow 153, .ow 154]⟩), (19, dB ll ((miIter ll j ⟨manyA ll b s, s.at_, s.base, []⟩)).a), (150, rdB (rdIter ll (rdN ll)).2), (151, chB s.C), (152, bpB s.F), (153, bgB s.O), (154, bgB s.T), (10, ⟨false, 1, 3, 47, lF (bpC ((miIter ll j ⟨manyA ll b s, s.at_, s.base, []⟩)).base)⟩), (155, bpB ((miIter ll j ⟨manyA ll b s, s.at_, s.base, []⟩)).chs) ] [2, 4, 19, 150, 151, 152, 153, 154, 10, 155 ]
   ) (fun j => j ≤ M) (fun j => M - j) 0 (Nat.zero_le _) ?_ (fun j hj => ?_)
  ·refine Wk.mk [(2, some 2), (4, some 4), (19, some 19), (150, some 150), (151, some 151), (152, some 152), (153, some 153), (154, some 154), (10, some 10), (155, none)] rfl rfl rfl ?_ ?_
   ·exact allT
   ·exact ⟨
    hSm, HeapOk.box rfl rfl ⟨LeC.ow _ _ rfl, LeC.ow _ _ rfl, LeC.ow _ _ rfl, LeC.ow _ _ rfl, LeC.ow _ _ rfl, trivial⟩ rfl, hSm, hrF rdC_imm
    ,
    HeapOk.row rfl rfl rfl (fun i _ => cell1 ⟨rfl, rfl⟩), hrF bpC_imm, hrF bgC_imm28, hrF bgC_imm28, hSm,
    HeapOk.nil rfl rfl, trivial⟩
  obtain ⟨i1, i2, i3, i4, i5⟩ := hin j
  have hnx : miIter ll (j + 1) ⟨manyA ll b s, s.at_, s.base, []⟩ = miStep ll (miIter ll j ⟨manyA ll b s, s.at_, s.base, []⟩) := rfl
  obtain ⟨i, hi⟩ : ∃ i, miIter ll j ⟨manyA ll b s, s.at_, s.base, []⟩ = i := ⟨_, rfl⟩
  rw [hi] at i1 i2 i3 i4 i5 hnx ⊢
  by_cases hjl : j < M
  ·have hjl' : (j : Int) < M := by omega
   have hN65 := New_T 6 5 30 (by omega) (by omega) rfl (by omega)
   repeat (first
    | refine AWp.seq ?_
    | refine thenA_n ?_
    | refine AWp.block ?_
    | refine AWp.skip ?_
    | refine AWp.condT rfl cnT ?_
    | (refine rG 22 ?_
       (iterate 2 refine kA ?_)
       refine qr5t aK ?_
       refine aB ?_)
    | (refine rG 24 ?_
       refine AList.callT rfl rfl rfl rfl rfl Try.func34 rfl (by kernel_rfl) (hN65) (fun _ _ _ _ => rfl) ?_
       refine kA ?_
       (iterate 2 refine qr4 aN ?_)
       refine qr5 (aM tyOk) ?_
       refine kI ?_
       refine kC ?_
       refine aB ?_))
   refine AWp.weak (S' :=
    mkSt 147 [(0, .c (lsL ll)), (2, .c (.pt 2 5 0 0)), (3, .c (.pt 19 2 0 0)), (4, .c (.pt 4 5 0 0)), (7, .c (iC (lsN28 ll))), (8, .c (iC (fxN28 ll))), (9, .c (iC ((i)).at_)), (10, .c (.pt 10 3 0 0)), (11, .c (iC (k : Nat))), (12, .c (iC M)), (13, .c (.ow 155)), (14, .c (iC (j : Nat))), (15, .c (.pt 15 3 0 0))] [(2, ⟨false, 1, 5, 32, lF [nl8, nl8, nl8, nl8, nl8]⟩), (4, ⟨false, 1, 5, 32, lF [.ow 150, .ow 151, .ow 152, .ow 153, .ow 154]⟩), (19, dB ll ((i)).a), (150, rdB (rdIter ll (rdN ll)).2), (151, chB s.C), (152, bpB s.F), (153, bgB s.O), (154, bgB s.T), (10, ⟨false, 1, 3, 47, lF (bpC ((i)).base)⟩), (155, bpB ((i)).chs) , (15, ⟨false, 1, 3, 47, lF (bpC (bp65 fun _ => false))⟩)] [2, 4, 19, 150, 151, 152, 153, 154, 10, 155 , 15]
    ) (Wk.mk [(2, some 2), (4, some 4), (19, some 19), (150, some 150), (151, some 151), (152, some 152), (153, some 153), (154, some 154), (10, some 10), (155, some 155), (15, some 15)] rfl rfl rfl ?_ ?_) ?_
   ·exact allT
   ·exact ⟨
    hSm, HeapOk.box rfl rfl ⟨LeC.ow _ _ rfl, LeC.ow _ _ rfl, LeC.ow _ _ rfl, LeC.ow _ _ rfl, LeC.ow _ _ rfl, trivial⟩ rfl, hSm, hrF rdC_imm
    ,
    HeapOk.row rfl rfl rfl (fun i _ => cell1 ⟨rfl, rfl⟩), hrF bpC_imm, hrF bgC_imm28, hrF bgC_imm28, hSm,
    hrF bpC_imm, HeapOk.box rfl rfl ⟨LeC.int rfl, LeC.int rfl, LeC.fz rfl rfl rfl (fun i _ => cell1 ⟨rfl, rfl⟩), trivial⟩ rfl, trivial⟩
   repeat (first
    | refine thenA_n ?_
    | (refine rG 25 ?_
       (iterate 2 refine kA ?_)
       refine qr5 (aO tyOk) ?_
       refine qr5 aW ?_
       refine aB ?_))
   refine AWp.cut (
    mkSt 147 [(0, .c (lsL ll)), (2, .c (.pt 2 5 0 0)), (3, .c (.pt 19 2 0 0)), (4, .c (.pt 4 5 0 0)), (7, .c (iC (lsN28 ll))), (8, .c (iC (fxN28 ll))), (9, .c (iC ((i)).at_)), (10, .c (.pt 10 3 0 0)), (11, .c (iC (k : Nat))), (12, .c (iC M)), (13, .c (.ow 155)), (14, .c (iC (j : Nat))), (15, .c (.pt 15 3 0 0))] [(2, ⟨false, 1, 5, 32, lF [nl8, nl8, nl8, nl8, nl8]⟩), (4, ⟨false, 1, 5, 32, lF [.ow 150, .ow 151, .ow 152, .ow 153, .ow 154]⟩), (19, dB ll ((i)).a), (150, rdB (rdIter ll (rdN ll)).2), (151, chB s.C), (152, bpB s.F), (153, bgB s.O), (154, bgB s.T), (10, ⟨false, 1, 3, 47, lF (bpC ((i)).base)⟩), (155, bpB ((i)).chs) , (15, ⟨false, 1, 3, 47, lF (bpC (bp65 (mdD ll i.at_)))⟩)] [2, 4, 19, 150, 151, 152, 153, 154, 10, 155 , 15]
    ) ?_ (fun S1 hw1 => AWp.weak hw1 ?_)
   ·by_cases hat : i.at_ < ll.length
    ·have hat' : (i.at_ : Int) < ll.length := by omega
     obtain ⟨L, hL⟩ : ∃ L, ll.getD i.at_ [] = L := ⟨_, rfl⟩
     have hD : mdD ll i.at_ = rcropB (mdW (mkN L) (g16 (fI L))) (mdH (mkN L) (g16 (fI L))) (mdF (mkN L) (g16 (fI L)) (mdW (mkN L) (g16 (fI L))) (mdH (mkN L) (g16 (fI L))) 12 (dat (mkN L) (dat (mkN L) 0), fun _ => false)) 0 0 6 := by unfold mdD; rw [if_pos hat, hL]
     have hLl := hk8 i.at_ hat
     rw [hL] at hLl
     have hcL : (fun (k _ : Nat) => lsI (ll.getD k [])) i.at_ 0 = lsI L := by rw [← hL]
     have m1 := Made_A (mkN L) (g16 (fI L)) (by show 2 + L.length ≤ _; omega)
     have c1 : ACalls Try.prog 35 [.ag (bpC (mdV (mkN L) (g16 (fI L)))), .c (iC 0), .c (iC 0), .c (iC 6), .c (iC 5)] (.tu [.ag (bpC (bp65 (mdD ll i.at_))), .c (iC 0)]) := by
      rw [hD]
      exact CrV_A (mkN L) (g16 (fI L)) 6 5 (by decide) (by decide)
     clear hD
     generalize mdV (mkN L) (g16 (fI L)) = v at m1 c1
     generalize mdD ll i.at_ = D at c1 ⊢
     have hgF := g16_F (fI L) L.length
     repeat (first
      | refine AWp.condT rfl cnT ?_)
     refine AWp.text ?_
     refine AText.split 6 ?_
     refine qr11 (AList.litOw tyOk) ?_
     (iterate 2 refine kA ?_)
     refine qr8eo2 (aP (k := i.at_) tyOk) ?_
     refine AList.load1lE tyOk (hcL) rfl rfl rfl rfl rfl oM ?_
     refine AList.appL tyOk rfl rfl rfl rfl rfl rfl rfl rfl rfl rfl oM oM ?_
     refine aB ?_
     refine AText.weak (S' :=
      mkSt 147 [(0, .c (lsL ll)), (2, .c (.pt 2 5 0 0)), (3, .c (.pt 19 2 0 0)), (4, .c (.pt 4 5 0 0)), (7, .c (iC (lsN28 ll))), (8, .c (iC (fxN28 ll))), (9, .c (iC ((i)).at_)), (10, .c (.pt 10 3 0 0)), (11, .c (iC (k : Nat))), (12, .c (iC M)), (13, .c (.ow 155)), (14, .c (iC (j : Nat))), (15, .c (.pt 15 3 0 0)), (85, .c (.ls (mkN L) 1 (iF (g16 (fI L)))))] [(2, ⟨false, 1, 5, 32, lF [nl8, nl8, nl8, nl8, nl8]⟩), (4, ⟨false, 1, 5, 32, lF [.ow 150, .ow 151, .ow 152, .ow 153, .ow 154]⟩), (19, dB ll ((i)).a), (150, rdB (rdIter ll (rdN ll)).2), (151, chB s.C), (152, bpB s.F), (153, bgB s.O), (154, bgB s.T), (10, ⟨false, 1, 3, 47, lF (bpC ((i)).base)⟩), (155, bpB ((i)).chs) , (15, ⟨false, 1, 3, 47, lF (bpC (bp65 fun _ => false))⟩)] [2, 4, 19, 150, 151, 152, 153, 154, 10, 155 , 15]
      ) (Wk.mk [(2, some 2), (4, some 4), (19, some 19), (150, some 150), (151, some 151), (152, some 152), (153, some 153), (154, some 154), (10, some 10), (155, some 155), (15, some 15)] rfl rfl rfl ?_ ?_) ?_
     ·repeat (first | exact trivial | refine ⟨⟨_, rfl, by first | exact LeA.c (LeC.fz rfl rfl rfl hgF) | exact leT⟩, ?_⟩)
     ·exact ⟨
      hSm, HeapOk.box rfl rfl ⟨LeC.ow _ _ rfl, LeC.ow _ _ rfl, LeC.ow _ _ rfl, LeC.ow _ _ rfl, LeC.ow _ _ rfl, trivial⟩ rfl, hSm, hrF rdC_imm
      ,
      HeapOk.row rfl rfl rfl (fun i _ => cell1 ⟨rfl, rfl⟩), hrF bpC_imm, hrF bgC_imm28, hrF bgC_imm28, hSm,
      hrF bpC_imm, hSm, trivial⟩
     refine AText.all ?_
     refine aH rfl rfl rfl rfl Try.func36 rfl (by kernel_rfl) (m1) ?_
     refine aH rfl rfl rfl rfl Try.func35 rfl (by kernel_rfl) (c1) ?_
     refine kA ?_
     (iterate 2 refine qr4 aN ?_)
     refine kI ?_
     refine aB ?_
     refine ⟨rfl, Wk.mk [(2, some 2), (4, some 4), (19, some 19), (150, some 150), (151, some 151), (152, some 152), (153, some 153), (154, some 154), (10, some 10), (155, some 155), (15, some 15)] rfl rfl rfl ?_ ?_⟩
     ·exact allT
     ·exact ⟨
      hSm, HeapOk.box rfl rfl ⟨LeC.ow _ _ rfl, LeC.ow _ _ rfl, LeC.ow _ _ rfl, LeC.ow _ _ rfl, LeC.ow _ _ rfl, trivial⟩ rfl, hSm, hrF rdC_imm
      ,
      HeapOk.row rfl rfl rfl (fun i _ => cell1 ⟨rfl, rfl⟩), hrF bpC_imm, hrF bgC_imm28, hrF bgC_imm28, hSm,
      hrF bpC_imm, hSm, trivial⟩
    ·have hat' : ¬ (i.at_ : Int) < ll.length := by omega
     have hD : mdD ll i.at_ = fun _ => false := by unfold mdD; rw [if_neg hat]
     rw [hD]
     repeat (first
      | refine AWp.skip ?_
      | refine AWp.condF rfl cnF ?_)
     refine ⟨rfl, Wk.mk [(2, some 2), (4, some 4), (19, some 19), (150, some 150), (151, some 151), (152, some 152), (153, some 153), (154, some 154), (10, some 10), (155, some 155), (15, some 15)] rfl rfl rfl ?_ ?_⟩
     ·exact allT
     ·exact ⟨
      hSm, HeapOk.box rfl rfl ⟨LeC.ow _ _ rfl, LeC.ow _ _ rfl, LeC.ow _ _ rfl, LeC.ow _ _ rfl, LeC.ow _ _ rfl, trivial⟩ rfl, hSm, hrF rdC_imm
      ,
      HeapOk.row rfl rfl rfl (fun i _ => cell1 ⟨rfl, rfl⟩), hrF bpC_imm, hrF bgC_imm28, hrF bgC_imm28, hSm,
      hrF bpC_imm, hSm, trivial⟩
   have n1 := nx_A ll i.a 3 i1 hN (by decide) (by decide)
   have hD : miD ll i = if dvA ll i.a 3 = 0 then pasD (mdD ll i.at_) i.base.W i.base.H i.base.d else mdD ll i.at_ := rfl
   have hat : i.at_ ≤ 100 := by omega
   have hP := Paste_A (mdD ll i.at_) i.base.W i.base.H i.base.n i.base.d i3
   refine AWp.seq ?_
   repeat (first
    | refine AWp.seq ?_
    | refine thenA_n ?_
    | (refine rG 27 ?_
       refine kA ?_
       refine qr4w2 aL ?_
       refine kC ?_
       refine aB ?_)
    | (refine rG 28 ?_
       refine kA ?_
       refine AList.callH [19] [dB ll i.a] [dB ll (nxA ll i.a)] rfl rfl rfl Try.func32 rfl (by kernel_rfl) (LendOk.box rfl rfl rfl trivial) rfl (LendImm.box rfl trivial) (n1) ?_
       refine qr5 aW ?_
       refine aB ?_))
   refine AWp.cut (
    mkSt 147 [(0, .c (lsL ll)), (2, .c (.pt 2 5 0 0)), (3, .c (.pt 19 2 0 0)), (4, .c (.pt 4 5 0 0)), (7, .c (iC (lsN28 ll))), (8, .c (iC (fxN28 ll))), (9, .c (iC (((i)).at_ + 1))), (10, .c (.pt 10 3 0 0)), (11, .c (iC (k : Nat))), (12, .c (iC M)), (13, .c (.ow 155)), (14, .c (iC (j : Nat))), (15, .c (.pt 15 3 0 0))] [(2, ⟨false, 1, 5, 32, lF [nl8, nl8, nl8, nl8, nl8]⟩), (4, ⟨false, 1, 5, 32, lF [.ow 150, .ow 151, .ow 152, .ow 153, .ow 154]⟩), (19, dB ll (nxA ll (i).a)), (150, rdB (rdIter ll (rdN ll)).2), (151, chB s.C), (152, bpB s.F), (153, bgB s.O), (154, bgB s.T), (10, ⟨false, 1, 3, 47, lF (bpC ((i)).base)⟩), (155, bpB ((i)).chs) , (15, ⟨false, 1, 3, 47, lF (bpC (bp65 (miD ll i)))⟩)] [2, 4, 19, 150, 151, 152, 153, 154, 10, 155 , 15]
    ) ?_ (fun S1 hw1 => AWp.weak hw1 ?_)
   ·generalize dvA ll i.a 3 = x at hD
    by_cases hx : x = 0
    ·rw [if_pos hx] at hD
     rw [hD]
     repeat (first
      | refine AWp.condT rfl cnT ?_
      | (refine rG 29 ?_
         (iterate 2 refine kF ?_)
         refine aH rfl rfl rfl rfl Try.func37 rfl (by kernel_rfl) (hP) ?_
         refine kI ?_
         refine aB ?_))
     refine ⟨rfl, Wk.mk [(2, some 2), (4, some 4), (19, some 19), (150, some 150), (151, some 151), (152, some 152), (153, some 153), (154, some 154), (10, some 10), (155, some 155), (15, some 15)] rfl rfl rfl ?_ ?_⟩
     ·exact allT
     ·exact ⟨
      hSm, HeapOk.box rfl rfl ⟨LeC.ow _ _ rfl, LeC.ow _ _ rfl, LeC.ow _ _ rfl, LeC.ow _ _ rfl, LeC.ow _ _ rfl, trivial⟩ rfl, hSm, hrF rdC_imm
      ,
      HeapOk.row rfl rfl rfl (fun i _ => cell1 ⟨rfl, rfl⟩), hrF bpC_imm, hrF bgC_imm28, hrF bgC_imm28, hSm,
      hrF bpC_imm, hSm, trivial⟩
    ·rw [if_neg hx] at hD
     rw [hD]
     repeat (first
      | refine AWp.skip ?_
      | refine AWp.condF rfl cnF ?_)
     refine ⟨rfl, Wk.mk [(2, some 2), (4, some 4), (19, some 19), (150, some 150), (151, some 151), (152, some 152), (153, some 153), (154, some 154), (10, some 10), (155, some 155), (15, some 15)] rfl rfl rfl ?_ ?_⟩
     ·exact allT
     ·exact ⟨
      hSm, HeapOk.box rfl rfl ⟨LeC.ow _ _ rfl, LeC.ow _ _ rfl, LeC.ow _ _ rfl, LeC.ow _ _ rfl, LeC.ow _ _ rfl, trivial⟩ rfl, hSm, hrF rdC_imm
      ,
      HeapOk.row rfl rfl rfl (fun i _ => cell1 ⟨rfl, rfl⟩), hrF bpC_imm, hrF bgC_imm28, hrF bgC_imm28, hSm,
      hrF bpC_imm, hSm, trivial⟩
   clear hP hD n1 hN65
   refine AWp.seq ?_
   repeat (first
    | refine AWp.seq ?_
    | refine thenA_n ?_
    | (refine rG 30 ?_
       refine kA ?_
       refine qr7 (AList.lenOw tyOk) ?_
       refine qr5 aW ?_
       refine aB ?_))
   refine AWp.cut (
    mkSt 147 [(0, .c (lsL ll)), (2, .c (.pt 2 5 0 0)), (3, .c (.pt 19 2 0 0)), (4, .c (.pt 4 5 0 0)), (7, .c (iC (lsN28 ll))), (8, .c (iC (fxN28 ll))), (9, .c (iC (((i)).at_ + 1))), (10, .c (.pt 10 3 0 0)), (11, .c (iC (k : Nat))), (12, .c (iC M)), (13, .c (.ow 155)), (14, .c (iC (j : Nat))), (15, .c (.pt 15 3 0 0))] [(2, ⟨false, 1, 5, 32, lF [nl8, nl8, nl8, nl8, nl8]⟩), (4, ⟨false, 1, 5, 32, lF [.ow 150, .ow 151, .ow 152, .ow 153, .ow 154]⟩), (19, dB ll (nxA ll (i).a)), (150, rdB (rdIter ll (rdN ll)).2), (151, chB s.C), (152, bpB s.F), (153, bgB s.O), (154, bgB s.T), (10, ⟨false, 1, 3, 47, lF (bpC ((if i.chs = [] then bp65 (miD ll i) else i.base)))⟩), (155, bpB ((i)).chs) , (15, ⟨false, 1, 3, 47, lF (bpC (bp65 (miD ll i)))⟩)] [2, 4, 19, 150, 151, 152, 153, 154, 10, 155 , 15]
    ) ?_ (fun S1 hw1 => AWp.weak hw1 ?_)
   ·by_cases hj0 : j = 0
    ·have hc0 : ((i.chs.length : Nat) : Int) = 0 := by omega
     rw [if_pos (List.eq_nil_of_length_eq_zero (by omega))]
     repeat (first
      | refine AWp.condT rfl cnT ?_
      | (refine rG 31 ?_
         refine kF ?_
         refine kI ?_
         refine aB ?_))
     refine ⟨rfl, Wk.mk [(2, some 2), (4, some 4), (19, some 19), (150, some 150), (151, some 151), (152, some 152), (153, some 153), (154, some 154), (10, some 10), (155, some 155), (15, some 15)] rfl rfl rfl ?_ ?_⟩
     ·exact allT
     ·exact ⟨
      hSm, HeapOk.box rfl rfl ⟨LeC.ow _ _ rfl, LeC.ow _ _ rfl, LeC.ow _ _ rfl, LeC.ow _ _ rfl, LeC.ow _ _ rfl, trivial⟩ rfl, hSm, hrF rdC_imm
      ,
      HeapOk.row rfl rfl rfl (fun i _ => cell1 ⟨rfl, rfl⟩), hrF bpC_imm, hrF bgC_imm28, hrF bgC_imm28, hSm,
      hrF bpC_imm, hSm, trivial⟩
    ·have hc0 : ¬ ((i.chs.length : Nat) : Int) = 0 := by omega
     rw [if_neg (fun h => hj0 (by rw [h] at i4; exact i4.symm))]
     repeat (first
      | refine AWp.skip ?_
      | refine AWp.condF rfl cnF ?_)
     refine ⟨rfl, Wk.mk [(2, some 2), (4, some 4), (19, some 19), (150, some 150), (151, some 151), (152, some 152), (153, some 153), (154, some 154), (10, some 10), (155, some 155), (15, some 15)] rfl rfl rfl ?_ ?_⟩
     ·exact allT
     ·exact ⟨
      hSm, HeapOk.box rfl rfl ⟨LeC.ow _ _ rfl, LeC.ow _ _ rfl, LeC.ow _ _ rfl, LeC.ow _ _ rfl, LeC.ow _ _ rfl, trivial⟩ rfl, hSm, hrF rdC_imm
      ,
      HeapOk.row rfl rfl rfl (fun i _ => cell1 ⟨rfl, rfl⟩), hrF bpC_imm, hrF bgC_imm28, hrF bgC_imm28, hSm,
      hrF bpC_imm, hSm, trivial⟩
   replace hnx : miIter ll (j + 1) ⟨manyA ll b s, s.at_, s.base, []⟩ = ⟨nxA ll i.a, i.at_ + 1, if i.chs = [] then bp65 (miD ll i) else i.base, i.chs ++ [bp65 (miD ll i)]⟩ := hnx
   generalize (if i.chs = [] then bp65 (miD ll i) else i.base) = nb at hnx ⊢
   repeat (first
    | refine thenA_n ?_
    | refine inBlk_n ?_
    | (refine rG 23 ?_
       refine kA ?_
       refine qr4w2 aL ?_
       refine kC ?_
       refine aB ?_)
    | (refine rG 32 ?_
       refine kA ?_
       refine kF ?_
       refine qr11 (AList.litSl tyOk) ?_
       refine AList.appL tyOk rfl rfl rfl rfl rfl rfl rfl rfl rfl rfl oM oM ?_
       refine kC ?_
       refine aB ?_))
   refine ⟨j + 1, hjl, ?_, by omega⟩
   rw [hnx]
   refine Wk.mk [(2, some 2), (4, some 4), (19, some 19), (150, some 150), (151, some 151), (152, some 152), (153, some 153), (154, some 154), (10, some 10), (155, some 105)] rfl rfl rfl ?_ ?_
   ·exact allT
   ·exact ⟨
    hSm, HeapOk.box rfl rfl ⟨LeC.ow _ _ rfl, LeC.ow _ _ rfl, LeC.ow _ _ rfl, LeC.ow _ _ rfl, LeC.ow _ _ rfl, trivial⟩ rfl, hSm, hrF rdC_imm
    ,
    HeapOk.row rfl rfl rfl (fun i _ => cell1 ⟨rfl, rfl⟩), hrF bpC_imm, hrF bgC_imm28, hrF bgC_imm28, hSm,
    HeapOk.row rfl rfl List.length_append (row_snoc _ _ bpC_imm rfl), trivial⟩
  have hjl' : ¬ (j : Int) < M := by omega
  obtain rfl : M = j := by omega
  rw [hi] at hI
  have n1 := nx_A ll i.a 3 i1 hN (by decide) (by decide)
  have n2 := nx_A ll (nxA ll i.a) 3 (nxA_le ll i1) hN (by decide) (by decide)
  have n3 := nx_A ll (nxA ll (nxA ll i.a)) 4 (nxA_le ll (nxA_le ll i1)) hN (by decide) (by decide)
  have n4 := nx_A ll (nxA ll (nxA ll (nxA ll i.a))) 3 (nxA_le ll (nxA_le ll (nxA_le ll i1))) hN (by decide) (by decide)
  have d3 := dvA_bd ll (nxA ll (nxA ll i.a)) 4 (by decide)
  have hB : ACalls Try.prog 38 [.c (.ls 4 1 (sF [iC (dvA ll i.a 3), iC (dvA ll (nxA ll i.a) 3), iC (dvA ll (nxA ll (nxA ll i.a)) 4 / 3), iC (dvA ll (nxA ll (nxA ll (nxA ll i.a))) 3)] 1))] (.ag (bgC (budV ll i.a))) :=
   (Budget_A 4 (budF ll i.a) (by decide)).cv ⟨.c (Cv.lit fun k hk => by
     have : k = 0 ∨ k = 1 ∨ k = 2 ∨ k = 3 := by omega
     rcases this with rfl | rfl | rfl | rfl <;> rfl), trivial⟩
  have hat : i.at_ ≤ 100 := by omega
  repeat (first
   | refine AWp.seq ?_
   | refine thenA_n ?_
   | refine AWp.exit ?_
   | refine AWp.condF rfl cnF ?_
   | (refine rG 22 ?_
      (iterate 2 refine kA ?_)
      refine qr5f aJ ?_
      refine aB ?_)
   | (refine rG 33 ?_
      refine kA ?_
      refine AList.callH [19] [dB ll i.a] [dB ll (nxA ll i.a)] rfl rfl rfl Try.func32 rfl (by kernel_rfl) (LendOk.box rfl rfl rfl trivial) rfl (LendImm.box rfl trivial) (n1) ?_
      refine kA ?_
      refine AList.callH [19] [dB ll (nxA ll i.a)] [dB ll (nxA ll (nxA ll i.a))] rfl rfl rfl Try.func32 rfl (by kernel_rfl) (LendOk.box rfl rfl rfl trivial) rfl (LendImm.box rfl trivial) (n2) ?_
      refine kA ?_
      refine AList.callH [19] [dB ll (nxA ll (nxA ll i.a))] [dB ll (nxA ll (nxA ll (nxA ll i.a)))] rfl rfl rfl Try.func32 rfl (by kernel_rfl) (LendOk.box rfl rfl rfl trivial) rfl (LendImm.box rfl trivial) (n3) ?_
      refine qr4w3 AList.quo ?_
      refine kA ?_
      refine AList.callH [19] [dB ll (nxA ll (nxA ll (nxA ll i.a)))] [dB ll (nxA ll (nxA ll (nxA ll (nxA ll i.a))))] rfl rfl rfl Try.func32 rfl (by kernel_rfl) (LendOk.box rfl rfl rfl trivial) rfl (LendImm.box rfl trivial) (n4) ?_
      refine qr11 (AList.litSl tyOk) ?_
      refine aH rfl rfl rfl rfl Try.func38 rfl (by kernel_rfl) (hB) ?_
      refine qr5 (aM tyOk) ?_
      refine kI ?_
      refine aB ?_))
  refine AWp.weak (S' :=
   mkSt 147 [(0, .c (lsL ll)), (2, .c (.pt 2 5 0 0)), (3, .c (.pt 19 2 0 0)), (4, .c (.pt 4 5 0 0)), (7, .c (iC (lsN28 ll))), (8, .c (iC (fxN28 ll))), (9, .c (iC (i.at_))), (10, .c (.pt 10 3 0 0)), (11, .c (iC (k : Nat))) , (13, .c (lsB i.chs)), (17, .c (.pt 17 4 0 0))] [(2, ⟨false, 1, 5, 32, lF [nl8, nl8, nl8, nl8, nl8]⟩), (4, ⟨false, 1, 5, 32, lF [.ow 150, .ow 151, .ow 152, .ow 153, .ow 154]⟩), (19, dB ll (nxA ll (nxA ll (nxA ll (nxA ll i.a))))), (150, rdB (rdIter ll (rdN ll)).2), (151, chB (s.C)), (152, bpB (s.F)), (153, bgB (s.O)), (154, bgB (s.T)), (10, ⟨false, 1, 3, 47, lF (bpC (i.base))⟩) , (17, ⟨false, 1, 4, 42, lF (bgC (budV ll i.a))⟩)] [2, 4, 19, 150, 151, 152, 153, 154, 10 , 17]
   ) (Wk.mk [(2, some 2), (4, some 4), (19, some 19), (150, some 150), (151, some 151), (152, some 152), (153, some 153), (154, some 154), (10, some 10), (17, some 17)] rfl rfl rfl ?_ ?_) ?_
  ·repeat (first | exact trivial | refine ⟨⟨_, rfl, by first | exact LeA.c (LeC.fz rfl rfl rfl (fun i _ j _ => ⟨rfl, rowF_imm bpC_imm _ i j⟩)) | exact leT⟩, ?_⟩)
  ·exact ⟨
   hSm, HeapOk.box rfl rfl ⟨LeC.ow _ _ rfl, LeC.ow _ _ rfl, LeC.ow _ _ rfl, LeC.ow _ _ rfl, LeC.ow _ _ rfl, trivial⟩ rfl, hSm, hrF rdC_imm
   ,
   HeapOk.row rfl rfl rfl (fun i _ => cell1 ⟨rfl, rfl⟩), hrF bpC_imm, hrF bgC_imm28, hrF bgC_imm28, hSm,
   hSm, trivial⟩
  clear hB n1 n2 n3 n4
  have hcl : i.chs.length ≤ 3 := by omega
  cases b with
  | true =>
    have hlt : (k : Int) < lsN28 ll := by have := of_decide_eq_true hb; omega
    replace hnext : moIter ll (k + 1) = ⟨nxA ll (nxA ll (nxA ll (nxA ll (moI ll true s).a))), (moI ll true s).at_, (moI ll true s).base, s.C ++ [(moI ll true s).chs], s.O ++ [budV ll (moI ll true s).a], s.F, s.T⟩ := hnext
    rw [hI] at hnext
    generalize budV ll i.a = bv at *
    repeat (first
     | refine AWp.seq ?_
     | refine thenA_n ?_
     | refine inBlk_n ?_
     | refine AWp.condT rfl cnT ?_
     | (refine rG 16 ?_
        refine kA ?_
        refine qr4w2 aL ?_
        refine kC ?_
        refine aB ?_)
     | (refine rG 34 ?_
        (iterate 2 refine kA ?_)
        refine qr5t aK ?_
        refine aB ?_)
     | (refine rG 35 ?_
        refine kD ?_
        refine kE ?_
        refine kA ?_
        refine qr11 (AList.litSl tyOk) ?_
        refine AList.appL tyOk rfl rfl rfl rfl rfl rfl rfl rfl rfl rfl oM oM ?_
        refine kD ?_
        refine kI ?_
        refine aB ?_)
     | (refine rG 36 ?_
        refine kD ?_
        refine kE ?_
        refine kF ?_
        refine qr11 (AList.litSl tyOk) ?_
        refine AList.appL tyOk rfl rfl rfl rfl rfl rfl rfl rfl rfl rfl oM oM ?_
        refine kD ?_
        refine kI ?_
        refine aB ?_))
    refine ⟨k + 1, hkl, ?_, by omega⟩
    rw [hnext]
    refine Wk.mk [(2, some 2), (4, some 4), (19, some 19), (150, some 150), (151, some 124), (152, some 152), (153, some 130), (154, some 154), (10, some 10)] rfl rfl rfl ?_ ?_
    ·exact allT
    ·exact ⟨
     hSm, HeapOk.box rfl rfl ⟨LeC.ow _ _ rfl, LeC.ow _ _ rfl, LeC.ow _ _ rfl, LeC.ow _ _ rfl, LeC.ow _ _ rfl, trivial⟩ rfl, hSm, hrF rdC_imm
     , HeapOk.row rfl rfl List.length_append (chF_snoc _ _), hrF bpC_imm, HeapOk.row rfl rfl List.length_append (row_snoc _ _ bgC_imm28 rfl), hrF bgC_imm28, hSm, trivial⟩
  | false =>
    have hlt : ¬ (k : Int) < lsN28 ll := by have := of_decide_eq_false hb; omega
    have hM1 : M = 1 := hM.symm
    have hcl1 : 0 < i.chs.length := by omega
    replace hnext : moIter ll (k + 1) = ⟨nxA ll (nxA ll (nxA ll (nxA ll (moI ll false s).a))), (moI ll false s).at_, (moI ll false s).base, s.C, s.O, s.F ++ [(moI ll false s).chs.getD 0 bpZ], s.T ++ [budV ll (moI ll false s).a]⟩ := hnext
    rw [hI] at hnext
    generalize budV ll i.a = bv at *
    repeat (first
     | refine AWp.seq ?_
     | refine thenA_n ?_
     | refine inBlk_n ?_
     | refine AWp.condF rfl cnF ?_
     | (refine rG 16 ?_
        refine kA ?_
        refine qr4w2 aL ?_
        refine kC ?_
        refine aB ?_)
     | (refine rG 34 ?_
        (iterate 2 refine kA ?_)
        refine qr5f aJ ?_
        refine aB ?_)
     | (refine AWp.draw (id := 37) mixed ?_; refine kD ?_; refine kE ?_; refine kA ?_; refine qr8eo2 (aP (k := 0) tyOk) ?_; refine qr5o (aT tyOk) ?_; refine qr11 (AList.litSl tyOk) ?_; refine AList.appL tyOk rfl rfl rfl rfl rfl rfl rfl rfl rfl rfl oM oM ?_; refine kD ?_; refine kI ?_; refine aB ⟨by kernel_rfl, ?_⟩)
     | (refine rG 38 ?_
        refine kD ?_
        refine kE ?_
        refine kF ?_
        refine qr11 (AList.litSl tyOk) ?_
        refine AList.appL tyOk rfl rfl rfl rfl rfl rfl rfl rfl rfl rfl oM oM ?_
        refine kD ?_
        refine kI ?_
        refine aB ?_))
    refine ⟨k + 1, hkl, ?_, by omega⟩
    rw [hnext]
    refine Wk.mk [(2, some 2), (4, some 4), (19, some 19), (150, some 150), (151, some 151), (152, some 138), (153, some 153), (154, some 144), (10, some 10)] rfl rfl rfl ?_ ?_
    ·exact allT
    ·exact ⟨
     hSm, HeapOk.box rfl rfl ⟨LeC.ow _ _ rfl, LeC.ow _ _ rfl, LeC.ow _ _ rfl, LeC.ow _ _ rfl, LeC.ow _ _ rfl, trivial⟩ rfl, hSm, hrF rdC_imm
     , HeapOk.row rfl rfl rfl (fun i _ => cell1 ⟨rfl, rfl⟩), HeapOk.row rfl rfl List.length_append (row_snoc _ _ bpC_imm rfl), hrF bgC_imm28, HeapOk.row rfl rfl List.length_append (row_snoc _ _ bgC_imm28 rfl), hSm, trivial⟩
 have hkl' : ¬ (k : Int) < (lsN28 ll : Int) + fxN28 ll := by omega
 obtain rfl : k = lsN28 ll + fxN28 ll := by omega
 unfold made28
 rw [hs]
 repeat (first
  | refine AWp.seq ?_
  | refine thenA_n ?_
  | refine AWp.exit ?_
  | refine AWp.ret ?_
  | refine AWp.condF rfl cnF ?_
  | (refine rG 15 ?_
     (iterate 3 refine kA ?_)
     refine qr4w2 aL ?_
     refine qr5f aJ ?_
     refine aB ?_)
  | (refine rG 39 ?_
     refine kF ?_
     refine kI ?_
     refine aB ?_))
 refine ⟨mkSt 147 [(2, .c (.pt 2 5 0 0))] [(2, ⟨false, 1, 5, 32, lF (pbC ⟨(rdIter ll (rdN ll)).2, s.C, s.F, s.O, s.T⟩)⟩)] [2], [(2, ⟨false, 1, 5, 32, lF (pbC ⟨(rdIter ll (rdN ll)).2, s.C, s.F, s.O, s.T⟩)⟩)], Wk.mk [(2, some 2)] rfl rfl rfl ?_ ?_, rfl, rfl, ARets.one (x := .ag _) (ARes.box tyOk rfl rfl rfl rfl rfl rfl rfl)⟩
 ·exact allT
 ·exact ⟨HeapOk.box rfl rfl ⟨LeC.fz rfl rfl rfl (fun i _ j _ => ⟨rfl, rowF_imm rdC_imm _ i j⟩), LeC.fz rfl rfl rfl (fun i _ => cell1 ⟨rfl, rfl⟩), LeC.fz rfl rfl rfl (fun i _ j _ => ⟨rfl, rowF_imm bpC_imm _ i j⟩), LeC.fz rfl rfl rfl (fun i _ j _ => ⟨rfl, rowF_imm bgC_imm28 _ i j⟩), LeC.fz rfl rfl rfl (fun i _ j _ => ⟨rfl, rowF_imm bgC_imm28 _ i j⟩), trivial⟩ rfl, trivial⟩
end Go.Proofs.Ytjjaehpkccejaaa
end
