/- ProofLeast: the statement. No condition. -/
import Derived.Test.YtekkldgmjdllbaaG35
import Derived.Test.YtekkldgmjdllbaaHA25ler05
import Derived.Test.YtekkldgmjdllbaaG33
import Derived.Test.YtekkldgmjdllbaaG39
import Derived.Test.YtekkldgmjdllbaaHA25ler04
import Derived.Test.YtekkldgmjdllbaaG27
import Derived.Test.YtekkldgmjdllbaaG32
import Derived.Test.YtekkldgmjdllbaaG34
import Derived.Test.YtekkldgmjdllbaaG21
import Derived.Test.YtekkldgmjdllbaaG20
import Derived.Test.YtekkldgmjdllbaaG22
import Derived.Test.YtekkldgmjdllbaaG37
import Derived.Test.YtekkldgmjdllbaaG25
import Derived.Test.YtekkldgmjdllbaaG38
import Derived.Test.YtekkldgmjdllbaaG23
import Derived.Test.YtekkldgmjdllbaaG31
import Derived.Test.YtekkldgmjdllbaaG08
import Derived.Test.YtekkldgmjdllbaaG09
import Derived.Test.YtekkldgmjdllbaaG17
import Derived.Test.YtekkldgmjdllbaaG18
import Derived.Test.YtekkldgmjdllbaaG28
import Derived.Test.YtekkldgmjdllbaaG07
import Derived.Test.YtekkldgmjdllbaaHA25ler02
import Derived.Shelf.Abstract
import Derived.Test.YtekkldgmjdllbaaG04
import Derived.Scope
import Derived.Test.YtekkldgmjdllbaaG36
import Derived.Test.YtekkldgmjdllbaaG24
import Derived.Test.YtekkldgmjdllbaaProg
import Derived.Test.YtekkldgmjdllbaaG15
import Derived.Test.YtekkldgmjdllbaaG11
import Derived.Test.YtekkldgmjdllbaaHA25ler01
import Derived.WideKeyMaps
import Derived.MapKept
import Derived.Carry
import Derived.Test.YtekkldgmjdllbaaG06
import Derived.Laws.Cover3
import Derived.Test.YtekkldgmjdllbaaG03
import Derived.RangeFuncLeaves
import Derived.RangeFuncRecord
import Derived.Test.YtekkldgmjdllbaaG10
import Derived.Test.YtekkldgmjdllbaaG30
import Derived.RangeFuncNested
import Derived.Test.YtekkldgmjdllbaaG02
import Derived.Laws.StructEq
import Derived.Test.YtekkldgmjdllbaaG16
import Derived.Test.YtekkldgmjdllbaaG01
import Derived.Test.YtekkldgmjdllbaaG05
import Derived.Great.BuildSlice
import Derived.Test.YtekkldgmjdllbaaG19
import Derived.Laws.Pointers
import Derived.Lib.Builder
import Derived.Lib.UnsafeStr
import Derived.Laws.Externs
import Derived.Lib.BufferRead
import Derived.WalkKit
import Derived.Lib.Hide
import Derived.Deep.QuietTactic
import Derived.BigQuiet
import Derived.Deep.DrawnRows
import Derived.Deep.AppendLies
import Derived.Test.YtekkldgmjdllbaaG29
import Derived.OrdersIn
import Derived.TacticsIn
import Derived.RangeFuncCalls
import Derived.Maps.AppendAt
import Derived.OwnWalk
import Derived.Test.YtekkldgmjdllbaaG13
import Derived.StillTail
import Derived.Below
import Derived.Deep.Draws
import Derived.KernelRfl
import Derived.Test.YtekkldgmjdllbaaG12
import Derived.Test.YtekkldgmjdllbaaG14
import Derived.Test.YtekkldgmjdllbaaRows
import Derived.Test.YtekkldgmjdllbaaG26
import Derived.Test.YtekkldgmjdllbaaHA25ler03
import Derived.ProofKit
import Derived.OpenShut
import Derived.Deep.DeepHandedRow
import Derived.SizedLaws
import Derived.ChangeSlices
import Derived.ChangeSame
set_option linter.unusedSimpArgs false
set_option linter.unusedVariables false
section
namespace Go.Proofs.Ytekkldgmjdllbaa
open Go.RowKit Go.Flow Go.AV Go.Plain
set_option maxHeartbeats 8000000 in
set_option maxRecDepth 100000 in
theorem pShrink_M (a b : Bp) (x y : Bg) (p : List Wt) (hp : PrOk p) (h0 : chkV a b x y p = 0) : GMCalls Try.prog 16 [.ag (bpC a), .ag (bpC b), .ag (bgC x), .ag (bgC y), .c (wpC p)] [] [] (.tu [.c (.ow 900), .c (iC 0)]) [] [wpB (shrP a b x y (shL (shN x y)) p)] := by
 have hck := pCheck_A a b x y p hp
 rw [h0] at hck
 have hsz0 : szV a b = 0 := by
  refine Decidable.byContradiction fun h => ?_
  rw [show chkV a b x y p = szV a b from if_neg h] at h0
  exact h h0
 obtain ⟨ha, hb, hW, hH⟩ := (szV_ok a b).1 hsz0
 obtain ⟨w1, w2, w3, w4, w5⟩ := okB ha
 obtain ⟨hl, hpr⟩ : (shL (shN x y)).length = p.length ∧ prfB a b x y p = true := by
  refine Decidable.byContradiction fun h => ?_
  rw [show chkV a b x y p = 62 from (if_pos hsz0).trans (if_neg h)] at h0
  exact absurd h0 (by decide)
 have hsh := aShifts_A x y
 have hwd := pwidth_A a x y ⟨w1, w2⟩
 have hsb := fun k hk => shN_bd (x := x) (y := y) (k := k) hk
 have hok : ∀ k, k < (shL (shN x y)).length → wtOk a b x y ((shL (shN x y)).getD k mvZ) (p.getD k wtZ) = true := fun k hk => List.all_eq_true.1 hpr k (List.mem_range.2 hk)
 have hp1 := hp.1
 have hst := stN_bd x y w1
 obtain ⟨n, hn⟩ := Int.eq_ofNat_of_zero_le (show 0 ≤ a.W + 8 by omega)
 obtain ⟨m, hm⟩ := Int.eq_ofNat_of_zero_le hst.1
 have hM : alM a.W x y + m = n + 1 := by unfold alM; omega
 have hmt : (stN a.W x y).toNat = m := by omega
 obtain ⟨shrK, hs0, hsN, hsl, hsS⟩ := shrK_ex a b x y p
 rw [hsN]
 rw [hmt] at hsS
 rw [hm] at hwd hst
 obtain ⟨L, hL⟩ : ∃ L, shL (shN x y) = L := ⟨_, rfl⟩
 rw [hL] at hsh hl hsb hok hsl hsS ⊢
 have hLp : L.length ≤ 1000000 := by omega
 refine gm_at Try.func16 rfl rfl Try.ntmps16 rfl ?_
 repeat (first
  | refine uA ?_
  | refine uB ?_
  | refine uC ?_
  | refine uG ?_
  | refine kU ?_
  | (refine rG 0 ?_
     (iterate 4 refine qr5 aQ ?_)
     (iterate 2 refine kC ?_)
     refine aB ?_)
  | (refine rG 1 ?_
     (iterate 4 refine kF ?_)
     refine kA ?_
     refine aH rfl rfl rfl rfl Try.func14 rfl (by kernel_rfl) (hck) ?_
     refine kC ?_
     refine aB ?_)
  | (refine rG 2 ?_
     refine kA ?_
     refine qr5 aW ?_
     refine aB ?_)
  | (refine rG 4 ?_
     (iterate 3 refine kF ?_)
     refine aH rfl rfl rfl rfl Try.func44 rfl (by kernel_rfl) (hwd) ?_
     refine kC ?_
     refine aB ?_)
  | (refine rG 5 ?_
     refine kC ?_
     refine aB ?_)
  | (refine rG 6 ?_
     (iterate 2 refine kF ?_)
     refine aH rfl rfl rfl rfl Try.func22 rfl (by kernel_rfl) (hsh) ?_
     refine qr5 (aO tyOk) ?_
     refine kA ?_
     refine aB ?_))
 refine AWp.round (fun k : Nat =>
  mkSt 88 [(4, .c (wpC p)), (5, .c (.pt 5 3 0 0)), (6, .c (.pt 6 3 0 0)), (7, .c (.pt 7 4 0 0)), (8, .c (.pt 8 4 0 0)), (13, .c (iC m)), (14, .c (.ow 30)), (37, .c (.ls L.length 2 (rowF mvC mvZ L))), (38, .c (iC L.length)), (39, .c (iC (k : Nat))) ] [(5, ⟨false, 1, 3, 31, lF (bpC a)⟩), (6, ⟨false, 1, 3, 31, lF (bpC b)⟩), (7, ⟨false, 1, 4, 33, lF (bgC x)⟩), (8, ⟨false, 1, 4, 33, lF (bgC y)⟩), (30, wpB (shrK k)) ] [5, 6, 7, 8, 30 ]
  ) (fun k => k ≤ L.length) (fun k => L.length - k) 0 (Nat.zero_le _) ?_ (fun k hk => ?_)
 ·rw [hs0]
  refine Wk.mk [(5, some 5), (6, some 6), (7, some 7), (8, some 8), (30, none)] rfl rfl rfl ?_ ?_
  ·exact allT
  ·exact allH
 by_cases hkl : k < L.length
 rotate_left
 ·obtain rfl : k = L.length := by omega
  repeat (first
   | refine uA ?_
   | refine uB ?_
   | refine uH ?_
   | refine AWp.ret ?_
   | refine kU ?_
   | (refine rG 7 ?_
      refine qr5f aJ ?_
      refine aB ?_)
   | (refine rG 16 ?_
      refine kA ?_
      (iterate 2 refine kC ?_)
      refine aB ?_))
  refine ⟨mkSt 88 [(10, .c (.ow 900)), (11, .c (iC 0))] [(900, wpB (shrK L.length))] [900], [], _, [], [wpB (shrK L.length)], ⟨rfl, rfl, rfl⟩, rfl, Wk.mk [(900, some 30)] rfl rfl rfl ?_ ?_, rfl, rfl, GRets.two (x := .c _) (y := .c _) (GRes.tmp rfl) (GRes.tmp rfl)⟩
  ·exact allT
  ·exact ⟨hrF wtC_imm, trivial⟩
 have hkl' : (k : Int) < L.length := by omega
 have hd := hsb k hkl
 have hside := psides_A a b x y (L.getD k mvZ) hd
 have hw := hok k hkl
 unfold wtOk at hw
 rw [Bool.and_eq_true, Bool.and_eq_true] at hw
 obtain ⟨hw1, hw2, -⟩ := hw
 have al1 := fun k hk => okL_alo hw1 (k := k) hk
 have al2 := fun k hk => okL_alo hw2 (k := k) hk
 have ln1 := okL_len hw1
 have ln2 := okL_len hw2
 rw [show (sd1 a b x y (L.getD k mvZ)).o.n = a.n from rfl] at ln1
 rw [show (sd2 a b x y (L.getD k mvZ)).o.n = b.n from rfl] at ln2
 have b91 := n_bd ha
 have b92 := n_bd hb
 have hSk := hsS k hkl
 have hlk := hsl k hk
 have hn0 : 0 < n := by omega
 have cm := counted_M (sd1 a b x y (L.getD k mvZ)) (sd2 a b x y (L.getD k mvZ)) (p.getD k wtZ) m n hn (by show b.W + 8 = _; rw [← hW]; exact hn) (by omega) ha hb (by show -4 ≤ (0 : Int) ∧ (0 : Int) ≤ 4; omega) hd.1 al1 al2 (by omega) (by omega)
 have lA := lessA_M (sd1 a b x y (L.getD k mvZ)) (sd2 a b x y (L.getD k mvZ)) (p.getD k wtZ).2 (p.getD k wtZ).1 n m (alM a.W x y) ha hn (by show -4 ≤ (0 : Int) ∧ (0 : Int) ≤ 4; omega) al1 (by omega) (by omega) hn0 (by omega) (by omega) (by omega) hM
 have lB := fun o (ho : o.length ≤ 9216) => lessB_M (sd1 a b x y (L.getD k mvZ)) (sd2 a b x y (L.getD k mvZ)) o (p.getD k wtZ).2 n m (alM a.W x y) hb (by show b.W + 8 = _; rw [← hW]; exact hn) hd.1 al2 (by omega) ho hn0 (by omega) (by omega) (by omega) hM
 have hkA := keptR_len (fun l => decB (sd1 a b x y (L.getD k mvZ)) (sd2 a b x y (L.getD k mvZ)) m (alM a.W x y) l (p.getD k wtZ).2) (p.getD k wtZ).1 (p.getD k wtZ).1.length
 have hsW : shrW (sd1 a b x y (L.getD k mvZ)) (sd2 a b x y (L.getD k mvZ)) m (alM a.W x y) (p.getD k wtZ) = (keptR (fun l => decB (sd1 a b x y (L.getD k mvZ)) (sd2 a b x y (L.getD k mvZ)) m (alM a.W x y) l (p.getD k wtZ).2) (p.getD k wtZ).1 (p.getD k wtZ).1.length, keptR (fun l => decB (sd1 a b x y (L.getD k mvZ)) (sd2 a b x y (L.getD k mvZ)) m (alM a.W x y) (keptR (fun l => decB (sd1 a b x y (L.getD k mvZ)) (sd2 a b x y (L.getD k mvZ)) m (alM a.W x y) l (p.getD k wtZ).2) (p.getD k wtZ).1 (p.getD k wtZ).1.length) l) (p.getD k wtZ).2 (p.getD k wtZ).2.length) := by
  rw [keptR_all, keptR_all]
  rfl
 rw [hsW] at hSk
 clear hsW
 have ew : cellsFrom (rowF wtC wtZ p k) 0 2 = wtC (p.getD k wtZ) := rfl
 have q1 : rowF wtC wtZ p k 0 = liV (p.getD k wtZ).1 := rfl
 have q2 : rowF wtC wtZ p k 1 = liV (p.getD k wtZ).2 := rfl
 generalize p.getD k wtZ = w at *
 obtain ⟨A', hA'⟩ : ∃ A', keptR (fun l => decB (sd1 a b x y (L.getD k mvZ)) (sd2 a b x y (L.getD k mvZ)) m (alM a.W x y) l w.2) w.1 w.1.length = A' := ⟨_, rfl⟩
 rw [hA'] at hSk hkA lA
 have lB := lB A' (by omega)
 obtain ⟨B', hB'⟩ : ∃ B', keptR (fun l => decB (sd1 a b x y (L.getD k mvZ)) (sd2 a b x y (L.getD k mvZ)) m (alM a.W x y) A' l) w.2 w.2.length = B' := ⟨_, rfl⟩
 rw [hB'] at hSk lB
 have hlen : (shrK (k + 1)).length = (shrK k).length + 1 := by rw [hSk, List.length_append]; rfl
 obtain ⟨s, hs⟩ : ∃ s, sd1 a b x y (L.getD k mvZ) = s := ⟨_, rfl⟩
 obtain ⟨t, ht⟩ : ∃ t, sd2 a b x y (L.getD k mvZ) = t := ⟨_, rfl⟩
 rw [hs, ht] at hside cm lA lB
 have hkp : (k : Int) < p.length := by omega
 clear hA' hB' hok al1 al2 hw1 hw2 hs0 hsN
 repeat (first
  | refine uA ?_
  | refine uC ?_
  | refine uG ?_
  | refine kT ?_
  | (refine rG 7 ?_
     refine qr5t aK ?_
     refine aB ?_)
  | (refine rG 8 ?_
     refine kA ?_
     refine qr8eo2 (aP (k := k) tyOk) ?_
     refine qr5o (aT tyOk) ?_
     refine qr5 (aM tyOk) ?_
     refine kC ?_
     refine kI ?_
     refine aB ?_))
 refine AWp.weak (S' :=
  mkSt 88 [(4, .c (wpC p)), (5, .c (.pt 5 3 0 0)), (6, .c (.pt 6 3 0 0)), (7, .c (.pt 7 4 0 0)), (8, .c (.pt 8 4 0 0)), (13, .c (iC m)), (14, .c (.ow 30)), (37, .c (.ls L.length 2 (rowF mvC mvZ L))), (38, .c (iC L.length)), (39, .c (iC (k : Nat))) , (15, .c (iC (k : Nat))), (16, .c (.pt 16 2 0 0))] [(5, ⟨false, 1, 3, 31, lF (bpC a)⟩), (6, ⟨false, 1, 3, 31, lF (bpC b)⟩), (7, ⟨false, 1, 4, 33, lF (bgC x)⟩), (8, ⟨false, 1, 4, 33, lF (bgC y)⟩), (30, wpB (shrK k)) , (16, ⟨false, 1, 2, 59, lF (mvC (L.getD k mvZ))⟩)] [5, 6, 7, 8, 30 , 16]
  ) (Wk.mk [(5, some 5), (6, some 6), (7, some 7), (8, some 8), (16, some 16), (30, some 30)] rfl rfl rfl ?_ ?_) ?_
 ·exact allT
 ·exact allH
 repeat (first
  | refine uA ?_
  | (refine rG 9 ?_
     (iterate 5 refine kF ?_)
     refine aH rfl rfl rfl rfl Try.func45 rfl (by kernel_rfl) (hside) ?_
     refine kA ?_
     (iterate 2 refine qr4 aN ?_)
     (iterate 2 refine qr5 (aM tyOk) ?_)
     (iterate 2 refine kI ?_)
     refine aB ?_))
 repeat (first
  | refine uA ?_
  | (refine AWp.draw (id := 10) mixed ?_; (iterate 2 refine kA ?_); refine qr8eo2 (aP (k := k) tyOk) ?_; refine AList.loadAlE tyOk (ew) rfl rfl rfl rfl rfl oM ?_; (iterate 2 refine kF ?_); refine kA ?_; refine AList.callM [] [] [60, 61, 62] [] [] [] [ctB 901 902 w.1.length w.2.length s.mo t.mo m n, cwB n (colC s w.1), cwB n (colC t w.2)] [] [ctB 61 62 w.1.length w.2.length s.mo t.mo m n, cwB n (colC s w.1), cwB n (colC t w.2)] rfl rfl FnV.func rfl Try.func47 rfl (by kernel_rfl) (trivial) (trivial) rfl (by exact ⟨.ag (lentAg rfl), .ag (lentAg rfl), .ag (lentAg rfl), .c (.b (.imm _ rfl)), trivial⟩) (.c (.ptN 0 60 8 0 0 rfl)) (trivial) (ct_new 1 2 (h := trivial)) (cm) ?_; refine qr5 (aM tyOk) ?_; refine kI ?_; refine aB ⟨by kernel_rfl, ?_⟩))
 refine AWp.weak (S' :=
  mkSt 88 [(4, .c (wpC p)), (5, .c (.pt 5 3 0 0)), (6, .c (.pt 6 3 0 0)), (7, .c (.pt 7 4 0 0)), (8, .c (.pt 8 4 0 0)), (13, .c (iC m)), (14, .c (.ow 30)), (37, .c (.ls L.length 2 (rowF mvC mvZ L))), (38, .c (iC L.length)), (39, .c (iC (k : Nat))) , (15, .c (iC (k : Nat))), (17, .c (.pt 17 10 0 0)), (18, .c (.pt 18 10 0 0)), (19, .c (.pt 19 1 0 0))] [(5, ⟨false, 1, 3, 31, lF (bpC a)⟩), (6, ⟨false, 1, 3, 31, lF (bpC b)⟩), (7, ⟨false, 1, 4, 33, lF (bgC x)⟩), (8, ⟨false, 1, 4, 33, lF (bgC y)⟩), (30, wpB (shrK k)) , (17, ⟨false, 1, 10, 97, lF (sdC s)⟩), (18, ⟨false, 1, 10, 97, lF (sdC t)⟩), (19, cxB 60), (60, ctB 61 62 w.1.length w.2.length s.mo t.mo m n), (61, cwB n (colC s w.1)), (62, cwB n (colC t w.2))] [5, 6, 7, 8, 30 , 17, 18, 19, 60, 61, 62]
  ) (Wk.mk [(5, some 5), (6, some 6), (7, some 7), (8, some 8), (17, some 17), (18, some 18), (19, some 19), (30, some 30), (60, some 60), (61, some 61), (62, some 62)] rfl rfl rfl ?_ ?_) ?_
 ·exact allT
 ·exact ⟨hSm, hSm, hSm, hSm, hrF wtC_imm, hSm, hSm, HeapOk.box rfl rfl ⟨LeC.pt _ _ _ _ _ rfl, trivial⟩ rfl, HeapOk.box rfl rfl ⟨LeC.ow _ _ rfl, LeC.ow _ _ rfl, LeC.int rfl, LeC.int rfl, LeC.int rfl, LeC.int rfl, LeC.int rfl, LeC.int rfl, trivial⟩ rfl, HeapOk.row rfl rfl rfl (fun i _ => cell1 ⟨rfl, rfl⟩), HeapOk.row rfl rfl rfl (fun i _ => cell1 ⟨rfl, rfl⟩), trivial⟩
 repeat (first
  | refine uA ?_
  | (refine rG 11 ?_
     refine qr5 AList.makeFn ?_
     refine kC ?_
     refine aB ?_)
  | (refine AWp.draw (id := 12) mixed ?_; (iterate 3 refine kA ?_); refine qr8eo2 (aP (k := k) tyOk) ?_; refine qr7 (AList.fieldPl tyOk) ?_; refine AList.load1lE tyOk (q1) rfl rfl rfl rfl rfl oM ?_; refine kF ?_; refine qr4 AList.makeFs ?_; refine AList.callM [19, 60, 61, 62] [] [] (lsH s t m n w) [] (lsH s t m n (A', w.2)) [] [cxB 60, ctB 61 62 A'.length w.2.length s.mo t.mo m n, cwB n (colC s A'), cwB n (colC t w.2)] [] rfl rfl (FnV.fn 1 (fun i => [CV.pt 19 1 0 0].getD i .any) rfl rfl) rfl Try.func51 rfl (by kernel_rfl) (lend_bx rfl (.b (.pt 60 1 8 0 0 rfl)) (ct_lend 2 3 hn0 (h := trivial))) (trivial) rfl (by exact ⟨.c (.b (.imm _ rfl)), .c (.b (.imm _ rfl)), .c (.b (.imm _ rfl)), .c (.b (.pt 19 0 1 0 0 rfl)), trivial⟩) (.c (.imm _ rfl)) (back_bx (.b (.pt 1 60 8 0 0 rfl)) (ct_back 2 3 (h := trivial))) (trivial) (lA) ?_; refine qr8 (aX tyOk) ?_; refine qr5 (aM tyOk) ?_; refine kI ?_; refine aB ⟨by kernel_rfl, ?_⟩))
 repeat (first
  | refine uB ?_
  | (refine AWp.draw (id := 13) mixed ?_; (iterate 3 refine kA ?_); refine qr8eo2 (aP (k := k) tyOk) ?_; refine qr7 (AList.fieldPl tyOk) ?_; refine AList.load1lE tyOk (q2) rfl rfl rfl rfl rfl oM ?_; refine kF ?_; refine qr4 AList.makeFs ?_; refine AList.callM [19, 60, 61, 62] [] [] (lsH s t m n (A', w.2)) [] (lsH s t m n (A', B')) [] [cxB 60, ctB 61 62 A'.length B'.length s.mo t.mo m n, cwB n (colC s A'), cwB n (colC t B')] [] rfl rfl (FnV.fn 1 (fun i => [CV.pt 19 1 0 0].getD i .any) rfl rfl) rfl Try.func51 rfl (by kernel_rfl) (lend_bx rfl (.b (.pt 60 1 8 0 0 rfl)) (ct_lend 2 3 hn0 (h := trivial))) (trivial) rfl (by exact ⟨.c (.b (.imm _ rfl)), .c (.b (.imm _ rfl)), .c (.b (.imm _ rfl)), .c (.b (.pt 19 0 1 0 0 rfl)), trivial⟩) (.c (.imm _ rfl)) (back_bx (.b (.pt 1 60 8 0 0 rfl)) (ct_back 2 3 (h := trivial))) (trivial) (lB) ?_; refine kD ?_; refine kI ?_; refine aB ⟨by kernel_rfl, ?_⟩))
 repeat (first
  | refine uB ?_
  | refine uD ?_
  | (refine rG 14 ?_
     refine kA ?_
     refine kF ?_
     refine qr11 (AList.litSl tyOk) ?_
     refine AList.appL tyOk rfl rfl rfl rfl rfl rfl rfl rfl rfl rfl oM oM ?_
     refine kC ?_
     refine aB ?_)
  | (refine rG 15 ?_
     refine qr4w2 aL ?_
     refine kA ?_
     refine aB ?_))
 refine ⟨k + 1, hkl, Wk.mk [(5, some 5), (6, some 6), (7, some 7), (8, some 8), (30, some 85)] rfl rfl rfl ?_ ?_, by omega⟩
 ·exact allT
 ·refine ⟨hSm, hSm, hSm, hSm, HeapOk.row rfl rfl hlen ?_, trivial⟩
  rw [hSk]
  exact row_snoc (c := wtC) (z := wtZ) (shrK k) (A', B') wtC_imm rfl
theorem wp_new {ids ni : List Nat} {s : List Wt} : BackB ids ni [wpB s] [wpB s] := ⟨⟨_, rfl, fun k _ j _ => .imm _ (rowF_imm wtC_imm _ k j)⟩, trivial⟩
theorem wp_back {ids ni : List Nat} {s : List Wt} : BackBM ids ni [wpB s] [wpB s] := ⟨⟨_, rfl, fun k _ j _ => .b (.imm _ (rowF_imm wtC_imm _ k j))⟩, trivial⟩
theorem wp_lend {S : St} {ids mids : List Nat} {p : Nat} {s : List Wt} (hp : S.h p = some (wpB s)) (h0 : 0 < s.length) : LendOkM S ids mids [p] [wpB s] := ⟨⟨_, hp, fun _ => h0, fun k _ j _ => .b (.imm _ (rowF_imm wtC_imm _ k j))⟩, trivial⟩
theorem wp_read {S : St} {rd : List Nat} {id : Nat} {s : List Wt} (hid : id ∈ rd) (hh : S.h id = some (wpB s)) : FzV S rd (.c (.ow id)) (.c (wpC s)) := .inr ⟨id, s.length, 2, _, _, rowF wtC wtZ s, rfl, rfl, hid, hh, fun i _ j _ => ⟨rfl, rowF_imm wtC_imm _ i j⟩⟩
theorem fz_p {S : St} {rd : List Nat} {x : V1} (h : immV x = true) : FzV S rd x x := .inl ⟨rfl, h⟩
theorem set_self {s : List Wt} {k : Nat} (hk : k < s.length) : s.set k (s.getD k wtZ) = s := by
 rw [List.getD_eq_getElem?_getD, List.getElem?_eq_getElem hk]
 exact List.set_getElem_self hk
theorem setL2 (F : Nat → Nat → CV) (m : Nat) (x y : CV) (i j : Nat) (hj : j < 2) : setF F m 0 2 [x, y] i j = if i = m then (if j = 0 then x else y) else F i j := by
 unfold setF
 by_cases h1 : i = m
 ·subst h1
  rw [Nat.beq_refl, if_pos rfl]
  match j, hj with
  | 0, _ => rfl
  | 1, _ => rfl
 ·rw [if_neg h1, show Nat.beq i m = false from Bool.eq_false_iff.2 fun e => h1 (Nat.eq_of_beq_eq_true e)]
  rfl
theorem rowL_set {p : List Wt} {m : Nat} (w : Wt) (i j : Nat) (hm : m < p.length) : rowF wtC wtZ (p.set m w) i j = if i = m then (wtC w).getD j .any else rowF wtC wtZ p i j := by
 unfold rowF
 by_cases h : i = m
 ·subst h
  rw [if_pos rfl, List.getD_eq_getElem?_getD (l := p.set i w), List.getElem?_set_self hm]
  rfl
 ·rw [if_neg h, List.getD_eq_getElem?_getD (l := p.set m w), List.getElem?_set_ne (Ne.symm h), ← List.getD_eq_getElem?_getD]
set_option maxHeartbeats 8000000 in
set_option maxRecDepth 100000 in
theorem ProofLeast_A (c : Ca5) (hc : c.ok) (which index : Int) : ACalls Try.prog 6 [.ag (ca5C c), .c (iC which), .c (iC index)] (.c (bC true)) := by
 have hsan := sanity25_A
 have hmade := made25_A c hc
 have hcm := pc_cmp c
 have hM := pMake_A (pcA c) (pcB c) (pcX c) (pcY c)
 refine acalls_at Try.func6 rfl rfl Try.ntmps6 rfl ?_
 generalize pcA c = a at *
 generalize pcB c = b at *
 generalize pcX c = x at *
 generalize pcY c = y at *
 cases hcf : (cnfV a b x y).2 with
 | true =>
   rw [mk_cnf hcm hcf] at hM
   repeat (first
    | refine uA ?_
    | refine uB ?_
    | refine AWp.ret ?_
    | refine thenA_r ?_
    | refine kT ?_
    | (refine rG 0 ?_
       refine qr5 aQ ?_
       refine kC ?_
       refine aB ?_)
    | (refine rG 1 ?_
       refine aH rfl rfl rfl rfl Try.func9 rfl (by kernel_rfl) (hsan) ?_
       refine kC ?_
       refine aB ?_)
    | (refine rG 2 ?_
       refine kF ?_
       refine aH rfl rfl rfl rfl Try.func10 rfl (by kernel_rfl) (hmade) ?_
       refine kA ?_
       (iterate 4 refine qr4 aN ?_)
       (iterate 4 refine qr5 (aM tyOk) ?_)
       (iterate 4 refine kI ?_)
       refine aB ?_)
    | (refine rG 3 ?_
       (iterate 4 refine kF ?_)
       refine aH rfl rfl rfl rfl Try.func20 rfl (by kernel_rfl) (hM) ?_
       refine kA ?_
       (iterate 2 refine qr4 aN ?_)
       (iterate 2 refine kC ?_)
       refine aB ?_)
    | (refine rG 4 ?_
       refine kA ?_
       refine qr5t aK ?_
       refine aB ?_)
    | (refine rG 5 ?_
       refine kA ?_
       refine kC ?_
       refine aB ?_))
   refine ⟨mkSt 273 [(6, .c (bC true))] [] [], [], Wk.mk [] rfl rfl rfl ?_ trivial, rfl, rfl, aR1⟩
   exact allT
 | false =>
   obtain ⟨e1, e2⟩ := chk_mk hcm hcf
   obtain ⟨-, e4, e5⟩ := shk_spec e2
   have hag := shk_again e2
   have hmR := mkL25_R x y hcm
   have hwt := fun k hk => shr_wt e2 (k := k) hk
   rw [e1] at hM
   have hSM := pShrink_M a b x y _ hmR.ok e2
   have hSL := pShrink_L a b x y _ e5.ok e4
   have e6 : shrP a b x y (shL (shN x y)) (shrP a b x y (shL (shN x y)) (mkL25 a b x y (shL (shN x y)))) = shrP a b x y (shL (shN x y)) (mkL25 a b x y (shL (shN x y))) := by
    have := congrArg Prod.fst hag
    rw [(shk_spec e4).1] at this
    exact this
   rw [e6] at hSL
   have hsl : (shrP a b x y (shL (shN x y)) (mkL25 a b x y (shL (shN x y)))).length = (shL (shN x y)).length := shrP_len ..
   have hpl : (mkL25 a b x y (shL (shN x y))).length = (shL (shN x y)).length := List.length_map ..
   have hL0 := shL_pos x y
   have h81 := shL_81 x y
   have hSh := aShifts_A x y
   have hsb := fun k hk => shN_bd (x := x) (y := y) (k := k) hk
   have hset := fun k w hk => chk_set (k := k) (w := w) e4 hk
   obtain ⟨-, -, hwok⟩ := chk_wt e4
   clear e1 hag e6 hcf
   generalize mkL25 a b x y (shL (shN x y)) = p at *
   generalize shrP a b x y (shL (shN x y)) p = s at *
   generalize shL (shN x y) = L at *
   have hSame := Same25_A s s e5 e5
   rw [decide_eq_true rfl] at hSame
   have hs0 : 0 < s.length := by omega
   obtain ⟨ha, hb, hW, hH⟩ := hcm
   have hn1 := n_bd ha
   have hn2 := n_bd hb
   repeat (first
    | refine uA ?_
    | refine uB ?_
    | refine uG ?_
    | refine kU ?_
    | (refine rG 0 ?_
       refine qr5 aQ ?_
       refine kC ?_
       refine aB ?_)
    | (refine rG 1 ?_
       refine aH rfl rfl rfl rfl Try.func9 rfl (by kernel_rfl) (hsan) ?_
       refine kC ?_
       refine aB ?_)
    | (refine rG 2 ?_
       refine kF ?_
       refine aH rfl rfl rfl rfl Try.func10 rfl (by kernel_rfl) (hmade) ?_
       refine kA ?_
       (iterate 4 refine qr4 aN ?_)
       (iterate 4 refine qr5 (aM tyOk) ?_)
       (iterate 4 refine kI ?_)
       refine aB ?_)
    | (refine rG 3 ?_
       (iterate 4 refine kF ?_)
       refine aH rfl rfl rfl rfl Try.func20 rfl (by kernel_rfl) (hM) ?_
       refine kA ?_
       (iterate 2 refine qr4 aN ?_)
       (iterate 2 refine kC ?_)
       refine aB ?_)
    | (refine rG 4 ?_
       refine kA ?_
       refine qr5 aW ?_
       refine aB ?_)
    | (refine rG 6 ?_
       (iterate 4 refine kF ?_)
       refine kA ?_
       refine AList.callM [] [] [301] [] [] [] [wpB s] [] [wpB s] rfl rfl FnV.func rfl Try.func16 rfl (by kernel_rfl) (trivial) (trivial) rfl (by exact ⟨.ag (lentAg rfl), .ag (lentAg rfl), .ag (lentAg rfl), .ag (lentAg rfl), .c (.b (.imm _ rfl)), trivial⟩) (.tu (l := [.c (.ow 900), .c (iC 0)]) (m := [.c (.ow 301), .c (iC 0)]) ⟨.c (.owN 0 301 rfl), .c (.imm _ rfl), trivial⟩) (trivial) (wp_new) (hSM) ?_
       refine kA ?_
       (iterate 2 refine qr4 aN ?_)
       (iterate 2 refine kC ?_)
       refine aB ?_)
    | (refine rG 7 ?_
       (iterate 4 refine kF ?_)
       refine kA ?_
       refine AList.callM [301] [] [302] [wpB s] [] [wpB s] [wpB s] [wpB s] [wpB s] rfl rfl FnV.func rfl Try.func16 rfl (by kernel_rfl) (wp_lend rfl hs0) (trivial) rfl (by exact ⟨.ag (lentAg rfl), .ag (lentAg rfl), .ag (lentAg rfl), .ag (lentAg rfl), .c (.b (.ow 301 0 rfl)), trivial⟩) (.tu (l := [.c (.ow 900), .c (iC 0)]) (m := [.c (.ow 302), .c (iC 0)]) ⟨.c (.owN 0 302 rfl), .c (.imm _ rfl), trivial⟩) (wp_back) (wp_new) (hSL) ?_
       refine kA ?_
       (iterate 2 refine qr4 aN ?_)
       (iterate 2 refine kC ?_)
       refine aB ?_)
    | (refine rG 8 ?_
       (iterate 2 refine kF ?_)
       refine aH rfl rfl rfl rfl Try.func22 rfl (by kernel_rfl) (hSh) ?_
       refine kC ?_
       refine aB ?_))
   have hz1 : (s.length : Int) = p.length := by omega
   have hz2 : (s.length : Int) = L.length := by omega
   have hz3 : ¬ (s.length : Int) = 0 := by omega
   repeat (first
    | refine uA ?_
    | refine uB ?_
    | refine uC ?_
    | refine uG ?_
    | refine kU ?_
    | (refine rG 9 ?_
       refine kA ?_
       refine qr5 aW ?_
       (iterate 2 refine kA ?_)
       refine qr5 aW ?_
       refine qr4 aR ?_
       (iterate 3 refine kA ?_)
       refine AList.callP [301, 302] rfl rfl rfl Try.func18 rfl (by kernel_rfl) (hSame) (⟨wp_read (by simp) rfl, wp_read (by simp) rfl, trivial⟩) ?_
       refine qr3 AList.notB ?_
       refine qr4 aR ?_
       (iterate 2 refine kA ?_)
       refine qr7 (AList.lenOw tyOk) ?_
       refine kA ?_
       refine qr5 (aO tyOk) ?_
       refine qr5f aJ ?_
       refine qr4 aR ?_
       (iterate 2 refine kA ?_)
       refine qr7 (AList.lenOw tyOk) ?_
       refine kA ?_
       refine qr5 (aO tyOk) ?_
       refine qr5f aJ ?_
       refine qr4 aR ?_
       (iterate 2 refine kA ?_)
       refine qr7 (AList.lenOw tyOk) ?_
       refine qr5f aJ ?_
       refine qr4 aR ?_
       refine aB ?_)
    | (refine rG 11 ?_
       refine kA ?_
       refine qr7 (AList.lenOw tyOk) ?_
       refine kA ?_
       refine aB ?_))
   refine AWp.round (fun k : Nat =>
    mkSt 273 [
     (2, .c (iC index)), (7, .c (bC true)), (8, .c (.pt 8 3 0 0)), (9, .c (.pt 9 3 0 0)), (10, .c (.pt 10 4 0 0)), (11, .c (.pt 11 4 0 0)), (14, .c (.ow 301)), (18, .c (.ls L.length 2 (rowF mvC mvZ L)))
     , (1, .c (iC which)), (12, .c (wpC p)), (98, .c (iC s.length)), (99, .c (iC (k : Nat)))] [
     (8, ⟨false, 1, 3, 31, lF (bpC a)⟩), (9, ⟨false, 1, 3, 31, lF (bpC b)⟩), (10, ⟨false, 1, 4, 33, lF (bgC x)⟩), (11, ⟨false, 1, 4, 33, lF (bgC y)⟩)
     , (301, wpB s)] [8, 9, 10, 11, 301]
    ) (fun k => k ≤ s.length) (fun k => s.length - k) 0 (Nat.zero_le _) ?_ (fun k hk => ?_)
   ·refine Wk.mk [(8, some 8), (9, some 9), (10, some 10), (11, some 11), (301, some 301)] rfl rfl rfl ?_ ?_
    ·exact allT
    ·exact ⟨
     hSm, hSm, hSm, hSm
     , hrF wtC_imm, trivial⟩
   by_cases hks : k < s.length
   ·have hks' : (k : Int) < s.length := by omega
    have hkp' : (k : Int) < p.length := by omega
    obtain ⟨s1, s2, -⟩ := hwt k (by omega)
    obtain ⟨l1, l2⟩ := e5.2 k hks
    obtain ⟨m1, m2⟩ := hmR.2 k (by omega)
    have c1 := part25_A _ _ s1 l1.1 m1.1
    have c2 := part25_A _ _ s2 l2.1 m2.1
    have q1 : rowF wtC wtZ s k 0 = liV (s.getD k wtZ).1 := rfl
    have q2 : rowF wtC wtZ s k 1 = liV (s.getD k wtZ).2 := rfl
    have q3 : rowF wtC wtZ p k 0 = liV (p.getD k wtZ).1 := rfl
    have q4 : rowF wtC wtZ p k 1 = liV (p.getD k wtZ).2 := rfl
    repeat (first
     | refine uA ?_
     | refine uB ?_
     | refine uC ?_
     | refine uG ?_
     | refine uD ?_
     | refine kT ?_
     | refine kU ?_
     | (refine rG 12 ?_
        refine qr5t aK ?_
        refine aB ?_)
     | (refine rG 13 ?_
        refine kA ?_
        refine kC ?_
        refine aB ?_)
     | (refine AWp.draw (id := 14) mixed ?_; (iterate 2 refine kA ?_); refine qr10eo (AList.idxOw (k := k) tyOk) ?_; refine kD ?_; refine AList.load1F tyOk rfl rfl rfl rfl rfl rfl rfl oM oM (q1) ?_; (iterate 2 refine kA ?_); refine qr8eo2 (aP (k := k) tyOk) ?_; refine qr7 (AList.fieldPl tyOk) ?_; refine AList.load1lE tyOk (q3) rfl rfl rfl rfl rfl oM ?_; refine aH rfl rfl rfl rfl Try.func24 rfl (by kernel_rfl) (c1) ?_; refine qr3 AList.notB ?_; (iterate 3 refine kA ?_); refine qr10eo (AList.idxOw (k := k) tyOk) ?_; refine kD ?_; refine AList.load1F tyOk rfl rfl rfl rfl rfl rfl rfl oM oM (q2) ?_; (iterate 2 refine kA ?_); refine qr8eo2 (aP (k := k) tyOk) ?_; refine qr7 (AList.fieldPl tyOk) ?_; refine AList.load1lE tyOk (q4) rfl rfl rfl rfl rfl oM ?_; refine aH rfl rfl rfl rfl Try.func24 rfl (by kernel_rfl) (c2) ?_; refine qr3 AList.notB ?_; refine qr4 aR ?_; refine aB ⟨by kernel_rfl, ?_⟩)
     | (refine rG 16 ?_
        refine qr4w2 aL ?_
        refine kA ?_
        refine aB ?_))
    refine ⟨k + 1, hks, Wk.mk [(8, some 8), (9, some 9), (10, some 10), (11, some 11), (301, some 301)] rfl rfl rfl ?_ ?_, by omega⟩
    ·exact allT
    ·exact ⟨
     hSm, hSm, hSm, hSm
     , hrF wtC_imm, trivial⟩
   obtain rfl : k = s.length := by omega
   clear hk hks
   have hk0 := Int.emod_nonneg which (show (s.length : Int) ≠ 0 by omega)
   have hk1 := Int.emod_lt_of_pos which (show (0 : Int) < s.length by omega)
   have hMk := Mod_A which s.length (by omega) (by omega)
   obtain ⟨k, hkk⟩ := Int.eq_ofNat_of_zero_le hk0
   rw [hkk] at hk1 hMk
   clear hk0 hkk
   have hks : k < s.length := by omega
   have ew : cellsFrom (rowF wtC wtZ s k) 0 2 = wtC (s.getD k wtZ) := rfl
   repeat (first
    | refine uA ?_
    | refine uH ?_
    | refine kU ?_
    | (refine rG 12 ?_
       refine qr5f aJ ?_
       refine aB ?_)
    | (refine rG 17 ?_
       (iterate 2 refine kA ?_)
       refine qr7 (AList.lenOw tyOk) ?_
       refine aH rfl rfl rfl rfl Try.func25 rfl (by kernel_rfl) (hMk) ?_
       refine kC ?_
       refine aB ?_)
    | (refine rG 18 ?_
       (iterate 2 refine kA ?_)
       refine qr10eo (AList.idxOw (k := k) tyOk) ?_
       refine AList.loadAF tyOk rfl rfl rfl rfl rfl rfl rfl oM (by first | omega | (dsimp only; omega) | exact of_decide_eq_true rfl | (simp; done) | (simp; omega) | (show _ + _ * 3 + 3 ≤ 12; omega)) (ew) ?_
       refine qr5 (aM tyOk) ?_
       refine kI ?_
       refine aB ?_))
   obtain ⟨-, -, s3, s4⟩ := hwt k (by omega)
   have hwk := hwok k (by omega)
   obtain ⟨⟨l1, -⟩, l2, -⟩ := e5.2 k hks
   have hself := set_self hks
   have hsetk := fun v => hset k v hks
   have hkL : k < L.length := by omega
   have hd := hsb k hkL
   have ed : cellsFrom (rowF mvC mvZ L k) 0 2 = mvC (L.getD k mvZ) := rfl
   have ed0 : rowF mvC mvZ L k 0 = iC (L.getD k mvZ).1 := rfl
   have ed1 : rowF mvC mvZ L k 1 = iC (L.getD k mvZ).2 := rfl
   generalize L.getD k mvZ = d at *
   generalize s.getD k wtZ = w at *
   have hrow : ∀ (v : Wt) (u : CV) (l : List Int) (z : CV) (h : Nat → Option AB) (ren : List (Nat × Option Nat)) (r : Wt), LeC h ren u (liV r.1) → LeC h ren z (liV r.2) → ∀ i, i < (s.set k v).length → ∀ j, j < 2 → LeC h ren (setF (rowF wtC wtZ (s.set k v)) k 0 2 [u, z] i j) (rowF wtC wtZ (s.set k r) i j) := fun v u l z h ren r h1 h2 i hi j hj => by
    rw [rowL_set _ i j hks, setL2 _ _ _ _ _ _ hj, rowL_set _ i j hks]
    by_cases him : i = k
    ·rw [if_pos him, if_pos him]
     match j, hj with
     | 0, _ => exact h1
     | 1, _ => exact h2
    ·rw [if_neg him, if_neg him, if_neg him]
     exact LeC.refl _ (rowF_imm wtC_imm _ i j)
   have hlen : ∀ v u, (s.set k u).length = (s.set k v).length := fun v u => by rw [List.length_set, List.length_set]
   have hPrOk : ∀ v : Wt, v.1.length ≤ 1000000 → v.2.length ≤ 1000000 → PrOk (s.set k v) := fun v h1 h2 => ⟨by rw [List.length_set]; omega, fun i hi => by
    by_cases hik : i = k
    ·subst hik
     rw [set_get hks]
     exact ⟨h1, h2⟩
    ·rw [set_oth hik]
     rw [List.length_set] at hi
     obtain ⟨⟨g1, -⟩, g2, -⟩ := e5.2 i hi
     exact ⟨g1, g2⟩⟩
   have her : ∀ (l : List Int) (i : Nat), i < l.length → ∀ k, k < (i - 0) + (l.length - (i + 1)) → ∀ j, j < 1 → appF (fun i j => iF (fun j => l.getD j 0) (0 + i) j) (i - 0) (fun q j => iF (fun j => l.getD j 0) (i + 1 + q) j) k j = iF (fun q => (l.eraseIdx i).getD q 0) k j ∧ immC (appF (fun i j => iF (fun j => l.getD j 0) (0 + i) j) (i - 0) (fun q j => iF (fun j => l.getD j 0) (i + 1 + q) j) k j) = true := fun l i hi k _ j hj => by
    obtain rfl : j = 0 := Nat.lt_one_iff.mp hj
    have := erase_get hi (i := k)
    exact ⟨this, by rw [this]; rfl⟩
   have hel : ∀ (l : List Int) (i : Nat), i < l.length → (l.eraseIdx i).length = (i - 0) + (l.length - (i + 1)) := fun l i hi => by rw [List.length_eraseIdx, if_pos hi]; omega
   refine AWp.weak (S' :=
    mkSt 273 [
     (2, .c (iC index)), (7, .c (bC true)), (8, .c (.pt 8 3 0 0)), (9, .c (.pt 9 3 0 0)), (10, .c (.pt 10 4 0 0)), (11, .c (.pt 11 4 0 0)), (14, .c (.ow 301)), (18, .c (.ls L.length 2 (rowF mvC mvZ L)))
     , (20, .c (iC k)), (21, .c (.pt 21 2 0 0)) ] [
     (8, ⟨false, 1, 3, 31, lF (bpC a)⟩), (9, ⟨false, 1, 3, 31, lF (bpC b)⟩), (10, ⟨false, 1, 4, 33, lF (bgC x)⟩), (11, ⟨false, 1, 4, 33, lF (bgC y)⟩)
     , (21, ⟨false, 1, 2, 62, lF (wtC w)⟩), (301, wpB (s.set k (w)))] [8, 9, 10, 11, 21, 301]
    ) (Wk.mk [(8, some 8), (9, some 9), (10, some 10), (11, some 11), (21, some 21), (301, some 301)] rfl rfl rfl ?_ ?_) ?_
   ·exact allT
   ·rw [hself]
    exact ⟨
    hSm, hSm, hSm, hSm
    , hSm, hrF wtC_imm, trivial⟩
   repeat (first
    | refine uB ?_
    | refine uC ?_
    | (refine rG 19 ?_
       refine kD ?_
       refine kE ?_
       refine qr5 (aO tyOk) ?_
       refine kA ?_
       refine aB ?_))
   refine AWp.round (fun i : Nat × Wt =>
    mkSt 273 [
     (2, .c (iC index)), (7, .c (bC true)), (8, .c (.pt 8 3 0 0)), (9, .c (.pt 9 3 0 0)), (10, .c (.pt 10 4 0 0)), (11, .c (.pt 11 4 0 0)), (14, .c (.ow 301)), (18, .c (.ls L.length 2 (rowF mvC mvZ L)))
     , (20, .c (iC k)), (21, .c (.pt 21 2 0 0)) , (139, .c (iC w.1.length)), (140, .c (iC (i.1 : Nat)))] [
     (8, ⟨false, 1, 3, 31, lF (bpC a)⟩), (9, ⟨false, 1, 3, 31, lF (bpC b)⟩), (10, ⟨false, 1, 4, 33, lF (bgC x)⟩), (11, ⟨false, 1, 4, 33, lF (bgC y)⟩)
     , (21, ⟨false, 1, 2, 62, lF (wtC w)⟩), (301, wpB (s.set k (i.2)))] [8, 9, 10, 11, 21, 301]
    ) (fun i => i.1 ≤ w.1.length) (fun i => w.1.length - i.1) (0, w) (Nat.zero_le _) ?_ (fun ⟨i, v⟩ hi => ?_)
   ·refine Wk.mk [(8, some 8), (9, some 9), (10, some 10), (11, some 11), (21, some 21), (301, some 301)] rfl rfl rfl ?_ ?_
    ·exact allT
    ·exact ⟨
     hSm, hSm, hSm, hSm
     , hSm, hrF wtC_imm, trivial⟩
   dsimp only at hi ⊢
   by_cases hil : i < w.1.length
   ·have hil' : (i : Int) < w.1.length := by omega
    have hkv : k < (s.set k v).length := by rw [List.length_set]; exact hks
    have hck := pCheck_A a b x y (s.set k (w.1.eraseIdx i, w.2)) (hPrOk _ (by have := hel w.1 i hil; dsimp only; omega) l2)
    rw [hsetk, if_neg (by unfold wtOk; rw [s3 i hil, Bool.and_false, Bool.and_false]; decide)] at hck
    repeat (first
     | refine uA ?_
     | refine uC ?_
     | refine uG ?_
     | refine kT ?_
     | (refine rG 20 ?_
        refine qr5t aK ?_
        refine aB ?_)
     | (refine rG 21 ?_
        refine kA ?_
        refine kC ?_
        refine aB ?_)
     | (refine AWp.draw (id := 22) mixed ?_; (iterate 2 refine kA ?_); refine qr7 (AList.emptySl tyOk) ?_; refine kD ?_; refine kE ?_; refine kA ?_; refine AList.cut (l := 0) (h := i) tyOk rfl rfl rfl rfl rfl rfl rfl rfl ⟨_, _, rfl, by first | rfl | omega⟩ (by omega) (by omega) ?_; refine AList.appL0 tyOk rfl rfl rfl rfl rfl rfl rfl rfl rfl rfl oM oM ?_; refine kD ?_; refine kE ?_; refine kA ?_; refine qr4w2 aL ?_; refine AList.cut (l := i + 1) (h := w.1.length) tyOk rfl rfl rfl rfl rfl rfl rfl ⟨_, _, rfl, by first | rfl | omega⟩ rfl (by omega) (by omega) ?_; refine AList.appL tyOk rfl rfl rfl rfl rfl rfl rfl rfl rfl rfl oM oM ?_; refine kD ?_; refine kE ?_; refine qr8 (aX tyOk) ?_; refine qr10eo (AList.idxOw (k := k) tyOk) ?_; refine kI ?_; refine aB ⟨by kernel_rfl, ?_⟩))
    refine AWp.weak (S' :=
     mkSt 273 [
      (2, .c (iC index)), (7, .c (bC true)), (8, .c (.pt 8 3 0 0)), (9, .c (.pt 9 3 0 0)), (10, .c (.pt 10 4 0 0)), (11, .c (.pt 11 4 0 0)), (14, .c (.ow 301)), (18, .c (.ls L.length 2 (rowF mvC mvZ L)))
      , (20, .c (iC k)), (21, .c (.pt 21 2 0 0)) , (139, .c (iC w.1.length)), (140, .c (iC (i : Nat)))] [
      (8, ⟨false, 1, 3, 31, lF (bpC a)⟩), (9, ⟨false, 1, 3, 31, lF (bpC b)⟩), (10, ⟨false, 1, 4, 33, lF (bgC x)⟩), (11, ⟨false, 1, 4, 33, lF (bgC y)⟩)
      , (21, ⟨false, 1, 2, 62, lF (wtC w)⟩), (301, wpB (s.set k ((w.1.eraseIdx i, w.2))))] [8, 9, 10, 11, 21, 301]
     ) (Wk.mk [(8, some 8), (9, some 9), (10, some 10), (11, some 11), (21, some 21), (301, some 301)] rfl rfl rfl ?_ ?_) ?_
    ·exact allT
    ·exact ⟨
     hSm, hSm, hSm, hSm
     , hSm, .inr ⟨301, (s.set k v).length, _, .inl rfl, hlen _ _, rfl, hrow v _ [] _ _ _ _ (LeC.fz rfl rfl (hel w.1 i hil) (her w.1 i hil)) (LeC.refl _ rfl)⟩, trivial⟩
    repeat (first
     | refine uB ?_
     | refine uG ?_
     | refine uD ?_
     | refine kU ?_
     | (refine rG 23 ?_
        (iterate 4 refine kF ?_)
        refine kA ?_
        refine AList.callP [301] rfl rfl rfl Try.func14 rfl (by kernel_rfl) (hck) (⟨fz_p rfl, fz_p rfl, fz_p rfl, fz_p rfl, wp_read (by simp) rfl, trivial⟩) ?_
        refine aJ rfl rfl rfl rfl rfl (by simp only [cmpP, eq_self, decide_true, Bool.not_true]) ?_
        refine aB ?_)
     | (refine rG 25 ?_
        refine qr4w2 aL ?_
        refine kA ?_
        refine aB ?_))
    refine ⟨(i + 1, (w.1.eraseIdx i, w.2)), hil, Wk.mk [(8, some 8), (9, some 9), (10, some 10), (11, some 11), (21, some 21), (301, some 301)] rfl rfl rfl ?_ ?_, by dsimp only; omega⟩
    ·exact allT
    ·exact ⟨
     hSm, hSm, hSm, hSm
     , hSm, hrF wtC_imm, trivial⟩
   have hil' : ¬ (i : Int) < w.1.length := by omega
   repeat (first
    | refine uA ?_
    | refine uB ?_
    | refine uC ?_
    | refine uH ?_
    | refine kU ?_
    | (refine rG 20 ?_
       refine qr5f aJ ?_
       refine aB ?_)
    | (refine rG 26 ?_
       refine kD ?_
       refine kE ?_
       refine qr5 (aO tyOk) ?_
       refine kA ?_
       refine aB ?_))
   refine AWp.round (fun i : Nat × Wt =>
    mkSt 273 [
     (2, .c (iC index)), (7, .c (bC true)), (8, .c (.pt 8 3 0 0)), (9, .c (.pt 9 3 0 0)), (10, .c (.pt 10 4 0 0)), (11, .c (.pt 11 4 0 0)), (14, .c (.ow 301)), (18, .c (.ls L.length 2 (rowF mvC mvZ L)))
     , (20, .c (iC k)), (21, .c (.pt 21 2 0 0)) , (171, .c (iC w.2.length)), (172, .c (iC (i.1 : Nat)))] [
     (8, ⟨false, 1, 3, 31, lF (bpC a)⟩), (9, ⟨false, 1, 3, 31, lF (bpC b)⟩), (10, ⟨false, 1, 4, 33, lF (bgC x)⟩), (11, ⟨false, 1, 4, 33, lF (bgC y)⟩)
     , (21, ⟨false, 1, 2, 62, lF (wtC w)⟩), (301, wpB (s.set k (i.2)))] [8, 9, 10, 11, 21, 301]
    ) (fun i => i.1 ≤ w.2.length) (fun i => w.2.length - i.1) (0, v) (Nat.zero_le _) ?_ (fun ⟨i, v⟩ hi => ?_)
   ·refine Wk.mk [(8, some 8), (9, some 9), (10, some 10), (11, some 11), (21, some 21), (301, some 301)] rfl rfl rfl ?_ ?_
    ·exact allT
    ·exact ⟨
     hSm, hSm, hSm, hSm
     , hSm, hrF wtC_imm, trivial⟩
   dsimp only at hi ⊢
   by_cases hil : i < w.2.length
   ·have hil' : (i : Int) < w.2.length := by omega
    have hkv : k < (s.set k v).length := by rw [List.length_set]; exact hks
    have hck := pCheck_A a b x y (s.set k (w.1, w.2.eraseIdx i)) (hPrOk _ l1 (by have := hel w.2 i hil; dsimp only; omega))
    rw [hsetk, if_neg (by unfold wtOk; rw [s4 i hil, Bool.and_false, Bool.and_false]; decide)] at hck
    repeat (first
     | refine uA ?_
     | refine uC ?_
     | refine uG ?_
     | refine kT ?_
     | (refine rG 27 ?_
        refine qr5t aK ?_
        refine aB ?_)
     | (refine rG 28 ?_
        refine kA ?_
        refine kC ?_
        refine aB ?_)
     | (refine AWp.draw (id := 29) mixed ?_; (iterate 2 refine kA ?_); refine kD ?_; refine kE ?_; refine qr7 (AList.emptySl tyOk) ?_; refine kD ?_; refine kE ?_; refine kA ?_; refine AList.cut (l := 0) (h := i) tyOk rfl rfl rfl rfl rfl rfl rfl rfl ⟨_, _, rfl, by first | rfl | omega⟩ (by omega) (by omega) ?_; refine AList.appL0 tyOk rfl rfl rfl rfl rfl rfl rfl rfl rfl rfl oM oM ?_; refine kD ?_; refine kE ?_; refine kA ?_; refine qr4w2 aL ?_; refine AList.cut (l := i + 1) (h := w.2.length) tyOk rfl rfl rfl rfl rfl rfl rfl ⟨_, _, rfl, by first | rfl | omega⟩ rfl (by omega) (by omega) ?_; refine AList.appL tyOk rfl rfl rfl rfl rfl rfl rfl rfl rfl rfl oM oM ?_; refine qr8 (aX tyOk) ?_; refine qr10eo (AList.idxOw (k := k) tyOk) ?_; refine kI ?_; refine aB ⟨by kernel_rfl, ?_⟩))
    refine AWp.weak (S' :=
     mkSt 273 [
      (2, .c (iC index)), (7, .c (bC true)), (8, .c (.pt 8 3 0 0)), (9, .c (.pt 9 3 0 0)), (10, .c (.pt 10 4 0 0)), (11, .c (.pt 11 4 0 0)), (14, .c (.ow 301)), (18, .c (.ls L.length 2 (rowF mvC mvZ L)))
      , (20, .c (iC k)), (21, .c (.pt 21 2 0 0)) , (171, .c (iC w.2.length)), (172, .c (iC (i : Nat)))] [
      (8, ⟨false, 1, 3, 31, lF (bpC a)⟩), (9, ⟨false, 1, 3, 31, lF (bpC b)⟩), (10, ⟨false, 1, 4, 33, lF (bgC x)⟩), (11, ⟨false, 1, 4, 33, lF (bgC y)⟩)
      , (21, ⟨false, 1, 2, 62, lF (wtC w)⟩), (301, wpB (s.set k ((w.1, w.2.eraseIdx i))))] [8, 9, 10, 11, 21, 301]
     ) (Wk.mk [(8, some 8), (9, some 9), (10, some 10), (11, some 11), (21, some 21), (301, some 301)] rfl rfl rfl ?_ ?_) ?_
    ·exact allT
    ·exact ⟨
     hSm, hSm, hSm, hSm
     , hSm, .inr ⟨301, (s.set k v).length, _, .inl rfl, hlen _ _, rfl, hrow v _ [] _ _ _ _ (LeC.refl _ rfl) (LeC.fz rfl rfl (hel w.2 i hil) (her w.2 i hil))⟩, trivial⟩
    repeat (first
     | refine uB ?_
     | refine uG ?_
     | refine uD ?_
     | refine kU ?_
     | (refine rG 30 ?_
        (iterate 4 refine kF ?_)
        refine kA ?_
        refine AList.callP [301] rfl rfl rfl Try.func14 rfl (by kernel_rfl) (hck) (⟨fz_p rfl, fz_p rfl, fz_p rfl, fz_p rfl, wp_read (by simp) rfl, trivial⟩) ?_
        refine aJ rfl rfl rfl rfl rfl (by simp only [cmpP, eq_self, decide_true, Bool.not_true]) ?_
        refine aB ?_)
     | (refine rG 32 ?_
        refine qr4w2 aL ?_
        refine kA ?_
        refine aB ?_))
    refine ⟨(i + 1, (w.1, w.2.eraseIdx i)), hil, Wk.mk [(8, some 8), (9, some 9), (10, some 10), (11, some 11), (21, some 21), (301, some 301)] rfl rfl rfl ?_ ?_, by dsimp only; omega⟩
    ·exact allT
    ·exact ⟨
     hSm, hSm, hSm, hSm
     , hSm, hrF wtC_imm, trivial⟩
   have hil' : ¬ (i : Int) < w.2.length := by omega
   have hq0 := Int.emod_nonneg index (show ((a.n : Int) + 2) ≠ 0 by omega)
   have hq1 := Int.emod_lt_of_pos index (show (0 : Int) < (a.n : Int) + 2 by omega)
   have hMi := Mod_A index ((a.n : Int) + 2) (by omega) (by omega)
   generalize index % ((a.n : Int) + 2) = at0 at *
   repeat (first
    | refine uA ?_
    | refine uH ?_
    | refine kU ?_
    | (refine rG 27 ?_
       refine qr5f aJ ?_
       refine aB ?_)
    | (refine rG 33 ?_
       refine kA ?_
       refine kD ?_
       refine kE ?_
       refine qr5 (aO tyOk) ?_
       refine qr4w2 aL ?_
       refine aH rfl rfl rfl rfl Try.func25 rfl (by kernel_rfl) (hMi) ?_
       refine qr4w2 AList.sub ?_
       refine kC ?_
       refine aB ?_))
   obtain ⟨at1, hat⟩ : ∃ at1, at0 - 1 = at1 := ⟨_, rfl⟩
   rw [hat]
   have hpw := put_wt hwk at1
   refine AWp.weak (S' :=
    mkSt 273 [
     (2, .c (iC index)), (7, .c (bC true)), (8, .c (.pt 8 3 0 0)), (9, .c (.pt 9 3 0 0)), (10, .c (.pt 10 4 0 0)), (11, .c (.pt 11 4 0 0)), (14, .c (.ow 301)), (18, .c (.ls L.length 2 (rowF mvC mvZ L)))
     , (20, .c (iC k)), (21, .c (.pt 21 2 0 0)) , (24, .c (iC at1))] [
     (8, ⟨false, 1, 3, 31, lF (bpC a)⟩), (9, ⟨false, 1, 3, 31, lF (bpC b)⟩), (10, ⟨false, 1, 4, 33, lF (bgC x)⟩), (11, ⟨false, 1, 4, 33, lF (bgC y)⟩)
     , (21, ⟨false, 1, 2, 62, lF (wtC w)⟩), (301, wpB (s.set k (v)))] [8, 9, 10, 11, 21, 301]
    ) (Wk.mk [(8, some 8), (9, some 9), (10, some 10), (11, some 11), (21, some 21), (301, some 301)] rfl rfl rfl ?_ ?_) ?_
   ·exact allT
   ·exact ⟨
    hSm, hSm, hSm, hSm
    , hSm, hrF wtC_imm, trivial⟩
   refine AWp.cut (
    mkSt 273 [
     (2, .c (iC index)), (7, .c (bC true)), (8, .c (.pt 8 3 0 0)), (9, .c (.pt 9 3 0 0)), (10, .c (.pt 10 4 0 0)), (11, .c (.pt 11 4 0 0)), (14, .c (.ow 301)), (18, .c (.ls L.length 2 (rowF mvC mvZ L)))
     , (20, .c (iC k)), (21, .c (.pt 21 2 0 0)) , (24, .c (iC at1)), (25, .c (bC (aloB (sd1 a b x y d) at1)))] [
     (8, ⟨false, 1, 3, 31, lF (bpC a)⟩), (9, ⟨false, 1, 3, 31, lF (bpC b)⟩), (10, ⟨false, 1, 4, 33, lF (bgC x)⟩), (11, ⟨false, 1, 4, 33, lF (bgC y)⟩)
     , (21, ⟨false, 1, 2, 62, lF (wtC w)⟩), (301, wpB (s.set k (v)))] [8, 9, 10, 11, 21, 301]
    ) ?_ (fun S2 hw2 => AWp.weak hw2 ?_)
   ·by_cases h0 : 0 ≤ at1
    ·obtain ⟨m, rfl⟩ := Int.eq_ofNat_of_zero_le h0
     by_cases h1 : m < a.n
     ·have h1' : (m : Int) < a.n := by omega
      obtain ⟨w1, w2, w3⟩ := side_div ha h1
      have hH96 : a.H ≤ 96 := (okB ha).2.2.2.1
      have hmx : max a.W 1 = a.W := by omega
      have w2' : 0 ≤ (m : Int) % max a.W 1 ∧ (m : Int) % max a.W 1 < a.W := by rw [hmx]; exact w2
      have w3' : 0 ≤ (m : Int) / max a.W 1 ∧ (m : Int) / max a.W 1 < a.H := by rw [hmx]; exact w3
      have hmp : 0 < max a.W 1 := by omega
      have hg := bGet_A b.W b.H b.n b.d ((m : Int) % max a.W 1 - d.1) ((m : Int) / max a.W 1 - d.2) hb
      have hdc : ∀ v, a.d m = v → bF a.d m 0 = bC v := fun v h => congrArg (fun b => CV.p (.bool b)) h
      have hal : aloB (sd1 a b x y d) m = (a.d m && !hasB b.W b.H b.d ((m : Int) % max a.W 1 - d.1) ((m : Int) / max a.W 1 - d.2)) := by
       rw [hmx]
       show (decide (0 ≤ (m : Int)) && (decide ((m : Int) < (a.n : Nat)) && (a.d ((m : Int)).toNat && !hasB b.W b.H b.d ((m : Int) % a.W - d.1) ((m : Int) / a.W - d.2)))) = _
       rw [decide_eq_true h0, decide_eq_true h1', Bool.true_and, Bool.true_and]
       rfl
      rw [hal]
      generalize hasB b.W b.H b.d ((m : Int) % max a.W 1 - d.1) ((m : Int) / max a.W 1 - d.2) = u at hg
      cases hd5 : a.d m with
      | false =>
        repeat (first
         | (refine AWp.draw (id := 34) mixed ?_; refine kA ?_; refine qr5t aK ?_; (iterate 2 refine kA ?_); refine kD ?_; refine kE ?_; refine qr5 (aO tyOk) ?_; refine qr5t aK ?_; refine qr4 aS ?_; refine kA ?_; refine kD ?_; refine kE ?_; refine kA ?_; refine qr8eo2 (aP (k := m) tyOk) ?_; refine AList.load1lE tyOk (hdc _ hd5) rfl rfl rfl rfl rfl oM ?_; refine qr4 aS ?_; refine kA ?_; (iterate 25 refine qr2 aG ?_); refine qr4 aR ?_; refine kC ?_; refine aB ⟨by kernel_rfl, ?_⟩))
        refine ⟨rfl, Wk.mk [(8, some 8), (9, some 9), (10, some 10), (11, some 11), (21, some 21), (301, some 301)] rfl rfl rfl ?_ ?_⟩
        ·exact allT
        ·exact ⟨
         hSm, hSm, hSm, hSm
         , hSm, hrF wtC_imm, trivial⟩
      | true =>
        repeat (first
         | (refine AWp.draw (id := 34) mixed ?_; refine kA ?_; refine qr5t aK ?_; (iterate 2 refine kA ?_); refine kD ?_; refine kE ?_; refine qr5 (aO tyOk) ?_; refine qr5t aK ?_; refine qr4 aS ?_; refine kA ?_; refine kD ?_; refine kE ?_; refine kA ?_; refine qr8eo2 (aP (k := m) tyOk) ?_; refine AList.load1lE tyOk (hdc _ hd5) rfl rfl rfl rfl rfl oM ?_; refine qr4 aS ?_; refine kA ?_; refine kF ?_; refine kA ?_; refine kD ?_; refine kE ?_; refine qr4 AList.maxI ?_; refine qr4w2 AList.rem ?_; (iterate 2 refine kA ?_); refine qr8eo2 (aP (k := k) tyOk) ?_; refine qr7 (AList.fieldPl tyOk) ?_; refine AList.load1lE tyOk (ed0) rfl rfl rfl rfl rfl oM ?_; refine qr4w2 AList.sub ?_; refine kA ?_; refine kD ?_; refine kE ?_; refine qr4 AList.maxI ?_; refine qr4w3 AList.quo ?_; (iterate 2 refine kA ?_); refine qr8eo2 (aP (k := k) tyOk) ?_; refine qr7 (AList.fieldPl tyOk) ?_; refine AList.load1lE tyOk (ed1) rfl rfl rfl rfl rfl oM ?_; refine qr4w2 AList.sub ?_; refine aH rfl rfl rfl rfl Try.func23 rfl (by kernel_rfl) (hg) ?_; refine qr3 AList.notB ?_; refine qr4 aS ?_; refine kC ?_; refine aB ⟨by kernel_rfl, ?_⟩))
        refine ⟨rfl, Wk.mk [(8, some 8), (9, some 9), (10, some 10), (11, some 11), (21, some 21), (301, some 301)] rfl rfl rfl ?_ ?_⟩
        ·exact allT
        ·exact ⟨
         hSm, hSm, hSm, hSm
         , hSm, hrF wtC_imm, trivial⟩
     ·have h1' : ¬ (m : Int) < a.n := by omega
      rw [show aloB (sd1 a b x y d) m = false by unfold aloB; rw [show (decide ((m : Int) < ((sd1 a b x y d).o.n : Nat))) = false from decide_eq_false h1', Bool.false_and, Bool.and_false]]
      have hg := bGet_A b.W b.H b.n b.d 0 0 hb
      repeat (first
       | (refine AWp.draw (id := 34) mixed ?_; refine kA ?_; refine qr5t aK ?_; (iterate 2 refine kA ?_); refine kD ?_; refine kE ?_; refine qr5 (aO tyOk) ?_; refine qr5f aJ ?_; refine qr4 aS ?_; refine kA ?_; (iterate 5 refine qr2 aG ?_); refine qr4 aR ?_; refine kA ?_; (iterate 25 refine qr2 aG ?_); refine qr4 aR ?_; refine kC ?_; refine aB ⟨by kernel_rfl, ?_⟩))
      refine ⟨rfl, Wk.mk [(8, some 8), (9, some 9), (10, some 10), (11, some 11), (21, some 21), (301, some 301)] rfl rfl rfl ?_ ?_⟩
      ·exact allT
      ·exact ⟨
       hSm, hSm, hSm, hSm
       , hSm, hrF wtC_imm, trivial⟩
    ·rw [show aloB (sd1 a b x y d) at1 = false by unfold aloB; rw [decide_eq_false h0, Bool.false_and]]
     have hg := bGet_A b.W b.H b.n b.d 0 0 hb
     repeat (first
      | (refine AWp.draw (id := 34) mixed ?_; refine kA ?_; refine qr5f aJ ?_; refine kA ?_; (iterate 5 refine qr2 aG ?_); refine qr4 aR ?_; refine kA ?_; (iterate 5 refine qr2 aG ?_); refine qr4 aR ?_; refine kA ?_; (iterate 25 refine qr2 aG ?_); refine qr4 aR ?_; refine kC ?_; refine aB ⟨by kernel_rfl, ?_⟩))
     refine ⟨rfl, Wk.mk [(8, some 8), (9, some 9), (10, some 10), (11, some 11), (21, some 21), (301, some 301)] rfl rfl rfl ?_ ?_⟩
     ·exact allT
     ·exact ⟨
      hSm, hSm, hSm, hSm
      , hSm, hrF wtC_imm, trivial⟩
   clear hw2 S2
   have hput := put_A w.1 at1 l1
   have hpl2 := putZ_len at1 w.1
   have hkv : k < (s.set k v).length := by rw [List.length_set]; exact hks
   have l13 : (putZ at1 w.1).length ≤ 1000000 := by
    have := okL_len (by unfold wtOk at hwk; rw [Bool.and_eq_true] at hwk; exact hwk.1 : okL (sd1 a b x y d) w.1 = true)
    rw [show (sd1 a b x y d).o.n = a.n from rfl] at this
    omega
   have hck := pCheck_A a b x y (s.set k (putZ at1 w.1, w.2)) (hPrOk _ l13 l2)
   rw [hsetk, hpw] at hck
   generalize aloB (sd1 a b x y d) at1 = isB at hck ⊢
   repeat (first
    | refine uA ?_
    | (refine AWp.draw (id := 35) mixed ?_; (iterate 2 refine kA ?_); refine kD ?_; refine kE ?_; refine kA ?_; refine aH rfl rfl rfl rfl Try.func26 rfl (by kernel_rfl) (hput) ?_; refine kD ?_; refine kE ?_; refine qr8 (aX tyOk) ?_; refine qr10eo (AList.idxOw (k := k) tyOk) ?_; refine kI ?_; refine aB ⟨by kernel_rfl, ?_⟩))
   refine AWp.weak (S' :=
    mkSt 273 [
     (2, .c (iC index)), (7, .c (bC true)), (8, .c (.pt 8 3 0 0)), (9, .c (.pt 9 3 0 0)), (10, .c (.pt 10 4 0 0)), (11, .c (.pt 11 4 0 0)), (14, .c (.ow 301)), (18, .c (.ls L.length 2 (rowF mvC mvZ L)))
     , (20, .c (iC k)), (21, .c (.pt 21 2 0 0)) , (24, .c (iC at1)), (25, .c (bC isB))] [
     (8, ⟨false, 1, 3, 31, lF (bpC a)⟩), (9, ⟨false, 1, 3, 31, lF (bpC b)⟩), (10, ⟨false, 1, 4, 33, lF (bgC x)⟩), (11, ⟨false, 1, 4, 33, lF (bgC y)⟩)
     , (21, ⟨false, 1, 2, 62, lF (wtC w)⟩), (301, wpB (s.set k ((putZ at1 w.1, w.2))))] [8, 9, 10, 11, 21, 301]
    ) (Wk.mk [(8, some 8), (9, some 9), (10, some 10), (11, some 11), (21, some 21), (301, some 301)] rfl rfl rfl ?_ ?_) ?_
   ·exact allT
   ·exact ⟨
    hSm, hSm, hSm, hSm
    , hSm, .inr ⟨301, (s.set k v).length, _, .inl rfl, hlen _ _, rfl, hrow v _ [] _ _ _ _ (LeC.refl _ rfl) (LeC.refl _ rfl)⟩, trivial⟩
   cases isB with
   | true =>
     rw [if_pos rfl] at hck
     repeat (first
      | refine uB ?_
      | refine AWp.ret ?_
      | (refine rG 36 ?_
         (iterate 2 refine kA ?_)
         (iterate 4 refine kF ?_)
         refine kA ?_
         refine AList.callP [301] rfl rfl rfl Try.func14 rfl (by kernel_rfl) (hck) (⟨fz_p rfl, fz_p rfl, fz_p rfl, fz_p rfl, wp_read (by simp) rfl, trivial⟩) ?_
         refine aK rfl rfl rfl rfl rfl (by simp only [cmpP, eq_self, decide_true]) ?_
         refine kA ?_
         refine qr4k AList.eqB ?_
         refine qr4 aS ?_
         refine kC ?_
         refine aB ?_))
     refine ⟨mkSt 273 [(6, .c (bC true))] [] [], [], Wk.mk [] rfl rfl rfl ?_ trivial, rfl, rfl, aR1⟩
     exact allT
   | false =>
     rw [if_neg (by decide)] at hck
     repeat (first
      | refine uB ?_
      | refine AWp.ret ?_
      | (refine rG 36 ?_
         (iterate 2 refine kA ?_)
         (iterate 4 refine kF ?_)
         refine kA ?_
         refine AList.callP [301] rfl rfl rfl Try.func14 rfl (by kernel_rfl) (hck) (⟨fz_p rfl, fz_p rfl, fz_p rfl, fz_p rfl, wp_read (by simp) rfl, trivial⟩) ?_
         refine qr5f aJ ?_
         refine kA ?_
         refine qr4k AList.eqB ?_
         refine qr4 aS ?_
         refine kC ?_
         refine aB ?_))
     refine ⟨mkSt 273 [(6, .c (bC true))] [] [], [], Wk.mk [] rfl rfl rfl ?_ trivial, rfl, rfl, aR1⟩
     exact allT
end Go.Proofs.Ytekkldgmjdllbaa
end
section
namespace Go.Proofs.Ytekkldgmjdllbaa.proofLeast
open Go.ChangeShapes Go.WideShapes Go.ChangeAt Go.RowKit Go.Flow Go.AV
set_option maxRecDepth 100000 in
theorem contract (H : Type) (enc : TypeId × Value → H) (W : World) (base : Nat) (args : Array Value) (ds gs : List (DataW H)) (before : List MemPlace)
 (hval : ∀ (j : Nat) t v, Try.f6.params[j]? = some t → args[j]? = some v → Value.okWide Try.prog W .any base t v)
 (hW : DataW.Whole enc Try.prog Try.f6.params.toList Rows.proofLeastSpec.vars false W args.toList ds gs before)
 (hsz : (DataW.weightsEach Try.prog (Try.f6.params.toList ++ (OpenSpec.ofChange Rows.proofLeastSpec).bare.plain.varTypes Try.prog) (ds ++ gs)).all (· ≤ reachBytes) = true) :
 Calls Try.prog 6 args W fun e W' => ∃ v, e = .returned v ∧ Rows.proofLeastSpec.post enc Try.prog Try.f6 false true false false W args v W' := by
 have hW' := hW
 obtain ⟨p, q, hA0, hV, rfl, hfz, hnd⟩ := hW
 have hA : DataW.TrodAll enc Try.prog W 0 (fun _ => true) true Try.f6.params.toList args.toList ds p := hA0
 have hAk := hA0
 rw [Try.params6] at hA hval hsz
 obtain ⟨rfl, rfl⟩ := trodVars_none hV
 obtain ⟨v0, vs0, d0, ds0, p0, q0, hargs, rfl, rfl, h0, t0⟩ := trodAll_cons hA
 obtain ⟨v1, vs1, d1, ds1, p1, q1, rfl, rfl, rfl, h1, t1⟩ := trodAll_cons t0
 obtain ⟨v2, vs2, d2, ds2, p2, q2, rfl, rfl, rfl, h2, t2⟩ := trodAll_cons t1
 obtain ⟨rfl, rfl, rfl⟩ := trodAll_nil t2
 obtain rfl : args = #[v0, v1, v2] := by rw [← Array.toList_inj]; exact hargs
 have hlt := fun x hx => hW'.lt x hx
 simp only [List.append_nil] at hW'
 rw [List.append_nil] at hsz
 obtain ⟨a0, ok0, r0⟩ := opn_ca5.argS Try.underlying24 (hval 0 24 v0 rfl rfl) h0 (weigh hsz 0 (t := 24) (d := d0) rfl rfl)
 obtain ⟨a1, ok1, r1⟩ := opn_int.argC (cells_int Try.underlying3 (hval 1 3 v1 rfl rfl)) h1 (weigh hsz 1 (t := 3) (d := d1) rfl rfl)
 obtain ⟨a2, ok2, r2⟩ := opn_int.argC (cells_int Try.underlying3 (hval 2 3 v2 rfl rfl)) h2 (weigh hsz 2 (t := 3) (d := d2) rfl rfl)
 refine ((ECalls.of (ProofLeast_A a0 ok0 a1 a2)) O0 W [_, _, _] (fun b h => h.elim) ⟨r0, r1, r2, trivial⟩).mono fun e W' ⟨v, r, he, hr, hv, hE⟩ => ?_
 subst hr
 obtain rfl : v = .bool true := hv.2
 subst he
 exact ⟨_, rfl, post_below (pv := []) hW' (fun _ _ _ => trodAll_cons_mk (shut_bool Try.underlying4 _) trodAll_mk0)
  (fun sp hsp => trodAll_below laidOut hE (by rw [Try.params6]; intro t ht; simp only [List.mem_cons, List.not_mem_nil, or_false] at ht; rcases ht with rfl | rfl | rfl <;> exact ⟨by kernel_rfl, of_decide_eq_true (by kernel_rfl)⟩) hAk (fun x hx => hlt x (by rw [List.append_nil]; exact hx)) sp (fun x hx => hsp x (by simpa only [List.append_nil] using hx)))
  (fun _ _ => rfl) (by simp) hE (ok_one (by kernel_rfl) rfl (okWide_bool_mk Try.underlying4 _))⟩
theorem own : ownKnob Try.prog.godebug = none := by kernel_rfl
set_option maxRecDepth 100000 in
theorem lifted (os : Os) (started : os.Started) (H : Type) (enc : TypeId × Value → H) :
 ReturnsInHanded {} Try.checked os 6 .any (Rows.proofLeastSpec.pre6 enc Try.prog Try.f6 Rows.proofLeastRow.domain false) (Rows.proofLeastSpec.post enc Try.prog Try.f6 false true false false) := by
 refine returnsInHanded_of_change_sized (C := Try.checked) own started (by kernel_rfl) Try.func6
  (ChangeSpec.witness6 (enc := enc) (C := Try.checked) false ⟨#[], #[.agg #[.slice none 0 0, .slice none 0 0, .slice none 0 0, .slice none 0 0], .int .i64 0, .int .i64 0], []⟩ 8 (by kernel_rfl) (by kernel_rfl) (by kernel_rfl) (by kernel_rfl)) ?_
 intro W base args ds gs before hval hW _ hsz _
 exact contract H enc W base args ds gs before hval hW hsz
theorem said : Rows.ProofLeastSaid :=
 OpenClaim.holds_of_wide 6 Try.f6 rfl rfl rfl rfl rfl rfl rfl ⟨rfl, rfl, rfl, rfl, rfl⟩ rfl rfl rfl rfl rfl (by kernel_rfl) Try.func6 (by kernel_rfl)
  (of_decide_eq_true (by kernel_rfl)) (by unfold Func.isWrapper; first | (rw [if_pos (by decide +kernel)]; kernel_rfl) | (rw [if_neg (by decide +kernel)]; exact ⟨rfl, rfl⟩))
  (fun os started H enc _ => lifted os started H enc)
end Go.Proofs.Ytekkldgmjdllbaa.proofLeast
end
