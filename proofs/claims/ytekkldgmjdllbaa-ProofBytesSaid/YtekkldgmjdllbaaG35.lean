/- Parts of the proof: A25h, A25j, A25n. -/
import Derived.Test.YtekkldgmjdllbaaG22
import Derived.Test.YtekkldgmjdllbaaG32
import Derived.Test.YtekkldgmjdllbaaG34
import Derived.Test.YtekkldgmjdllbaaG33
set_option linter.unusedSimpArgs false
set_option linter.unusedVariables false
section
namespace Go.Proofs.Ytekkldgmjdllbaa
open Go.RowKit Go.Flow Go.AV Go.Plain
abbrev wpL (p : List Wt) : CV := .ls p.length 2 (rowF wtC wtZ p)
abbrev wpB (p : List Wt) : AB := ⟨true, p.length, 2, 62, rowF wtC wtZ p⟩
theorem mkL_take (a b : Bp) (x y : Bg) (L : List (Int × Int)) {k : Nat} (hk : k < L.length) : mkL25 a b x y (L.take (k + 1)) = mkL25 a b x y (L.take k) ++ [(aloL (sd1 a b x y (L.getD k mvZ)), aloL (sd2 a b x y (L.getD k mvZ)))] := by
 unfold mkL25
 rw [List.take_add_one, List.getElem?_eq_getElem hk, List.map_append, List.getD_eq_getElem?_getD, List.getElem?_eq_getElem hk]
 rfl
theorem mkL_len (a b : Bp) (x y : Bg) (L : List (Int × Int)) {k : Nat} (hk : k ≤ L.length) : (mkL25 a b x y (L.take k)).length = k := by
 unfold mkL25
 rw [List.length_map, List.length_take]
 omega
set_option maxHeartbeats 4000000 in
set_option maxRecDepth 100000 in
theorem pMake_A (a b : Bp) (x y : Bg) : ACalls Try.prog 20 [.ag (bpC a), .ag (bpC b), .ag (bgC x), .ag (bgC y)] (.tu [.c (wpL (mkV a b x y).1), .c (iC (mkV a b x y).2)]) := by
 have hsz := psizes_A a b
 have hC := Confused_A a b x y
 have hS := aShifts_A x y
 have hsb := fun k hk => shN_bd (x := x) (y := y) (k := k) hk
 by_cases h0 : szV a b = 0
 rotate_left
 ·rw [show mkV a b x y = ([], szV a b) from if_neg h0]
  refine acalls_at Try.func20 rfl rfl Try.ntmps20 rfl ?_
  repeat (first
   | refine uA ?_
   | refine uB ?_
   | refine AWp.ret ?_
   | refine thenA_r ?_
   | refine kT ?_
   | (refine rG 0 ?_
      (iterate 4 refine qr5 aQ ?_)
      (iterate 2 refine kC ?_)
      refine aB ?_)
   | (refine rG 1 ?_
      (iterate 2 refine kF ?_)
      refine aH rfl rfl rfl rfl Try.func43 rfl (by kernel_rfl) (hsz) ?_
      refine kC ?_
      refine aB ?_)
   | (refine rG 2 ?_
      refine kA ?_
      refine qr5t aK ?_
      refine aB ?_)
   | (refine rG 3 ?_
      refine kA ?_
      (iterate 2 refine kC ?_)
      refine aB ?_))
  refine ⟨mkSt 60 [(8, .c (wpL ([]))), (9, .c (iC (szV a b)))] [] [], [], Wk.mk [] rfl rfl rfl ?_ trivial, rfl, rfl, ARets.two (x := .c _) (y := .c _) (ARes.tmp rfl rfl) (ARes.tmp rfl rfl)⟩
  exact allT
 rw [h0] at hsz
 obtain ⟨ha, hb, hW, hH⟩ := (szV_ok a b).1 h0
 have hmk : mkV a b x y = if (cnfV a b x y).2 = true then ([], 60) else (mkL25 a b x y (shL (shN x y)), 0) := if_pos h0
 cases hcf : (cnfV a b x y).2 with
 | true =>
   rw [hmk, if_pos hcf]
   rw [hcf] at hC
   refine acalls_at Try.func20 rfl rfl Try.ntmps20 rfl ?_
   repeat (first
    | refine uA ?_
    | refine uB ?_
    | refine uG ?_
    | refine AWp.ret ?_
    | refine thenA_r ?_
    | refine kT ?_
    | refine kU ?_
    | (refine rG 0 ?_
       (iterate 4 refine qr5 aQ ?_)
       (iterate 2 refine kC ?_)
       refine aB ?_)
    | (refine rG 1 ?_
       (iterate 2 refine kF ?_)
       refine aH rfl rfl rfl rfl Try.func43 rfl (by kernel_rfl) (hsz) ?_
       refine kC ?_
       refine aB ?_)
    | (refine rG 2 ?_
       refine kA ?_
       refine qr5 aW ?_
       refine aB ?_)
    | (refine rG 4 ?_
       (iterate 4 refine kF ?_)
       refine aH rfl rfl rfl rfl Try.func21 rfl (by kernel_rfl) (hC) ?_
       refine kA ?_
       (iterate 2 refine qr4 aN ?_)
       refine qr5 (aM tyOk) ?_
       refine kI ?_
       refine kC ?_
       refine aB ?_)
    | (refine rG 5 ?_
       refine kA ?_
       refine aB ?_)
    | (refine rG 6 ?_
       (iterate 2 refine kC ?_)
       refine aB ?_))
   refine ⟨mkSt 60 [(8, .c (wpL ([]))), (9, .c (iC (60)))] [] [], [], Wk.mk [] rfl rfl rfl ?_ trivial, rfl, rfl, ARets.two (x := .c _) (y := .c _) (ARes.tmp rfl rfl) (ARes.tmp rfl rfl)⟩
   exact allT
 | false =>
 rw [hmk, if_neg (by rw [hcf]; decide)]
 rw [hcf] at hC
 have hL9 : (shL (shN x y)).length ≤ 81 := by
  obtain ⟨-, hm⟩ := shN_eq x y
  rw [shL_len hm]
  have h9 : 2 * shN x y + 1 ≤ 9 := by omega
  exact Nat.mul_le_mul h9 h9
 obtain ⟨L, hL⟩ : ∃ L, shL (shN x y) = L := ⟨_, rfl⟩
 rw [hL] at hS hsb hL9 ⊢
 refine acalls_at Try.func20 rfl rfl Try.ntmps20 rfl ?_
 repeat (first
  | refine uA ?_
  | refine uB ?_
  | refine uC ?_
  | refine uG ?_
  | refine kU ?_
  | (refine rG 0 ?_
     (iterate 4 refine qr5 aQ ?_)
     (iterate 2 refine kC ?_)
     refine aB ?_)
  | (refine rG 1 ?_
     (iterate 2 refine kF ?_)
     refine aH rfl rfl rfl rfl Try.func43 rfl (by kernel_rfl) (hsz) ?_
     refine kC ?_
     refine aB ?_)
  | (refine rG 2 ?_
     refine kA ?_
     refine qr5 aW ?_
     refine aB ?_)
  | (refine rG 4 ?_
     (iterate 4 refine kF ?_)
     refine aH rfl rfl rfl rfl Try.func21 rfl (by kernel_rfl) (hC) ?_
     refine kA ?_
     (iterate 2 refine qr4 aN ?_)
     refine qr5 (aM tyOk) ?_
     refine kI ?_
     refine kC ?_
     refine aB ?_)
  | (refine rG 5 ?_
     refine kA ?_
     refine aB ?_)
  | (refine rG 7 ?_
     refine kC ?_
     refine aB ?_)
  | (refine rG 8 ?_
     (iterate 2 refine kF ?_)
     refine aH rfl rfl rfl rfl Try.func22 rfl (by kernel_rfl) (hS) ?_
     refine qr5 (aO tyOk) ?_
     refine kA ?_
     refine aB ?_))
 refine AWp.round (fun k : Nat => mkSt 60 [(4, .c (.pt 4 3 0 0)), (5, .c (.pt 5 3 0 0)), (6, .c (.pt 6 4 0 0)), (7, .c (.pt 7 4 0 0)), (13, .c (.ow 30)), (35, .c (.ls L.length 2 (rowF mvC mvZ L))), (36, .c (iC L.length)), (37, .c (iC k))] [
  (4, ⟨false, 1, 3, 31, lF (bpC a)⟩), (5, ⟨false, 1, 3, 31, lF (bpC b)⟩), (6, ⟨false, 1, 4, 33, lF (bgC x)⟩), (7, ⟨false, 1, 4, 33, lF (bgC y)⟩)
  , (30, wpB (mkL25 a b x y (L.take k)))] [4, 5, 6, 7, 30])
  (fun k => k ≤ L.length) (fun k => L.length - k) 0 (Nat.zero_le _) ?_ (fun k hk => ?_)
 ·refine Wk.mk [(4, some 4), (5, some 5), (6, some 6), (7, some 7), (30, none)] rfl rfl rfl ?_ ?_
  ·exact allT
  ·exact allH
 have hkn := mkL_len a b x y L hk
 by_cases hkl : k < L.length
 ·have hkl' : (k : Int) < L.length := by omega
  have hd := hsb k hkl
  have hside := psides_A a b x y (L.getD k mvZ) hd
  have p1 := pall_A (sd1 a b x y (L.getD k mvZ)) ha hb hd.1 hd.2
  have p2 := pall_A (sd2 a b x y (L.getD k mvZ)) hb ha (by show -4 ≤ -(L.getD k mvZ).1 ∧ -(L.getD k mvZ).1 ≤ 4; omega) (by show -4 ≤ -(L.getD k mvZ).2 ∧ -(L.getD k mvZ).2 ≤ 4; omega)
  have htk := mkL_take a b x y L hkl
  have hlen : (mkL25 a b x y (L.take (k + 1))).length = (mkL25 a b x y (L.take k)).length + 1 := by rw [htk, List.length_append]; rfl
  repeat (first
   | refine uA ?_
   | refine uC ?_
   | refine uG ?_
   | refine kT ?_
   | (refine rG 9 ?_
      refine qr5t aK ?_
      refine aB ?_)
   | (refine rG 10 ?_
      refine qr8eo2 (aP (k := k) tyOk) ?_
      refine qr5o (aT tyOk) ?_
      refine qr5 (aM tyOk) ?_
      refine kI ?_
      refine aB ?_))
  refine AWp.weak (S' := mkSt 60 [(4, .c (.pt 4 3 0 0)), (5, .c (.pt 5 3 0 0)), (6, .c (.pt 6 4 0 0)), (7, .c (.pt 7 4 0 0)), (13, .c (.ow 30)), (15, .c (.pt 15 2 0 0)), (35, .c (.ls L.length 2 (rowF mvC mvZ L))), (36, .c (iC L.length)), (37, .c (iC k))] [
   (4, ⟨false, 1, 3, 31, lF (bpC a)⟩), (5, ⟨false, 1, 3, 31, lF (bpC b)⟩), (6, ⟨false, 1, 4, 33, lF (bgC x)⟩), (7, ⟨false, 1, 4, 33, lF (bgC y)⟩)
   , (15, ⟨false, 1, 2, 59, lF (mvC (L.getD k mvZ))⟩), (30, wpB (mkL25 a b x y (L.take k)))] [4, 5, 6, 7, 15, 30]) (Wk.mk [(4, some 4), (5, some 5), (6, some 6), (7, some 7), (15, some 15), (30, some 30)] rfl rfl rfl ?_ ?_) ?_
  ·exact allT
  ·exact allH
  repeat (first
   | refine uB ?_
   | refine uD ?_
   | (refine rG 11 ?_
      (iterate 5 refine kF ?_)
      refine aH rfl rfl rfl rfl Try.func45 rfl (by kernel_rfl) (hside) ?_
      refine kA ?_
      (iterate 2 refine qr4 aN ?_)
      (iterate 2 refine qr5 (aM tyOk) ?_)
      (iterate 2 refine kI ?_)
      refine aB ?_)
   | (refine AWp.draw (id := 12) mixed ?_; refine kA ?_; refine kF ?_; refine aH rfl rfl rfl rfl Try.func56 rfl (by kernel_rfl) (p1) ?_; refine kF ?_; refine aH rfl rfl rfl rfl Try.func56 rfl (by kernel_rfl) (p2) ?_; refine qr8 (aX tyOk) ?_; refine qr11 (AList.litSl tyOk) ?_; refine AList.appL tyOk rfl rfl rfl rfl rfl rfl rfl rfl rfl rfl oM oM ?_; refine kC ?_; refine aB ⟨by kernel_rfl, ?_⟩)
   | (refine rG 13 ?_
      refine qr4w2 aL ?_
      refine kA ?_
      refine aB ?_))
  refine ⟨k + 1, hkl, Wk.mk [(4, some 4), (5, some 5), (6, some 6), (7, some 7), (30, some 57)] rfl rfl rfl ?_ ?_, by omega⟩
  ·exact allT
  ·refine ⟨hSm, hSm, hSm, hSm, HeapOk.row rfl rfl hlen ?_, trivial⟩
   rw [htk]
   exact row_snoc (c := wtC) (z := wtZ) (mkL25 a b x y (L.take k)) (aloL (sd1 a b x y (L.getD k mvZ)), aloL (sd2 a b x y (L.getD k mvZ))) wtC_imm rfl
 have hkl' : ¬ (k : Int) < L.length := by omega
 obtain rfl : k = L.length := by omega
 rw [List.take_length]
 repeat (first
  | refine uA ?_
  | refine uB ?_
  | refine uH ?_
  | refine AWp.ret ?_
  | refine kU ?_
  | (refine rG 9 ?_
     refine qr5f aJ ?_
     refine aB ?_)
  | (refine rG 14 ?_
     refine kA ?_
     (iterate 2 refine kC ?_)
     refine aB ?_))
 refine ⟨mkSt 60 [(8, .c (wpL (mkL25 a b x y L))), (9, .c (iC (0)))] [] [], [], Wk.mk [] rfl rfl rfl ?_ trivial, rfl, rfl, ARets.two (x := .c _) (y := .c _) (ARes.tmp rfl rfl) (ARes.tmp rfl rfl)⟩
 exact ⟨⟨_, rfl, .c (LeC.fz rfl rfl rfl (fun i _ j _ => ⟨rfl, rowF_imm wtC_imm _ i j⟩))⟩, ⟨_, rfl, .c (LeC.refl _ rfl)⟩, trivial⟩
theorem shrK_ex (a b : Bp) (x y : Bg) (p : List Wt) : ∃ shrK : Nat → List Wt, shrK 0 = [] ∧ shrP a b x y (shL (shN x y)) p = shrK (shL (shN x y)).length ∧ (∀ m, m ≤ (shL (shN x y)).length → (shrK m).length = m) ∧ ∀ m, m < (shL (shN x y)).length → shrK (m + 1) = shrK m ++ [shrW (sd1 a b x y ((shL (shN x y)).getD m mvZ)) (sd2 a b x y ((shL (shN x y)).getD m mvZ)) (stN a.W x y).toNat (alM a.W x y) (p.getD m wtZ)] := by
 refine ⟨fun m => shrP a b x y ((shL (shN x y)).take m) p, rfl, ?_, fun m hm => ?_, fun m hm => ?_⟩
 ·show _ = shrP a b x y ((shL (shN x y)).take _) p
  rw [List.take_length]
 ·show (shrP a b x y ((shL (shN x y)).take m) p).length = m
  unfold shrP
  rw [List.length_map, List.length_range, List.length_take]
  omega
 ·have hg : ∀ i, i ≤ m → ((shL (shN x y)).take (m + 1)).getD i mvZ = (shL (shN x y)).getD i mvZ := fun i hi => by rw [List.getD_eq_getElem?_getD, List.getElem?_take_of_lt (by omega), ← List.getD_eq_getElem?_getD]
  have hg2 : ∀ i, i < m → ((shL (shN x y)).take m).getD i mvZ = (shL (shN x y)).getD i mvZ := fun i hi => by rw [List.getD_eq_getElem?_getD, List.getElem?_take_of_lt (by omega), ← List.getD_eq_getElem?_getD]
  show shrP a b x y ((shL (shN x y)).take (m + 1)) p = shrP a b x y ((shL (shN x y)).take m) p ++ _
  unfold shrP
  rw [List.length_take, List.length_take, Nat.min_eq_left (by omega), Nat.min_eq_left (by omega), List.range_succ, List.map_append]
  refine congr (congrArg HAppend.hAppend ?_) ?_
  ·exact List.map_congr_left fun i hi => by have := List.mem_range.1 hi; rw [hg i (by omega), hg2 i (by omega)]
  ·show [_] = [_]
   dsimp only
   rw [hg m (by omega)]
set_option maxHeartbeats 8000000 in
set_option maxRecDepth 100000 in
theorem pShrink_A (a b : Bp) (x y : Bg) (p : List Wt) (hp : PrOk p) : ACalls Try.prog 16 [.ag (bpC a), .ag (bpC b), .ag (bgC x), .ag (bgC y), .c (wpC p)] (.tu [.c (wpL (shkV a b x y p).1), .c (iC (shkV a b x y p).2)]) := by
 have hck := pCheck_A a b x y p hp
 by_cases h0 : chkV a b x y p = 0
 rotate_left
 ·rw [show shkV a b x y p = ([], chkV a b x y p) from if_neg h0]
  refine acalls_at Try.func16 rfl rfl Try.ntmps16 rfl ?_
  repeat (first
   | refine uA ?_
   | refine uB ?_
   | refine AWp.ret ?_
   | refine thenA_r ?_
   | refine kT ?_
   | (refine rG 0 ?_
      (iterate 4 refine qr5 aQ ?_)
      (iterate 2 refine kC ?_)
      refine aB ?_)
   | (refine rG 1 ?_
      (iterate 4 refine kF ?_)
      refine kA ?_
      refine aH rfl rfl rfl rfl Try.func14 rfl (by kernel_rfl) (hck) ?_
      refine kC ?_
      refine aB ?_)
   | (refine rG 2 ?_
      refine kA ?_
      refine qr5t aK ?_
      refine aB ?_)
   | (refine rG 3 ?_
      refine kA ?_
      (iterate 2 refine kC ?_)
      refine aB ?_))
  refine ⟨mkSt 88 [(10, .c (wpL ([]))), (11, .c (iC (chkV a b x y p)))] [] [], [], Wk.mk [] rfl rfl rfl ?_ trivial, rfl, rfl, ARets.two (x := .c _) (y := .c _) (ARes.tmp rfl rfl) (ARes.tmp rfl rfl)⟩
  exact allT
 rw [show shkV a b x y p = (shrP a b x y (shL (shN x y)) p, 0) from if_pos h0]
 rw [h0] at hck
 have hsz0 : szV a b = 0 := by
  refine Decidable.byContradiction fun h => ?_
  rw [show chkV a b x y p = szV a b from if_neg h] at h0
  exact h h0
 obtain ⟨ha, hb, hW, hH⟩ := (szV_ok a b).1 hsz0
 obtain ⟨w1, w2, w3, w4, w5⟩ := okB ha
 obtain ⟨hl, hpr⟩ : (shL (shN x y)).length = p.length ∧ prfB a b x y p = true := by
  refine Decidable.byContradiction fun h => ?_
  rw [show chkV a b x y p = 62 from (if_pos hsz0).trans (if_neg h)] at h0
  exact absurd h0 (by decide)
 have hsh := aShifts_A x y
 have hwd := pwidth_A a x y ⟨w1, w2⟩
 have hsb := fun k hk => shN_bd (x := x) (y := y) (k := k) hk
 have hok : ∀ k, k < (shL (shN x y)).length → wtOk a b x y ((shL (shN x y)).getD k mvZ) (p.getD k wtZ) = true := fun k hk => List.all_eq_true.1 hpr k (List.mem_range.2 hk)
 have hp1 := hp.1
 have hst := stN_bd x y w1
 obtain ⟨n, hn⟩ := Int.eq_ofNat_of_zero_le (show 0 ≤ a.W + 8 by omega)
 obtain ⟨m, hm⟩ := Int.eq_ofNat_of_zero_le hst.1
 have hM : alM a.W x y + m = n + 1 := by unfold alM; omega
 have hmt : (stN a.W x y).toNat = m := by omega
 obtain ⟨shrK, hs0, hsN, hsl, hsS⟩ := shrK_ex a b x y p
 rw [hsN]
 rw [hmt] at hsS
 rw [hm] at hwd hst
 obtain ⟨L, hL⟩ : ∃ L, shL (shN x y) = L := ⟨_, rfl⟩
 rw [hL] at hsh hl hsb hok hsl hsS ⊢
 have hLp : L.length ≤ 1000000 := by omega
 refine acalls_at Try.func16 rfl rfl Try.ntmps16 rfl ?_
 repeat (first
  | refine uA ?_
  | refine uB ?_
  | refine uC ?_
  | refine uG ?_
  | refine kU ?_
  | (refine rG 0 ?_
     (iterate 4 refine qr5 aQ ?_)
     (iterate 2 refine kC ?_)
     refine aB ?_)
  | (refine rG 1 ?_
     (iterate 4 refine kF ?_)
     refine kA ?_
     refine aH rfl rfl rfl rfl Try.func14 rfl (by kernel_rfl) (hck) ?_
     refine kC ?_
     refine aB ?_)
  | (refine rG 2 ?_
     refine kA ?_
     refine qr5 aW ?_
     refine aB ?_)
  | (refine rG 4 ?_
     (iterate 3 refine kF ?_)
     refine aH rfl rfl rfl rfl Try.func44 rfl (by kernel_rfl) (hwd) ?_
     refine kC ?_
     refine aB ?_)
  | (refine rG 5 ?_
     refine kC ?_
     refine aB ?_)
  | (refine rG 6 ?_
     (iterate 2 refine kF ?_)
     refine aH rfl rfl rfl rfl Try.func22 rfl (by kernel_rfl) (hsh) ?_
     refine qr5 (aO tyOk) ?_
     refine kA ?_
     refine aB ?_))
 refine AWp.round (fun k : Nat =>
  mkSt 88 [(4, .c (wpC p)), (5, .c (.pt 5 3 0 0)), (6, .c (.pt 6 3 0 0)), (7, .c (.pt 7 4 0 0)), (8, .c (.pt 8 4 0 0)), (13, .c (iC m)), (14, .c (.ow 30)), (37, .c (.ls L.length 2 (rowF mvC mvZ L))), (38, .c (iC L.length)), (39, .c (iC (k : Nat))) ] [(5, ⟨false, 1, 3, 31, lF (bpC a)⟩), (6, ⟨false, 1, 3, 31, lF (bpC b)⟩), (7, ⟨false, 1, 4, 33, lF (bgC x)⟩), (8, ⟨false, 1, 4, 33, lF (bgC y)⟩), (30, wpB (shrK k)) ] [5, 6, 7, 8, 30 ]
  ) (fun k => k ≤ L.length) (fun k => L.length - k) 0 (Nat.zero_le _) ?_ (fun k hk => ?_)
 ·rw [hs0]
  refine Wk.mk [(5, some 5), (6, some 6), (7, some 7), (8, some 8), (30, none)] rfl rfl rfl ?_ ?_
  ·exact allT
  ·exact allH
 by_cases hkl : k < L.length
 rotate_left
 ·obtain rfl : k = L.length := by omega
  repeat (first
   | refine uA ?_
   | refine uB ?_
   | refine uH ?_
   | refine AWp.ret ?_
   | refine kU ?_
   | (refine rG 7 ?_
      refine qr5f aJ ?_
      refine aB ?_)
   | (refine rG 16 ?_
      refine kA ?_
      (iterate 2 refine kC ?_)
      refine aB ?_))
  refine ⟨mkSt 88 [(10, .c (wpL (shrK L.length))), (11, .c (iC (0)))] [] [], [], Wk.mk [] rfl rfl rfl ?_ trivial, rfl, rfl, ARets.two (x := .c _) (y := .c _) (ARes.tmp rfl rfl) (ARes.tmp rfl rfl)⟩
  exact ⟨⟨_, rfl, .c (LeC.fz rfl rfl rfl (fun i _ j _ => ⟨rfl, rowF_imm wtC_imm _ i j⟩))⟩, ⟨_, rfl, .c (LeC.refl _ rfl)⟩, trivial⟩
 have hkl' : (k : Int) < L.length := by omega
 have hd := hsb k hkl
 have hside := psides_A a b x y (L.getD k mvZ) hd
 have hw := hok k hkl
 unfold wtOk at hw
 rw [Bool.and_eq_true, Bool.and_eq_true] at hw
 obtain ⟨hw1, hw2, -⟩ := hw
 have al1 := fun k hk => okL_alo hw1 (k := k) hk
 have al2 := fun k hk => okL_alo hw2 (k := k) hk
 have ln1 := okL_len hw1
 have ln2 := okL_len hw2
 rw [show (sd1 a b x y (L.getD k mvZ)).o.n = a.n from rfl] at ln1
 rw [show (sd2 a b x y (L.getD k mvZ)).o.n = b.n from rfl] at ln2
 have b91 := n_bd ha
 have b92 := n_bd hb
 have hSk := hsS k hkl
 have hlk := hsl k hk
 have hn0 : 0 < n := by omega
 have cm := counted_M (sd1 a b x y (L.getD k mvZ)) (sd2 a b x y (L.getD k mvZ)) (p.getD k wtZ) m n hn (by show b.W + 8 = _; rw [← hW]; exact hn) (by omega) ha hb (by show -4 ≤ (0 : Int) ∧ (0 : Int) ≤ 4; omega) hd.1 al1 al2 (by omega) (by omega)
 have lA := lessA_M (sd1 a b x y (L.getD k mvZ)) (sd2 a b x y (L.getD k mvZ)) (p.getD k wtZ).2 (p.getD k wtZ).1 n m (alM a.W x y) ha hn (by show -4 ≤ (0 : Int) ∧ (0 : Int) ≤ 4; omega) al1 (by omega) (by omega) hn0 (by omega) (by omega) (by omega) hM
 have lB := fun o (ho : o.length ≤ 9216) => lessB_M (sd1 a b x y (L.getD k mvZ)) (sd2 a b x y (L.getD k mvZ)) o (p.getD k wtZ).2 n m (alM a.W x y) hb (by show b.W + 8 = _; rw [← hW]; exact hn) hd.1 al2 (by omega) ho hn0 (by omega) (by omega) (by omega) hM
 have hkA := keptR_len (fun l => decB (sd1 a b x y (L.getD k mvZ)) (sd2 a b x y (L.getD k mvZ)) m (alM a.W x y) l (p.getD k wtZ).2) (p.getD k wtZ).1 (p.getD k wtZ).1.length
 have hsW : shrW (sd1 a b x y (L.getD k mvZ)) (sd2 a b x y (L.getD k mvZ)) m (alM a.W x y) (p.getD k wtZ) = (keptR (fun l => decB (sd1 a b x y (L.getD k mvZ)) (sd2 a b x y (L.getD k mvZ)) m (alM a.W x y) l (p.getD k wtZ).2) (p.getD k wtZ).1 (p.getD k wtZ).1.length, keptR (fun l => decB (sd1 a b x y (L.getD k mvZ)) (sd2 a b x y (L.getD k mvZ)) m (alM a.W x y) (keptR (fun l => decB (sd1 a b x y (L.getD k mvZ)) (sd2 a b x y (L.getD k mvZ)) m (alM a.W x y) l (p.getD k wtZ).2) (p.getD k wtZ).1 (p.getD k wtZ).1.length) l) (p.getD k wtZ).2 (p.getD k wtZ).2.length) := by
  rw [keptR_all, keptR_all]
  rfl
 rw [hsW] at hSk
 clear hsW
 have ew : cellsFrom (rowF wtC wtZ p k) 0 2 = wtC (p.getD k wtZ) := rfl
 have q1 : rowF wtC wtZ p k 0 = liV (p.getD k wtZ).1 := rfl
 have q2 : rowF wtC wtZ p k 1 = liV (p.getD k wtZ).2 := rfl
 generalize p.getD k wtZ = w at *
 obtain ⟨A', hA'⟩ : ∃ A', keptR (fun l => decB (sd1 a b x y (L.getD k mvZ)) (sd2 a b x y (L.getD k mvZ)) m (alM a.W x y) l w.2) w.1 w.1.length = A' := ⟨_, rfl⟩
 rw [hA'] at hSk hkA lA
 have lB := lB A' (by omega)
 obtain ⟨B', hB'⟩ : ∃ B', keptR (fun l => decB (sd1 a b x y (L.getD k mvZ)) (sd2 a b x y (L.getD k mvZ)) m (alM a.W x y) A' l) w.2 w.2.length = B' := ⟨_, rfl⟩
 rw [hB'] at hSk lB
 have hlen : (shrK (k + 1)).length = (shrK k).length + 1 := by rw [hSk, List.length_append]; rfl
 obtain ⟨s, hs⟩ : ∃ s, sd1 a b x y (L.getD k mvZ) = s := ⟨_, rfl⟩
 obtain ⟨t, ht⟩ : ∃ t, sd2 a b x y (L.getD k mvZ) = t := ⟨_, rfl⟩
 rw [hs, ht] at hside cm lA lB
 have hkp : (k : Int) < p.length := by omega
 clear hA' hB' hok al1 al2 hw1 hw2 hs0 hsN
 repeat (first
  | refine uA ?_
  | refine uC ?_
  | refine uG ?_
  | refine kT ?_
  | (refine rG 7 ?_
     refine qr5t aK ?_
     refine aB ?_)
  | (refine rG 8 ?_
     refine kA ?_
     refine qr8eo2 (aP (k := k) tyOk) ?_
     refine qr5o (aT tyOk) ?_
     refine qr5 (aM tyOk) ?_
     refine kC ?_
     refine kI ?_
     refine aB ?_))
 refine AWp.weak (S' :=
  mkSt 88 [(4, .c (wpC p)), (5, .c (.pt 5 3 0 0)), (6, .c (.pt 6 3 0 0)), (7, .c (.pt 7 4 0 0)), (8, .c (.pt 8 4 0 0)), (13, .c (iC m)), (14, .c (.ow 30)), (37, .c (.ls L.length 2 (rowF mvC mvZ L))), (38, .c (iC L.length)), (39, .c (iC (k : Nat))) , (15, .c (iC (k : Nat))), (16, .c (.pt 16 2 0 0))] [(5, ⟨false, 1, 3, 31, lF (bpC a)⟩), (6, ⟨false, 1, 3, 31, lF (bpC b)⟩), (7, ⟨false, 1, 4, 33, lF (bgC x)⟩), (8, ⟨false, 1, 4, 33, lF (bgC y)⟩), (30, wpB (shrK k)) , (16, ⟨false, 1, 2, 59, lF (mvC (L.getD k mvZ))⟩)] [5, 6, 7, 8, 30 , 16]
  ) (Wk.mk [(5, some 5), (6, some 6), (7, some 7), (8, some 8), (16, some 16), (30, some 30)] rfl rfl rfl ?_ ?_) ?_
 ·exact allT
 ·exact allH
 repeat (first
  | refine uA ?_
  | (refine rG 9 ?_
     (iterate 5 refine kF ?_)
     refine aH rfl rfl rfl rfl Try.func45 rfl (by kernel_rfl) (hside) ?_
     refine kA ?_
     (iterate 2 refine qr4 aN ?_)
     (iterate 2 refine qr5 (aM tyOk) ?_)
     (iterate 2 refine kI ?_)
     refine aB ?_))
 repeat (first
  | refine uA ?_
  | (refine AWp.draw (id := 10) mixed ?_; (iterate 2 refine kA ?_); refine qr8eo2 (aP (k := k) tyOk) ?_; refine AList.loadAlE tyOk (ew) rfl rfl rfl rfl rfl oM ?_; (iterate 2 refine kF ?_); refine kA ?_; refine AList.callM [] [] [60, 61, 62] [] [] [] [ctB 901 902 w.1.length w.2.length s.mo t.mo m n, cwB n (colC s w.1), cwB n (colC t w.2)] [] [ctB 61 62 w.1.length w.2.length s.mo t.mo m n, cwB n (colC s w.1), cwB n (colC t w.2)] rfl rfl FnV.func rfl Try.func47 rfl (by kernel_rfl) (trivial) (trivial) rfl (by exact ⟨.ag (lentAg rfl), .ag (lentAg rfl), .ag (lentAg rfl), .c (.b (.imm _ rfl)), trivial⟩) (.c (.ptN 0 60 8 0 0 rfl)) (trivial) (ct_new 1 2 (h := trivial)) (cm) ?_; refine qr5 (aM tyOk) ?_; refine kI ?_; refine aB ⟨by kernel_rfl, ?_⟩))
 refine AWp.weak (S' :=
  mkSt 88 [(4, .c (wpC p)), (5, .c (.pt 5 3 0 0)), (6, .c (.pt 6 3 0 0)), (7, .c (.pt 7 4 0 0)), (8, .c (.pt 8 4 0 0)), (13, .c (iC m)), (14, .c (.ow 30)), (37, .c (.ls L.length 2 (rowF mvC mvZ L))), (38, .c (iC L.length)), (39, .c (iC (k : Nat))) , (15, .c (iC (k : Nat))), (17, .c (.pt 17 10 0 0)), (18, .c (.pt 18 10 0 0)), (19, .c (.pt 19 1 0 0))] [(5, ⟨false, 1, 3, 31, lF (bpC a)⟩), (6, ⟨false, 1, 3, 31, lF (bpC b)⟩), (7, ⟨false, 1, 4, 33, lF (bgC x)⟩), (8, ⟨false, 1, 4, 33, lF (bgC y)⟩), (30, wpB (shrK k)) , (17, ⟨false, 1, 10, 97, lF (sdC s)⟩), (18, ⟨false, 1, 10, 97, lF (sdC t)⟩), (19, cxB 60), (60, ctB 61 62 w.1.length w.2.length s.mo t.mo m n), (61, cwB n (colC s w.1)), (62, cwB n (colC t w.2))] [5, 6, 7, 8, 30 , 17, 18, 19, 60, 61, 62]
  ) (Wk.mk [(5, some 5), (6, some 6), (7, some 7), (8, some 8), (17, some 17), (18, some 18), (19, some 19), (30, some 30), (60, some 60), (61, some 61), (62, some 62)] rfl rfl rfl ?_ ?_) ?_
 ·exact allT
 ·exact ⟨hSm, hSm, hSm, hSm, hrF wtC_imm, hSm, hSm, HeapOk.box rfl rfl ⟨LeC.pt _ _ _ _ _ rfl, trivial⟩ rfl, HeapOk.box rfl rfl ⟨LeC.ow _ _ rfl, LeC.ow _ _ rfl, LeC.int rfl, LeC.int rfl, LeC.int rfl, LeC.int rfl, LeC.int rfl, LeC.int rfl, trivial⟩ rfl, HeapOk.row rfl rfl rfl (fun i _ => cell1 ⟨rfl, rfl⟩), HeapOk.row rfl rfl rfl (fun i _ => cell1 ⟨rfl, rfl⟩), trivial⟩
 repeat (first
  | refine uA ?_
  | (refine rG 11 ?_
     refine qr5 AList.makeFn ?_
     refine kC ?_
     refine aB ?_)
  | (refine AWp.draw (id := 12) mixed ?_; (iterate 3 refine kA ?_); refine qr8eo2 (aP (k := k) tyOk) ?_; refine qr7 (AList.fieldPl tyOk) ?_; refine AList.load1lE tyOk (q1) rfl rfl rfl rfl rfl oM ?_; refine kF ?_; refine qr4 AList.makeFs ?_; refine AList.callM [19, 60, 61, 62] [] [] (lsH s t m n w) [] (lsH s t m n (A', w.2)) [] [cxB 60, ctB 61 62 A'.length w.2.length s.mo t.mo m n, cwB n (colC s A'), cwB n (colC t w.2)] [] rfl rfl (FnV.fn 1 (fun i => [CV.pt 19 1 0 0].getD i .any) rfl rfl) rfl Try.func51 rfl (by kernel_rfl) (lend_bx rfl (.b (.pt 60 1 8 0 0 rfl)) (ct_lend 2 3 hn0 (h := trivial))) (trivial) rfl (by exact ⟨.c (.b (.imm _ rfl)), .c (.b (.imm _ rfl)), .c (.b (.imm _ rfl)), .c (.b (.pt 19 0 1 0 0 rfl)), trivial⟩) (.c (.imm _ rfl)) (back_bx (.b (.pt 1 60 8 0 0 rfl)) (ct_back 2 3 (h := trivial))) (trivial) (lA) ?_; refine qr8 (aX tyOk) ?_; refine qr5 (aM tyOk) ?_; refine kI ?_; refine aB ⟨by kernel_rfl, ?_⟩))
 repeat (first
  | refine uB ?_
  | (refine AWp.draw (id := 13) mixed ?_; (iterate 3 refine kA ?_); refine qr8eo2 (aP (k := k) tyOk) ?_; refine qr7 (AList.fieldPl tyOk) ?_; refine AList.load1lE tyOk (q2) rfl rfl rfl rfl rfl oM ?_; refine kF ?_; refine qr4 AList.makeFs ?_; refine AList.callM [19, 60, 61, 62] [] [] (lsH s t m n (A', w.2)) [] (lsH s t m n (A', B')) [] [cxB 60, ctB 61 62 A'.length B'.length s.mo t.mo m n, cwB n (colC s A'), cwB n (colC t B')] [] rfl rfl (FnV.fn 1 (fun i => [CV.pt 19 1 0 0].getD i .any) rfl rfl) rfl Try.func51 rfl (by kernel_rfl) (lend_bx rfl (.b (.pt 60 1 8 0 0 rfl)) (ct_lend 2 3 hn0 (h := trivial))) (trivial) rfl (by exact ⟨.c (.b (.imm _ rfl)), .c (.b (.imm _ rfl)), .c (.b (.imm _ rfl)), .c (.b (.pt 19 0 1 0 0 rfl)), trivial⟩) (.c (.imm _ rfl)) (back_bx (.b (.pt 1 60 8 0 0 rfl)) (ct_back 2 3 (h := trivial))) (trivial) (lB) ?_; refine kD ?_; refine kI ?_; refine aB ⟨by kernel_rfl, ?_⟩))
 repeat (first
  | refine uB ?_
  | refine uD ?_
  | (refine rG 14 ?_
     refine kA ?_
     refine kF ?_
     refine qr11 (AList.litSl tyOk) ?_
     refine AList.appL tyOk rfl rfl rfl rfl rfl rfl rfl rfl rfl rfl oM oM ?_
     refine kC ?_
     refine aB ?_)
  | (refine rG 15 ?_
     refine qr4w2 aL ?_
     refine kA ?_
     refine aB ?_))
 refine ⟨k + 1, hkl, Wk.mk [(5, some 5), (6, some 6), (7, some 7), (8, some 8), (30, some 85)] rfl rfl rfl ?_ ?_, by omega⟩
 ·exact allT
 ·refine ⟨hSm, hSm, hSm, hSm, HeapOk.row rfl rfl hlen ?_, trivial⟩
  rw [hSk]
  exact row_snoc (c := wtC) (z := wtZ) (shrK k) (A', B') wtC_imm rfl
end Go.Proofs.Ytekkldgmjdllbaa
end
