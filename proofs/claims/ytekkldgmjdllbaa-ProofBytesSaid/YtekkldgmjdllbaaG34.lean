/- Parts of the proof: A25g. -/
import Derived.Test.YtekkldgmjdllbaaG32
set_option linter.unusedSimpArgs false
set_option linter.unusedVariables false
section
namespace Go.Proofs.Ytekkldgmjdllbaa
open Go.RowKit Go.Flow Go.AV Go.Plain
def PrOk (p : List Wt) : Prop := p.length ≤ 1000000 ∧ ∀ k, k < p.length → (p.getD k wtZ).1.length ≤ 1000000 ∧ (p.getD k wtZ).2.length ≤ 1000000
abbrev wpC (p : List Wt) : CV := .ls p.length 2 (rowF wtC wtZ p)
def prvV (l : List Int) (j : Nat) : Int := if j = 0 then -1 else l.getD (j - 1) 0
theorem okAt_prv (s : Sd) (l : List Int) (j : Nat) : okAt s l j = (aloB s (l.getD j 0) && decide (prvV l j < l.getD j 0)) := by
 unfold okAt prvV
 by_cases h : j = 0
 ·rw [if_pos h, decide_eq_true h, Bool.true_or, Bool.and_true]
  by_cases h0 : 0 ≤ l.getD j 0
  ·rw [decide_eq_true (by omega), Bool.and_true]
  ·have : aloB s (l.getD j 0) = false := by unfold aloB; rw [decide_eq_false h0, Bool.false_and]
   rw [this, Bool.false_and]
 ·rw [if_neg h, decide_eq_false h, Bool.false_or]
theorem prv_succ (l : List Int) (j : Nat) : prvV l (j + 1) = l.getD j 0 := by
 unfold prvV
 rw [if_neg (by omega), Nat.add_sub_cancel]
theorem prfB_no {a b : Bp} {x y : Bg} {p : List Wt} {k : Nat} (hk : k < (shL (shN x y)).length) (h : wtOk a b x y ((shL (shN x y)).getD k mvZ) (p.getD k wtZ) = false) : prfB a b x y p = false := by
 unfold prfB
 rw [List.all_eq_false]
 exact ⟨k, List.mem_range.2 hk, by rw [h]; simp⟩
theorem prfB_yes {a b : Bp} {x y : Bg} {p : List Wt} (h : ∀ k, k < (shL (shN x y)).length → wtOk a b x y ((shL (shN x y)).getD k mvZ) (p.getD k wtZ) = true) : prfB a b x y p = true :=
 List.all_eq_true.2 fun k hk => h k (List.mem_range.1 hk)
set_option maxHeartbeats 4000000 in
set_option maxRecDepth 100000 in
theorem pCheck_A (a b : Bp) (x y : Bg) (p : List Wt) (hp : PrOk p) : ACalls Try.prog 14 [.ag (bpC a), .ag (bpC b), .ag (bgC x), .ag (bgC y), .c (wpC p)] (.c (iC (chkV a b x y p))) := by
 have hsz := psizes_A a b
 by_cases h0 : szV a b = 0
 rotate_left
 ·rw [show chkV a b x y p = szV a b from if_neg h0]
  refine acalls_at Try.func14 rfl rfl Try.ntmps14 rfl ?_
  repeat (first
   | refine uA ?_
   | refine uB ?_
   | refine AWp.ret ?_
   | refine thenA_r ?_
   | refine kT ?_
   | refine AWp.scope (fun _ _ h => h) ?_
   | (refine rG 0 ?_
      (iterate 4 refine qr5 aQ ?_)
      refine kC ?_
      refine aB ?_)
   | (refine rG 1 ?_
      (iterate 2 refine kF ?_)
      refine aH rfl rfl rfl rfl Try.func43 rfl (by kernel_rfl) (hsz) ?_
      refine kC ?_
      refine aB ?_)
   | (refine rG 2 ?_
      refine kA ?_
      refine qr5t aK ?_
      refine aB ?_)
   | (refine rG 3 ?_
      refine kA ?_
      refine kC ?_
      refine aB ?_))
  refine ⟨mkSt 121 [(10, .c (iC (szV a b)))] [] [], [], Wk.mk [] rfl rfl rfl ?_ trivial, rfl, rfl, aR1⟩
  exact allT
 rw [h0] at hsz
 have hcm := (szV_ok a b).1 h0
 obtain ⟨ha, hb, hW, hH⟩ := hcm
 obtain ⟨w1, w2, w3, w4, w5⟩ := okB ha
 have hsh := aShifts_A x y
 have hchk : chkV a b x y p = if (shL (shN x y)).length = p.length ∧ prfB a b x y p = true then 0 else 62 := if_pos h0
 by_cases hl : (shL (shN x y)).length = p.length
 rotate_left
 ·rw [hchk, if_neg fun h => hl h.1]
  have hl' : ¬ ((shL (shN x y)).length : Int) = p.length := by omega
  refine acalls_at Try.func14 rfl rfl Try.ntmps14 rfl ?_
  repeat (first
   | refine uA ?_
   | refine uB ?_
   | refine uG ?_
   | refine AWp.ret ?_
   | refine thenA_r ?_
   | refine kT ?_
   | refine kU ?_
   | refine AWp.scope (fun _ _ h => h) ?_
   | (refine rG 0 ?_
      (iterate 4 refine qr5 aQ ?_)
      refine kC ?_
      refine aB ?_)
   | (refine rG 1 ?_
      (iterate 2 refine kF ?_)
      refine aH rfl rfl rfl rfl Try.func43 rfl (by kernel_rfl) (hsz) ?_
      refine kC ?_
      refine aB ?_)
   | (refine rG 2 ?_
      refine kA ?_
      refine qr5 aW ?_
      refine aB ?_)
   | (refine rG 4 ?_
      (iterate 2 refine kF ?_)
      refine aH rfl rfl rfl rfl Try.func22 rfl (by kernel_rfl) (hsh) ?_
      refine kC ?_
      refine aB ?_)
   | (refine rG 5 ?_
      refine kA ?_
      refine qr5 (aO tyOk) ?_
      refine kA ?_
      refine qr5 (aO tyOk) ?_
      refine qr5t aK ?_
      refine aB ?_)
   | (refine rG 6 ?_
      refine kC ?_
      refine aB ?_))
  refine ⟨mkSt 121 [(10, .c (iC (62)))] [] [], [], Wk.mk [] rfl rfl rfl ?_ trivial, rfl, rfl, aR1⟩
  exact allT
 have hl' : ((shL (shN x y)).length : Int) = p.length := by omega
 have hwd := pwidth_A a x y ⟨w1, w2⟩
 have hbad : ∀ k, k < (shL (shN x y)).length → wtOk a b x y ((shL (shN x y)).getD k mvZ) (p.getD k wtZ) = false → chkV a b x y p = 62 := fun k hk h => by
  rw [hchk, if_neg fun g => by rw [prfB_no hk h] at g; exact absurd g.2 (by decide)]
 have hgood : (∀ k, k < (shL (shN x y)).length → wtOk a b x y ((shL (shN x y)).getD k mvZ) (p.getD k wtZ) = true) → chkV a b x y p = 0 := fun h => by
  rw [hchk, if_pos ⟨hl, prfB_yes h⟩]
 have hsb := fun k hk => shN_bd (x := x) (y := y) (k := k) hk
 have hLl : (shL (shN x y)).length ≤ 1000000 := by rw [hl]; exact hp.1
 have hst := stN_bd x y w1
 obtain ⟨n, hn⟩ := Int.eq_ofNat_of_zero_le (show 0 ≤ a.W + 8 by omega)
 obtain ⟨m, hm⟩ := Int.eq_ofNat_of_zero_le hst.1
 have hM : alM a.W x y + m = n + 1 := by unfold alM; omega
 obtain ⟨r, hr⟩ : ∃ r, chkV a b x y p = r := ⟨_, rfl⟩
 rw [hr] at hbad hgood ⊢
 clear hchk
 obtain ⟨L, hL⟩ : ∃ L, shL (shN x y) = L := ⟨_, rfl⟩
 rw [hL] at hsh hl hl' hbad hgood hsb hLl
 refine acalls_at Try.func14 rfl rfl Try.ntmps14 rfl ?_
 repeat (first
  | refine uA ?_
  | refine uB ?_
  | refine uC ?_
  | refine uG ?_
  | refine kU ?_
  | refine AWp.scope (fun _ _ h => h) ?_
  | refine AWp.label ?_
  | (refine rG 0 ?_
     (iterate 4 refine qr5 aQ ?_)
     refine kC ?_
     refine aB ?_)
  | (refine rG 1 ?_
     (iterate 2 refine kF ?_)
     refine aH rfl rfl rfl rfl Try.func43 rfl (by kernel_rfl) (hsz) ?_
     refine kC ?_
     refine aB ?_)
  | (refine rG 2 ?_
     refine kA ?_
     refine qr5 aW ?_
     refine aB ?_)
  | (refine rG 4 ?_
     (iterate 2 refine kF ?_)
     refine aH rfl rfl rfl rfl Try.func22 rfl (by kernel_rfl) (hsh) ?_
     refine kC ?_
     refine aB ?_)
  | (refine rG 5 ?_
     refine kA ?_
     refine qr5 (aO tyOk) ?_
     refine kA ?_
     refine qr5 (aO tyOk) ?_
     refine qr5f aJ ?_
     refine aB ?_)
  | (refine rG 7 ?_
     (iterate 3 refine kF ?_)
     refine aH rfl rfl rfl rfl Try.func44 rfl (by kernel_rfl) (hwd) ?_
     refine kC ?_
     refine aB ?_)
  | (refine rG 8 ?_
     refine kC ?_
     refine aB ?_)
  | (refine rG 9 ?_
     refine kA ?_
     refine qr5 (aO tyOk) ?_
     refine kA ?_
     refine aB ?_))
 refine AWp.round (fun k : Nat =>
  mkSt 121 [(4, .c (wpC p)), (5, .c (.pt 5 3 0 0)), (6, .c (.pt 6 3 0 0)), (7, .c (.pt 7 4 0 0)), (8, .c (.pt 8 4 0 0)), (13, .c (iC (stN a.W x y))), (14, .c (bC false)), (42, .c (.ls L.length 2 (rowF mvC mvZ L))), (43, .c (iC L.length)), (44, .c (iC (k : Nat))) ] [(5, ⟨false, 1, 3, 31, lF (bpC a)⟩), (6, ⟨false, 1, 3, 31, lF (bpC b)⟩), (7, ⟨false, 1, 4, 33, lF (bgC x)⟩), (8, ⟨false, 1, 4, 33, lF (bgC y)⟩) ] [5, 6, 7, 8 ]
  ) (fun k => k ≤ L.length ∧ ∀ j, j < k → wtOk a b x y (L.getD j mvZ) (p.getD j wtZ) = true) (fun k => L.length - k) 0 ⟨Nat.zero_le _, fun _ h => absurd h (Nat.not_lt_zero _)⟩ ?_ (fun k hk => ?_)
 ·refine Wk.mk [(5, some 5), (6, some 6), (7, some 7), (8, some 8)] rfl rfl rfl ?_ ?_
  ·exact allT
  ·exact allH
 obtain ⟨hk, hall⟩ := hk
 by_cases hkl : k < L.length
 rotate_left
 ·have hkl' : ¬ (k : Int) < L.length := by omega
  rw [hgood fun j hj => hall j (by omega)]
  repeat (first
   | refine uA ?_
   | refine uB ?_
   | refine uG ?_
   | refine uH ?_
   | refine AWp.ret ?_
   | refine kU ?_
   | (refine rG 10 ?_
      refine qr5f aJ ?_
      refine aB ?_)
   | (refine rG 28 ?_
      refine kA ?_
      refine aB ?_)
   | (refine rG 30 ?_
      refine kC ?_
      refine aB ?_))
  refine ⟨mkSt 121 [(10, .c (iC (0)))] [] [], [], Wk.mk [] rfl rfl rfl ?_ trivial, rfl, rfl, aR1⟩
  exact allT
 have hkl' : (k : Int) < L.length := by omega
 have hd := hsb k hkl
 have hside := psides_A a b x y (L.getD k mvZ) hd
 have hbadk := hbad k hkl
 obtain ⟨hl1, hl2⟩ := hp.2 k (by omega)
 have hwt : wtOk a b x y (L.getD k mvZ) (p.getD k wtZ) = (okL (sd1 a b x y (L.getD k mvZ)) (p.getD k wtZ).1 && (okL (sd2 a b x y (L.getD k mvZ)) (p.getD k wtZ).2 && decB (sd1 a b x y (L.getD k mvZ)) (sd2 a b x y (L.getD k mvZ)) (stN a.W x y).toNat (alM a.W x y) (p.getD k wtZ).1 (p.getD k wtZ).2)) := rfl
 have hp1 := fun v => palone_A (sd1 a b x y (L.getD k mvZ)) v ha hb hd.1 hd.2
 have hp2 := fun v => palone_A (sd2 a b x y (L.getD k mvZ)) v hb ha (by show -4 ≤ -(L.getD k mvZ).1 ∧ -(L.getD k mvZ).1 ≤ 4; omega) (by show -4 ≤ -(L.getD k mvZ).2 ∧ -(L.getD k mvZ).2 ≤ 4; omega)
 have cm := counted_M (sd1 a b x y (L.getD k mvZ)) (sd2 a b x y (L.getD k mvZ)) (p.getD k wtZ) (stN a.W x y) n hn (by show b.W + 8 = _; rw [← hW]; exact hn) (by omega) ha hb (by show -4 ≤ (0 : Int) ∧ (0 : Int) ≤ 4; omega) hd.1
 have dm := dec_M (sd1 a b x y (L.getD k mvZ)) (sd2 a b x y (L.getD k mvZ)) n m (alM a.W x y) (p.getD k wtZ).1 (p.getD k wtZ).2 (by omega) (by omega) (by omega) (by omega) hM
 have ln1 := fun h => okL_len (s := sd1 a b x y (L.getD k mvZ)) (l := (p.getD k wtZ).1) h
 have ln2 := fun h => okL_len (s := sd2 a b x y (L.getD k mvZ)) (l := (p.getD k wtZ).2) h
 rw [show (sd1 a b x y (L.getD k mvZ)).o.n = a.n from rfl] at ln1
 rw [show (sd2 a b x y (L.getD k mvZ)).o.n = b.n from rfl] at ln2
 have b91 := n_bd ha
 have b92 := n_bd hb
 rw [show (stN a.W x y).toNat = m by omega] at hwt
 rw [← hm] at dm
 obtain ⟨w, hw⟩ : ∃ w, p.getD k wtZ = w := ⟨_, rfl⟩
 have e0 : rowF wtC wtZ p k 0 = liV w.1 := by rw [← hw]; rfl
 have e1 : rowF wtC wtZ p k 1 = liV w.2 := by rw [← hw]; rfl
 rw [hw] at hbadk hl1 hl2 hwt cm dm ln1 ln2
 obtain ⟨s, hs⟩ : ∃ s, sd1 a b x y (L.getD k mvZ) = s := ⟨_, rfl⟩
 obtain ⟨t, ht⟩ : ∃ t, sd2 a b x y (L.getD k mvZ) = t := ⟨_, rfl⟩
 rw [hs] at hwt hp1 cm dm ln1
 rw [ht] at hwt hp2 cm dm ln2
 rw [hs, ht] at hside
 repeat (first
  | refine uA ?_
  | refine uC ?_
  | refine uG ?_
  | refine kT ?_
  | (refine rG 10 ?_
     refine qr5t aK ?_
     refine aB ?_)
  | (refine rG 11 ?_
     refine kA ?_
     refine qr8eo2 (aP (k := k) tyOk) ?_
     refine qr5o (aT tyOk) ?_
     refine qr5 (aM tyOk) ?_
     refine kC ?_
     refine kI ?_
     refine aB ?_))
 refine AWp.weak (S' :=
  mkSt 121 [(4, .c (wpC p)), (5, .c (.pt 5 3 0 0)), (6, .c (.pt 6 3 0 0)), (7, .c (.pt 7 4 0 0)), (8, .c (.pt 8 4 0 0)), (13, .c (iC (stN a.W x y))), (14, .c (bC false)), (42, .c (.ls L.length 2 (rowF mvC mvZ L))), (43, .c (iC L.length)), (44, .c (iC (k : Nat))) , (15, .c (iC (k : Nat))), (16, .c (.pt 16 2 0 0))] [(5, ⟨false, 1, 3, 31, lF (bpC a)⟩), (6, ⟨false, 1, 3, 31, lF (bpC b)⟩), (7, ⟨false, 1, 4, 33, lF (bgC x)⟩), (8, ⟨false, 1, 4, 33, lF (bgC y)⟩) , (16, ⟨false, 1, 2, 59, lF (mvC (L.getD k mvZ))⟩)] [5, 6, 7, 8 , 16]
  ) (Wk.mk [(5, some 5), (6, some 6), (7, some 7), (8, some 8), (16, some 16)] rfl rfl rfl ?_ ?_) ?_
 ·exact allT
 ·exact allH
 repeat (first
  | refine uA ?_
  | refine uB ?_
  | refine uC ?_
  | (refine rG 12 ?_
     (iterate 5 refine kF ?_)
     refine aH rfl rfl rfl rfl Try.func45 rfl (by kernel_rfl) (hside) ?_
     refine kA ?_
     (iterate 2 refine qr4 aN ?_)
     (iterate 2 refine qr5 (aM tyOk) ?_)
     (iterate 2 refine kI ?_)
     refine aB ?_)
  | (refine AWp.draw (id := 13) mixed ?_; (iterate 2 refine kA ?_); refine qr8eo2 (aP (k := k) tyOk) ?_; refine qr7 (AList.fieldPl tyOk) ?_; refine AList.load1lE tyOk (e0) rfl rfl rfl rfl rfl oM ?_; (iterate 2 refine kA ?_); refine qr8eo2 (aP (k := k) tyOk) ?_; refine qr7 (AList.fieldPl tyOk) ?_; refine AList.load1lE tyOk (e1) rfl rfl rfl rfl rfl oM ?_; refine qr11 (AList.litSl tyOk) ?_; refine qr5 (aO tyOk) ?_; refine kA ?_; refine aB ⟨by kernel_rfl, ?_⟩))
 refine AWp.round (fun i : Nat =>
  mkSt 121 [(4, .c (wpC p)), (5, .c (.pt 5 3 0 0)), (6, .c (.pt 6 3 0 0)), (7, .c (.pt 7 4 0 0)), (8, .c (.pt 8 4 0 0)), (13, .c (iC (stN a.W x y))), (14, .c (bC false)), (42, .c (.ls L.length 2 (rowF mvC mvZ L))), (43, .c (iC L.length)), (44, .c (iC (k : Nat))) , (15, .c (iC (k : Nat))), (17, .c (.pt 17 10 0 0)), (18, .c (.pt 18 10 0 0)), (68, .c (.ls 2 1 (sF [liV w.1, liV w.2] 1))), (69, .c (iC 2)), (70, .c (iC (i : Nat)))] [(5, ⟨false, 1, 3, 31, lF (bpC a)⟩), (6, ⟨false, 1, 3, 31, lF (bpC b)⟩), (7, ⟨false, 1, 4, 33, lF (bgC x)⟩), (8, ⟨false, 1, 4, 33, lF (bgC y)⟩) , (17, ⟨false, 1, 10, 97, lF (sdC s)⟩), (18, ⟨false, 1, 10, 97, lF (sdC t)⟩)] [5, 6, 7, 8 , 17, 18]
  ) (fun i => i ≤ 2 ∧ (1 ≤ i → okL s w.1 = true) ∧ (2 ≤ i → okL t w.2 = true)) (fun i => 2 - i) 0 ⟨by omega, fun h => absurd h (by omega), fun h => absurd h (by omega)⟩ ?_ (fun i hi => ?_)
 ·refine Wk.mk [(5, some 5), (6, some 6), (7, some 7), (8, some 8), (17, some 17), (18, some 18)] rfl rfl rfl ?_ ?_
  ·exact allT
  ·rw [← hs, ← ht]
   exact allH
 obtain ⟨hi2, hi1, hi3⟩ := hi
 rcases (show i = 0 ∨ i = 1 ∨ i = 2 by omega) with rfl | rfl | rfl
 ·repeat (first
   | refine uA ?_
   | refine uB ?_
   | refine uC ?_
   | refine uG ?_
   | refine kT ?_
   | (refine rG 14 ?_
      refine qr5t aK ?_
      refine aB ?_)
   | (refine rG 15 ?_
      refine kA ?_
      refine qr8eo2 (aP (k := 0) tyOk) ?_
      refine qr5o (aV tyOk) ?_
      (iterate 2 refine kC ?_)
      refine aB ?_)
   | (refine rG 16 ?_
      refine kC ?_
      refine aB ?_)
   | (refine rG 17 ?_
      refine kA ?_
      refine qr5 (aO tyOk) ?_
      refine kA ?_
      refine aB ?_))
  refine AWp.round (fun j : Nat =>
   mkSt 121 [(4, .c (wpC p)), (5, .c (.pt 5 3 0 0)), (6, .c (.pt 6 3 0 0)), (7, .c (.pt 7 4 0 0)), (8, .c (.pt 8 4 0 0)), (13, .c (iC (stN a.W x y))), (14, .c (bC false)), (42, .c (.ls L.length 2 (rowF mvC mvZ L))), (43, .c (iC L.length)), (44, .c (iC (k : Nat))) , (15, .c (iC (k : Nat))), (17, .c (.pt 17 10 0 0)), (18, .c (.pt 18 10 0 0)), (68, .c (.ls 2 1 (sF [liV w.1, liV w.2] 1))), (69, .c (iC 2)), (70, .c (iC 0)) , (19, .c (iC 0)), (21, .c (iC (prvV (w.1) j))), (75, .c (liV (w.1))), (76, .c (iC (w.1).length)), (77, .c (iC (j : Nat)))] [(5, ⟨false, 1, 3, 31, lF (bpC a)⟩), (6, ⟨false, 1, 3, 31, lF (bpC b)⟩), (7, ⟨false, 1, 4, 33, lF (bgC x)⟩), (8, ⟨false, 1, 4, 33, lF (bgC y)⟩) , (17, ⟨false, 1, 10, 97, lF (sdC s)⟩), (18, ⟨false, 1, 10, 97, lF (sdC t)⟩)] [5, 6, 7, 8 , 17, 18]
   ) (fun j => j ≤ (w.1).length ∧ ∀ i, i < j → okAt s (w.1) i = true) (fun j => (w.1).length - j) 0 ⟨Nat.zero_le _, fun _ h => absurd h (Nat.not_lt_zero _)⟩ ?_ (fun j hj => ?_)
  ·refine Wk.mk [(5, some 5), (6, some 6), (7, some 7), (8, some 8), (17, some 17), (18, some 18)] rfl rfl rfl ?_ ?_
   ·rw [show prvV (w.1) 0 = -1 from rfl]
    exact allT
   ·exact allH
  obtain ⟨hj, hok⟩ := hj
  have hjl : ∀ h : ¬ j < (w.1).length, okL s (w.1) = true := fun h => okL_yes fun i hi => hok i (by omega)
  have hbad2 : j < (w.1).length → okAt s (w.1) j = false → okL s (w.1) = false := fun h => okL_no h
  have hop := okAt_prv s (w.1) j
  have hps := prv_succ (w.1) j
  by_cases hjn : j < w.1.length
  ·have hjn' : (j : Int) < w.1.length := by omega
   have hbad2 := hbad2 hjn
   obtain ⟨u, hu⟩ : ∃ u, prvV w.1 j = u := ⟨_, rfl⟩
   obtain ⟨v, hv⟩ : ∃ v, w.1.getD j 0 = v := ⟨_, rfl⟩
   have ev : iF (fun k => w.1.getD k 0) j 0 = iC v := congrArg (fun z => iC z) hv
   rw [hv] at hop hps
   rw [hu] at hop
   rw [hu]
   by_cases g1 : u < v
   ·have g1' : ¬ v ≤ u := by omega
    have hpv := hp1 v
    rw [decide_eq_true g1, Bool.and_true] at hop
    cases hav : aloB s v with
    | true =>
      rw [hav] at hop hpv
      repeat (first
       | refine uA ?_
       | refine uB ?_
       | refine uC ?_
       | refine uG ?_
       | refine uD ?_
       | refine kT ?_
       | refine kU ?_
       | (refine rG 18 ?_
          refine qr5t aK ?_
          refine aB ?_)
       | (refine rG 19 ?_
          refine qr8eo2 (aP (k := j) tyOk) ?_
          refine AList.load1lE tyOk (ev) rfl rfl rfl rfl rfl oM ?_
          refine kC ?_
          refine aB ?_)
       | (refine rG 20 ?_
          (iterate 2 refine kA ?_)
          refine qr5f aJ ?_
          (iterate 2 refine kA ?_)
          refine qr5 aW ?_
          refine kA ?_
          refine kF ?_
          refine kA ?_
          refine aH rfl rfl rfl rfl Try.func46 rfl (by kernel_rfl) (hpv) ?_
          refine qr3 AList.notB ?_
          refine qr4 aS ?_
          refine qr4 aR ?_
          (iterate 2 refine kA ?_)
          refine qr5f aJ ?_
          refine kA ?_
          (iterate 4 refine qr2 aG ?_)
          (iterate 2 refine qr4 aR ?_)
          refine kC ?_
          refine aB ?_)
       | (refine rG 21 ?_
          refine kA ?_
          refine aB ?_)
       | (refine rG 22 ?_
          refine kA ?_
          refine kC ?_
          refine aB ?_)
       | (refine rG 23 ?_
          refine qr4w2 aL ?_
          refine kA ?_
          refine aB ?_))
      refine ⟨j + 1, ⟨hjn, fun i hi => ?_⟩, Wk.mk [(5, some 5), (6, some 6), (7, some 7), (8, some 8), (17, some 17), (18, some 18)] rfl rfl rfl ?_ ?_, by omega⟩
      ·by_cases e : i = j
       ·rw [e]; exact hop
       ·exact hok i (by omega)
      ·rw [hps]
       exact allT
      ·exact allH
    | false =>
      rw [hav] at hop hpv
      rw [hbadk (by rw [hwt, hbad2 hop, Bool.false_and])]
      repeat (first
       | refine uA ?_
       | refine uB ?_
       | refine uC ?_
       | refine uG ?_
       | refine uH ?_
       | refine AWp.ret ?_
       | refine thenA_r ?_
       | refine kT ?_
       | (refine rG 18 ?_
          refine qr5t aK ?_
          refine aB ?_)
       | (refine rG 19 ?_
          refine qr8eo2 (aP (k := j) tyOk) ?_
          refine AList.load1lE tyOk (ev) rfl rfl rfl rfl rfl oM ?_
          refine kC ?_
          refine aB ?_)
       | (refine rG 20 ?_
          (iterate 2 refine kA ?_)
          refine qr5f aJ ?_
          (iterate 2 refine kA ?_)
          refine qr5 aW ?_
          refine kA ?_
          refine kF ?_
          refine kA ?_
          refine aH rfl rfl rfl rfl Try.func46 rfl (by kernel_rfl) (hpv) ?_
          refine qr3 AList.notB ?_
          refine qr4 aS ?_
          refine qr4 aR ?_
          refine kA ?_
          (iterate 8 refine qr2 aG ?_)
          refine qr4 aS ?_
          refine kC ?_
          refine aB ?_)
       | (refine rG 21 ?_
          refine kA ?_
          refine aB ?_)
       | (refine rG 28 ?_
          refine kA ?_
          refine aB ?_)
       | (refine rG 29 ?_
          refine kC ?_
          refine aB ?_))
      refine ⟨mkSt 121 [(10, .c (iC (62)))] [] [], [], Wk.mk [] rfl rfl rfl ?_ trivial, rfl, rfl, aR1⟩
      exact allT
   ·have g1' : v ≤ u := by omega
    rw [decide_eq_false g1, Bool.and_false] at hop
    rw [hbadk (by rw [hwt, hbad2 hop, Bool.false_and])]
    repeat (first
     | refine uA ?_
     | refine uB ?_
     | refine uC ?_
     | refine uG ?_
     | refine uH ?_
     | refine AWp.ret ?_
     | refine thenA_r ?_
     | refine kT ?_
     | (refine rG 18 ?_
        refine qr5t aK ?_
        refine aB ?_)
     | (refine rG 19 ?_
        refine qr8eo2 (aP (k := j) tyOk) ?_
        refine AList.load1lE tyOk (ev) rfl rfl rfl rfl rfl oM ?_
        refine kC ?_
        refine aB ?_)
     | (refine rG 20 ?_
        (iterate 2 refine kA ?_)
        refine qr5t aK ?_
        refine kA ?_
        (iterate 8 refine qr2 aG ?_)
        refine qr4 aS ?_
        refine kA ?_
        (iterate 8 refine qr2 aG ?_)
        refine qr4 aS ?_
        refine kC ?_
        refine aB ?_)
     | (refine rG 21 ?_
        refine kA ?_
        refine aB ?_)
     | (refine rG 28 ?_
        refine kA ?_
        refine aB ?_)
     | (refine rG 29 ?_
        refine kC ?_
        refine aB ?_))
    refine ⟨mkSt 121 [(10, .c (iC (62)))] [] [], [], Wk.mk [] rfl rfl rfl ?_ trivial, rfl, rfl, aR1⟩
    exact allT
  ·have hjn' : ¬ (j : Int) < w.1.length := by omega
   have hA := hjl hjn
   repeat (first
    | refine uA ?_
    | refine uB ?_
    | refine uH ?_
    | refine thenA_e ?_
    | refine uD ?_
    | refine uF ?_
    | refine kU ?_
    | (refine rG 18 ?_
       refine qr5f aJ ?_
       refine aB ?_)
    | (refine rG 24 ?_
       refine qr4w2 aL ?_
       refine kA ?_
       refine aB ?_))
   refine ⟨1, ⟨by omega, fun _ => hA, fun h => absurd h (by omega)⟩, Wk.mk [(5, some 5), (6, some 6), (7, some 7), (8, some 8), (17, some 17), (18, some 18)] rfl rfl rfl ?_ ?_, by omega⟩
   ·exact allT
   ·exact allH
 ·have hA := hi1 (by omega)
  rw [hA, Bool.true_and] at hwt
  repeat (first
   | refine uA ?_
   | refine uB ?_
   | refine uC ?_
   | refine uG ?_
   | refine kT ?_
   | (refine rG 14 ?_
      refine qr5t aK ?_
      refine aB ?_)
   | (refine rG 15 ?_
      refine kA ?_
      refine qr8eo2 (aP (k := 1) tyOk) ?_
      refine qr5o (aV tyOk) ?_
      (iterate 2 refine kC ?_)
      refine aB ?_)
   | (refine rG 16 ?_
      refine kC ?_
      refine aB ?_)
   | (refine rG 17 ?_
      refine kA ?_
      refine qr5 (aO tyOk) ?_
      refine kA ?_
      refine aB ?_))
  refine AWp.round (fun j : Nat =>
   mkSt 121 [(4, .c (wpC p)), (5, .c (.pt 5 3 0 0)), (6, .c (.pt 6 3 0 0)), (7, .c (.pt 7 4 0 0)), (8, .c (.pt 8 4 0 0)), (13, .c (iC (stN a.W x y))), (14, .c (bC false)), (42, .c (.ls L.length 2 (rowF mvC mvZ L))), (43, .c (iC L.length)), (44, .c (iC (k : Nat))) , (15, .c (iC (k : Nat))), (17, .c (.pt 17 10 0 0)), (18, .c (.pt 18 10 0 0)), (68, .c (.ls 2 1 (sF [liV w.1, liV w.2] 1))), (69, .c (iC 2)), (70, .c (iC 1)) , (19, .c (iC 1)), (21, .c (iC (prvV (w.2) j))), (75, .c (liV (w.2))), (76, .c (iC (w.2).length)), (77, .c (iC (j : Nat)))] [(5, ⟨false, 1, 3, 31, lF (bpC a)⟩), (6, ⟨false, 1, 3, 31, lF (bpC b)⟩), (7, ⟨false, 1, 4, 33, lF (bgC x)⟩), (8, ⟨false, 1, 4, 33, lF (bgC y)⟩) , (17, ⟨false, 1, 10, 97, lF (sdC s)⟩), (18, ⟨false, 1, 10, 97, lF (sdC t)⟩)] [5, 6, 7, 8 , 17, 18]
   ) (fun j => j ≤ (w.2).length ∧ ∀ i, i < j → okAt t (w.2) i = true) (fun j => (w.2).length - j) 0 ⟨Nat.zero_le _, fun _ h => absurd h (Nat.not_lt_zero _)⟩ ?_ (fun j hj => ?_)
  ·refine Wk.mk [(5, some 5), (6, some 6), (7, some 7), (8, some 8), (17, some 17), (18, some 18)] rfl rfl rfl ?_ ?_
   ·rw [show prvV (w.2) 0 = -1 from rfl]
    exact allT
   ·exact allH
  obtain ⟨hj, hok⟩ := hj
  have hjl : ∀ h : ¬ j < (w.2).length, okL t (w.2) = true := fun h => okL_yes fun i hi => hok i (by omega)
  have hbad2 : j < (w.2).length → okAt t (w.2) j = false → okL t (w.2) = false := fun h => okL_no h
  have hop := okAt_prv t (w.2) j
  have hps := prv_succ (w.2) j
  by_cases hjn : j < w.2.length
  ·have hjn' : (j : Int) < w.2.length := by omega
   have hbad2 := hbad2 hjn
   obtain ⟨u, hu⟩ : ∃ u, prvV w.2 j = u := ⟨_, rfl⟩
   obtain ⟨v, hv⟩ : ∃ v, w.2.getD j 0 = v := ⟨_, rfl⟩
   have ev : iF (fun k => w.2.getD k 0) j 0 = iC v := congrArg (fun z => iC z) hv
   rw [hv] at hop hps
   rw [hu] at hop
   rw [hu]
   by_cases g1 : u < v
   ·have g1' : ¬ v ≤ u := by omega
    have hpv := hp2 v
    rw [decide_eq_true g1, Bool.and_true] at hop
    cases hav : aloB t v with
    | true =>
      rw [hav] at hop hpv
      repeat (first
       | refine uA ?_
       | refine uB ?_
       | refine uC ?_
       | refine uG ?_
       | refine uD ?_
       | refine kT ?_
       | refine kU ?_
       | (refine rG 18 ?_
          refine qr5t aK ?_
          refine aB ?_)
       | (refine rG 19 ?_
          refine qr8eo2 (aP (k := j) tyOk) ?_
          refine AList.load1lE tyOk (ev) rfl rfl rfl rfl rfl oM ?_
          refine kC ?_
          refine aB ?_)
       | (refine rG 20 ?_
          (iterate 2 refine kA ?_)
          refine qr5f aJ ?_
          (iterate 2 refine kA ?_)
          refine qr5f aJ ?_
          refine kA ?_
          (iterate 4 refine qr2 aG ?_)
          (iterate 2 refine qr4 aR ?_)
          (iterate 2 refine kA ?_)
          refine qr5 aW ?_
          refine kA ?_
          refine kF ?_
          refine kA ?_
          refine aH rfl rfl rfl rfl Try.func46 rfl (by kernel_rfl) (hpv) ?_
          refine qr3 AList.notB ?_
          refine qr4 aS ?_
          refine qr4 aR ?_
          refine kC ?_
          refine aB ?_)
       | (refine rG 21 ?_
          refine kA ?_
          refine aB ?_)
       | (refine rG 22 ?_
          refine kA ?_
          refine kC ?_
          refine aB ?_)
       | (refine rG 23 ?_
          refine qr4w2 aL ?_
          refine kA ?_
          refine aB ?_))
      refine ⟨j + 1, ⟨hjn, fun i hi => ?_⟩, Wk.mk [(5, some 5), (6, some 6), (7, some 7), (8, some 8), (17, some 17), (18, some 18)] rfl rfl rfl ?_ ?_, by omega⟩
      ·by_cases e : i = j
       ·rw [e]; exact hop
       ·exact hok i (by omega)
      ·rw [hps]
       exact allT
      ·exact allH
    | false =>
      rw [hav] at hop hpv
      rw [hbadk (by rw [hwt, hbad2 hop, Bool.false_and])]
      repeat (first
       | refine uA ?_
       | refine uB ?_
       | refine uC ?_
       | refine uG ?_
       | refine uH ?_
       | refine AWp.ret ?_
       | refine thenA_r ?_
       | refine kT ?_
       | (refine rG 18 ?_
          refine qr5t aK ?_
          refine aB ?_)
       | (refine rG 19 ?_
          refine qr8eo2 (aP (k := j) tyOk) ?_
          refine AList.load1lE tyOk (ev) rfl rfl rfl rfl rfl oM ?_
          refine kC ?_
          refine aB ?_)
       | (refine rG 20 ?_
          (iterate 2 refine kA ?_)
          refine qr5f aJ ?_
          (iterate 2 refine kA ?_)
          refine qr5f aJ ?_
          refine kA ?_
          (iterate 4 refine qr2 aG ?_)
          (iterate 2 refine qr4 aR ?_)
          (iterate 2 refine kA ?_)
          refine qr5 aW ?_
          refine kA ?_
          refine kF ?_
          refine kA ?_
          refine aH rfl rfl rfl rfl Try.func46 rfl (by kernel_rfl) (hpv) ?_
          refine qr3 AList.notB ?_
          refine qr4 aS ?_
          refine qr4 aR ?_
          refine kC ?_
          refine aB ?_)
       | (refine rG 21 ?_
          refine kA ?_
          refine aB ?_)
       | (refine rG 28 ?_
          refine kA ?_
          refine aB ?_)
       | (refine rG 29 ?_
          refine kC ?_
          refine aB ?_))
      refine ⟨mkSt 121 [(10, .c (iC (62)))] [] [], [], Wk.mk [] rfl rfl rfl ?_ trivial, rfl, rfl, aR1⟩
      exact allT
   ·have g1' : v ≤ u := by omega
    rw [decide_eq_false g1, Bool.and_false] at hop
    rw [hbadk (by rw [hwt, hbad2 hop, Bool.false_and])]
    repeat (first
     | refine uA ?_
     | refine uB ?_
     | refine uC ?_
     | refine uG ?_
     | refine uH ?_
     | refine AWp.ret ?_
     | refine thenA_r ?_
     | refine kT ?_
     | (refine rG 18 ?_
        refine qr5t aK ?_
        refine aB ?_)
     | (refine rG 19 ?_
        refine qr8eo2 (aP (k := j) tyOk) ?_
        refine AList.load1lE tyOk (ev) rfl rfl rfl rfl rfl oM ?_
        refine kC ?_
        refine aB ?_)
     | (refine rG 20 ?_
        (iterate 2 refine kA ?_)
        refine qr5t aK ?_
        refine kA ?_
        (iterate 8 refine qr2 aG ?_)
        refine qr4 aS ?_
        refine kA ?_
        (iterate 8 refine qr2 aG ?_)
        refine qr4 aS ?_
        refine kC ?_
        refine aB ?_)
     | (refine rG 21 ?_
        refine kA ?_
        refine aB ?_)
     | (refine rG 28 ?_
        refine kA ?_
        refine aB ?_)
     | (refine rG 29 ?_
        refine kC ?_
        refine aB ?_))
    refine ⟨mkSt 121 [(10, .c (iC (62)))] [] [], [], Wk.mk [] rfl rfl rfl ?_ trivial, rfl, rfl, aR1⟩
    exact allT
  ·have hjn' : ¬ (j : Int) < w.2.length := by omega
   have hB := hjl hjn
   repeat (first
    | refine uA ?_
    | refine uB ?_
    | refine uH ?_
    | refine thenA_e ?_
    | refine uD ?_
    | refine uF ?_
    | refine kU ?_
    | (refine rG 18 ?_
       refine qr5f aJ ?_
       refine aB ?_)
    | (refine rG 24 ?_
       refine qr4w2 aL ?_
       refine kA ?_
       refine aB ?_))
   refine ⟨2, ⟨by omega, fun _ => hA, fun _ => hB⟩, Wk.mk [(5, some 5), (6, some 6), (7, some 7), (8, some 8), (17, some 17), (18, some 18)] rfl rfl rfl ?_ ?_, by omega⟩
   ·exact allT
   ·exact allH
 ·have hA := hi1 (by omega)
  have hB := hi3 (by omega)
  rw [hA, hB, Bool.true_and, Bool.true_and] at hwt
  have ln1 := ln1 hA
  have ln2 := ln2 hB
  have cm := cm (fun k hk => okL_alo hA hk) (fun k hk => okL_alo hB hk) (by omega) (by omega)
  have dm := dm (by omega) (by omega)
  have ew : cellsFrom (rowF wtC wtZ p k) 0 2 = wtC w := by rw [← hw]; rfl
  have hn0 : 0 < n := by omega
  cases hdb : decB s t m (alM a.W x y) w.1 w.2 with
  | true =>
    rw [hdb] at hwt dm
    repeat (first
     | refine uA ?_
     | refine uB ?_
     | refine uG ?_
     | refine uH ?_
     | refine uD ?_
     | refine kU ?_
     | (refine rG 14 ?_
        refine qr5f aJ ?_
        refine aB ?_)
     | (refine AWp.draw (id := 25) mixed ?_; (iterate 2 refine kA ?_); refine qr8eo2 (aP (k := k) tyOk) ?_; refine AList.loadAlE tyOk (ew) rfl rfl rfl rfl rfl oM ?_; (iterate 2 refine kF ?_); refine kA ?_; refine AList.callM [] [] [60, 61, 62] [] [] [] [ctB 901 902 w.1.length w.2.length s.mo t.mo (stN a.W x y) n, cwB n (colC s w.1), cwB n (colC t w.2)] [] [ctB 61 62 w.1.length w.2.length s.mo t.mo (stN a.W x y) n, cwB n (colC s w.1), cwB n (colC t w.2)] rfl rfl FnV.func rfl Try.func47 rfl (by kernel_rfl) (trivial) (trivial) rfl (by exact ⟨.ag (lentAg rfl), .ag (lentAg rfl), .ag (lentAg rfl), .c (.b (.imm _ rfl)), trivial⟩) (.c (.ptN 0 60 8 0 0 rfl)) (trivial) (ct_new 1 2 (h := trivial)) (cm) ?_; refine AList.callM [60, 61, 62] [] [] (ctL w.1.length w.2.length s.mo t.mo (stN a.W x y) n n (colC s w.1) (colC t w.2)) [] (ctL w.1.length w.2.length s.mo t.mo (stN a.W x y) n n (colC s w.1) (colC t w.2)) [] [ctB 61 62 w.1.length w.2.length s.mo t.mo (stN a.W x y) n, cwB n (colC s w.1), cwB n (colC t w.2)] [] rfl rfl FnV.func rfl Try.func48 rfl (by kernel_rfl) (ct_lend 1 2 hn0 (h := trivial)) (trivial) rfl (by exact ⟨.c (.b (.pt 60 0 8 0 0 rfl)), trivial⟩) (.c (.imm _ rfl)) (ct_back 1 2 (h := trivial)) (trivial) (dm) ?_; refine qr3 AList.notB ?_; refine kC ?_; refine aB ⟨by kernel_rfl, ?_⟩)
     | (refine rG 26 ?_
        refine kA ?_
        refine aB ?_)
     | (refine rG 27 ?_
        refine qr4w2 aL ?_
        refine kA ?_
        refine aB ?_))
    refine ⟨k + 1, ⟨hkl, fun j hj => ?_⟩, Wk.mk [(5, some 5), (6, some 6), (7, some 7), (8, some 8)] rfl rfl rfl ?_ ?_, by omega⟩
    ·by_cases e : j = k
     ·rw [e, hw]; exact hwt
     ·exact hall j (by omega)
    ·exact allT
    ·exact allH
  | false =>
    rw [hdb] at hwt dm
    rw [hbadk hwt]
    repeat (first
     | refine uA ?_
     | refine uB ?_
     | refine uH ?_
     | refine AWp.ret ?_
     | refine thenA_r ?_
     | refine kT ?_
     | refine kU ?_
     | (refine rG 14 ?_
        refine qr5f aJ ?_
        refine aB ?_)
     | (refine AWp.draw (id := 25) mixed ?_; (iterate 2 refine kA ?_); refine qr8eo2 (aP (k := k) tyOk) ?_; refine AList.loadAlE tyOk (ew) rfl rfl rfl rfl rfl oM ?_; (iterate 2 refine kF ?_); refine kA ?_; refine AList.callM [] [] [60, 61, 62] [] [] [] [ctB 901 902 w.1.length w.2.length s.mo t.mo (stN a.W x y) n, cwB n (colC s w.1), cwB n (colC t w.2)] [] [ctB 61 62 w.1.length w.2.length s.mo t.mo (stN a.W x y) n, cwB n (colC s w.1), cwB n (colC t w.2)] rfl rfl FnV.func rfl Try.func47 rfl (by kernel_rfl) (trivial) (trivial) rfl (by exact ⟨.ag (lentAg rfl), .ag (lentAg rfl), .ag (lentAg rfl), .c (.b (.imm _ rfl)), trivial⟩) (.c (.ptN 0 60 8 0 0 rfl)) (trivial) (ct_new 1 2 (h := trivial)) (cm) ?_; refine AList.callM [60, 61, 62] [] [] (ctL w.1.length w.2.length s.mo t.mo (stN a.W x y) n n (colC s w.1) (colC t w.2)) [] (ctL w.1.length w.2.length s.mo t.mo (stN a.W x y) n n (colC s w.1) (colC t w.2)) [] [ctB 61 62 w.1.length w.2.length s.mo t.mo (stN a.W x y) n, cwB n (colC s w.1), cwB n (colC t w.2)] [] rfl rfl FnV.func rfl Try.func48 rfl (by kernel_rfl) (ct_lend 1 2 hn0 (h := trivial)) (trivial) rfl (by exact ⟨.c (.b (.pt 60 0 8 0 0 rfl)), trivial⟩) (.c (.imm _ rfl)) (ct_back 1 2 (h := trivial)) (trivial) (dm) ?_; refine qr3 AList.notB ?_; refine kC ?_; refine aB ⟨by kernel_rfl, ?_⟩)
     | (refine rG 26 ?_
        refine kA ?_
        refine aB ?_)
     | (refine rG 28 ?_
        refine kA ?_
        refine aB ?_)
     | (refine rG 29 ?_
        refine kC ?_
        refine aB ?_))
    refine ⟨mkSt 121 [(10, .c (iC (62)))] [] [], [], Wk.mk [] rfl rfl rfl ?_ trivial, rfl, rfl, aR1⟩
    exact allT
end Go.Proofs.Ytekkldgmjdllbaa
end
