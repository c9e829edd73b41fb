/- Parts of the proof: A25d, A25f, A25k. -/
import Derived.Test.YtekkldgmjdllbaaG27
import Derived.Test.YtekkldgmjdllbaaG31
set_option linter.unusedSimpArgs false
set_option linter.unusedVariables false
section
namespace Go.Proofs.Ytekkldgmjdllbaa
open Go.RowKit Go.Flow Go.AV Go.Plain
theorem okL_no {s : Sd} {l : List Int} {k : Nat} (hk : k < l.length) (h : okAt s l k = false) : okL s l = false := by
 unfold okL
 rw [List.all_eq_false]
 exact ⟨k, List.mem_range.2 hk, by simp [h]⟩
theorem okL_yes {s : Sd} {l : List Int} (h : ∀ k, k < l.length → okAt s l k = true) : okL s l = true :=
 List.all_eq_true.2 fun k hk => h k (List.mem_range.1 hk)
theorem okL_at {s : Sd} {l : List Int} (h : okL s l = true) {k : Nat} (hk : k < l.length) : okAt s l k = true := List.all_eq_true.1 h k (List.mem_range.2 hk)
theorem alo_bd {s : Sd} {v : Int} (h : aloB s v = true) : 0 ≤ v ∧ v < s.o.n := by
 unfold aloB at h
 simp only [Bool.and_eq_true, decide_eq_true_eq] at h
 exact ⟨h.1, h.2.1⟩
theorem col_bd {s : Sd} {v : Int} (ho : chk s.o.W s.o.H s.o.n = 0) (hm : -4 ≤ s.mv ∧ s.mv ≤ 4) (h : aloB s v = true) : ((colV s v : Nat) : Int) = v % s.o.W + s.mv + 4 ∧ ((colV s v : Nat) : Int) < s.o.W + 8 ∧ 0 < s.o.W ∧ 0 ≤ v % s.o.W ∧ v % s.o.W < s.o.W := by
 obtain ⟨h0, h1⟩ := alo_bd h
 obtain ⟨m, rfl⟩ := Int.eq_ofNat_of_zero_le h0
 obtain ⟨q1, q2, q3⟩ := side_div ho (show m < s.o.n by omega)
 unfold colV
 omega
theorem colC_upd (s : Sd) (l : List Int) (k : Int) : ∀ i, colC s (l ++ [k]) i = if i = colV s k then colC s l i + 1 else colC s l i := fun i => by
 rw [colC_snoc]
 by_cases h : i = colV s k
 ·rw [if_pos h, if_pos h.symm]
 ·rw [if_neg h, if_neg fun e => h e.symm]; omega
theorem take_snoc {l : List Int} {k : Nat} (hk : k < l.length) : l.take (k + 1) = l.take k ++ [l.getD k 0] := by
 rw [List.take_add_one, List.getElem?_eq_getElem hk, List.getD_eq_getElem?_getD, List.getElem?_eq_getElem hk]
 rfl
theorem lentAg {ids mids : List Nat} : ∀ {l : List CV}, l.all immC = true → LeL (LentM ids mids) l l
 | [], _ => trivial
 | x :: l, h => by
   rw [List.all_cons, Bool.and_eq_true] at h
   exact ⟨.b (.imm _ h.1), lentAg h.2⟩
theorem pcolS_A (s : Sd) (v : Int) (ho : chk s.o.W s.o.H s.o.n = 0) (hm : -4 ≤ s.mv ∧ s.mv ≤ 4) (h : aloB s v = true) : ACalls Try.prog 55 [.ag (sdC s), .c (iC v)] (.c (iC (colV s v))) := by
 obtain ⟨h0, h1⟩ := alo_bd h
 obtain ⟨m, rfl⟩ := Int.eq_ofNat_of_zero_le h0
 obtain ⟨q1, -, -⟩ := side_div ho (show m < s.o.n by omega)
 exact pcol_A s.o.W (fun i => (sdC s).getD i .any) s.mv m q1 hm
theorem colC_upD (s : Sd) (l : List Int) (v : Int) : colC s (l ++ [v]) = upD (colC s l) (colV s v) 1 := by
 funext i
 rw [colC_upd]
 rfl
theorem okL_ge {s : Sd} {l : List Int} (h : okL s l = true) : ∀ k : Nat, k < l.length → (k : Int) ≤ l.getD k 0
 | 0, hk => by
   have := okL_at h hk
   unfold okAt at this
   rw [Bool.and_eq_true] at this
   exact (alo_bd this.1).1
 | k + 1, hk => by
   have h1 := okL_ge h k (by omega)
   have := okL_at h hk
   unfold okAt at this
   rw [Bool.and_eq_true, Bool.or_eq_true, decide_eq_true_eq, decide_eq_true_eq] at this
   have h2 := this.2.resolve_left (by omega)
   rw [Nat.add_sub_cancel] at h2
   omega
theorem okL_alo {s : Sd} {l : List Int} (h : okL s l = true) {k : Nat} (hk : k < l.length) : aloB s (l.getD k 0) = true := by
 have := okL_at h hk
 unfold okAt at this
 rw [Bool.and_eq_true] at this
 exact this.1
theorem okL_len {s : Sd} {l : List Int} (h : okL s l = true) : l.length ≤ s.o.n := by
 rcases Nat.eq_zero_or_pos l.length with h0 | h0
 ·omega
 ·have h1 := okL_ge h (l.length - 1) (by omega)
  have h2 := (alo_bd (okL_alo h (show l.length - 1 < l.length by omega))).2
  omega
set_option maxHeartbeats 4000000 in
set_option maxRecDepth 100000 in
theorem counted_M (s t : Sd) (w : Wt) (st : Int) (n : Nat) (hn : s.o.W + 8 = (n : Int)) (hn2 : t.o.W + 8 = (n : Int)) (hn3 : 0 < n ∧ n ≤ 104) (hs : chk s.o.W s.o.H s.o.n = 0) (ht : chk t.o.W t.o.H t.o.n = 0) (ms : -4 ≤ s.mv ∧ s.mv ≤ 4) (mt : -4 ≤ t.mv ∧ t.mv ≤ 4) (hA : ∀ k, k < w.1.length → aloB s (w.1.getD k 0) = true) (hB : ∀ k, k < w.2.length → aloB t (w.2.getD k 0) = true) (lA : w.1.length ≤ 9216) (lB : w.2.length ≤ 9216) :
 GMCalls Try.prog 47 [.ag (wtC w), .ag (sdC s), .ag (sdC t), .c (iC st)] [] [] (.c (.pt 900 8 0 0)) [] [ctB 901 902 w.1.length w.2.length s.mo t.mo st n, cwB n (colC s w.1), cwB n (colC t w.2)] := by
 have hnew := newCount_M s t st n hn hn3.2
 have hn0 := hn3.1
 refine gm_at Try.func47 rfl rfl Try.ntmps47 rfl ?_
 repeat (first
  | refine uA ?_
  | refine uB ?_
  | refine uC ?_
  | (refine rG 0 ?_
     (iterate 3 refine qr5 aQ ?_)
     refine kC ?_
     refine aB ?_)
  | (refine rG 1 ?_
     (iterate 2 refine kF ?_)
     refine kA ?_
     refine AList.callM [] [] [60, 61, 62] [] [] [] [ctB 901 902 0 0 s.mo t.mo st n, cwB n fun _ => 0, cwB n fun _ => 0] [] [ctB 61 62 0 0 s.mo t.mo st n, cwB n fun _ => 0, cwB n fun _ => 0] rfl rfl FnV.func rfl Try.func102 rfl (by kernel_rfl) (trivial) (trivial) rfl (by exact ⟨.ag (lentAg rfl), .ag (lentAg rfl), .c (.b (.imm _ rfl)), trivial⟩) (.c (.ptN 0 60 8 0 0 rfl)) (trivial) (ct_new 1 2 (h := trivial)) (hnew) ?_
     refine kC ?_
     refine aB ?_)
  | (refine rG 2 ?_
     refine kD ?_
     refine kE ?_
     refine qr5 (aO tyOk) ?_
     refine kA ?_
     refine aB ?_))
 refine AWp.round (fun k : Nat =>
  mkSt 45 [(4, .c (.pt 4 2 0 0)), (5, .c (.pt 5 10 0 0)), (6, .c (.pt 6 10 0 0)), (9, .c (.pt 60 8 0 0)), (19, .c (liV w.1)), (20, .c (iC w.1.length)), (21, .c (iC (k : Nat)))] [(4, ⟨false, 1, 2, 62, lF (wtC w)⟩), (5, ⟨false, 1, 10, 97, lF (sdC s)⟩), (6, ⟨false, 1, 10, 97, lF (sdC t)⟩), (60, ctB 61 62 k 0 s.mo t.mo st n), (61, cwB n (colC s (w.1.take k))), (62, cwB n (fun _ => 0))] [4, 5, 6, 60, 61, 62]
  ) (fun k => k ≤ w.1.length) (fun k => w.1.length - k) 0 (Nat.zero_le _) ?_ (fun k hk => ?_)
 ·refine Wk.mk [(4, some 4), (5, some 5), (6, some 6), (60, some 60), (61, some 61), (62, some 62)] rfl rfl rfl ?_ ?_
  ·exact allT
  ·exact ⟨hSm, hSm, hSm, HeapOk.box rfl rfl ⟨LeC.ow _ _ rfl, LeC.ow _ _ rfl, LeC.int (by omega), LeC.int (by omega), LeC.int rfl, LeC.int rfl, LeC.int rfl, LeC.int rfl, trivial⟩ rfl, HeapOk.row rfl rfl rfl (fun i _ => cell1 ⟨rfl, rfl⟩), HeapOk.row rfl rfl rfl (fun i _ => cell1 ⟨rfl, rfl⟩), trivial⟩
 by_cases hkl : k < w.1.length
 ·have hkl' : (k : Int) < w.1.length := by omega
  have hv := hA k hkl
  have hts := take_snoc hkl
  obtain ⟨v, hvv⟩ : ∃ v, w.1.getD k 0 = v := ⟨_, rfl⟩
  have ev : iF (fun k => w.1.getD k 0) k 0 = iC v := congrArg (fun z => iC z) hvv
  rw [hvv] at hv hts
  have hcol := pcolS_A s v hs ms hv
  obtain ⟨c1, c2, c3, c4, c5⟩ := col_bd hs ms hv
  have hc := colC_nn s (w.1.take k) (colV s v)
  have htl : (w.1.take k).length ≤ w.1.length := by rw [List.length_take]; omega
  have hadd := addA_M k 0 s.mo t.mo st n 1 n (colV s v) (colC s (w.1.take k)) (fun _ => 0) (by omega) (by omega) (by omega) (by omega) (by omega) (by omega) (by omega)
  rw [← colC_upD, ← hts] at hadd
  repeat (first
   | refine uA ?_
   | refine uB ?_
   | refine uC ?_
   | refine uG ?_
   | refine uD ?_
   | refine kT ?_
   | (refine rG 3 ?_
      refine qr5t aK ?_
      refine aB ?_)
   | (refine rG 4 ?_
      refine qr8eo2 (aP (k := k) tyOk) ?_
      refine AList.load1lE tyOk (ev) rfl rfl rfl rfl rfl oM ?_
      refine kC ?_
      refine aB ?_)
   | (refine rG 5 ?_
      refine kA ?_
      refine kF ?_
      refine kA ?_
      refine aH rfl rfl rfl rfl Try.func55 rfl (by kernel_rfl) (hcol) ?_
      refine AList.callM [60, 61, 62] [] [] (ctL k 0 s.mo t.mo st n n (colC s (w.1.take k)) (fun _ => 0)) [] (ctL ((k : Int) + 1) 0 s.mo t.mo st n n (colC s (w.1.take (k + 1))) (fun _ => 0)) [] [ctB 61 62 ((k : Int) + 1) 0 s.mo t.mo st n, cwB n (colC s (w.1.take (k + 1))), cwB n fun _ => 0] [] rfl rfl FnV.func rfl Try.func53 rfl (by kernel_rfl) (ct_lend 1 2 hn0 (h := trivial)) (trivial) rfl (by exact ⟨.c (.b (.pt 60 0 8 0 0 rfl)), .c (.b (.imm _ rfl)), .c (.b (.imm _ rfl)), .c (.b (.imm _ rfl)), trivial⟩) (.tu (l := []) (m := []) trivial) (ct_back 1 2 (h := trivial)) (trivial) (hadd) ?_
      refine aB ?_)
   | (refine rG 6 ?_
      refine qr4w2 aL ?_
      refine kA ?_
      refine aB ?_))
  refine ⟨k + 1, hkl, Wk.mk [(4, some 4), (5, some 5), (6, some 6), (60, some 60), (61, some 61), (62, some 62)] rfl rfl rfl ?_ ?_, by omega⟩
  ·exact allT
  ·exact ⟨hSm, hSm, hSm, HeapOk.box rfl rfl ⟨LeC.ow _ _ rfl, LeC.ow _ _ rfl, LeC.int (by omega), LeC.int (by omega), LeC.int rfl, LeC.int rfl, LeC.int rfl, LeC.int rfl, trivial⟩ rfl, HeapOk.row rfl rfl rfl (fun i _ => cell1 ⟨rfl, rfl⟩), HeapOk.row rfl rfl rfl (fun i _ => cell1 ⟨rfl, rfl⟩), trivial⟩
 have hkl' : ¬ (k : Int) < w.1.length := by omega
 obtain rfl : k = w.1.length := by omega
 rw [List.take_length]
 repeat (first
  | refine uA ?_
  | refine uB ?_
  | refine uC ?_
  | refine uH ?_
  | refine kU ?_
  | (refine rG 3 ?_
     refine qr5f aJ ?_
     refine aB ?_)
  | (refine rG 7 ?_
     refine kD ?_
     refine kE ?_
     refine qr5 (aO tyOk) ?_
     refine kA ?_
     refine aB ?_))
 refine AWp.round (fun k : Nat =>
  mkSt 45 [(4, .c (.pt 4 2 0 0)), (5, .c (.pt 5 10 0 0)), (6, .c (.pt 6 10 0 0)), (9, .c (.pt 60 8 0 0)), (32, .c (liV w.2)), (33, .c (iC w.2.length)), (34, .c (iC (k : Nat)))] [(4, ⟨false, 1, 2, 62, lF (wtC w)⟩), (5, ⟨false, 1, 10, 97, lF (sdC s)⟩), (6, ⟨false, 1, 10, 97, lF (sdC t)⟩), (60, ctB 61 62 w.1.length k s.mo t.mo st n), (61, cwB n (colC s w.1)), (62, cwB n (colC t (w.2.take k)))] [4, 5, 6, 60, 61, 62]
  ) (fun k => k ≤ w.2.length) (fun k => w.2.length - k) 0 (Nat.zero_le _) ?_ (fun k hk => ?_)
 ·refine Wk.mk [(4, some 4), (5, some 5), (6, some 6), (60, some 60), (61, some 61), (62, some 62)] rfl rfl rfl ?_ ?_
  ·exact allT
  ·exact ⟨hSm, hSm, hSm, HeapOk.box rfl rfl ⟨LeC.ow _ _ rfl, LeC.ow _ _ rfl, LeC.int (by omega), LeC.int (by omega), LeC.int rfl, LeC.int rfl, LeC.int rfl, LeC.int rfl, trivial⟩ rfl, HeapOk.row rfl rfl rfl (fun i _ => cell1 ⟨rfl, rfl⟩), HeapOk.row rfl rfl rfl (fun i _ => cell1 ⟨rfl, rfl⟩), trivial⟩
 by_cases hkl : k < w.2.length
 ·have hkl' : (k : Int) < w.2.length := by omega
  have hv := hB k hkl
  have hts := take_snoc hkl
  obtain ⟨v, hvv⟩ : ∃ v, w.2.getD k 0 = v := ⟨_, rfl⟩
  have ev : iF (fun k => w.2.getD k 0) k 0 = iC v := congrArg (fun z => iC z) hvv
  rw [hvv] at hv hts
  have hcol := pcolS_A t v ht mt hv
  obtain ⟨c1, c2, c3, c4, c5⟩ := col_bd ht mt hv
  have hc := colC_nn t (w.2.take k) (colV t v)
  have hc1 := colC_nn s w.1 (colV t v)
  have htl : (w.2.take k).length ≤ w.2.length := by rw [List.length_take]; omega
  have hadd := addB_M w.1.length k s.mo t.mo st n 1 n (colV t v) (colC s w.1) (colC t (w.2.take k)) (by omega) (by omega) (by omega) (by omega) (by omega) (by omega) (by omega)
  rw [← colC_upD, ← hts] at hadd
  repeat (first
   | refine uA ?_
   | refine uB ?_
   | refine uC ?_
   | refine uG ?_
   | refine uD ?_
   | refine kT ?_
   | (refine rG 8 ?_
      refine qr5t aK ?_
      refine aB ?_)
   | (refine rG 9 ?_
      refine qr8eo2 (aP (k := k) tyOk) ?_
      refine AList.load1lE tyOk (ev) rfl rfl rfl rfl rfl oM ?_
      refine kC ?_
      refine aB ?_)
   | (refine rG 10 ?_
      refine kA ?_
      refine kF ?_
      refine kA ?_
      refine aH rfl rfl rfl rfl Try.func55 rfl (by kernel_rfl) (hcol) ?_
      refine AList.callM [60, 61, 62] [] [] (ctL w.1.length k s.mo t.mo st n n (colC s w.1) (colC t (w.2.take k))) [] (ctL w.1.length ((k : Int) + 1) s.mo t.mo st n n (colC s w.1) (colC t (w.2.take (k + 1)))) [] [ctB 61 62 w.1.length ((k : Int) + 1) s.mo t.mo st n, cwB n (colC s w.1), cwB n (colC t (w.2.take (k + 1)))] [] rfl rfl FnV.func rfl Try.func53 rfl (by kernel_rfl) (ct_lend 1 2 hn0 (h := trivial)) (trivial) rfl (by exact ⟨.c (.b (.pt 60 0 8 0 0 rfl)), .c (.b (.imm _ rfl)), .c (.b (.imm _ rfl)), .c (.b (.imm _ rfl)), trivial⟩) (.tu (l := []) (m := []) trivial) (ct_back 1 2 (h := trivial)) (trivial) (hadd) ?_
      refine aB ?_)
   | (refine rG 11 ?_
      refine qr4w2 aL ?_
      refine kA ?_
      refine aB ?_))
  refine ⟨k + 1, hkl, Wk.mk [(4, some 4), (5, some 5), (6, some 6), (60, some 60), (61, some 61), (62, some 62)] rfl rfl rfl ?_ ?_, by omega⟩
  ·exact allT
  ·exact ⟨hSm, hSm, hSm, HeapOk.box rfl rfl ⟨LeC.ow _ _ rfl, LeC.ow _ _ rfl, LeC.int (by omega), LeC.int (by omega), LeC.int rfl, LeC.int rfl, LeC.int rfl, LeC.int rfl, trivial⟩ rfl, HeapOk.row rfl rfl rfl (fun i _ => cell1 ⟨rfl, rfl⟩), HeapOk.row rfl rfl rfl (fun i _ => cell1 ⟨rfl, rfl⟩), trivial⟩
 have hkl' : ¬ (k : Int) < w.2.length := by omega
 obtain rfl : k = w.2.length := by omega
 rw [List.take_length]
 repeat (first
  | refine uA ?_
  | refine uB ?_
  | refine uH ?_
  | refine AWp.ret ?_
  | refine kU ?_
  | (refine rG 8 ?_
     refine qr5f aJ ?_
     refine aB ?_)
  | (refine rG 12 ?_
     refine kA ?_
     refine kC ?_
     refine aB ?_))
 refine ⟨mkSt 45 [(8, .c (.pt 900 8 0 0))] [(900, ctB 901 902 w.1.length w.2.length s.mo t.mo st n), (901, cwB n (colC s w.1)), (902, cwB n (colC t w.2))] [900, 901, 902], [], _, [], [ctB 901 902 w.1.length w.2.length s.mo t.mo st n, cwB n (colC s w.1), cwB n (colC t w.2)], ⟨rfl, rfl, rfl⟩, rfl, Wk.mk [(900, some 60), (901, some 61), (902, some 62)] rfl rfl rfl ?_ ?_, rfl, rfl, GRets.one (x := .c _) (GRes.tmp rfl)⟩
 ·exact allT
 ·exact ⟨HeapOk.box rfl rfl ⟨LeC.ow _ _ rfl, LeC.ow _ _ rfl, LeC.int rfl, LeC.int rfl, LeC.int rfl, LeC.int rfl, LeC.int rfl, LeC.int rfl, trivial⟩ rfl, HeapOk.row rfl rfl rfl (fun i _ => cell1 ⟨rfl, rfl⟩), HeapOk.row rfl rfl rfl (fun i _ => cell1 ⟨rfl, rfl⟩), trivial⟩
theorem dec_M (s t : Sd) (n m M : Nat) (lA lB : List Int) (h0 : 0 < n) (hn : n ≤ 104) (hm : m ≤ 16) (hmn : m ≤ n) (hM : M + m = n + 1) (hA : lA.length ≤ 10000) (hB : lB.length ≤ 10000) :
 GMCalls Try.prog 48 [.c (.pt 1000 8 0 0)] (ctL lA.length lB.length s.mo t.mo m n n (colC s lA) (colC t lB)) [] (.c (bC (decB s t m M lA lB))) (ctL lA.length lB.length s.mo t.mo m n n (colC s lA) (colC t lB)) [] := by
 refine decides_M (p := openB s t m lA lB) ⟨h0, by omega, fun f hf => ?_⟩ (by omega) (by omega) (by omega) (by omega)
 have := open_M lA.length lB.length s.mo t.mo n n f m (colC s lA) (colC t lB) (by omega) (by omega) hm (fun i => ⟨(colC_nn s lA i).1, by have := (colC_nn s lA i).2; omega⟩) (fun i => ⟨(colC_nn t lB i).1, by have := (colC_nn t lB i).2; omega⟩) (by omega) (by omega)
 rw [show openB s t m lA lB f = (decide ((lA.length : Int) - wnF (colC s lA) f m ≤ s.mo) && decide ((lB.length : Int) - wnF (colC t lB) f m ≤ t.mo)) by unfold openB; rw [out_win, out_win]]
 exact this
abbrev bx1 (ty : TypeId) (c : CV) : AB := ⟨false, 1, 1, ty, lF [c]⟩
theorem lend_bx {S : St} {ids mids l : List Nat} {p : Nat} {ty : TypeId} {c c' : CV} {bs : List AB} (hp : S.h p = some (bx1 ty c)) (hc : LentM ids mids c c') (h : LendOkM S ids mids l bs) : LendOkM S ids mids (p :: l) (bx1 ty c' :: bs) :=
 ⟨⟨_, hp, (fun h => by cases h), fun k hk j hj => by
   obtain rfl : k = 0 := Nat.lt_one_iff.mp hk
   obtain rfl : j = 0 := Nat.lt_one_iff.mp hj
   exact hc⟩, h⟩
theorem back_bx {ids ni : List Nat} {ty : TypeId} {c c' : CV} {l bs : List AB} (hc : BackM ids ni c' c) (h : BackBM ids ni l bs) : BackBM ids ni (bx1 ty c' :: l) (bx1 ty c :: bs) :=
 ⟨⟨_, rfl, fun k hk j hj => by
   obtain rfl : k = 0 := Nat.lt_one_iff.mp hk
   obtain rfl : j = 0 := Nat.lt_one_iff.mp hj
   exact hc⟩, h⟩
abbrev plL (l : List Int) : CV := .pl 1 1 (lF [liV l]) 0 0
theorem Backward_A (l : List Int) : ACalls Try.prog 52 [.c (liV l)] (.c (.fn 108 1 fun i => [plL l].getD i .any)) := by
 refine acalls_at Try.func52 rfl rfl Try.ntmps52 rfl ?_
 repeat (first
  | refine uA ?_
  | refine uB ?_
  | refine AWp.ret ?_
  | (refine rG 0 ?_
     refine qr5 aQ ?_
     refine kC ?_
     refine aB ?_)
  | (refine rG 1 ?_
     refine qr5 AList.makeFn ?_
     refine kC ?_
     refine aB ?_))
 refine ⟨mkSt 4 [(2, .c (.fn 108 1 fun i => [plL l].getD i .any))] [] [], [], Wk.mk [] rfl rfl rfl ⟨⟨_, rfl, .c (LeC.fn _ _ _ _ (fun i hi => ?_) (fun i hi => ?_))⟩, trivial⟩ trivial, rfl, rfl, ARets.one (x := .c _) (ARes.fn rfl fun i hi => ?_)⟩
 all_goals
  have hi1 : i < 1 := hi
  obtain rfl : i = 0 := by omega
 ·exact ⟨trivial, trivial⟩
 ·exact LeC.fzP rfl rfl rfl rfl
 ·rfl
def keptR (dec : List Int → Bool) (l : List Int) : Nat → List Int
 | 0 => []
 | m + 1 => if dec (l.take (l.length - (m + 1)) ++ keptR dec l m) = true then keptR dec l m else l.getD (l.length - (m + 1)) 0 :: keptR dec l m
theorem keptR_shr (dec : List Int → Bool) (l : List Int) : ∀ m, m ≤ l.length → shrI dec l (l.length - m) (keptR dec l m) = shrI dec l l.length []
 | 0, _ => rfl
 | m + 1, hm => by
   rw [← keptR_shr dec l m (by omega), show l.length - m = (l.length - (m + 1)) + 1 by omega]
   by_cases h : dec (l.take (l.length - (m + 1)) ++ keptR dec l m) = true
   ·rw [show keptR dec l (m + 1) = keptR dec l m from if_pos h]
    exact (if_pos h).symm
   ·rw [show keptR dec l (m + 1) = l.getD (l.length - (m + 1)) 0 :: keptR dec l m from if_neg h]
    exact (if_neg h).symm
theorem keptR_all (dec : List Int → Bool) (l : List Int) : keptR dec l l.length = shrI dec l l.length [] := by
 rw [← keptR_shr dec l l.length (Nat.le_refl _), Nat.sub_self]
 rfl
theorem keptR_len (dec : List Int → Bool) (l : List Int) : ∀ m, (keptR dec l m).length ≤ m
 | 0 => Nat.le_refl _
 | m + 1 => by
   have := keptR_len dec l m
   unfold keptR
   split
   ·omega
   ·rw [List.length_cons]; omega
def curR (dec : List Int → Bool) (l : List Int) (m : Nat) : List Int := l.take (l.length - m) ++ keptR dec l m
theorem curR_len (dec : List Int → Bool) (l : List Int) {m : Nat} (hm : m ≤ l.length) : (curR dec l m).length = l.length - m + (keptR dec l m).length := by
 unfold curR
 rw [List.length_append, List.length_take, Nat.min_eq_left (by omega)]
theorem curR_zero (dec : List Int → Bool) (l : List Int) : curR dec l 0 = l := by
 unfold curR keptR
 rw [List.append_nil, Nat.sub_zero, List.take_length]
theorem curR_end (dec : List Int → Bool) (l : List Int) : curR dec l l.length = keptR dec l l.length := by
 unfold curR
 rw [Nat.sub_self, List.take_zero, List.nil_append]
def tryR (dec : List Int → Bool) (l : List Int) (m : Nat) : List Int := l.take (l.length - (m + 1)) ++ keptR dec l m
theorem curR_yes {dec : List Int → Bool} {l : List Int} {m : Nat} (h : dec (tryR dec l m) = true) : curR dec l (m + 1) = tryR dec l m ∧ keptR dec l (m + 1) = keptR dec l m := by
 have : keptR dec l (m + 1) = keptR dec l m := if_pos h
 unfold curR tryR
 rw [this]
 exact ⟨rfl, rfl⟩
theorem curR_no {dec : List Int → Bool} {l : List Int} {m : Nat} (hm : m < l.length) (h : dec (tryR dec l m) = false) : curR dec l (m + 1) = curR dec l m ∧ keptR dec l (m + 1) = l.getD (l.length - (m + 1)) 0 :: keptR dec l m := by
 have e : keptR dec l (m + 1) = l.getD (l.length - (m + 1)) 0 :: keptR dec l m := if_neg (by unfold tryR at h; rw [h]; decide)
 refine ⟨?_, e⟩
 unfold curR
 rw [e, show l.length - m = (l.length - (m + 1)) + 1 by omega, take_snoc (show l.length - (m + 1) < l.length by omega), List.append_assoc]
 rfl
theorem curR_col (s : Sd) (dec : List Int → Bool) (l : List Int) {m : Nat} (hm : m < l.length) : colC s (tryR dec l m) = upD (colC s (curR dec l m)) (colV s (l.getD (l.length - (m + 1)) 0)) (-1) ∧ colC s (curR dec l m) = upD (colC s (tryR dec l m)) (colV s (l.getD (l.length - (m + 1)) 0)) 1 ∧ (curR dec l m).length = (tryR dec l m).length + 1 := by
 have e : curR dec l m = l.take (l.length - (m + 1)) ++ (l.getD (l.length - (m + 1)) 0 :: keptR dec l m) := by
  unfold curR
  rw [show l.length - m = (l.length - (m + 1)) + 1 by omega, take_snoc (show l.length - (m + 1) < l.length by omega), List.append_assoc]
  rfl
 have hc : ∀ i, colC s (curR dec l m) i = colC s (tryR dec l m) i + if colV s (l.getD (l.length - (m + 1)) 0) = i then 1 else 0 := fun i => by
  rw [e]
  unfold tryR
  rw [colC_app, colC_app, colC_cons]
  omega
 refine ⟨funext fun i => ?_, funext fun i => ?_, ?_⟩
 ·unfold upD
  rw [hc i]
  by_cases h : i = colV s (l.getD (l.length - (m + 1)) 0)
  ·rw [if_pos h, if_pos h.symm]; omega
  ·rw [if_neg h, if_neg fun h' => h h'.symm]; omega
 ·unfold upD
  rw [hc i]
  by_cases h : i = colV s (l.getD (l.length - (m + 1)) 0)
  ·rw [if_pos h, if_pos h.symm]
  ·rw [if_neg h, if_neg fun h' => h h'.symm]; omega
 ·rw [e]
  unfold tryR
  rw [List.length_append, List.length_append, List.length_cons]
  omega
abbrev lsB (s t : Sd) (st : Int) (n : Nat) (sec : Bool) (col : CV) (w : Wt) (kp cq ra rb : Nat) : List AB := [bx1 22 (.ow kp), bx1 4 (bC sec), bx1 106 col, bx1 102 (.pt cq 8 0 0), ctB ra rb w.1.length w.2.length s.mo t.mo st n, cwB n (colC s w.1), cwB n (colC t w.2)]
def lsRM (s t : Sd) (st : Int) (n : Nat) (sec : Bool) (col : CV) (dec : List Int → Bool) (l : List Int) (W : Nat → Wt) : RM where
 nb := 7
 ys := fun i => [.c (iC ((l.length : Int) - 1 - i)), .c (iC (l.getD (l.length - (i + 1)) 0))]
 hB := fun i => lsB s t st n sec col (W i) 800 1004 1005 1006
 hE := fun i => lsB s t st n sec col (W i) 900 1004 1005 1006
 mv := fun i => [rwI (keptR dec l i).reverse]
 la := fun _ => []
theorem bw_lend {S : St} {s t : Sd} {st : Int} {n : Nat} {sec : Bool} {col : CV} {w : Wt} {kp : Nat} (hn : 0 < n) (hcol : immC col = true) (h0 : S.h 1000 = some (bx1 22 (.ow kp))) (h1 : S.h 1001 = some (bx1 4 (bC sec))) (h2 : S.h 1002 = some (bx1 106 col)) (h3 : S.h 1003 = some (bx1 102 (.pt 1004 8 0 0))) (h4 : S.h 1004 = some (ctB 1005 1006 w.1.length w.2.length s.mo t.mo st n)) (h5 : S.h 1005 = some (cwB n (colC s w.1))) (h6 : S.h 1006 = some (cwB n (colC t w.2))) :
 LendOkM S [1000, 1001, 1002, 1003, 1004, 1005, 1006] [kp] [1000, 1001, 1002, 1003, 1004, 1005, 1006] (lsB s t st n sec col w 800 1004 1005 1006) :=
 lend_bx h0 (.b (.mv kp 0 (by unfold posOf; simp [posOf]))) (lend_bx h1 (.b (.imm _ rfl)) (lend_bx h2 (.b (.imm _ hcol)) (lend_bx h3 (.b (.pt 1004 4 8 0 0 rfl)) (ct_lend 5 6 hn h4 h5 h6 rfl rfl trivial))))
theorem bw_back {s t : Sd} {st : Int} {n : Nat} {sec : Bool} {col : CV} {w : Wt} (hcol : immC col = true) (ni : List Nat) (kp : Nat) (hk : posOf ni kp = some 0) : BackBM [1000, 1001, 1002, 1003, 1004, 1005, 1006] ni (lsB s t st n sec col w 900 1004 1005 1006) (lsB s t st n sec col w kp 1004 1005 1006) :=
 back_bx (.b (.owN 0 kp hk)) (back_bx (.b (.imm _ rfl)) (back_bx (.b (.imm _ hcol)) (back_bx (.b (.pt 4 1004 8 0 0 rfl)) (ct_back 5 6 rfl rfl trivial))))
set_option maxHeartbeats 2000000 in
set_option maxRecDepth 100000 in
theorem BackwardIt_M (s t : Sd) (st : Int) (n : Nat) (sec : Bool) (col : CV) (hcol : immC col = true) (dec : List Int → Bool) (l : List Int) (W : Nat → Wt) (hn : 0 < n) (hl : l.length ≤ 1000000) :
 ItM Try.prog 108 [.c (plL l)] (lsRM s t st n sec col dec l W) l.length := by
 refine itm_of Try.func108 rfl rfl Try.ntmps108 rfl (fun _ _ => by show 1 ≤ 100; omega) (fun _ _ => rfl) fun lp N stop hN1 hN2 => ?_
 repeat (first
  | refine uA ?_
  | refine uB ?_
  | refine uC ?_
  | (refine rG 0 ?_
     refine qr5o (aV tyOk) ?_
     refine qr5 (aO tyOk) ?_
     refine qr4w2 AList.sub ?_
     refine kC ?_
     refine aB ?_))
 refine AWp.round (fun i : Nat =>
  mkG (itM Try.prog lp (lsRM s t st n sec col dec l W) N stop) i false 19 7 [(0, .c (.p (yv lp))), (1, .c (plL l)), (3, .c (iC ((l.length : Int) - 1 - (i : Nat))))] ((40, rwI (keptR dec l i).reverse) :: lentL 0 (lsB s t st n sec col (W i) 40 1004 1005 1006)) [40]
  ) (fun i => i ≤ l.length ∧ (stop = true → i < N)) (fun i => l.length - i) 0 ⟨Nat.zero_le _, fun h => (hN1 h).1⟩ ?_ (fun i hi => ?_)
 ·refine Wk.mkG [(40, some 800)] rfl rfl rfl rfl rfl ?_ ?_
  ·exact allT
  ·exact ⟨HeapOk.row rfl rfl rfl (fun _ _ _ _ => ⟨rfl, rfl⟩), HeapOk.lentC rfl rfl ⟨LeC.ow _ _ rfl, trivial⟩ rfl, HeapOk.lentC rfl rfl ⟨LeC.refl _ rfl, trivial⟩ rfl, HeapOk.lentC rfl rfl ⟨LeC.refl _ hcol, trivial⟩ rfl, HeapOk.lentC rfl rfl ⟨LeC.ptB _ _ _ _ rfl, trivial⟩ rfl,
   cnA, lrw, lrw
   , trivial⟩
 obtain ⟨hil, hiN0⟩ := hi
 by_cases hik : i < l.length
 rotate_left
 ·obtain rfl : i = l.length := by omega
  have hsf : stop = false := by
   cases stop with
   | false => rfl
   | true => have := hiN0 rfl; have := hN1 rfl; omega
  have hN := hN2 hsf
  have hc : ¬ (0 : Int) ≤ (l.length : Int) - 1 - (l.length : Nat) := by omega
  repeat (first
   | refine uA ?_
   | refine uB ?_
   | refine uH ?_
   | refine thenA_e ?_
   | refine uF ?_
   | refine kU ?_
   | (refine rG 1 ?_
      refine kA ?_
      refine qr5f aJ ?_
      refine aB ?_))
  refine ⟨⟨hN.symm, hsf.symm⟩, mkG (itM Try.prog lp (lsRM s t st n sec col dec l W) N stop) l.length false 19 7 [] (endL ((lsRM s t st n sec col dec l W).mv N) ((lsRM s t st n sec col dec l W).hE N)) [900], [], ?_, rfl, rfl⟩
  rw [hN]
  refine Wk.mkG [(900, some 40)] rfl rfl rfl rfl rfl trivial ?_
  exact ⟨HeapOk.row rfl rfl rfl (fun _ _ _ _ => ⟨rfl, rfl⟩), HeapOk.lentC rfl rfl ⟨LeC.ow _ _ rfl, trivial⟩ rfl, HeapOk.lentC rfl rfl ⟨LeC.refl _ rfl, trivial⟩ rfl, HeapOk.lentC rfl rfl ⟨LeC.refl _ hcol, trivial⟩ rfl, HeapOk.lentC rfl rfl ⟨LeC.ptB _ _ _ _ rfl, trivial⟩ rfl,
  cnA, lrw, lrw
  , trivial⟩
 have hiN : i < N := by
  cases stop with
  | true => exact hiN0 rfl
  | false => rw [hN2 rfl]; exact hik
 have hc : (0 : Int) ≤ (l.length : Int) - 1 - (i : Nat) := by omega
 have hix : ((l.length - (i + 1) : Nat) : Int) = (l.length : Int) - 1 - (i : Nat) := by omega
 have ev : iF (fun k => l.getD k 0) (l.length - (i + 1)) 0 = iC (l.getD (l.length - (i + 1)) 0) := rfl
 cases hg1 : goesB N stop i with
 | false =>
   obtain ⟨hst1, hN⟩ := goes_false hg1
   repeat (first
    | refine uA ?_
    | refine uB ?_
    | refine uC ?_
    | refine uG ?_
    | refine kT ?_
    | (refine rG 1 ?_
       refine kA ?_
       refine qr5t aK ?_
       refine aB ?_))
   refine AWp.text ?_
   refine AText.split 6 ?_
   (iterate 2 refine kA ?_)
   refine qr5o (aV tyOk) ?_
   refine kA ?_
   refine qr8eo2 (aP (k := l.length - (i + 1)) tyOk) ?_
   refine AList.load1lE tyOk (ev) rfl rfl rfl rfl rfl oM ?_
   refine aB ?_
   refine AText.yieldM (i := i) false [1000, 1001, 1002, 1003, 1004, 1005, 1006] [40] [41] (lsB s t st n sec col (W (i + 1)) 41 1004 1005 1006) [rwI (keptR dec l (i + 1)).reverse] rfl rfl rfl rfl (fun _ h => h) rfl rfl (hiN) (hg1) ((by show ∀ k, k < 7 → _; decide)) (bw_lend hn hcol rfl rfl rfl rfl rfl rfl rfl) (⟨⟨_, rfl, rfl, fun _ _ _ _ => ⟨rfl, rfl⟩⟩, trivial⟩) rfl (by exact ⟨.c (.b (.imm _ rfl)), .c (.b (.imm _ rfl)), trivial⟩) (bw_back hcol [41] 41 rfl) (⟨⟨_, rfl, fun _ _ _ _ => .imm _ rfl⟩, trivial⟩) ?_
   refine AText.all ?_
   refine qr3 AList.notB ?_
   refine aB ?_
   repeat (first
    | refine uB ?_
    | refine AWp.ret ?_
    | refine thenA_r ?_
    | refine uE ?_
    | refine kT ?_)
   refine ⟨⟨hN, hst1.symm⟩, mkG (itM Try.prog lp (lsRM s t st n sec col dec l W) N stop) (i + 1) true 19 7 [] (endL ((lsRM s t st n sec col dec l W).mv N) ((lsRM s t st n sec col dec l W).hE N)) [900], [], ?_, rfl, rfl⟩
   rw [← hN]
   refine Wk.mkG [(900, some 41)] rfl rfl rfl rfl rfl trivial ?_
   exact ⟨HeapOk.row rfl rfl rfl (fun _ _ _ _ => ⟨rfl, rfl⟩), HeapOk.lentC rfl rfl ⟨LeC.ow _ _ rfl, trivial⟩ rfl, HeapOk.lentC rfl rfl ⟨LeC.refl _ rfl, trivial⟩ rfl, HeapOk.lentC rfl rfl ⟨LeC.refl _ hcol, trivial⟩ rfl, HeapOk.lentC rfl rfl ⟨LeC.ptB _ _ _ _ rfl, trivial⟩ rfl,
   cnA, lrw, lrw
   , trivial⟩
 | true =>
   repeat (first
    | refine uA ?_
    | refine uB ?_
    | refine uC ?_
    | refine uG ?_
    | refine kT ?_
    | (refine rG 1 ?_
       refine kA ?_
       refine qr5t aK ?_
       refine aB ?_))
   refine AWp.text ?_
   refine AText.split 6 ?_
   (iterate 2 refine kA ?_)
   refine qr5o (aV tyOk) ?_
   refine kA ?_
   refine qr8eo2 (aP (k := l.length - (i + 1)) tyOk) ?_
   refine AList.load1lE tyOk (ev) rfl rfl rfl rfl rfl oM ?_
   refine aB ?_
   refine AText.yieldM (i := i) true [1000, 1001, 1002, 1003, 1004, 1005, 1006] [40] [41] (lsB s t st n sec col (W (i + 1)) 41 1004 1005 1006) [rwI (keptR dec l (i + 1)).reverse] rfl rfl rfl rfl (fun _ h => h) rfl rfl (hiN) (hg1) ((by show ∀ k, k < 7 → _; decide)) (bw_lend hn hcol rfl rfl rfl rfl rfl rfl rfl) (⟨⟨_, rfl, rfl, fun _ _ _ _ => ⟨rfl, rfl⟩⟩, trivial⟩) rfl (by exact ⟨.c (.b (.imm _ rfl)), .c (.b (.imm _ rfl)), trivial⟩) (bw_back hcol [41] 41 rfl) (⟨⟨_, rfl, fun _ _ _ _ => .imm _ rfl⟩, trivial⟩) ?_
   refine AText.all ?_
   refine qr3 AList.notB ?_
   refine aB ?_
   repeat (first
    | refine uB ?_
    | refine uG ?_
    | refine uD ?_
    | refine kU ?_
    | (refine rG 2 ?_
       refine kA ?_
       refine qr4w2 AList.sub ?_
       refine kC ?_
       refine aB ?_))
   refine ⟨i + 1, ⟨hik, fun h => by have := goes_true hg1 h; omega⟩, Wk.mkG [(40, some 41)] rfl rfl rfl rfl rfl ?_ ?_, by omega⟩
   ·exact allT
   ·exact ⟨HeapOk.row rfl rfl rfl (fun _ _ _ _ => ⟨rfl, rfl⟩), HeapOk.lentC rfl rfl ⟨LeC.ow _ _ rfl, trivial⟩ rfl, HeapOk.lentC rfl rfl ⟨LeC.refl _ rfl, trivial⟩ rfl, HeapOk.lentC rfl rfl ⟨LeC.refl _ hcol, trivial⟩ rfl, HeapOk.lentC rfl rfl ⟨LeC.ptB _ _ _ _ rfl, trivial⟩ rfl,
    cnA, lrw, lrw
    , trivial⟩
end Go.Proofs.Ytekkldgmjdllbaa
end
