/- Parts of the proof: ALd, A25l, A25m. -/
import Derived.Test.YtekkldgmjdllbaaG20
import Derived.Test.YtekkldgmjdllbaaG32
set_option linter.unusedSimpArgs false
set_option linter.unusedVariables false
section
namespace Go.AV
open Go Go.RowKit Go.Flow
section
variable {P : Program} {tab : List (TypeId × TD)} {ops : Array Oper} {rest : List Oper} {acc : List (List Nat × List Nat)} {S : St} {Q : List (List Nat × List Nat) → St → Prop} {dst : Option Tmp} {ty : TypeId} {pos : String} {after : Array Edge} {guard : Option (Nat × Bool)}
theorem AList.load1F (T : tabOk P tab = true) {t : TypeId} {x : Operand} {id sz k j : Nat} {B : AB} {d : TD} {c : CV} (hw : S.wants ops { dst, op := .load t x, type := ty, pos, after, guard } = some true) (hd : dOk S.n dst = true)
 (hx : S.opd x = some (.c (.pt id sz k j))) (hh : S.h id = some B) (hs : B.sz = sz) (ht : assoc tab t = some d) (hk : isOne d.k = true) (hkn : k < B.n) (hj : j < B.sz) (hl : B.F k j = c)
 (hn : AList P ops rest (([id], []) :: acc) (S.eff dst ⟨.c c, [], []⟩) Q) : AList P ops ({ dst, op := .load t x, type := ty, pos, after, guard } :: rest) acc S Q := by
 subst hl
 exact aE T hw hd hx hh hs ht hk hkn hj hn
end
end Go.AV
end
section
namespace Go.Proofs.Ytekkldgmjdllbaa
open Go.RowKit Go.Flow Go.AV Go.Plain
def revC (c : Nat → Int) (n i k : Nat) : Int := if k < i ∨ n ≤ k + i then c (n - 1 - k) else c k
theorem rev_set {c : Nat → Int} {n i : Nat} (h : 2 * i + 1 < n) : ∀ k, k < n → ∀ j, j < 1 → setF (setF (iF (revC c n i)) i 0 1 [iC (c (n - 1 - i))]) (n - 1 - i) 0 1 [iC (c i)] k j = iF (revC c n (i + 1)) k j ∧ immC (setF (setF (iF (revC c n i)) i 0 1 [iC (c (n - 1 - i))]) (n - 1 - i) 0 1 [iC (c i)] k j) = true := fun k hk j hj => by
 obtain rfl : j = 0 := Nat.lt_one_iff.mp hj
 have hs : ∀ (F : Nat → Nat → CV) (k p : Nat) (v : CV), setF F p 0 1 [v] k 0 = if k = p then v else F k 0 := fun F k p v => by
  unfold setF
  by_cases h : k = p
  ·subst h
   rw [Nat.beq_refl, if_pos rfl]
   rfl
  ·rw [show Nat.beq k p = false from Bool.eq_false_iff.2 fun e => h (Nat.eq_of_beq_eq_true e), if_neg h]
   rfl
 rw [hs, hs]
 by_cases h1 : k = n - 1 - i
 ·subst h1
  rw [if_pos rfl]
  refine ⟨?_, rfl⟩
  show iC _ = iC (revC c n (i + 1) (n - 1 - i))
  unfold revC
  rw [if_pos (by omega), show n - 1 - (n - 1 - i) = i by omega]
 ·rw [if_neg h1]
  by_cases h2 : k = i
  ·subst h2
   rw [if_pos rfl]
   refine ⟨?_, rfl⟩
   show iC _ = iC (revC c n (k + 1) k)
   unfold revC
   rw [if_pos (by omega)]
  ·rw [if_neg h2]
   refine ⟨?_, rfl⟩
   show iC (revC c n i k) = iC (revC c n (i + 1) k)
   unfold revC
   by_cases h3 : k < i ∨ n ≤ k + i
   ·rw [if_pos h3, if_pos (by omega)]
   ·rw [if_neg h3, if_neg (by omega)]
set_option maxHeartbeats 2000000 in
set_option maxRecDepth 100000 in
theorem Reverse_H (c : Nat → Int) (n : Nat) (hn : n ≤ 1000000) : GMCalls Try.prog 54 [.c (.ow 1000)] [cwB n c] [] (.tu []) [cwB n (revC c n n)] [] := by
 have hsn : ((1000 + 0, cwB n c) : Nat × AB).snd.n = n := rfl
 refine gm_at Try.func54 rfl rfl Try.ntmps54 rfl ?_
 repeat (first
  | refine uA ?_
  | refine uB ?_
  | refine uC ?_
  | (refine rG 0 ?_
     refine kA ?_
     refine qr7 (AList.lenOw tyOk) ?_
     refine qr4w2 AList.sub ?_
     (iterate 2 refine kC ?_)
     refine aB ?_))
 refine AWp.round (fun i : Nat => mkL 28 1 [(0, .c (.ow 1000)), (2, .c (iC i)), (3, .c (iC ((n : Int) - 1 - i)))] [(1000, cwB n (revC c n i))] [])
  (fun i => 2 * i ≤ n + 1) (fun i => n - i) 0 (by omega) ?_ (fun i hi => ?_)
 ·refine Wk.mkL [] rfl rfl rfl rfl rfl ?_ ?_
  ·repeat (first | exact trivial | refine ⟨⟨_, rfl, by first | exact LeA.c (LeC.owB _ rfl) | exact leT⟩, ?_⟩)
  ·refine ⟨HeapOk.lentRow rfl rfl (fun k hk j hj => ⟨?_, rfl⟩), trivial⟩
   show iC (c k) = iC (revC c n 0 k)
   unfold revC
   rw [if_neg (by omega)]
 by_cases hlt : 2 * i + 1 < n
 ·have hlt' : (i : Int) < (n : Int) - 1 - i := by omega
  have e1 : iF (revC c n i) (n - 1 - i) 0 = iC (c (n - 1 - i)) := by
   show iC (revC c n i (n - 1 - i)) = _
   unfold revC
   rw [if_neg (by omega)]
  have e2 : iF (revC c n i) i 0 = iC (c i) := by
   show iC (revC c n i i) = _
   unfold revC
   rw [if_neg (by omega)]
  repeat (first
   | refine uA ?_
   | refine uB ?_
   | refine uC ?_
   | refine uG ?_
   | refine uD ?_
   | refine kT ?_
   | (refine rG 1 ?_
      (iterate 2 refine kA ?_)
      refine qr5t aK ?_
      refine aB ?_)
   | (refine rG 2 ?_
      refine kA ?_
      refine qr4w2 aL ?_
      refine kA ?_
      refine qr4w2 AList.sub ?_
      (iterate 2 refine kC ?_)
      refine aB ?_)
   | (refine AWp.draw (id := 3) mixed ?_; (iterate 6 refine kA ?_); refine qr10eo (AList.idxOw (k := n - 1 - i) tyOk) ?_; refine AList.load1F tyOk rfl rfl rfl rfl rfl rfl rfl oM oM (e1) ?_; (iterate 2 refine kA ?_); refine qr10eo (AList.idxOw (k := i) tyOk) ?_; refine AList.load1F tyOk rfl rfl rfl rfl rfl rfl rfl oM oM (e2) ?_; refine qr10eo (AList.idxOw (k := i) tyOk) ?_; refine kI ?_; refine qr10eo (AList.idxOw (k := n - 1 - i) tyOk) ?_; refine kI ?_; refine aB ⟨by kernel_rfl, ?_⟩))
  refine ⟨i + 1, by omega, Wk.mkL [] rfl rfl rfl rfl rfl ?_ ?_, by omega⟩
  ·repeat (first | exact trivial | refine ⟨⟨_, rfl, by first | exact LeA.c (LeC.owB _ rfl) | exact leT⟩, ?_⟩)
  ·exact ⟨HeapOk.lentRow rfl rfl (rev_set hlt), trivial⟩
 have hlt' : ¬ (i : Int) < (n : Int) - 1 - i := by omega
 repeat (first
  | refine uA ?_
  | refine uB ?_
  | refine uH ?_
  | refine thenA_e ?_
  | refine uF ?_
  | refine kU ?_
  | (refine rG 1 ?_
     (iterate 2 refine kA ?_)
     refine qr5f aJ ?_
     refine aB ?_))
 refine ⟨mkL 28 1 [] [(1000, cwB n (revC c n n))] [], [], _, [cwB n (revC c n n)], [], ⟨rfl, rfl, rfl⟩, rfl, Wk.mkL [] rfl rfl rfl rfl rfl trivial ?_, rfl, rfl, GRets.no⟩
 refine ⟨HeapOk.lentRow rfl rfl (fun k hk j hj => ⟨?_, rfl⟩), trivial⟩
 show iC (revC c n i k) = iC (revC c n n k)
 unfold revC
 rw [if_pos (show k < n ∨ n ≤ k + n by omega)]
 by_cases h : k < i ∨ n ≤ k + i
 ·rw [if_pos h]
 ·rw [if_neg h, show n - 1 - k = k by omega]
theorem Reverse_nil : ACalls Try.prog 54 [.c (liV [])] (.tu []) := by
 have h0 : ([] : List Int).length = 0 := rfl
 refine acalls_at Try.func54 rfl rfl Try.ntmps54 rfl ?_
 repeat (first
  | refine uA ?_
  | refine uB ?_
  | refine uC ?_
  | (refine rG 0 ?_
     refine kA ?_
     refine qr5 (aO tyOk) ?_
     refine qr4w2 AList.sub ?_
     (iterate 2 refine kC ?_)
     refine aB ?_))
 refine AWp.round (fun _ : Nat => mkSt 28 [(2, .c (iC 0)), (3, .c (iC (-1)))] [] []) (fun _ => True) (fun i => i) 0 trivial ?_ (fun i hi => ?_)
 ·refine Wk.mk [] rfl rfl rfl ?_ trivial
  exact allT
 repeat (first
  | refine uA ?_
  | refine uB ?_
  | refine uH ?_
  | refine thenA_e ?_
  | refine uF ?_
  | refine kU ?_
  | (refine rG 1 ?_
     (iterate 2 refine kA ?_)
     refine qr5f aJ ?_
     refine aB ?_))
 exact ⟨mkSt 28 [] [] [], [], Wk.mk [] rfl rfl rfl trivial trivial, rfl, rfl, ARets.no⟩
theorem rev_list (K : List Int) {k : Nat} (hk : k < K.length) : revC (fun k => K.reverse.getD k 0) K.length K.length k = K.getD k 0 := by
 unfold revC
 rw [if_pos (by omega)]
 show K.reverse.getD (K.length - 1 - k) 0 = _
 rw [List.getD_eq_getElem?_getD, List.getElem?_reverse (by omega), show K.length - 1 - (K.length - 1 - k) = k by omega, ← List.getD_eq_getElem?_getD]
abbrev colFs (s : Sd) : CV := .fs 55 10 fun i => (sdC s).getD i .any
abbrev cxB (q : Nat) : AB := bx1 102 (.pt q 8 0 0)
abbrev lsH (s t : Sd) (st : Int) (n : Nat) (w : Wt) : List AB := [cxB 1001, ctB 1002 1003 w.1.length w.2.length s.mo t.mo st n, cwB n (colC s w.1), cwB n (colC t w.2)]
theorem colS_A (s : Sd) (v : Int) (ho : chk s.o.W s.o.H s.o.n = 0) (hm : -4 ≤ s.mv ∧ s.mv ≤ 4) (h : aloB s v = true) : ACalls Try.prog 55 [.ag (cellsS 10 fun i => (sdC s).getD i .any), .c (iC v)] (.c (iC (colV s v))) := pcolS_A s v ho hm h
set_option maxHeartbeats 4000000 in
set_option maxRecDepth 100000 in
theorem lessA_M (s t : Sd) (o l : List Int) (n m M : Nat) (hs : chk s.o.W s.o.H s.o.n = 0) (hW8 : s.o.W + 8 = (n : Int)) (ms : -4 ≤ s.mv ∧ s.mv ≤ 4) (hl : ∀ k, k < l.length → aloB s (l.getD k 0) = true) (hll : l.length ≤ 9216) (hol : o.length ≤ 9216) (hn0 : 0 < n) (hn : n ≤ 104) (hm : m ≤ 16) (hmn : m ≤ n) (hM : M + m = n + 1) :
 GMCalls Try.prog 51 [.c (liV l), .c (bC false), .c (colFs s), .c (.pt 1000 1 0 0)] (lsH s t m n ((l), o)) [] (.c (liV (keptR (fun x => decB s t m M x o) l l.length))) (lsH s t m n ((keptR (fun x => decB s t m M x o) l l.length), o)) [] := by
 obtain ⟨dec, hdec⟩ : ∃ dec : List Int → Bool, dec = (fun x => decB s t m M x o) := ⟨_, rfl⟩
 rw [← hdec]
 obtain ⟨W, hW⟩ : ∃ W : Nat → Wt, W = fun i => ((curR dec l i), o) := ⟨_, rfl⟩
 have hW0 : W 0 = ((l), o) := by rw [hW]; show ((curR dec l 0), o) = _; rw [curR_zero]
 have hWN : W l.length = ((keptR dec l l.length), o) := by rw [hW]; show ((curR dec l l.length), o) = _; rw [curR_end]
 have hIt := BackwardIt_M s t m n false (colFs s) rfl dec l W hn0 (by omega)
 refine gm_at Try.func51 rfl rfl Try.ntmps51 rfl ?_
 repeat (first
  | refine uA ?_
  | refine uB ?_
  | refine uC ?_
  | (refine rG 0 ?_
     (iterate 2 refine qr5 aQ ?_)
     refine kC ?_
     refine aB ?_)
  | (refine rG 1 ?_
     refine qr5 (aM tyOk) ?_
     refine aB ?_)
  | (refine rG 2 ?_
     refine kA ?_
     refine aH rfl rfl rfl rfl Try.func52 rfl (by kernel_rfl) (Backward_A l) ?_
     refine aB ?_))
 refine AWp.weak (S' := mkL 37 4 [(3, .c (.pt 1000 1 0 0)), (5, .c (.pt 5 1 0 0)), (6, .c (.pt 6 1 0 0)), (8, .c (.pt 8 1 0 0)), (12, .c (.fn 108 1 fun i => [plL l].getD i .any))] [(5, bx1 4 (bC false)), (6, bx1 106 (colFs s)), (8, bx1 22 (.ow 30)), (30, rwI []), (1000, cxB 1001), (1001, ctB 1002 1003 (W 0).1.length (W 0).2.length s.mo t.mo m n), (1002, cwB n (colC s (W 0).1)), (1003, cwB n (colC t (W 0).2))] [5, 6, 8, 30]) (Wk.mkL [(5, some 5), (6, some 6), (8, some 8), (30, none)] rfl rfl rfl rfl rfl ?_ ?_) ?_
 ·refine ⟨⟨_, rfl, LeA.c (LeC.ptB _ _ _ _ rfl)⟩, ⟨_, rfl, LeA.c (LeC.pt _ _ _ _ _ rfl)⟩, ⟨_, rfl, LeA.c (LeC.pt _ _ _ _ _ rfl)⟩, ⟨_, rfl, LeA.c (LeC.pt _ _ _ _ _ rfl)⟩, ⟨_, rfl, LeA.c (LeC.fn _ 1 _ _ (fun i hi => ?_) (fun i hi => ?_))⟩, trivial⟩
  all_goals obtain rfl : i = 0 := by omega
  ·exact ⟨trivial, trivial⟩
  ·exact LeC.refl _ rfl
 ·rw [hW0]
  exact ⟨HeapOk.box rfl rfl ⟨LeC.refl _ rfl, trivial⟩ rfl, HeapOk.box rfl rfl ⟨LeC.refl _ rfl, trivial⟩ rfl, HeapOk.box rfl rfl ⟨LeC.nil _ rfl, trivial⟩ rfl, HeapOk.nil rfl rfl, HeapOk.lentC rfl rfl ⟨LeC.ptB _ _ _ _ rfl, trivial⟩ rfl,
  cnA, lrw, lrw
  , trivial⟩
 refine AWp.rangeM (N := l.length) (stop := false) (eS := .ret) (A := lsRM s t m n false (colFs s) dec l W) (M := l.length) (cs := [.c (plL l)]) (ts := [(3, .c (.pt 1003 1 0 0)), (5, .c (.pt 1001 1 0 0)), (6, .c (.pt 1002 1 0 0)), (8, .c (.pt 1000 1 0 0))]) [8, 5, 6, 1000, 1001, 1002, 1003] [30] [31] [bx1 22 (.ow 31), bx1 4 (bC false), bx1 106 (colFs s), cxB 1001, ctB 1002 1003 (W l.length).1.length (W l.length).2.length s.mo t.mo m n, cwB n (colC s (W l.length).1), cwB n (colC t (W l.length).2)] [rwI (keptR dec l l.length).reverse]
  rfl (enters_of Try.func108 (by kernel_rfl) rfl) (fun i hi f k D e => by obtain rfl : i = 0 := (by omega); cases e) (by exact ⟨.c (.b (.imm _ rfl)), trivial⟩) hIt (fun _ h => h) (fun h => by cases h) (fun _ => rfl) ?_ ⟨⟨_, rfl, rfl, fun _ _ _ _ => ⟨rfl, rfl⟩⟩, trivial⟩ rfl (fun i _ => ⟨rfl, rfl, by show 1 ≤ 100; omega⟩) rfl rfl ?_ rfl (fun _ _ => rfl) (.inl rfl) (fun i hi => ?_) ?_ ⟨⟨_, rfl, fun _ _ _ _ => .imm _ rfl⟩, trivial⟩ ?_
 ·exact lend_bx rfl (.b (.mv 30 0 rfl)) (lend_bx rfl (.b (.imm _ rfl)) (lend_bx rfl (.b (.imm _ rfl)) (lend_bx rfl (.b (.pt 1001 4 8 0 0 rfl)) (ct_lend 5 6 hn0 (h := trivial)))))
 ·exact ⟨⟨_, rfl, .c (.b (.pt 1000 3 1 0 0 rfl))⟩, ⟨_, rfl, .c (.b (.pt 5 1 1 0 0 rfl))⟩, ⟨_, rfl, .c (.b (.pt 6 2 1 0 0 rfl))⟩, ⟨_, rfl, .c (.b (.pt 8 0 1 0 0 rfl))⟩, trivial⟩
 ·have hv := hl (l.length - (i + 1)) (by omega)
  have hcol := colS_A s (l.getD (l.length - (i + 1)) 0) hs ms hv
  obtain ⟨c1, c2, c3, c4, c5⟩ := col_bd hs ms hv
  obtain ⟨k1, k2, k3⟩ := curR_col s dec l hi
  have klen := keptR_len dec l i
  have kl2 := curR_len dec l (Nat.le_of_lt hi)
  have kn := colC_nn s (curR dec l i) (colV s (l.getD (l.length - (i + 1)) 0))
  have kn2 := colC_nn s (tryR dec l i) (colV s (l.getD (l.length - (i + 1)) 0))
  have ko1 := colC_nn s o (colV s (l.getD (l.length - (i + 1)) 0))
  have ko2 := colC_nn t o (colV s (l.getD (l.length - (i + 1)) 0))
  have hWi : W i = ((curR dec l i), o) := by rw [hW]
  have hWs : W (i + 1) = ((curR dec l (i + 1)), o) := by rw [hW]
  have a1 := addA_M (curR dec l i).length o.length s.mo t.mo m n (-1) n (colV s (l.getD (l.length - (i + 1)) 0)) (colC s (curR dec l i)) (colC t o) (by omega) (by omega) (by omega) (by omega) (by omega) (by omega) (by omega)
  have a2 := addA_M (tryR dec l i).length o.length s.mo t.mo m n 1 n (colV s (l.getD (l.length - (i + 1)) 0)) (colC s (tryR dec l i)) (colC t o) (by omega) (by omega) (by omega) (by omega) (by omega) (by omega) (by omega)
  rw [← k1, show ((curR dec l i).length : Int) + -1 = (tryR dec l i).length by omega] at a1
  rw [← k2, show ((tryR dec l i).length : Int) + 1 = (curR dec l i).length by omega] at a2
  have hd := dec_M s t n m M ((tryR dec l i), o).1 ((tryR dec l i), o).2 hn0 hn hm hmn hM (by dsimp only; omega) (by dsimp only; omega)
  have hdd : decB s t m M ((tryR dec l i), o).1 ((tryR dec l i), o).2 = dec (tryR dec l i) := by rw [hdec]
  rw [hdd] at hd
  clear k1 k2 hdd
  refine AWp.weak (S' := mkG (fun _ => True) 0 false 37 7 [(3, .c (.pt 1003 1 0 0)), (5, .c (.pt 1001 1 0 0)), (6, .c (.pt 1002 1 0 0)), (8, .c (.pt 1000 1 0 0)), (14, .c (iC (l.getD (l.length - (i + 1)) 0)))] ((800, rwI (keptR dec l i).reverse) :: lentL 0 (lsB s t m n false (colFs s) ((curR dec l i), o) 800 1004 1005 1006)) [800]) (Wk.mkG [(800, some 800)] rfl rfl rfl rfl rfl ?_ ?_ rfl rfl (fun _ _ => trivial)) ?_
  ·repeat (first | exact trivial | refine ⟨⟨_, rfl, by first | exact LeA.c (LeC.ptB _ _ _ _ rfl) | exact leT⟩, ?_⟩)
  ·rw [← hWi]
   exact ⟨HeapOk.row rfl rfl rfl (fun _ _ _ _ => ⟨rfl, rfl⟩),
   HeapOk.lentC rfl rfl ⟨LeC.ow _ _ rfl, trivial⟩ rfl, HeapOk.lentC rfl rfl ⟨LeC.refl _ rfl, trivial⟩ rfl, HeapOk.lentC rfl rfl ⟨LeC.refl _ rfl, trivial⟩ rfl, HeapOk.lentC rfl rfl ⟨LeC.ptB _ _ _ _ rfl, trivial⟩ rfl
   ,
   cnA, lrw, lrw
   , trivial⟩
  have hrl : (keptR dec l i).reverse.length = (keptR dec l i).length := List.length_reverse
  cases hdv : dec (tryR dec l i) with
  | true =>
    obtain ⟨g1, g2⟩ := curR_yes hdv
    rw [hdv] at hd
    rw [g1] at hWs
    generalize tryR dec l i = T1 at *
    generalize curR dec l i = T2 at *
    generalize colV s (l.getD (l.length - (i + 1)) 0) = cv at *
    generalize l.getD (l.length - (i + 1)) 0 = v at *
    repeat (first
     | refine uB ?_
     | (refine rG 3 ?_
        refine kC ?_
        refine aB ?_))
    refine ⟨rfl, ?_⟩
    repeat (first
     | refine uA ?_
     | refine uB ?_
     | refine uC ?_
     | refine uG ?_
     | refine uD ?_
     | refine kU ?_
     | (refine AWp.draw (id := 4) mixed ?_; (iterate 3 refine kE ?_); refine kA ?_; refine AList.callS rfl rfl rfl rfl rfl rfl Try.func55 rfl (by kernel_rfl) (hcol) ?_; refine AList.callM [1004, 1005, 1006] [] [] (ctL T2.length o.length s.mo t.mo m n n (colC s T2) (colC t o)) [] (ctL T1.length o.length s.mo t.mo m n n (colC s T1) (colC t o)) [] [ctB 1005 1006 T1.length o.length s.mo t.mo m n, cwB n (colC s ((T1), o).1), cwB n (colC t ((T1), o).2)] [] rfl rfl FnV.func rfl Try.func53 rfl (by kernel_rfl) (ct_lend 1 2 hn0 (h := trivial)) (trivial) rfl (by exact ⟨.c (.b (.pt 1004 0 8 0 0 rfl)), .c (.b (.imm _ rfl)), .c (.b (.imm _ rfl)), .c (.b (.imm _ rfl)), trivial⟩) (.tu (l := []) (m := []) trivial) (ct_back 1 2 (h := trivial)) (trivial) (a1) ?_; refine aB ⟨by kernel_rfl, ?_⟩)
     | (refine rG 5 ?_
        refine kE ?_
        refine AList.callM [1004, 1005, 1006] [] [] (ctL T1.length o.length s.mo t.mo m n n (colC s T1) (colC t o)) [] (ctL T1.length o.length s.mo t.mo m n n (colC s T1) (colC t o)) [] [ctB 1005 1006 T1.length o.length s.mo t.mo m n, cwB n (colC s ((T1), o).1), cwB n (colC t ((T1), o).2)] [] rfl rfl FnV.func rfl Try.func48 rfl (by kernel_rfl) (ct_lend 1 2 hn0 (h := trivial)) (trivial) rfl (by exact ⟨.c (.b (.pt 1004 0 8 0 0 rfl)), trivial⟩) (.c (.imm _ rfl)) (ct_back 1 2 (h := trivial)) (trivial) (hd) ?_
        refine qr3 AList.notB ?_
        refine aB ?_))
    refine ⟨rfl, mkG (fun _ => True) 0 true 37 7 [] (endL [rwI ((keptR dec l (i + 1)).reverse)] (lsB s t m n false (colFs s) (W (i + 1)) 900 1004 1005 1006)) [900], [], Wk.mkG [(900, some 800)] rfl rfl rfl rfl rfl trivial ?_, rfl, rfl⟩
    rw [hWs, g2]
    exact ⟨HeapOk.row rfl rfl rfl (fun _ _ _ _ => ⟨rfl, rfl⟩),
    HeapOk.lentC rfl rfl ⟨LeC.ow _ _ rfl, trivial⟩ rfl, HeapOk.lentC rfl rfl ⟨LeC.refl _ rfl, trivial⟩ rfl, HeapOk.lentC rfl rfl ⟨LeC.refl _ rfl, trivial⟩ rfl, HeapOk.lentC rfl rfl ⟨LeC.ptB _ _ _ _ rfl, trivial⟩ rfl
    ,
    cnA, lrw, lrw
    , trivial⟩
  | false =>
    obtain ⟨g1, g2⟩ := curR_no hi hdv
    rw [hdv] at hd
    rw [g1] at hWs
    have g3 : (keptR dec l (i + 1)).reverse = (keptR dec l i).reverse ++ [l.getD (l.length - (i + 1)) 0] := by rw [g2, List.reverse_cons]
    generalize tryR dec l i = T1 at *
    generalize curR dec l i = T2 at *
    generalize colV s (l.getD (l.length - (i + 1)) 0) = cv at *
    generalize l.getD (l.length - (i + 1)) 0 = v at *
    repeat (first
     | refine uB ?_
     | (refine rG 3 ?_
        refine kC ?_
        refine aB ?_))
    refine ⟨rfl, ?_⟩
    repeat (first
     | refine uA ?_
     | refine uB ?_
     | refine uC ?_
     | refine kT ?_
     | (refine AWp.draw (id := 4) mixed ?_; (iterate 3 refine kE ?_); refine kA ?_; refine AList.callS rfl rfl rfl rfl rfl rfl Try.func55 rfl (by kernel_rfl) (hcol) ?_; refine AList.callM [1004, 1005, 1006] [] [] (ctL T2.length o.length s.mo t.mo m n n (colC s T2) (colC t o)) [] (ctL T1.length o.length s.mo t.mo m n n (colC s T1) (colC t o)) [] [ctB 1005 1006 T1.length o.length s.mo t.mo m n, cwB n (colC s ((T1), o).1), cwB n (colC t ((T1), o).2)] [] rfl rfl FnV.func rfl Try.func53 rfl (by kernel_rfl) (ct_lend 1 2 hn0 (h := trivial)) (trivial) rfl (by exact ⟨.c (.b (.pt 1004 0 8 0 0 rfl)), .c (.b (.imm _ rfl)), .c (.b (.imm _ rfl)), .c (.b (.imm _ rfl)), trivial⟩) (.tu (l := []) (m := []) trivial) (ct_back 1 2 (h := trivial)) (trivial) (a1) ?_; refine aB ⟨by kernel_rfl, ?_⟩)
     | (refine rG 5 ?_
        refine kE ?_
        refine AList.callM [1004, 1005, 1006] [] [] (ctL T1.length o.length s.mo t.mo m n n (colC s T1) (colC t o)) [] (ctL T1.length o.length s.mo t.mo m n n (colC s T1) (colC t o)) [] [ctB 1005 1006 T1.length o.length s.mo t.mo m n, cwB n (colC s ((T1), o).1), cwB n (colC t ((T1), o).2)] [] rfl rfl FnV.func rfl Try.func48 rfl (by kernel_rfl) (ct_lend 1 2 hn0 (h := trivial)) (trivial) rfl (by exact ⟨.c (.b (.pt 1004 0 8 0 0 rfl)), trivial⟩) (.c (.imm _ rfl)) (ct_back 1 2 (h := trivial)) (trivial) (hd) ?_
        refine qr3 AList.notB ?_
        refine aB ?_))
    repeat (first
     | refine uB ?_
     | refine uD ?_
     | (refine AWp.draw (id := 6) mixed ?_; (iterate 3 refine kE ?_); refine kA ?_; refine AList.callS rfl rfl rfl rfl rfl rfl Try.func55 rfl (by kernel_rfl) (hcol) ?_; refine AList.callM [1004, 1005, 1006] [] [] (ctL T1.length o.length s.mo t.mo m n n (colC s T1) (colC t o)) [] (ctL T2.length o.length s.mo t.mo m n n (colC s T2) (colC t o)) [] [ctB 1005 1006 T2.length o.length s.mo t.mo m n, cwB n (colC s ((T2), o).1), cwB n (colC t ((T2), o).2)] [] rfl rfl FnV.func rfl Try.func53 rfl (by kernel_rfl) (ct_lend 1 2 hn0 (h := trivial)) (trivial) rfl (by exact ⟨.c (.b (.pt 1004 0 8 0 0 rfl)), .c (.b (.imm _ rfl)), .c (.b (.imm _ rfl)), .c (.b (.imm _ rfl)), trivial⟩) (.tu (l := []) (m := []) trivial) (ct_back 1 2 (h := trivial)) (trivial) (a2) ?_; refine aB ⟨by kernel_rfl, ?_⟩)
     | (refine rG 7 ?_
        refine kE ?_
        refine kA ?_
        refine qr11 (AList.litSl tyOk) ?_
        refine AList.appL tyOk rfl rfl rfl rfl rfl rfl rfl rfl rfl rfl oM oM ?_
        refine kI ?_
        refine aB ?_))
    refine ⟨rfl, mkG (fun _ => True) 0 true 37 7 [] (endL [rwI ((keptR dec l (i + 1)).reverse)] (lsB s t m n false (colFs s) (W (i + 1)) 900 1004 1005 1006)) [900], [], Wk.mkG [(900, some 33)] rfl rfl rfl rfl rfl trivial ?_, rfl, rfl⟩
    rw [hWs, g3]
    exact ⟨HeapOk.row rfl rfl (by rw [List.length_append]; rfl) (rwI_snoc _ _),
    HeapOk.lentC rfl rfl ⟨LeC.ow _ _ rfl, trivial⟩ rfl, HeapOk.lentC rfl rfl ⟨LeC.refl _ rfl, trivial⟩ rfl, HeapOk.lentC rfl rfl ⟨LeC.refl _ rfl, trivial⟩ rfl, HeapOk.lentC rfl rfl ⟨LeC.ptB _ _ _ _ rfl, trivial⟩ rfl
    ,
    cnA, lrw, lrw
    , trivial⟩
 ·exact back_bx (.b (.owN 0 31 rfl)) (back_bx (.b (.imm _ rfl)) (back_bx (.b (.imm _ rfl)) (back_bx (.b (.pt 4 1001 8 0 0 rfl)) (ct_back 5 6 rfl rfl trivial))))
 ·rw [hWN]
  have hkl := keptR_len dec l l.length
  generalize keptR dec l l.length = K at *
  clear hIt hWN hW0 hW
  have hKr : K.reverse.length = K.length := List.length_reverse
  refine AWp.weak (S' := mkL 37 4 [(8, .c (.pt 8 1 0 0))] [(8, bx1 22 (.ow 31)), (31, cwB K.length (fun k => K.reverse.getD k 0)), (1000, cxB 1001), (1001, ctB 1002 1003 ((K), o).1.length ((K), o).2.length s.mo t.mo m n), (1002, cwB n (colC s ((K), o).1)), (1003, cwB n (colC t ((K), o).2))] [8, 31]) (Wk.mkL [(8, some 8), (31, some 31)] rfl rfl rfl rfl rfl ?_ ?_) ?_
  ·exact allT
  ·exact ⟨HeapOk.box rfl rfl ⟨LeC.ow _ _ rfl, trivial⟩ rfl, HeapOk.row rfl rfl hKr.symm (fun _ _ _ _ => ⟨rfl, rfl⟩), HeapOk.lentC rfl rfl ⟨LeC.ptB _ _ _ _ rfl, trivial⟩ rfl,
   cnA, lrw, lrw
   , trivial⟩
  by_cases h0 : K.length = 0
  ·obtain rfl : K = [] := List.eq_nil_of_length_eq_zero h0
   refine AWp.weak (S' := mkL 37 4 [(8, .c (.pt 8 1 0 0))] [(8, bx1 22 (liV [])), (1000, cxB 1001), (1001, ctB 1002 1003 (([] : List Int), o).1.length (([] : List Int), o).2.length s.mo t.mo m n), (1002, cwB n (colC s (([] : List Int), o).1)), (1003, cwB n (colC t (([] : List Int), o).2))] [8]) (Wk.mkL [(8, some 8)] rfl rfl rfl rfl rfl ?_ ?_) ?_
   ·exact allT
   ·exact ⟨HeapOk.box rfl rfl ⟨LeC.fz rfl rfl rfl (fun _ h => absurd h (Nat.not_lt_zero _)), trivial⟩ rfl, HeapOk.lentC rfl rfl ⟨LeC.ptB _ _ _ _ rfl, trivial⟩ rfl,
    cnA, lrw, lrw
    , trivial⟩
   repeat (first
    | refine uA ?_
    | refine uB ?_
    | refine AWp.ret ?_
    | (refine rG 8 ?_
       refine kE ?_
       refine aH rfl rfl rfl rfl Try.func54 rfl (by kernel_rfl) (Reverse_nil) ?_
       refine aB ?_)
    | (refine rG 9 ?_
       refine kE ?_
       refine kC ?_
       refine aB ?_))
   refine ⟨mkL 37 4 [(7, .c (liV []))] [(1000, cxB 1001), (1001, ctB 1002 1003 (([] : List Int), o).1.length (([] : List Int), o).2.length s.mo t.mo m n), (1002, cwB n (colC s (([] : List Int), o).1)), (1003, cwB n (colC t (([] : List Int), o).2))] [], [], _, lsH s t m n (([] : List Int), o), [], ⟨rfl, rfl, rfl⟩, rfl, Wk.mkL [] rfl rfl rfl rfl rfl ?_ ?_, rfl, rfl, GRets.one (x := .c _) (GRes.tmp rfl)⟩
   ·exact allT
   ·exact ⟨HeapOk.lentC rfl rfl ⟨LeC.ptB _ _ _ _ rfl, trivial⟩ rfl,
    cnA, lrw, lrw
    , trivial⟩
  ·have hpos : 0 < K.length := Nat.pos_of_ne_zero h0
   repeat (first
    | refine uA ?_
    | refine uB ?_
    | refine AWp.ret ?_
    | (refine rG 8 ?_
       refine kE ?_
       refine AList.callM [31] [] [] [cwB K.length (fun k => K.reverse.getD k 0)] [] [cwB K.length (revC (fun k => K.reverse.getD k 0) K.length K.length)] [] [cwB K.length (revC (fun k => K.reverse.getD k 0) K.length K.length)] [] rfl rfl FnV.func rfl Try.func54 rfl (by kernel_rfl) (⟨⟨_, rfl, fun _ => hpos, fun _ _ _ _ => .b (.imm _ rfl)⟩, trivial⟩) (trivial) rfl (by exact ⟨.c (.b (.ow 31 0 rfl)), trivial⟩) (.tu (l := []) (m := []) trivial) (⟨⟨_, rfl, fun _ _ _ _ => .b (.imm _ rfl)⟩, trivial⟩) (trivial) (Reverse_H (fun k => K.reverse.getD k 0) K.length (by omega)) ?_
       refine aB ?_)
    | (refine rG 9 ?_
       refine kE ?_
       refine kC ?_
       refine aB ?_))
   refine ⟨mkL 37 4 [(7, .c (liV K))] [(1000, cxB 1001), (1001, ctB 1002 1003 ((K), o).1.length ((K), o).2.length s.mo t.mo m n), (1002, cwB n (colC s ((K), o).1)), (1003, cwB n (colC t ((K), o).2))] [], [], _, lsH s t m n ((K), o), [], ⟨rfl, rfl, rfl⟩, rfl, Wk.mkL [] rfl rfl rfl rfl rfl ?_ ?_, rfl, rfl, GRets.one (x := .c _) (GRes.tmp rfl)⟩
   ·refine ⟨⟨_, rfl, .c (LeC.fz rfl rfl rfl (fun k hk j hj => ⟨?_, rfl⟩))⟩, trivial⟩
    obtain rfl : j = 0 := Nat.lt_one_iff.mp hj
    exact congrArg (fun z => iC z) (rev_list K hk)
   ·exact ⟨HeapOk.lentC rfl rfl ⟨LeC.ptB _ _ _ _ rfl, trivial⟩ rfl,
    cnA, lrw, lrw
    , trivial⟩
set_option maxHeartbeats 4000000 in
set_option maxRecDepth 100000 in
theorem lessB_M (s t : Sd) (o l : List Int) (n m M : Nat) (hs : chk t.o.W t.o.H t.o.n = 0) (hW8 : t.o.W + 8 = (n : Int)) (ms : -4 ≤ t.mv ∧ t.mv ≤ 4) (hl : ∀ k, k < l.length → aloB t (l.getD k 0) = true) (hll : l.length ≤ 9216) (hol : o.length ≤ 9216) (hn0 : 0 < n) (hn : n ≤ 104) (hm : m ≤ 16) (hmn : m ≤ n) (hM : M + m = n + 1) :
 GMCalls Try.prog 51 [.c (liV l), .c (bC true), .c (colFs t), .c (.pt 1000 1 0 0)] (lsH s t m n (o,(l))) [] (.c (liV (keptR (fun x => decB s t m M o x) l l.length))) (lsH s t m n (o,(keptR (fun x => decB s t m M o x) l l.length))) [] := by
 obtain ⟨dec, hdec⟩ : ∃ dec : List Int → Bool, dec = (fun x => decB s t m M o x) := ⟨_, rfl⟩
 rw [← hdec]
 obtain ⟨W, hW⟩ : ∃ W : Nat → Wt, W = fun i => (o,(curR dec l i)) := ⟨_, rfl⟩
 have hW0 : W 0 = (o,(l)) := by rw [hW]; show (o,(curR dec l 0)) = _; rw [curR_zero]
 have hWN : W l.length = (o,(keptR dec l l.length)) := by rw [hW]; show (o,(curR dec l l.length)) = _; rw [curR_end]
 have hIt := BackwardIt_M s t m n true (colFs t) rfl dec l W hn0 (by omega)
 refine gm_at Try.func51 rfl rfl Try.ntmps51 rfl ?_
 repeat (first
  | refine uA ?_
  | refine uB ?_
  | refine uC ?_
  | (refine rG 0 ?_
     (iterate 2 refine qr5 aQ ?_)
     refine kC ?_
     refine aB ?_)
  | (refine rG 1 ?_
     refine qr5 (aM tyOk) ?_
     refine aB ?_)
  | (refine rG 2 ?_
     refine kA ?_
     refine aH rfl rfl rfl rfl Try.func52 rfl (by kernel_rfl) (Backward_A l) ?_
     refine aB ?_))
 refine AWp.weak (S' := mkL 37 4 [(3, .c (.pt 1000 1 0 0)), (5, .c (.pt 5 1 0 0)), (6, .c (.pt 6 1 0 0)), (8, .c (.pt 8 1 0 0)), (12, .c (.fn 108 1 fun i => [plL l].getD i .any))] [(5, bx1 4 (bC true)), (6, bx1 106 (colFs t)), (8, bx1 22 (.ow 30)), (30, rwI []), (1000, cxB 1001), (1001, ctB 1002 1003 (W 0).1.length (W 0).2.length s.mo t.mo m n), (1002, cwB n (colC s (W 0).1)), (1003, cwB n (colC t (W 0).2))] [5, 6, 8, 30]) (Wk.mkL [(5, some 5), (6, some 6), (8, some 8), (30, none)] rfl rfl rfl rfl rfl ?_ ?_) ?_
 ·refine ⟨⟨_, rfl, LeA.c (LeC.ptB _ _ _ _ rfl)⟩, ⟨_, rfl, LeA.c (LeC.pt _ _ _ _ _ rfl)⟩, ⟨_, rfl, LeA.c (LeC.pt _ _ _ _ _ rfl)⟩, ⟨_, rfl, LeA.c (LeC.pt _ _ _ _ _ rfl)⟩, ⟨_, rfl, LeA.c (LeC.fn _ 1 _ _ (fun i hi => ?_) (fun i hi => ?_))⟩, trivial⟩
  all_goals obtain rfl : i = 0 := by omega
  ·exact ⟨trivial, trivial⟩
  ·exact LeC.refl _ rfl
 ·rw [hW0]
  exact ⟨HeapOk.box rfl rfl ⟨LeC.refl _ rfl, trivial⟩ rfl, HeapOk.box rfl rfl ⟨LeC.refl _ rfl, trivial⟩ rfl, HeapOk.box rfl rfl ⟨LeC.nil _ rfl, trivial⟩ rfl, HeapOk.nil rfl rfl, HeapOk.lentC rfl rfl ⟨LeC.ptB _ _ _ _ rfl, trivial⟩ rfl,
  cnA, lrw, lrw
  , trivial⟩
 refine AWp.rangeM (N := l.length) (stop := false) (eS := .ret) (A := lsRM s t m n true (colFs t) dec l W) (M := l.length) (cs := [.c (plL l)]) (ts := [(3, .c (.pt 1003 1 0 0)), (5, .c (.pt 1001 1 0 0)), (6, .c (.pt 1002 1 0 0)), (8, .c (.pt 1000 1 0 0))]) [8, 5, 6, 1000, 1001, 1002, 1003] [30] [31] [bx1 22 (.ow 31), bx1 4 (bC true), bx1 106 (colFs t), cxB 1001, ctB 1002 1003 (W l.length).1.length (W l.length).2.length s.mo t.mo m n, cwB n (colC s (W l.length).1), cwB n (colC t (W l.length).2)] [rwI (keptR dec l l.length).reverse]
  rfl (enters_of Try.func108 (by kernel_rfl) rfl) (fun i hi f k D e => by obtain rfl : i = 0 := (by omega); cases e) (by exact ⟨.c (.b (.imm _ rfl)), trivial⟩) hIt (fun _ h => h) (fun h => by cases h) (fun _ => rfl) ?_ ⟨⟨_, rfl, rfl, fun _ _ _ _ => ⟨rfl, rfl⟩⟩, trivial⟩ rfl (fun i _ => ⟨rfl, rfl, by show 1 ≤ 100; omega⟩) rfl rfl ?_ rfl (fun _ _ => rfl) (.inl rfl) (fun i hi => ?_) ?_ ⟨⟨_, rfl, fun _ _ _ _ => .imm _ rfl⟩, trivial⟩ ?_
 ·exact lend_bx rfl (.b (.mv 30 0 rfl)) (lend_bx rfl (.b (.imm _ rfl)) (lend_bx rfl (.b (.imm _ rfl)) (lend_bx rfl (.b (.pt 1001 4 8 0 0 rfl)) (ct_lend 5 6 hn0 (h := trivial)))))
 ·exact ⟨⟨_, rfl, .c (.b (.pt 1000 3 1 0 0 rfl))⟩, ⟨_, rfl, .c (.b (.pt 5 1 1 0 0 rfl))⟩, ⟨_, rfl, .c (.b (.pt 6 2 1 0 0 rfl))⟩, ⟨_, rfl, .c (.b (.pt 8 0 1 0 0 rfl))⟩, trivial⟩
 ·have hv := hl (l.length - (i + 1)) (by omega)
  have hcol := colS_A t (l.getD (l.length - (i + 1)) 0) hs ms hv
  obtain ⟨c1, c2, c3, c4, c5⟩ := col_bd hs ms hv
  obtain ⟨k1, k2, k3⟩ := curR_col t dec l hi
  have klen := keptR_len dec l i
  have kl2 := curR_len dec l (Nat.le_of_lt hi)
  have kn := colC_nn t (curR dec l i) (colV t (l.getD (l.length - (i + 1)) 0))
  have kn2 := colC_nn t (tryR dec l i) (colV t (l.getD (l.length - (i + 1)) 0))
  have ko1 := colC_nn s o (colV t (l.getD (l.length - (i + 1)) 0))
  have ko2 := colC_nn t o (colV t (l.getD (l.length - (i + 1)) 0))
  have hWi : W i = (o,(curR dec l i)) := by rw [hW]
  have hWs : W (i + 1) = (o,(curR dec l (i + 1))) := by rw [hW]
  have a1 := addB_M o.length (curR dec l i).length s.mo t.mo m n (-1) n (colV t (l.getD (l.length - (i + 1)) 0)) (colC s o) (colC t (curR dec l i)) (by omega) (by omega) (by omega) (by omega) (by omega) (by omega) (by omega)
  have a2 := addB_M o.length (tryR dec l i).length s.mo t.mo m n 1 n (colV t (l.getD (l.length - (i + 1)) 0)) (colC s o) (colC t (tryR dec l i)) (by omega) (by omega) (by omega) (by omega) (by omega) (by omega) (by omega)
  rw [← k1, show ((curR dec l i).length : Int) + -1 = (tryR dec l i).length by omega] at a1
  rw [← k2, show ((tryR dec l i).length : Int) + 1 = (curR dec l i).length by omega] at a2
  have hd := dec_M s t n m M (o,(tryR dec l i)).1 (o,(tryR dec l i)).2 hn0 hn hm hmn hM (by dsimp only; omega) (by dsimp only; omega)
  have hdd : decB s t m M (o,(tryR dec l i)).1 (o,(tryR dec l i)).2 = dec (tryR dec l i) := by rw [hdec]
  rw [hdd] at hd
  clear k1 k2 hdd
  refine AWp.weak (S' := mkG (fun _ => True) 0 false 37 7 [(3, .c (.pt 1003 1 0 0)), (5, .c (.pt 1001 1 0 0)), (6, .c (.pt 1002 1 0 0)), (8, .c (.pt 1000 1 0 0)), (14, .c (iC (l.getD (l.length - (i + 1)) 0)))] ((800, rwI (keptR dec l i).reverse) :: lentL 0 (lsB s t m n true (colFs t) (o,(curR dec l i)) 800 1004 1005 1006)) [800]) (Wk.mkG [(800, some 800)] rfl rfl rfl rfl rfl ?_ ?_ rfl rfl (fun _ _ => trivial)) ?_
  ·repeat (first | exact trivial | refine ⟨⟨_, rfl, by first | exact LeA.c (LeC.ptB _ _ _ _ rfl) | exact leT⟩, ?_⟩)
  ·rw [← hWi]
   exact ⟨HeapOk.row rfl rfl rfl (fun _ _ _ _ => ⟨rfl, rfl⟩),
   HeapOk.lentC rfl rfl ⟨LeC.ow _ _ rfl, trivial⟩ rfl, HeapOk.lentC rfl rfl ⟨LeC.refl _ rfl, trivial⟩ rfl, HeapOk.lentC rfl rfl ⟨LeC.refl _ rfl, trivial⟩ rfl, HeapOk.lentC rfl rfl ⟨LeC.ptB _ _ _ _ rfl, trivial⟩ rfl
   ,
   cnA, lrw, lrw
   , trivial⟩
  have hrl : (keptR dec l i).reverse.length = (keptR dec l i).length := List.length_reverse
  cases hdv : dec (tryR dec l i) with
  | true =>
    obtain ⟨g1, g2⟩ := curR_yes hdv
    rw [hdv] at hd
    rw [g1] at hWs
    generalize tryR dec l i = T1 at *
    generalize curR dec l i = T2 at *
    generalize colV t (l.getD (l.length - (i + 1)) 0) = cv at *
    generalize l.getD (l.length - (i + 1)) 0 = v at *
    repeat (first
     | refine uB ?_
     | (refine rG 3 ?_
        refine kC ?_
        refine aB ?_))
    refine ⟨rfl, ?_⟩
    repeat (first
     | refine uA ?_
     | refine uB ?_
     | refine uC ?_
     | refine uG ?_
     | refine uD ?_
     | refine kU ?_
     | (refine AWp.draw (id := 4) mixed ?_; (iterate 3 refine kE ?_); refine kA ?_; refine AList.callS rfl rfl rfl rfl rfl rfl Try.func55 rfl (by kernel_rfl) (hcol) ?_; refine AList.callM [1004, 1005, 1006] [] [] (ctL o.length T2.length s.mo t.mo m n n (colC s o) (colC t T2)) [] (ctL o.length T1.length s.mo t.mo m n n (colC s o) (colC t T1)) [] [ctB 1005 1006 o.length T1.length s.mo t.mo m n, cwB n (colC s (o,(T1)).1), cwB n (colC t (o,(T1)).2)] [] rfl rfl FnV.func rfl Try.func53 rfl (by kernel_rfl) (ct_lend 1 2 hn0 (h := trivial)) (trivial) rfl (by exact ⟨.c (.b (.pt 1004 0 8 0 0 rfl)), .c (.b (.imm _ rfl)), .c (.b (.imm _ rfl)), .c (.b (.imm _ rfl)), trivial⟩) (.tu (l := []) (m := []) trivial) (ct_back 1 2 (h := trivial)) (trivial) (a1) ?_; refine aB ⟨by kernel_rfl, ?_⟩)
     | (refine rG 5 ?_
        refine kE ?_
        refine AList.callM [1004, 1005, 1006] [] [] (ctL o.length T1.length s.mo t.mo m n n (colC s o) (colC t T1)) [] (ctL o.length T1.length s.mo t.mo m n n (colC s o) (colC t T1)) [] [ctB 1005 1006 o.length T1.length s.mo t.mo m n, cwB n (colC s (o,(T1)).1), cwB n (colC t (o,(T1)).2)] [] rfl rfl FnV.func rfl Try.func48 rfl (by kernel_rfl) (ct_lend 1 2 hn0 (h := trivial)) (trivial) rfl (by exact ⟨.c (.b (.pt 1004 0 8 0 0 rfl)), trivial⟩) (.c (.imm _ rfl)) (ct_back 1 2 (h := trivial)) (trivial) (hd) ?_
        refine qr3 AList.notB ?_
        refine aB ?_))
    refine ⟨rfl, mkG (fun _ => True) 0 true 37 7 [] (endL [rwI ((keptR dec l (i + 1)).reverse)] (lsB s t m n true (colFs t) (W (i + 1)) 900 1004 1005 1006)) [900], [], Wk.mkG [(900, some 800)] rfl rfl rfl rfl rfl trivial ?_, rfl, rfl⟩
    rw [hWs, g2]
    exact ⟨HeapOk.row rfl rfl rfl (fun _ _ _ _ => ⟨rfl, rfl⟩),
    HeapOk.lentC rfl rfl ⟨LeC.ow _ _ rfl, trivial⟩ rfl, HeapOk.lentC rfl rfl ⟨LeC.refl _ rfl, trivial⟩ rfl, HeapOk.lentC rfl rfl ⟨LeC.refl _ rfl, trivial⟩ rfl, HeapOk.lentC rfl rfl ⟨LeC.ptB _ _ _ _ rfl, trivial⟩ rfl
    ,
    cnA, lrw, lrw
    , trivial⟩
  | false =>
    obtain ⟨g1, g2⟩ := curR_no hi hdv
    rw [hdv] at hd
    rw [g1] at hWs
    have g3 : (keptR dec l (i + 1)).reverse = (keptR dec l i).reverse ++ [l.getD (l.length - (i + 1)) 0] := by rw [g2, List.reverse_cons]
    generalize tryR dec l i = T1 at *
    generalize curR dec l i = T2 at *
    generalize colV t (l.getD (l.length - (i + 1)) 0) = cv at *
    generalize l.getD (l.length - (i + 1)) 0 = v at *
    repeat (first
     | refine uB ?_
     | (refine rG 3 ?_
        refine kC ?_
        refine aB ?_))
    refine ⟨rfl, ?_⟩
    repeat (first
     | refine uA ?_
     | refine uB ?_
     | refine uC ?_
     | refine kT ?_
     | (refine AWp.draw (id := 4) mixed ?_; (iterate 3 refine kE ?_); refine kA ?_; refine AList.callS rfl rfl rfl rfl rfl rfl Try.func55 rfl (by kernel_rfl) (hcol) ?_; refine AList.callM [1004, 1005, 1006] [] [] (ctL o.length T2.length s.mo t.mo m n n (colC s o) (colC t T2)) [] (ctL o.length T1.length s.mo t.mo m n n (colC s o) (colC t T1)) [] [ctB 1005 1006 o.length T1.length s.mo t.mo m n, cwB n (colC s (o,(T1)).1), cwB n (colC t (o,(T1)).2)] [] rfl rfl FnV.func rfl Try.func53 rfl (by kernel_rfl) (ct_lend 1 2 hn0 (h := trivial)) (trivial) rfl (by exact ⟨.c (.b (.pt 1004 0 8 0 0 rfl)), .c (.b (.imm _ rfl)), .c (.b (.imm _ rfl)), .c (.b (.imm _ rfl)), trivial⟩) (.tu (l := []) (m := []) trivial) (ct_back 1 2 (h := trivial)) (trivial) (a1) ?_; refine aB ⟨by kernel_rfl, ?_⟩)
     | (refine rG 5 ?_
        refine kE ?_
        refine AList.callM [1004, 1005, 1006] [] [] (ctL o.length T1.length s.mo t.mo m n n (colC s o) (colC t T1)) [] (ctL o.length T1.length s.mo t.mo m n n (colC s o) (colC t T1)) [] [ctB 1005 1006 o.length T1.length s.mo t.mo m n, cwB n (colC s (o,(T1)).1), cwB n (colC t (o,(T1)).2)] [] rfl rfl FnV.func rfl Try.func48 rfl (by kernel_rfl) (ct_lend 1 2 hn0 (h := trivial)) (trivial) rfl (by exact ⟨.c (.b (.pt 1004 0 8 0 0 rfl)), trivial⟩) (.c (.imm _ rfl)) (ct_back 1 2 (h := trivial)) (trivial) (hd) ?_
        refine qr3 AList.notB ?_
        refine aB ?_))
    repeat (first
     | refine uB ?_
     | refine uD ?_
     | (refine AWp.draw (id := 6) mixed ?_; (iterate 3 refine kE ?_); refine kA ?_; refine AList.callS rfl rfl rfl rfl rfl rfl Try.func55 rfl (by kernel_rfl) (hcol) ?_; refine AList.callM [1004, 1005, 1006] [] [] (ctL o.length T1.length s.mo t.mo m n n (colC s o) (colC t T1)) [] (ctL o.length T2.length s.mo t.mo m n n (colC s o) (colC t T2)) [] [ctB 1005 1006 o.length T2.length s.mo t.mo m n, cwB n (colC s (o,(T2)).1), cwB n (colC t (o,(T2)).2)] [] rfl rfl FnV.func rfl Try.func53 rfl (by kernel_rfl) (ct_lend 1 2 hn0 (h := trivial)) (trivial) rfl (by exact ⟨.c (.b (.pt 1004 0 8 0 0 rfl)), .c (.b (.imm _ rfl)), .c (.b (.imm _ rfl)), .c (.b (.imm _ rfl)), trivial⟩) (.tu (l := []) (m := []) trivial) (ct_back 1 2 (h := trivial)) (trivial) (a2) ?_; refine aB ⟨by kernel_rfl, ?_⟩)
     | (refine rG 7 ?_
        refine kE ?_
        refine kA ?_
        refine qr11 (AList.litSl tyOk) ?_
        refine AList.appL tyOk rfl rfl rfl rfl rfl rfl rfl rfl rfl rfl oM oM ?_
        refine kI ?_
        refine aB ?_))
    refine ⟨rfl, mkG (fun _ => True) 0 true 37 7 [] (endL [rwI ((keptR dec l (i + 1)).reverse)] (lsB s t m n true (colFs t) (W (i + 1)) 900 1004 1005 1006)) [900], [], Wk.mkG [(900, some 33)] rfl rfl rfl rfl rfl trivial ?_, rfl, rfl⟩
    rw [hWs, g3]
    exact ⟨HeapOk.row rfl rfl (by rw [List.length_append]; rfl) (rwI_snoc _ _),
    HeapOk.lentC rfl rfl ⟨LeC.ow _ _ rfl, trivial⟩ rfl, HeapOk.lentC rfl rfl ⟨LeC.refl _ rfl, trivial⟩ rfl, HeapOk.lentC rfl rfl ⟨LeC.refl _ rfl, trivial⟩ rfl, HeapOk.lentC rfl rfl ⟨LeC.ptB _ _ _ _ rfl, trivial⟩ rfl
    ,
    cnA, lrw, lrw
    , trivial⟩
 ·exact back_bx (.b (.owN 0 31 rfl)) (back_bx (.b (.imm _ rfl)) (back_bx (.b (.imm _ rfl)) (back_bx (.b (.pt 4 1001 8 0 0 rfl)) (ct_back 5 6 rfl rfl trivial))))
 ·rw [hWN]
  have hkl := keptR_len dec l l.length
  generalize keptR dec l l.length = K at *
  clear hIt hWN hW0 hW
  have hKr : K.reverse.length = K.length := List.length_reverse
  refine AWp.weak (S' := mkL 37 4 [(8, .c (.pt 8 1 0 0))] [(8, bx1 22 (.ow 31)), (31, cwB K.length (fun k => K.reverse.getD k 0)), (1000, cxB 1001), (1001, ctB 1002 1003 (o,(K)).1.length (o,(K)).2.length s.mo t.mo m n), (1002, cwB n (colC s (o,(K)).1)), (1003, cwB n (colC t (o,(K)).2))] [8, 31]) (Wk.mkL [(8, some 8), (31, some 31)] rfl rfl rfl rfl rfl ?_ ?_) ?_
  ·exact allT
  ·exact ⟨HeapOk.box rfl rfl ⟨LeC.ow _ _ rfl, trivial⟩ rfl, HeapOk.row rfl rfl hKr.symm (fun _ _ _ _ => ⟨rfl, rfl⟩), HeapOk.lentC rfl rfl ⟨LeC.ptB _ _ _ _ rfl, trivial⟩ rfl,
   cnA, lrw, lrw
   , trivial⟩
  by_cases h0 : K.length = 0
  ·obtain rfl : K = [] := List.eq_nil_of_length_eq_zero h0
   refine AWp.weak (S' := mkL 37 4 [(8, .c (.pt 8 1 0 0))] [(8, bx1 22 (liV [])), (1000, cxB 1001), (1001, ctB 1002 1003 (o,([] : List Int)).1.length (o,([] : List Int)).2.length s.mo t.mo m n), (1002, cwB n (colC s (o,([] : List Int)).1)), (1003, cwB n (colC t (o,([] : List Int)).2))] [8]) (Wk.mkL [(8, some 8)] rfl rfl rfl rfl rfl ?_ ?_) ?_
   ·exact allT
   ·exact ⟨HeapOk.box rfl rfl ⟨LeC.fz rfl rfl rfl (fun _ h => absurd h (Nat.not_lt_zero _)), trivial⟩ rfl, HeapOk.lentC rfl rfl ⟨LeC.ptB _ _ _ _ rfl, trivial⟩ rfl,
    cnA, lrw, lrw
    , trivial⟩
   repeat (first
    | refine uA ?_
    | refine uB ?_
    | refine AWp.ret ?_
    | (refine rG 8 ?_
       refine kE ?_
       refine aH rfl rfl rfl rfl Try.func54 rfl (by kernel_rfl) (Reverse_nil) ?_
       refine aB ?_)
    | (refine rG 9 ?_
       refine kE ?_
       refine kC ?_
       refine aB ?_))
   refine ⟨mkL 37 4 [(7, .c (liV []))] [(1000, cxB 1001), (1001, ctB 1002 1003 (o,([] : List Int)).1.length (o,([] : List Int)).2.length s.mo t.mo m n), (1002, cwB n (colC s (o,([] : List Int)).1)), (1003, cwB n (colC t (o,([] : List Int)).2))] [], [], _, lsH s t m n (o,([] : List Int)), [], ⟨rfl, rfl, rfl⟩, rfl, Wk.mkL [] rfl rfl rfl rfl rfl ?_ ?_, rfl, rfl, GRets.one (x := .c _) (GRes.tmp rfl)⟩
   ·exact allT
   ·exact ⟨HeapOk.lentC rfl rfl ⟨LeC.ptB _ _ _ _ rfl, trivial⟩ rfl,
    cnA, lrw, lrw
    , trivial⟩
  ·have hpos : 0 < K.length := Nat.pos_of_ne_zero h0
   repeat (first
    | refine uA ?_
    | refine uB ?_
    | refine AWp.ret ?_
    | (refine rG 8 ?_
       refine kE ?_
       refine AList.callM [31] [] [] [cwB K.length (fun k => K.reverse.getD k 0)] [] [cwB K.length (revC (fun k => K.reverse.getD k 0) K.length K.length)] [] [cwB K.length (revC (fun k => K.reverse.getD k 0) K.length K.length)] [] rfl rfl FnV.func rfl Try.func54 rfl (by kernel_rfl) (⟨⟨_, rfl, fun _ => hpos, fun _ _ _ _ => .b (.imm _ rfl)⟩, trivial⟩) (trivial) rfl (by exact ⟨.c (.b (.ow 31 0 rfl)), trivial⟩) (.tu (l := []) (m := []) trivial) (⟨⟨_, rfl, fun _ _ _ _ => .b (.imm _ rfl)⟩, trivial⟩) (trivial) (Reverse_H (fun k => K.reverse.getD k 0) K.length (by omega)) ?_
       refine aB ?_)
    | (refine rG 9 ?_
       refine kE ?_
       refine kC ?_
       refine aB ?_))
   refine ⟨mkL 37 4 [(7, .c (liV K))] [(1000, cxB 1001), (1001, ctB 1002 1003 (o,(K)).1.length (o,(K)).2.length s.mo t.mo m n), (1002, cwB n (colC s (o,(K)).1)), (1003, cwB n (colC t (o,(K)).2))] [], [], _, lsH s t m n (o,(K)), [], ⟨rfl, rfl, rfl⟩, rfl, Wk.mkL [] rfl rfl rfl rfl rfl ?_ ?_, rfl, rfl, GRets.one (x := .c _) (GRes.tmp rfl)⟩
   ·refine ⟨⟨_, rfl, .c (LeC.fz rfl rfl rfl (fun k hk j hj => ⟨?_, rfl⟩))⟩, trivial⟩
    obtain rfl : j = 0 := Nat.lt_one_iff.mp hj
    exact congrArg (fun z => iC z) (rev_list K hk)
   ·exact ⟨HeapOk.lentC rfl rfl ⟨LeC.ptB _ _ _ _ rfl, trivial⟩ rfl,
    cnA, lrw, lrw
    , trivial⟩
end Go.Proofs.Ytekkldgmjdllbaa
end
