/- ProofMakes: the statement. No condition. -/
import Derived.Test.YtekkldgmjdllbaaG18
import Derived.Test.YtekkldgmjdllbaaHA25mkr13
import Derived.Test.YtekkldgmjdllbaaG17
import Derived.Test.YtekkldgmjdllbaaHA25mkr09
import Derived.Test.YtekkldgmjdllbaaG03
import Derived.Test.YtekkldgmjdllbaaHA25mkr01
import Derived.Scope
import Derived.Test.YtekkldgmjdllbaaHA25mkr12
import Derived.Test.YtekkldgmjdllbaaG15
import Derived.Test.YtekkldgmjdllbaaG08
import Derived.Test.YtekkldgmjdllbaaHA25mkr02
import Derived.Test.YtekkldgmjdllbaaG02
import Derived.RangeFuncLeaves
import Derived.RangeFuncRecord
import Derived.Test.YtekkldgmjdllbaaG07
import Derived.Shelf.Abstract
import Derived.Test.YtekkldgmjdllbaaG01
import Derived.Test.YtekkldgmjdllbaaG16
import Derived.RangeFuncNested
import Derived.Deep.AppendLies
import Derived.OrdersIn
import Derived.TacticsIn
import Derived.RangeFuncCalls
import Derived.Test.YtekkldgmjdllbaaHA25mkr11
import Derived.Test.YtekkldgmjdllbaaG14
import Derived.Maps.AppendAt
import Derived.OwnWalk
import Derived.Test.YtekkldgmjdllbaaProg
import Derived.Test.YtekkldgmjdllbaaHA25mkr04
import Derived.Laws.Cover3
import Derived.StillTail
import Derived.Below
import Derived.Deep.Draws
import Derived.WalkKit
import Derived.KernelRfl
import Derived.Test.YtekkldgmjdllbaaHA25mkr06
import Derived.Test.YtekkldgmjdllbaaG10
import Derived.Test.YtekkldgmjdllbaaHA25mkr10
import Derived.Test.YtekkldgmjdllbaaHA25mkr08
import Derived.Test.YtekkldgmjdllbaaG13
import Derived.Lib.Hide
import Derived.Deep.QuietTactic
import Derived.BigQuiet
import Derived.Deep.DrawnRows
import Derived.Test.YtekkldgmjdllbaaG06
import Derived.Laws.StructEq
import Derived.Test.YtekkldgmjdllbaaHA25mkr05
import Derived.Test.YtekkldgmjdllbaaG09
import Derived.Test.YtekkldgmjdllbaaHA25mkr03
import Derived.Test.YtekkldgmjdllbaaG05
import Derived.Test.YtekkldgmjdllbaaG04
import Derived.Great.BuildSlice
import Derived.Test.YtekkldgmjdllbaaG11
import Derived.Test.YtekkldgmjdllbaaG12
import Derived.Test.YtekkldgmjdllbaaHA25mkr07
import Derived.Test.YtekkldgmjdllbaaG20
import Derived.Test.YtekkldgmjdllbaaHA25mkr18
import Derived.Test.YtekkldgmjdllbaaG24
import Derived.Test.YtekkldgmjdllbaaHA25mkr29
import Derived.Test.YtekkldgmjdllbaaHA25mkr27
import Derived.Test.YtekkldgmjdllbaaHA25mkr16
import Derived.Test.YtekkldgmjdllbaaHA25mkr28
import Derived.Test.YtekkldgmjdllbaaHA25mkr14
import Derived.Test.YtekkldgmjdllbaaG21
import Derived.Test.YtekkldgmjdllbaaHA25mkr19
import Derived.Test.YtekkldgmjdllbaaHA25mkr26
import Derived.Test.YtekkldgmjdllbaaHA25mkr15
import Derived.WideKeyMaps
import Derived.MapKept
import Derived.Carry
import Derived.Test.YtekkldgmjdllbaaHA25mkr25
import Derived.Test.YtekkldgmjdllbaaHA25mkr23
import Derived.Test.YtekkldgmjdllbaaG23
import Derived.Test.YtekkldgmjdllbaaHA25mkr21
import Derived.Lib.Builder
import Derived.Lib.UnsafeStr
import Derived.Laws.Externs
import Derived.Lib.BufferRead
import Derived.Test.YtekkldgmjdllbaaHA25mkr22
import Derived.Test.YtekkldgmjdllbaaG22
import Derived.Test.YtekkldgmjdllbaaHA25mkr24
import Derived.Test.YtekkldgmjdllbaaHA25mkr20
import Derived.Laws.Pointers
import Derived.Test.YtekkldgmjdllbaaRows
import Derived.Test.YtekkldgmjdllbaaG19
import Derived.Test.YtekkldgmjdllbaaHA25mkr17
import Derived.ProofKit
import Derived.OpenShut
import Derived.Deep.DeepHandedRow
import Derived.SizedLaws
import Derived.ChangeSlices
import Derived.ChangeSame
set_option linter.unusedSimpArgs false
set_option linter.unusedVariables false
section
namespace Go.Proofs.Ytekkldgmjdllbaa
open Go.RowKit Go.Flow Go.AV Go.Plain
def Bg.le (x y : Bg) : Prop := x.lo ≤ y.lo ∧ x.bl ≤ y.bl ∧ x.sh ≤ y.sh ∧ x.st ≤ y.st
theorem okL_of {s : Sd} {l : List Int} (hp : l.Pairwise (· < ·)) (hm : ∀ k, k ∈ l → aloB s k = true) : okL s l = true := by
 refine List.all_eq_true.2 fun i hi => ?_
 have hi := List.mem_range.1 hi
 unfold okAt
 rw [List.getD_eq_getElem?_getD, List.getElem?_eq_getElem hi, Option.getD_some, hm _ (List.getElem_mem hi), Bool.true_and, Bool.or_eq_true, decide_eq_true_eq, decide_eq_true_eq]
 rcases Nat.eq_zero_or_pos i with h0 | h0
 ·exact .inl h0
 ·refine .inr ?_
  rw [List.getD_eq_getElem?_getD, List.getElem?_eq_getElem (show i - 1 < l.length by omega)]
  exact List.pairwise_iff_getElem.1 hp (i - 1) i (by omega) hi (by omega)
theorem alo_bd2 {s : Sd} {v : Int} (h : aloB s v = true) : 0 ≤ v ∧ v < s.o.n := by
 unfold aloB at h
 simp only [Bool.and_eq_true, decide_eq_true_eq] at h
 exact ⟨h.1, h.2.1⟩
theorem aloL_ok (s : Sd) : okL s (aloL s) = true := by
 refine okL_of ?_ fun k hk => ?_
 ·unfold aloL aloN
  rw [List.pairwise_map]
  exact List.Pairwise.imp (fun h => by omega) (List.Pairwise.filter _ List.pairwise_lt_range)
 ·unfold aloL aloN at hk
  obtain ⟨i, hi, rfl⟩ := List.mem_map.1 hk
  exact (List.mem_filter.1 hi).2
theorem okL_R {s : Sd} {l : List Int} (h : okL s l = true) (hn : s.o.n ≤ 9216) : lOk l := by
 have h1 := okL_len h
 refine ⟨by omega, fun k hk => ?_⟩
 obtain ⟨h2, h3⟩ := alo_bd2 (okL_alo h hk)
 unfold iOk
 omega
theorem prR_nil : PrR [] := ⟨by decide, fun k hk => absurd hk (Nat.not_lt_zero _)⟩
theorem shL_81 (x y : Bg) : (shL (shN x y)).length ≤ 81 := by
 obtain ⟨-, hm⟩ := shN_eq x y
 rw [shL_len hm]
 have h9 : 2 * shN x y + 1 ≤ 9 := by omega
 exact Nat.mul_le_mul h9 h9
theorem mkL25_get (a b : Bp) (x y : Bg) (L : List (Int × Int)) {k : Nat} (hk : k < L.length) : (mkL25 a b x y L).getD k wtZ = (aloL (sd1 a b x y (L.getD k mvZ)), aloL (sd2 a b x y (L.getD k mvZ))) := by
 unfold mkL25
 rw [List.getD_eq_getElem?_getD, List.getElem?_map, List.getD_eq_getElem?_getD, List.getElem?_eq_getElem hk]
 rfl
theorem mkL25_R {a b : Bp} (x y : Bg) (h : cmpOk a b) : PrR (mkL25 a b x y (shL (shN x y))) := by
 obtain ⟨ha, hb, -⟩ := h
 have h1 := n_bd ha
 have h2 := n_bd hb
 have h81 := shL_81 x y
 have hl : (mkL25 a b x y (shL (shN x y))).length = (shL (shN x y)).length := List.length_map ..
 refine ⟨by omega, fun k hk => ?_⟩
 rw [mkL25_get a b x y _ (by omega)]
 exact ⟨okL_R (aloL_ok _) h1, okL_R (aloL_ok _) h2⟩
theorem mkV_R (a b : Bp) (x y : Bg) : PrR (mkV a b x y).1 := by
 unfold mkV
 split
 ·rename_i h
  split
  ·exact prR_nil
  ·exact mkL25_R x y ((szV_ok a b).1 h)
 ·exact prR_nil
def pkA (a b o : Bp) (k : Nat) : Bp := if k = 1 then b else if k = 2 then o else a
def pkB (a b o : Bp) (k : Nat) : Bp := if k = 1 then a else if k = 3 then o else b
def pkX (x r : Bg) (i : Nat) : Bg := if i = 2 then r else x
def pkY (y r : Bg) (i : Nat) : Bg := if i = 0 then y else r
abbrev f44 (a b o : Bp) : Nat → Nat → CV := sF (bpC a ++ bpC b ++ bpC b ++ bpC a ++ bpC o ++ bpC b ++ bpC a ++ bpC o) 6
abbrev f58 (x y r0 r1 : Bg) : Nat → Nat → CV := sF (bgC x ++ bgC y ++ bgC x ++ bgC r1 ++ bgC r0 ++ bgC r1) 8
theorem f44_at (a b o : Bp) {k : Nat} (hk : k < 4) : cellsFrom (f44 a b o k) 0 6 = bpC (pkA a b o k) ++ bpC (pkB a b o k) := by
 match k, hk with
 | 0, _ => rfl
 | 1, _ => rfl
 | 2, _ => rfl
 | 3, _ => rfl
theorem f58_at (x y r0 r1 : Bg) {i : Nat} (hi : i < 3) : cellsFrom (f58 x y r0 r1 i) 0 8 = bgC (pkX x r0 i) ++ bgC (pkY y r1 i) := by
 match i, hi with
 | 0, _ => rfl
 | 1, _ => rfl
 | 2, _ => rfl
set_option maxHeartbeats 4000000 in
set_option maxRecDepth 100000 in
theorem ProofMakes_A (c : Ca5) (hc : c.ok) (q : Int) (hq : -9223372036854775808 ≤ q ∧ q ≤ 9223372036854775807) (r0 r1 : Bg) : ACalls Try.prog 4 [.ag (ca5C c), .c (iC q), .ag (bgC r0 ++ bgC r1)] (.c (bC true)) := by
 have hsan := sanity25_A
 have hmade := made25_A c hc
 have hbd := pc_bd c
 have hnn := n_bd (pc_cmp c).1
 obtain ⟨o, ho⟩ := Odd24_A (pcA c) q (by omega) (by omega) (by omega) hq
 refine acalls_at Try.func4 rfl rfl Try.ntmps4 rfl ?_
 generalize pcA c = a at *
 generalize pcB c = b at *
 generalize pcX c = x at *
 generalize pcY c = y at *
 repeat (first
  | refine uA ?_
  | refine uB ?_
  | refine uC ?_
  | (refine rG 0 ?_
     (iterate 2 refine qr5 aQ ?_)
     refine kC ?_
     refine aB ?_)
  | (refine rG 1 ?_
     refine aH rfl rfl rfl rfl Try.func9 rfl (by kernel_rfl) (hsan) ?_
     refine kC ?_
     refine aB ?_)
  | (refine rG 2 ?_
     refine kF ?_
     refine aH rfl rfl rfl rfl Try.func10 rfl (by kernel_rfl) (hmade) ?_
     refine kA ?_
     (iterate 4 refine qr4 aN ?_)
     (iterate 4 refine qr5 (aM tyOk) ?_)
     (iterate 4 refine kI ?_)
     refine aB ?_)
  | (refine rG 3 ?_
     refine kF ?_
     refine kA ?_
     refine aH rfl rfl rfl rfl Try.func19 rfl (by kernel_rfl) (ho) ?_
     refine qr5 (aM tyOk) ?_
     refine kI ?_
     refine aB ?_)
  | (refine rG 4 ?_
     (iterate 2 refine kF ?_)
     refine qr8 (AList.buildArr tyOk) ?_
     (iterate 2 refine kF ?_)
     refine qr8 (AList.buildArr tyOk) ?_
     (iterate 2 refine kF ?_)
     refine qr8 (AList.buildArr tyOk) ?_
     (iterate 2 refine kF ?_)
     refine qr8 (AList.buildArr tyOk) ?_
     refine qr11 (AList.litSl tyOk) ?_
     refine qr5 (aO tyOk) ?_
     refine kA ?_
     refine aB ?_))
 refine AWp.round (fun k : Nat =>
  mkSt 123 [(7, .c (bC true)), (8, .c (.pt 8 3 0 0)), (9, .c (.pt 9 3 0 0)), (10, .c (.pt 10 4 0 0)), (11, .c (.pt 11 4 0 0)), (5, .c (.pt 5 8 0 0)), (44, .c (.ls 4 6 (f44 a b o))), (45, .c (iC 4)), (46, .c (iC (k : Nat)))] [(5, ⟨false, 1, 8, 46, lF (bgC r0 ++ bgC r1)⟩), (8, ⟨false, 1, 3, 31, lF (bpC a)⟩), (9, ⟨false, 1, 3, 31, lF (bpC b)⟩), (10, ⟨false, 1, 4, 33, lF (bgC x)⟩), (11, ⟨false, 1, 4, 33, lF (bgC y)⟩)] [5, 8, 9, 10, 11]
  ) (fun k => k ≤ 4) (fun k => 4 - k) 0 (Nat.zero_le _) ?_ (fun k hk => ?_)
 ·refine Wk.mk [(5, some 5), (8, some 8), (9, some 9), (10, some 10), (11, some 11)] rfl rfl rfl ?_ ?_
  ·exact allT
  ·exact allH
 by_cases hk4 : k < 4
 rotate_left
 ·repeat (first
   | refine uA ?_
   | refine uB ?_
   | refine uH ?_
   | refine AWp.ret ?_
   | refine kU ?_
   | (refine rG 5 ?_
      refine qr5f aJ ?_
      refine aB ?_)
   | (refine rG 16 ?_
      refine kA ?_
      refine kC ?_
      refine aB ?_))
  refine ⟨mkSt 123 [(6, .c (bC true))] [] [], [], Wk.mk [] rfl rfl rfl ?_ trivial, rfl, rfl, aR1⟩
  exact allT
 have e49 := f44_at a b o hk4
 repeat (first
  | refine uA ?_
  | refine uB ?_
  | refine uC ?_
  | refine uG ?_
  | refine kT ?_
  | (refine rG 5 ?_
     refine qr5t aK ?_
     refine aB ?_)
  | (refine rG 6 ?_
     refine qr8eo2 (aP (k := k) tyOk) ?_
     refine AList.loadAlE tyOk (e49) rfl rfl rfl rfl rfl oM ?_
     refine qr5 (aM tyOk) ?_
     refine kI ?_
     refine aB ?_)
  | (refine rG 7 ?_
     (iterate 2 refine kF ?_)
     refine qr8 (AList.buildArr tyOk) ?_
     refine kF ?_
     refine qr7eo (aU (i := 1) tyOk) ?_
     refine kF ?_
     refine qr8 (AList.buildArr tyOk) ?_
     refine kF ?_
     refine qr11 (AList.litSl tyOk) ?_
     refine qr5 (aO tyOk) ?_
     refine kA ?_
     refine aB ?_))
 obtain ⟨A, hA⟩ : ∃ A, pkA a b o k = A := ⟨_, rfl⟩
 obtain ⟨B, hB⟩ : ∃ B, pkB a b o k = B := ⟨_, rfl⟩
 rw [hA, hB]
 clear e49 hA hB
 refine AWp.round (fun i : Nat =>
  mkSt 123 [(7, .c (bC true)), (8, .c (.pt 8 3 0 0)), (9, .c (.pt 9 3 0 0)), (10, .c (.pt 10 4 0 0)), (11, .c (.pt 11 4 0 0)), (5, .c (.pt 5 8 0 0)), (14, .c (.pt 14 6 0 0)), (44, .c (.ls 4 6 (f44 a b o))), (45, .c (iC 4)), (46, .c (iC (k : Nat))), (58, .c (.ls 3 8 (f58 x y r0 r1))), (59, .c (iC 3)), (60, .c (iC (i : Nat)))] [(5, ⟨false, 1, 8, 46, lF (bgC r0 ++ bgC r1)⟩), (8, ⟨false, 1, 3, 31, lF (bpC a)⟩), (9, ⟨false, 1, 3, 31, lF (bpC b)⟩), (10, ⟨false, 1, 4, 33, lF (bgC x)⟩), (11, ⟨false, 1, 4, 33, lF (bgC y)⟩), (14, ⟨false, 1, 6, 48, lF (bpC A ++ bpC B)⟩)] [5, 8, 9, 10, 11, 14]
  ) (fun i => i ≤ 3) (fun i => 3 - i) 0 (Nat.zero_le _) ?_ (fun i hi => ?_)
 ·refine Wk.mk [(5, some 5), (8, some 8), (9, some 9), (10, some 10), (11, some 11), (14, some 14)] rfl rfl rfl ?_ ?_
  ·exact allT
  ·exact allH
 by_cases hi3 : i < 3
 rotate_left
 ·repeat (first
   | refine uA ?_
   | refine uB ?_
   | refine uH ?_
   | refine thenA_e ?_
   | refine uD ?_
   | refine uF ?_
   | refine kU ?_
   | (refine rG 8 ?_
      refine qr5f aJ ?_
      refine aB ?_)
   | (refine rG 15 ?_
      refine qr4w2 aL ?_
      refine kA ?_
      refine aB ?_))
  refine ⟨k + 1, hk4, Wk.mk [(5, some 5), (8, some 8), (9, some 9), (10, some 10), (11, some 11)] rfl rfl rfl ?_ ?_, by omega⟩
  ·exact allT
  ·exact allH
 have e63 := f58_at x y r0 r1 hi3
 obtain ⟨X, hX⟩ : ∃ X, pkX x r0 i = X := ⟨_, rfl⟩
 obtain ⟨Y, hY⟩ : ∃ Y, pkY y r1 i = Y := ⟨_, rfl⟩
 rw [hX, hY] at e63
 clear hX hY
 have m1 := pMake_A A B X Y
 have m2 := rMake_A A B X Y
 have hR := mkV_R A B X Y
 generalize mkV A B X Y = v at *
 obtain ⟨p, e⟩ := v
 have hS := Same25_A p p hR hR
 rw [decide_eq_true rfl] at hS
 have c1 := pCheck_A A B X Y p hR.ok
 have c2 := rCheck25_A A B X Y p hR.ok
 generalize chkV A B X Y p = z at *
 repeat (first
  | refine uA ?_
  | refine uB ?_
  | refine uC ?_
  | refine uG ?_
  | refine uD ?_
  | refine kT ?_
  | refine kU ?_
  | (refine rG 8 ?_
     refine qr5t aK ?_
     refine aB ?_)
  | (refine rG 9 ?_
     refine qr8eo2 (aP (k := i) tyOk) ?_
     refine AList.loadAlE tyOk (e63) rfl rfl rfl rfl rfl oM ?_
     refine qr5 (aM tyOk) ?_
     refine kI ?_
     refine aB ?_)
  | (refine rG 10 ?_
     refine qr7eo (aU (i := 0) tyOk) ?_
     refine kF ?_
     refine qr7eo (aU (i := 1) tyOk) ?_
     refine kF ?_
     refine qr7eo (aU (i := 0) tyOk) ?_
     refine kF ?_
     refine qr7eo (aU (i := 1) tyOk) ?_
     refine kF ?_
     refine aH rfl rfl rfl rfl Try.func20 rfl (by kernel_rfl) (m1) ?_
     refine kA ?_
     (iterate 2 refine qr4 aN ?_)
     (iterate 2 refine kC ?_)
     refine aB ?_)
  | (refine rG 11 ?_
     refine qr7eo (aU (i := 0) tyOk) ?_
     refine kF ?_
     refine qr7eo (aU (i := 1) tyOk) ?_
     refine kF ?_
     refine qr7eo (aU (i := 0) tyOk) ?_
     refine kF ?_
     refine qr7eo (aU (i := 1) tyOk) ?_
     refine kF ?_
     refine aH rfl rfl rfl rfl Try.func12 rfl (by kernel_rfl) (m2) ?_
     refine kA ?_
     (iterate 2 refine qr4 aN ?_)
     (iterate 2 refine kC ?_)
     refine aB ?_)
  | (refine AWp.draw (id := 12) mixed ?_; (iterate 2 refine kA ?_); refine aJ rfl rfl rfl rfl rfl (by simp only [cmpP, eq_self, decide_true, Bool.not_true]) ?_; (iterate 3 refine kA ?_); refine aH rfl rfl rfl rfl Try.func18 rfl (by kernel_rfl) (hS) ?_; refine qr3 AList.notB ?_; refine qr4 aR ?_; refine kA ?_; refine qr7eo (aU (i := 0) tyOk) ?_; refine kF ?_; refine qr7eo (aU (i := 1) tyOk) ?_; refine kF ?_; refine qr7eo (aU (i := 0) tyOk) ?_; refine kF ?_; refine qr7eo (aU (i := 1) tyOk) ?_; refine kF ?_; refine kA ?_; refine aH rfl rfl rfl rfl Try.func14 rfl (by kernel_rfl) (c1) ?_; refine qr7eo (aU (i := 0) tyOk) ?_; refine kF ?_; refine qr7eo (aU (i := 1) tyOk) ?_; refine kF ?_; refine qr7eo (aU (i := 0) tyOk) ?_; refine kF ?_; refine qr7eo (aU (i := 1) tyOk) ?_; refine kF ?_; refine kA ?_; refine aH rfl rfl rfl rfl Try.func15 rfl (by kernel_rfl) (c2) ?_; refine aJ rfl rfl rfl rfl rfl (by simp only [cmpP, eq_self, decide_true, Bool.not_true]) ?_; refine qr4 aR ?_; refine aB ⟨by kernel_rfl, ?_⟩)
  | (refine rG 14 ?_
     refine qr4w2 aL ?_
     refine kA ?_
     refine aB ?_))
 refine ⟨i + 1, hi3, Wk.mk [(5, some 5), (8, some 8), (9, some 9), (10, some 10), (11, some 11), (14, some 14)] rfl rfl rfl ?_ ?_, by omega⟩
 ·exact allT
 ·exact allH
end Go.Proofs.Ytekkldgmjdllbaa
end
section
namespace Go.Proofs.Ytekkldgmjdllbaa.proofMakes
open Go.ChangeShapes Go.WideShapes Go.ChangeAt Go.RowKit Go.Flow Go.AV
set_option maxRecDepth 100000 in
theorem contract (H : Type) (enc : TypeId × Value → H) (W : World) (base : Nat) (args : Array Value) (ds gs : List (DataW H)) (before : List MemPlace)
 (hval : ∀ (j : Nat) t v, Try.f4.params[j]? = some t → args[j]? = some v → Value.okWide Try.prog W .any base t v)
 (hW : DataW.Whole enc Try.prog Try.f4.params.toList Rows.proofMakesSpec.vars false W args.toList ds gs before)
 (hsz : (DataW.weightsEach Try.prog (Try.f4.params.toList ++ (OpenSpec.ofChange Rows.proofMakesSpec).bare.plain.varTypes Try.prog) (ds ++ gs)).all (· ≤ reachBytes) = true) :
 Calls Try.prog 4 args W fun e W' => ∃ v, e = .returned v ∧ Rows.proofMakesSpec.post enc Try.prog Try.f4 false true false false W args v W' := by
 have hW' := hW
 obtain ⟨p, q, hA0, hV, rfl, hfz, hnd⟩ := hW
 have hA : DataW.TrodAll enc Try.prog W 0 (fun _ => true) true Try.f4.params.toList args.toList ds p := hA0
 have hAk := hA0
 rw [Try.params4] at hA hval hsz
 obtain ⟨rfl, rfl⟩ := trodVars_none hV
 obtain ⟨v0, vs0, d0, ds0, p0, q0, hargs, rfl, rfl, h0, t0⟩ := trodAll_cons hA
 obtain ⟨v1, vs1, d1, ds1, p1, q1, rfl, rfl, rfl, h1, t1⟩ := trodAll_cons t0
 obtain ⟨v2, vs2, d2, ds2, p2, q2, rfl, rfl, rfl, h2, t2⟩ := trodAll_cons t1
 obtain ⟨rfl, rfl, rfl⟩ := trodAll_nil t2
 obtain rfl : args = #[v0, v1, v2] := by rw [← Array.toList_inj]; exact hargs
 have hlt := fun x hx => hW'.lt x hx
 simp only [List.append_nil] at hW'
 rw [List.append_nil] at hsz
 obtain ⟨a0, ok0, r0⟩ := opn_ca5.argS Try.underlying24 (hval 0 24 v0 rfl rfl) h0 (weigh hsz 0 (t := 24) (d := d0) rfl rfl)
 obtain ⟨a1, ok1, r1⟩ := opn_int.argC (cells_int Try.underlying3 (hval 1 3 v1 rfl rfl)) h1 (weigh hsz 1 (t := 3) (d := d1) rfl rfl)
 obtain ⟨a2, ok2, r2⟩ := opn_bg2.argA Try.underlying46 (hval 2 46 v2 rfl rfl) h2 (weigh hsz 2 (t := 46) (d := d2) rfl rfl)
 refine ((ECalls.of (ProofMakes_A a0 ok0 a1 ok1 a2.1 a2.2)) O0 W [_, _, _] (fun b h => h.elim) ⟨r0, r1, r2, trivial⟩).mono fun e W' ⟨v, r, he, hr, hv, hE⟩ => ?_
 subst hr
 obtain rfl : v = .bool true := hv.2
 subst he
 exact ⟨_, rfl, post_below (pv := []) hW' (fun _ _ _ => trodAll_cons_mk (shut_bool Try.underlying4 _) trodAll_mk0)
  (fun sp hsp => trodAll_below laidOut hE (by rw [Try.params4]; intro t ht; simp only [List.mem_cons, List.not_mem_nil, or_false] at ht; rcases ht with rfl | rfl | rfl <;> exact ⟨by kernel_rfl, of_decide_eq_true (by kernel_rfl)⟩) hAk (fun x hx => hlt x (by rw [List.append_nil]; exact hx)) sp (fun x hx => hsp x (by simpa only [List.append_nil] using hx)))
  (fun _ _ => rfl) (by simp) hE (ok_one (by kernel_rfl) rfl (okWide_bool_mk Try.underlying4 _))⟩
theorem own : ownKnob Try.prog.godebug = none := by kernel_rfl
set_option maxRecDepth 100000 in
theorem lifted (os : Os) (started : os.Started) (H : Type) (enc : TypeId × Value → H) :
 ReturnsInHanded {} Try.checked os 4 .any (Rows.proofMakesSpec.pre6 enc Try.prog Try.f4 Rows.proofMakesRow.domain false) (Rows.proofMakesSpec.post enc Try.prog Try.f4 false true false false) := by
 refine returnsInHanded_of_change_sized (C := Try.checked) own started (by kernel_rfl) Try.func4
  (ChangeSpec.witness6 (enc := enc) (C := Try.checked) false ⟨#[], #[.agg #[.slice none 0 0, .slice none 0 0, .slice none 0 0, .slice none 0 0], .int .i64 0, .agg #[.int .i64 0, .int .i64 0, .int .i64 0, .int .i64 0, .int .i64 0, .int .i64 0, .int .i64 0, .int .i64 0]], []⟩ 8 (by kernel_rfl) (by kernel_rfl) (by kernel_rfl) (by kernel_rfl)) ?_
 intro W base args ds gs before hval hW _ hsz _
 exact contract H enc W base args ds gs before hval hW hsz
theorem said : Rows.ProofMakesSaid :=
 OpenClaim.holds_of_wide 4 Try.f4 rfl rfl rfl rfl rfl rfl rfl ⟨rfl, rfl, rfl, rfl, rfl⟩ rfl rfl rfl rfl rfl (by kernel_rfl) Try.func4 (by kernel_rfl)
  (of_decide_eq_true (by kernel_rfl)) (by unfold Func.isWrapper; first | (rw [if_pos (by decide +kernel)]; kernel_rfl) | (rw [if_neg (by decide +kernel)]; exact ⟨rfl, rfl⟩))
  (fun os started H enc _ => lifted os started H enc)
end Go.Proofs.Ytekkldgmjdllbaa.proofMakes
end
