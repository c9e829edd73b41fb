/- Parts of the proof: A25d, A25e. -/
import Derived.Test.YtekkldgmjdllbaaG32
import Derived.Test.YtekkldgmjdllbaaG27
import Derived.Test.YtekkldgmjdllbaaHA25ckr02
import Derived.Test.YtekkldgmjdllbaaG21
import Derived.Test.YtekkldgmjdllbaaG22
import Derived.Test.YtekkldgmjdllbaaG20
import Derived.Test.YtekkldgmjdllbaaG17
import Derived.Test.YtekkldgmjdllbaaG09
import Derived.Test.YtekkldgmjdllbaaG04
import Derived.Scope
import Derived.Test.YtekkldgmjdllbaaHA25ckr01
import Derived.Shelf.Abstract
import Derived.Test.YtekkldgmjdllbaaG03
import Derived.RangeFuncLeaves
import Derived.RangeFuncRecord
import Derived.Test.YtekkldgmjdllbaaG19
import Derived.Test.YtekkldgmjdllbaaG08
import Derived.Test.YtekkldgmjdllbaaG02
import Derived.RangeFuncNested
import Derived.Test.YtekkldgmjdllbaaG01
import Derived.Test.YtekkldgmjdllbaaG18
import Derived.Test.YtekkldgmjdllbaaG16
import Derived.Deep.AppendLies
import Derived.OrdersIn
import Derived.TacticsIn
import Derived.RangeFuncCalls
import Derived.Test.YtekkldgmjdllbaaG13
import Derived.Test.YtekkldgmjdllbaaProg
import Derived.Laws.Cover3
import Derived.Test.YtekkldgmjdllbaaG11
import Derived.Maps.AppendAt
import Derived.OwnWalk
import Derived.StillTail
import Derived.Below
import Derived.Deep.Draws
import Derived.WalkKit
import Derived.KernelRfl
import Derived.Test.YtekkldgmjdllbaaG12
import Derived.Laws.StructEq
import Derived.Test.YtekkldgmjdllbaaG15
import Derived.Lib.Hide
import Derived.Deep.QuietTactic
import Derived.BigQuiet
import Derived.Deep.DrawnRows
import Derived.Test.YtekkldgmjdllbaaG10
import Derived.Test.YtekkldgmjdllbaaG07
import Derived.Test.YtekkldgmjdllbaaG06
import Derived.Test.YtekkldgmjdllbaaG05
import Derived.Great.BuildSlice
import Derived.Test.YtekkldgmjdllbaaG14
set_option linter.unusedSimpArgs false
set_option linter.unusedVariables false
section
namespace Go.Proofs.Ytekkldgmjdllbaa
open Go.RowKit Go.Flow Go.AV Go.Plain
set_option maxHeartbeats 4000000 in
set_option maxRecDepth 100000 in
theorem listed_A (s : Sd) (l : List Int) (ho : chk s.o.W s.o.H s.o.n = 0) (hp : chk s.p.W s.p.H s.p.n = 0) (hx : -4 ≤ s.dx ∧ s.dx ≤ 4) (hy : -4 ≤ s.dy ∧ s.dy ≤ 4) (hl : l.length ≤ 1000000) :
 ACalls Try.prog 49 [.c (liV l), .ag (bpC s.o), .ag (bpC s.p), .c (iC s.dx), .c (iC s.dy)] (.c (bC (okL s l))) := by
 have b9 := n_bd ho
 refine acalls_at Try.func49 rfl rfl Try.ntmps49 rfl ?_
 repeat (first
  | refine uA ?_
  | refine uB ?_
  | refine uC ?_
  | (refine rG 0 ?_
     (iterate 2 refine qr5 aQ ?_)
     refine kC ?_
     refine aB ?_)
  | (refine rG 1 ?_
     refine kC ?_
     refine aB ?_))
 refine AWp.round (fun k : Nat => mkSt 80 [(0, .c (liV l)), (3, .c (iC s.dx)), (4, .c (iC s.dy)), (6, .c (.pt 6 3 0 0)), (7, .c (.pt 7 3 0 0)), (11, .c (iC k))] [(6, ⟨false, 1, 3, 31, lF (bpC s.o)⟩), (7, ⟨false, 1, 3, 31, lF (bpC s.p)⟩)] [6, 7])
  (fun k => k ≤ l.length ∧ ∀ j, j < k → okAt s l j = true) (fun k => l.length - k) 0 ⟨Nat.zero_le _, fun _ h => absurd h (Nat.not_lt_zero _)⟩ ?_ (fun k hk => ?_)
 ·refine Wk.mk [(6, some 6), (7, some 7)] rfl rfl rfl ?_ ?_
  ·exact allT
  ·exact allH
 obtain ⟨hk, hok⟩ := hk
 by_cases hkl : k < l.length
 ·have hkl' : (k : Int) < l.length := by omega
  obtain ⟨v, hv⟩ : ∃ v, l.getD k 0 = v := ⟨_, rfl⟩
  obtain ⟨u, hu⟩ : ∃ u, l.getD (k - 1) 0 = u := ⟨_, rfl⟩
  have ev : iF (fun k => l.getD k 0) k 0 = iC v := congrArg (fun z => iC z) hv
  have eu : iF (fun k => l.getD k 0) (k - 1) 0 = iC u := congrArg (fun z => iC z) hu
  have hat : okAt s l k = (aloB s v && (decide (k = 0) || decide (u < v))) := by unfold okAt; rw [hv, hu]
  have hno : okAt s l k = false → okL s l = false := okL_no hkl
  by_cases h0 : 0 ≤ v
  ·obtain ⟨m, rfl⟩ := Int.eq_ofNat_of_zero_le h0
   by_cases h1 : m < s.o.n
   ·have h1' : (m : Int) < s.o.n := by omega
    obtain ⟨q1, q2, q3⟩ := side_div ho h1
    have hH : s.o.H ≤ 96 := (okB ho).2.2.2.1
    have hA : aloB s m = (s.o.d m && !hasB s.p.W s.p.H s.p.d ((m : Int) % s.o.W - s.dx) ((m : Int) / s.o.W - s.dy)) := by
     unfold aloB
     rw [decide_eq_true h0, decide_eq_true h1', Bool.true_and, Bool.true_and, show ((m : Int)).toNat = m from Int.toNat_natCast m]
    have hg := Get_A s.p.W s.p.H s.p.n s.p.d ((m : Int) % s.o.W - s.dx) ((m : Int) / s.o.W - s.dy) hp
    have hdc : ∀ v, s.o.d m = v → bF s.o.d m 0 = bC v := fun v h => congrArg (fun b => CV.p (.bool b)) h
    rw [hA] at hat
    by_cases hkz : 0 < k
    ·have hkz' : (0 : Int) < k := by omega
     by_cases hlt : u < (m : Int)
     ·rw [decide_eq_true hlt, Bool.or_true, Bool.and_true] at hat
      cases hd : s.o.d m with
      | false =>
        rw [hd, Bool.false_and] at hat
        rw [hno hat]
        repeat (first
         | refine uA ?_
         | refine uB ?_
         | refine uC ?_
         | refine uG ?_
         | refine AWp.ret ?_
         | refine thenA_r ?_
         | refine uE ?_
         | refine kT ?_
         | refine kU ?_
         | (refine rG 2 ?_
            (iterate 2 refine kA ?_)
            refine qr5 (aO tyOk) ?_
            refine qr5t aK ?_
            refine aB ?_)
         | (refine AWp.draw (id := 4) mixed ?_; (iterate 2 refine kA ?_); refine qr8eo2 (aP (k := k) tyOk) ?_; refine AList.load1lE tyOk (ev) rfl rfl rfl rfl rfl oM ?_; refine qr5f aJ ?_; (iterate 3 refine kA ?_); refine qr8eo2 (aP (k := k) tyOk) ?_; refine AList.load1lE tyOk (ev) rfl rfl rfl rfl rfl oM ?_; refine kD ?_; refine kE ?_; refine qr5 (aO tyOk) ?_; refine qr5f aJ ?_; refine qr4 aR ?_; (iterate 2 refine kA ?_); refine qr5t aK ?_; (iterate 3 refine kA ?_); refine qr4w2 AList.sub ?_; refine qr8eo2 (aP (k := k - 1) tyOk) ?_; refine AList.load1lE tyOk (eu) rfl rfl rfl rfl rfl oM ?_; (iterate 2 refine kA ?_); refine qr8eo2 (aP (k := k) tyOk) ?_; refine AList.load1lE tyOk (ev) rfl rfl rfl rfl rfl oM ?_; refine qr5f aJ ?_; refine qr4 aS ?_; refine qr4 aR ?_; refine aB ⟨by kernel_rfl, ?_⟩)
         | (refine AWp.draw (id := 6) mixed ?_; refine kD ?_; refine kE ?_; (iterate 2 refine kA ?_); refine qr8eo2 (aP (k := k) tyOk) ?_; refine AList.load1lE tyOk (ev) rfl rfl rfl rfl rfl oM ?_; refine qr8eo2 (aP (k := m) tyOk) ?_; refine AList.load1lE tyOk (hdc _ hd) rfl rfl rfl rfl rfl oM ?_; refine qr3 AList.notB ?_; refine kA ?_; (iterate 20 refine qr2 aG ?_); refine qr4 aS ?_; refine aB ⟨by kernel_rfl, ?_⟩)
         | (refine rG 7 ?_
            refine kC ?_
            refine aB ?_))
        refine ⟨mkSt 80 [(10, .c (bC false))] [] [], [], Wk.mk [] rfl rfl rfl ?_ trivial, rfl, rfl, aR1⟩
        exact allT
      | true =>
        rw [hd, Bool.true_and] at hat
        cases hh : hasB s.p.W s.p.H s.p.d ((m : Int) % s.o.W - s.dx) ((m : Int) / s.o.W - s.dy) with
        | true =>
          rw [hh] at hat hg
          rw [hno hat]
          repeat (first
           | refine uA ?_
           | refine uB ?_
           | refine uC ?_
           | refine uG ?_
           | refine AWp.ret ?_
           | refine thenA_r ?_
           | refine uE ?_
           | refine kT ?_
           | refine kU ?_
           | (refine rG 2 ?_
              (iterate 2 refine kA ?_)
              refine qr5 (aO tyOk) ?_
              refine qr5t aK ?_
              refine aB ?_)
           | (refine AWp.draw (id := 4) mixed ?_; (iterate 2 refine kA ?_); refine qr8eo2 (aP (k := k) tyOk) ?_; refine AList.load1lE tyOk (ev) rfl rfl rfl rfl rfl oM ?_; refine qr5f aJ ?_; (iterate 3 refine kA ?_); refine qr8eo2 (aP (k := k) tyOk) ?_; refine AList.load1lE tyOk (ev) rfl rfl rfl rfl rfl oM ?_; refine kD ?_; refine kE ?_; refine qr5 (aO tyOk) ?_; refine qr5f aJ ?_; refine qr4 aR ?_; (iterate 2 refine kA ?_); refine qr5t aK ?_; (iterate 3 refine kA ?_); refine qr4w2 AList.sub ?_; refine qr8eo2 (aP (k := k - 1) tyOk) ?_; refine AList.load1lE tyOk (eu) rfl rfl rfl rfl rfl oM ?_; (iterate 2 refine kA ?_); refine qr8eo2 (aP (k := k) tyOk) ?_; refine AList.load1lE tyOk (ev) rfl rfl rfl rfl rfl oM ?_; refine qr5f aJ ?_; refine qr4 aS ?_; refine qr4 aR ?_; refine aB ⟨by kernel_rfl, ?_⟩)
           | (refine AWp.draw (id := 6) mixed ?_; refine kD ?_; refine kE ?_; (iterate 2 refine kA ?_); refine qr8eo2 (aP (k := k) tyOk) ?_; refine AList.load1lE tyOk (ev) rfl rfl rfl rfl rfl oM ?_; refine qr8eo2 (aP (k := m) tyOk) ?_; refine AList.load1lE tyOk (hdc _ hd) rfl rfl rfl rfl rfl oM ?_; refine qr3 AList.notB ?_; refine kA ?_; refine kF ?_; (iterate 2 refine kA ?_); refine qr8eo2 (aP (k := k) tyOk) ?_; refine AList.load1lE tyOk (ev) rfl rfl rfl rfl rfl oM ?_; refine kD ?_; refine kE ?_; refine qr4w2 AList.rem ?_; refine kA ?_; refine qr4w2 AList.sub ?_; (iterate 2 refine kA ?_); refine qr8eo2 (aP (k := k) tyOk) ?_; refine AList.load1lE tyOk (ev) rfl rfl rfl rfl rfl oM ?_; refine kD ?_; refine kE ?_; refine qr4w3 AList.quo ?_; refine kA ?_; refine qr4w2 AList.sub ?_; refine aH rfl rfl rfl rfl Try.func100 rfl (by kernel_rfl) (hg) ?_; refine qr4 aR ?_; refine aB ⟨by kernel_rfl, ?_⟩)
           | (refine rG 7 ?_
              refine kC ?_
              refine aB ?_))
          refine ⟨mkSt 80 [(10, .c (bC false))] [] [], [], Wk.mk [] rfl rfl rfl ?_ trivial, rfl, rfl, aR1⟩
          exact allT
        | false =>
          rw [hh] at hat hg
          repeat (first
           | refine uA ?_
           | refine uB ?_
           | refine uC ?_
           | refine uG ?_
           | refine uD ?_
           | refine kT ?_
           | refine kU ?_
           | (refine rG 2 ?_
              (iterate 2 refine kA ?_)
              refine qr5 (aO tyOk) ?_
              refine qr5t aK ?_
              refine aB ?_)
           | (refine rG 3 ?_
              refine kA ?_
              refine qr4w2 aL ?_
              refine kC ?_
              refine aB ?_)
           | (refine AWp.draw (id := 4) mixed ?_; (iterate 2 refine kA ?_); refine qr8eo2 (aP (k := k) tyOk) ?_; refine AList.load1lE tyOk (ev) rfl rfl rfl rfl rfl oM ?_; refine qr5f aJ ?_; (iterate 3 refine kA ?_); refine qr8eo2 (aP (k := k) tyOk) ?_; refine AList.load1lE tyOk (ev) rfl rfl rfl rfl rfl oM ?_; refine kD ?_; refine kE ?_; refine qr5 (aO tyOk) ?_; refine qr5f aJ ?_; refine qr4 aR ?_; (iterate 2 refine kA ?_); refine qr5t aK ?_; (iterate 3 refine kA ?_); refine qr4w2 AList.sub ?_; refine qr8eo2 (aP (k := k - 1) tyOk) ?_; refine AList.load1lE tyOk (eu) rfl rfl rfl rfl rfl oM ?_; (iterate 2 refine kA ?_); refine qr8eo2 (aP (k := k) tyOk) ?_; refine AList.load1lE tyOk (ev) rfl rfl rfl rfl rfl oM ?_; refine qr5f aJ ?_; refine qr4 aS ?_; refine qr4 aR ?_; refine aB ⟨by kernel_rfl, ?_⟩)
           | (refine AWp.draw (id := 6) mixed ?_; refine kD ?_; refine kE ?_; (iterate 2 refine kA ?_); refine qr8eo2 (aP (k := k) tyOk) ?_; refine AList.load1lE tyOk (ev) rfl rfl rfl rfl rfl oM ?_; refine qr8eo2 (aP (k := m) tyOk) ?_; refine AList.load1lE tyOk (hdc _ hd) rfl rfl rfl rfl rfl oM ?_; refine qr3 AList.notB ?_; refine kA ?_; refine kF ?_; (iterate 2 refine kA ?_); refine qr8eo2 (aP (k := k) tyOk) ?_; refine AList.load1lE tyOk (ev) rfl rfl rfl rfl rfl oM ?_; refine kD ?_; refine kE ?_; refine qr4w2 AList.rem ?_; refine kA ?_; refine qr4w2 AList.sub ?_; (iterate 2 refine kA ?_); refine qr8eo2 (aP (k := k) tyOk) ?_; refine AList.load1lE tyOk (ev) rfl rfl rfl rfl rfl oM ?_; refine kD ?_; refine kE ?_; refine qr4w3 AList.quo ?_; refine kA ?_; refine qr4w2 AList.sub ?_; refine aH rfl rfl rfl rfl Try.func100 rfl (by kernel_rfl) (hg) ?_; refine qr4 aR ?_; refine aB ⟨by kernel_rfl, ?_⟩))
          refine ⟨k + 1, ⟨hkl, fun j hj => ?_⟩, Wk.mk [(6, some 6), (7, some 7)] rfl rfl rfl ?_ ?_, by omega⟩
          ·by_cases e : j = k
           ·rw [e]; exact hat
           ·exact hok j (by omega)
          ·exact allT
          ·exact allH
     ·rw [decide_eq_false hlt, decide_eq_false (by omega), Bool.or_false, Bool.and_false] at hat
      rw [hno hat]
      repeat (first
       | refine uA ?_
       | refine uB ?_
       | refine uC ?_
       | refine uG ?_
       | refine AWp.ret ?_
       | refine thenA_r ?_
       | refine uE ?_
       | refine kT ?_
       | (refine rG 2 ?_
          (iterate 2 refine kA ?_)
          refine qr5 (aO tyOk) ?_
          refine qr5t aK ?_
          refine aB ?_)
       | (refine AWp.draw (id := 4) mixed ?_; (iterate 2 refine kA ?_); refine qr8eo2 (aP (k := k) tyOk) ?_; refine AList.load1lE tyOk (ev) rfl rfl rfl rfl rfl oM ?_; refine qr5f aJ ?_; (iterate 3 refine kA ?_); refine qr8eo2 (aP (k := k) tyOk) ?_; refine AList.load1lE tyOk (ev) rfl rfl rfl rfl rfl oM ?_; refine kD ?_; refine kE ?_; refine qr5 (aO tyOk) ?_; refine qr5f aJ ?_; refine qr4 aR ?_; (iterate 2 refine kA ?_); refine qr5t aK ?_; (iterate 3 refine kA ?_); refine qr4w2 AList.sub ?_; refine qr8eo2 (aP (k := k - 1) tyOk) ?_; refine AList.load1lE tyOk (eu) rfl rfl rfl rfl rfl oM ?_; (iterate 2 refine kA ?_); refine qr8eo2 (aP (k := k) tyOk) ?_; refine AList.load1lE tyOk (ev) rfl rfl rfl rfl rfl oM ?_; refine qr5t aK ?_; refine qr4 aS ?_; refine qr4 aR ?_; refine aB ⟨by kernel_rfl, ?_⟩)
       | (refine rG 5 ?_
          refine kC ?_
          refine aB ?_))
      refine ⟨mkSt 80 [(10, .c (bC false))] [] [], [], Wk.mk [] rfl rfl rfl ?_ trivial, rfl, rfl, aR1⟩
      exact allT
    ·obtain rfl : k = 0 := by omega
     rw [decide_eq_true rfl, Bool.true_or, Bool.and_true] at hat
     cases hd : s.o.d m with
     | false =>
       rw [hd, Bool.false_and] at hat
       rw [hno hat]
       repeat (first
        | refine uA ?_
        | refine uB ?_
        | refine uC ?_
        | refine uG ?_
        | refine AWp.ret ?_
        | refine thenA_r ?_
        | refine uE ?_
        | refine kT ?_
        | refine kU ?_
        | (refine rG 2 ?_
           (iterate 2 refine kA ?_)
           refine qr5 (aO tyOk) ?_
           refine qr5t aK ?_
           refine aB ?_)
        | (refine AWp.draw (id := 4) mixed ?_; (iterate 2 refine kA ?_); refine qr8eo2 (aP (k := 0) tyOk) ?_; refine AList.load1lE tyOk (ev) rfl rfl rfl rfl rfl oM ?_; refine qr5f aJ ?_; (iterate 3 refine kA ?_); refine qr8eo2 (aP (k := 0) tyOk) ?_; refine AList.load1lE tyOk (ev) rfl rfl rfl rfl rfl oM ?_; refine kD ?_; refine kE ?_; refine qr5 (aO tyOk) ?_; refine qr5f aJ ?_; refine qr4 aR ?_; (iterate 2 refine kA ?_); refine qr5f aJ ?_; refine kA ?_; (iterate 10 refine qr2 aG ?_); (iterate 2 refine qr4 aR ?_); refine aB ⟨by kernel_rfl, ?_⟩)
        | (refine AWp.draw (id := 6) mixed ?_; refine kD ?_; refine kE ?_; (iterate 2 refine kA ?_); refine qr8eo2 (aP (k := 0) tyOk) ?_; refine AList.load1lE tyOk (ev) rfl rfl rfl rfl rfl oM ?_; refine qr8eo2 (aP (k := m) tyOk) ?_; refine AList.load1lE tyOk (hdc _ hd) rfl rfl rfl rfl rfl oM ?_; refine qr3 AList.notB ?_; refine kA ?_; (iterate 20 refine qr2 aG ?_); refine qr4 aS ?_; refine aB ⟨by kernel_rfl, ?_⟩)
        | (refine rG 7 ?_
           refine kC ?_
           refine aB ?_))
       refine ⟨mkSt 80 [(10, .c (bC false))] [] [], [], Wk.mk [] rfl rfl rfl ?_ trivial, rfl, rfl, aR1⟩
       exact allT
     | true =>
       rw [hd, Bool.true_and] at hat
       cases hh : hasB s.p.W s.p.H s.p.d ((m : Int) % s.o.W - s.dx) ((m : Int) / s.o.W - s.dy) with
       | true =>
         rw [hh] at hat hg
         rw [hno hat]
         repeat (first
          | refine uA ?_
          | refine uB ?_
          | refine uC ?_
          | refine uG ?_
          | refine AWp.ret ?_
          | refine thenA_r ?_
          | refine uE ?_
          | refine kT ?_
          | refine kU ?_
          | (refine rG 2 ?_
             (iterate 2 refine kA ?_)
             refine qr5 (aO tyOk) ?_
             refine qr5t aK ?_
             refine aB ?_)
          | (refine AWp.draw (id := 4) mixed ?_; (iterate 2 refine kA ?_); refine qr8eo2 (aP (k := 0) tyOk) ?_; refine AList.load1lE tyOk (ev) rfl rfl rfl rfl rfl oM ?_; refine qr5f aJ ?_; (iterate 3 refine kA ?_); refine qr8eo2 (aP (k := 0) tyOk) ?_; refine AList.load1lE tyOk (ev) rfl rfl rfl rfl rfl oM ?_; refine kD ?_; refine kE ?_; refine qr5 (aO tyOk) ?_; refine qr5f aJ ?_; refine qr4 aR ?_; (iterate 2 refine kA ?_); refine qr5f aJ ?_; refine kA ?_; (iterate 10 refine qr2 aG ?_); (iterate 2 refine qr4 aR ?_); refine aB ⟨by kernel_rfl, ?_⟩)
          | (refine AWp.draw (id := 6) mixed ?_; refine kD ?_; refine kE ?_; (iterate 2 refine kA ?_); refine qr8eo2 (aP (k := 0) tyOk) ?_; refine AList.load1lE tyOk (ev) rfl rfl rfl rfl rfl oM ?_; refine qr8eo2 (aP (k := m) tyOk) ?_; refine AList.load1lE tyOk (hdc _ hd) rfl rfl rfl rfl rfl oM ?_; refine qr3 AList.notB ?_; refine kA ?_; refine kF ?_; (iterate 2 refine kA ?_); refine qr8eo2 (aP (k := 0) tyOk) ?_; refine AList.load1lE tyOk (ev) rfl rfl rfl rfl rfl oM ?_; refine kD ?_; refine kE ?_; refine qr4w2 AList.rem ?_; refine kA ?_; refine qr4w2 AList.sub ?_; (iterate 2 refine kA ?_); refine qr8eo2 (aP (k := 0) tyOk) ?_; refine AList.load1lE tyOk (ev) rfl rfl rfl rfl rfl oM ?_; refine kD ?_; refine kE ?_; refine qr4w3 AList.quo ?_; refine kA ?_; refine qr4w2 AList.sub ?_; refine aH rfl rfl rfl rfl Try.func100 rfl (by kernel_rfl) (hg) ?_; refine qr4 aR ?_; refine aB ⟨by kernel_rfl, ?_⟩)
          | (refine rG 7 ?_
             refine kC ?_
             refine aB ?_))
         refine ⟨mkSt 80 [(10, .c (bC false))] [] [], [], Wk.mk [] rfl rfl rfl ?_ trivial, rfl, rfl, aR1⟩
         exact allT
       | false =>
         rw [hh] at hat hg
         repeat (first
          | refine uA ?_
          | refine uB ?_
          | refine uC ?_
          | refine uG ?_
          | refine uD ?_
          | refine kT ?_
          | refine kU ?_
          | (refine rG 2 ?_
             (iterate 2 refine kA ?_)
             refine qr5 (aO tyOk) ?_
             refine qr5t aK ?_
             refine aB ?_)
          | (refine rG 3 ?_
             refine kA ?_
             refine qr4w2 aL ?_
             refine kC ?_
             refine aB ?_)
          | (refine AWp.draw (id := 4) mixed ?_; (iterate 2 refine kA ?_); refine qr8eo2 (aP (k := 0) tyOk) ?_; refine AList.load1lE tyOk (ev) rfl rfl rfl rfl rfl oM ?_; refine qr5f aJ ?_; (iterate 3 refine kA ?_); refine qr8eo2 (aP (k := 0) tyOk) ?_; refine AList.load1lE tyOk (ev) rfl rfl rfl rfl rfl oM ?_; refine kD ?_; refine kE ?_; refine qr5 (aO tyOk) ?_; refine qr5f aJ ?_; refine qr4 aR ?_; (iterate 2 refine kA ?_); refine qr5f aJ ?_; refine kA ?_; (iterate 10 refine qr2 aG ?_); (iterate 2 refine qr4 aR ?_); refine aB ⟨by kernel_rfl, ?_⟩)
          | (refine AWp.draw (id := 6) mixed ?_; refine kD ?_; refine kE ?_; (iterate 2 refine kA ?_); refine qr8eo2 (aP (k := 0) tyOk) ?_; refine AList.load1lE tyOk (ev) rfl rfl rfl rfl rfl oM ?_; refine qr8eo2 (aP (k := m) tyOk) ?_; refine AList.load1lE tyOk (hdc _ hd) rfl rfl rfl rfl rfl oM ?_; refine qr3 AList.notB ?_; refine kA ?_; refine kF ?_; (iterate 2 refine kA ?_); refine qr8eo2 (aP (k := 0) tyOk) ?_; refine AList.load1lE tyOk (ev) rfl rfl rfl rfl rfl oM ?_; refine kD ?_; refine kE ?_; refine qr4w2 AList.rem ?_; refine kA ?_; refine qr4w2 AList.sub ?_; (iterate 2 refine kA ?_); refine qr8eo2 (aP (k := 0) tyOk) ?_; refine AList.load1lE tyOk (ev) rfl rfl rfl rfl rfl oM ?_; refine kD ?_; refine kE ?_; refine qr4w3 AList.quo ?_; refine kA ?_; refine qr4w2 AList.sub ?_; refine aH rfl rfl rfl rfl Try.func100 rfl (by kernel_rfl) (hg) ?_; refine qr4 aR ?_; refine aB ⟨by kernel_rfl, ?_⟩))
         refine ⟨1, ⟨hkl, fun j hj => ?_⟩, Wk.mk [(6, some 6), (7, some 7)] rfl rfl rfl ?_ ?_, by omega⟩
         ·obtain rfl : j = 0 := by omega
          exact hat
         ·exact allT
         ·exact allH
   ·have h1' : ¬ (m : Int) < s.o.n := by omega
    have hA : aloB s m = false := by
     unfold aloB
     rw [decide_eq_false h1', Bool.false_and, Bool.and_false]
    rw [hA, Bool.false_and] at hat
    rw [hno hat]
    repeat (first
     | refine uA ?_
     | refine uB ?_
     | refine uC ?_
     | refine uG ?_
     | refine AWp.ret ?_
     | refine thenA_r ?_
     | refine uE ?_
     | refine kT ?_
     | (refine rG 2 ?_
        (iterate 2 refine kA ?_)
        refine qr5 (aO tyOk) ?_
        refine qr5t aK ?_
        refine aB ?_)
     | (refine AWp.draw (id := 4) mixed ?_; (iterate 2 refine kA ?_); refine qr8eo2 (aP (k := k) tyOk) ?_; refine AList.load1lE tyOk (ev) rfl rfl rfl rfl rfl oM ?_; refine qr5f aJ ?_; (iterate 3 refine kA ?_); refine qr8eo2 (aP (k := k) tyOk) ?_; refine AList.load1lE tyOk (ev) rfl rfl rfl rfl rfl oM ?_; refine kD ?_; refine kE ?_; refine qr5 (aO tyOk) ?_; refine qr5t aK ?_; refine qr4 aR ?_; refine kA ?_; (iterate 14 refine qr2 aG ?_); refine qr4 aS ?_; refine aB ⟨by kernel_rfl, ?_⟩)
     | (refine rG 5 ?_
        refine kC ?_
        refine aB ?_))
    refine ⟨mkSt 80 [(10, .c (bC false))] [] [], [], Wk.mk [] rfl rfl rfl ?_ trivial, rfl, rfl, aR1⟩
    exact allT
  ·have hA : aloB s v = false := by
    unfold aloB
    rw [decide_eq_false h0, Bool.false_and]
   rw [hA, Bool.false_and] at hat
   rw [hno hat]
   repeat (first
    | refine uA ?_
    | refine uB ?_
    | refine uC ?_
    | refine uG ?_
    | refine AWp.ret ?_
    | refine thenA_r ?_
    | refine uE ?_
    | refine kT ?_
    | (refine rG 2 ?_
       (iterate 2 refine kA ?_)
       refine qr5 (aO tyOk) ?_
       refine qr5t aK ?_
       refine aB ?_)
    | (refine AWp.draw (id := 4) mixed ?_; (iterate 2 refine kA ?_); refine qr8eo2 (aP (k := k) tyOk) ?_; refine AList.load1lE tyOk (ev) rfl rfl rfl rfl rfl oM ?_; refine qr5t aK ?_; refine kA ?_; (iterate 8 refine qr2 aG ?_); refine qr4 aS ?_; refine kA ?_; (iterate 14 refine qr2 aG ?_); refine qr4 aS ?_; refine aB ⟨by kernel_rfl, ?_⟩)
    | (refine rG 5 ?_
       refine kC ?_
       refine aB ?_))
   refine ⟨mkSt 80 [(10, .c (bC false))] [] [], [], Wk.mk [] rfl rfl rfl ?_ trivial, rfl, rfl, aR1⟩
   exact allT
 have hkl' : ¬ (k : Int) < l.length := by omega
 obtain rfl : k = l.length := by omega
 rw [okL_yes hok]
 repeat (first
  | refine uA ?_
  | refine uB ?_
  | refine uH ?_
  | refine AWp.ret ?_
  | refine kU ?_
  | (refine rG 2 ?_
     (iterate 2 refine kA ?_)
     refine qr5 (aO tyOk) ?_
     refine qr5f aJ ?_
     refine aB ?_)
  | (refine rG 8 ?_
     refine kC ?_
     refine aB ?_))
 refine ⟨mkSt 80 [(10, .c (bC true))] [] [], [], Wk.mk [] rfl rfl rfl ?_ trivial, rfl, rfl, aR1⟩
 exact allT
set_option maxHeartbeats 2000000 in
set_option maxRecDepth 100000 in
theorem columns_A (s : Sd) (l : List Int) (n : Nat) (hn : s.o.W + 8 = (n : Int)) (hn2 : n ≤ 104) (ho : chk s.o.W s.o.H s.o.n = 0) (hm : -4 ≤ s.mv ∧ s.mv ≤ 4) (hl : l.length ≤ 1000000) (hL : ∀ k, k < l.length → aloB s (l.getD k 0) = true) :
 ACalls Try.prog 106 [.c (liV l), .c (iC s.o.W), .c (iC s.mv)] (.c (.ls n 1 (iF (colC s l)))) := by
 refine acalls_at Try.func106 rfl rfl Try.ntmps106 rfl ?_
 repeat (first
  | refine uA ?_
  | refine uB ?_
  | refine uC ?_
  | (refine rG 0 ?_
     refine kC ?_
     refine aB ?_)
  | (refine rG 1 ?_
     refine kA ?_
     refine qr4w2 aL ?_
     refine qr9e2o2 (AList.makeSl (n := n) tyOk) ?_
     refine kC ?_
     refine aB ?_)
  | (refine rG 2 ?_
     refine kC ?_
     refine aB ?_))
 refine AWp.round (fun k : Nat => mkSt 33 [(0, .c (liV l)), (1, .c (iC s.o.W)), (2, .c (iC s.mv)), (7, .c (.ow 40)), (8, .c (iC k))] [(40, ⟨true, n, 1, 3, iF (colC s (l.take k))⟩)] [40])
  (fun k => k ≤ l.length) (fun k => l.length - k) 0 (Nat.zero_le _) ?_ (fun k hk => ?_)
 ·refine Wk.mk [(40, some 11)] rfl rfl rfl ?_ ?_
  ·exact allT
  ·exact ⟨HeapOk.row rfl rfl rfl (fun i _ => cell1 ⟨rfl, rfl⟩), trivial⟩
 by_cases hkl : k < l.length
 ·have hkl' : (k : Int) < l.length := by omega
  obtain ⟨v, hv⟩ : ∃ v, l.getD k 0 = v := ⟨_, rfl⟩
  have ev : iF (fun k => l.getD k 0) k 0 = iC v := congrArg (fun z => iC z) hv
  have hA := hL k hkl
  rw [hv] at hA
  obtain ⟨c1, c2, c3, c4, c5⟩ := col_bd ho hm hA
  have hv0 := (alo_bd hA).1
  have hv9 := (alo_bd hA).2
  have b9 := n_bd ho
  have hc := colC_nn s (l.take k) (colV s v)
  have htl : (l.take k).length ≤ l.length := by rw [List.length_take]; omega
  have hts := take_snoc hkl
  rw [hv] at hts
  obtain ⟨c, hcv⟩ : ∃ c, colV s v = c := ⟨_, rfl⟩
  rw [hcv] at c1 c2 hc
  repeat (first
   | refine uA ?_
   | refine uB ?_
   | refine uC ?_
   | refine uG ?_
   | refine uD ?_
   | refine kT ?_
   | (refine rG 3 ?_
      (iterate 2 refine kA ?_)
      refine qr5 (aO tyOk) ?_
      refine qr5t aK ?_
      refine aB ?_)
   | (refine rG 4 ?_
      refine kA ?_
      refine qr4w2 aL ?_
      refine kC ?_
      refine aB ?_)
   | (refine rG 5 ?_
      (iterate 3 refine kA ?_)
      refine qr8eo2 (aP (k := k) tyOk) ?_
      refine AList.load1lE tyOk (ev) rfl rfl rfl rfl rfl oM ?_
      refine kA ?_
      refine qr4w2 AList.rem ?_
      refine kA ?_
      (iterate 2 refine qr4w2 aL ?_)
      refine qr10eo (AList.idxOw (k := c) tyOk) ?_
      refine kE ?_
      refine qr4w2 aL ?_
      refine qr10eo (AList.idxOw (k := c) tyOk) ?_
      refine kI ?_
      refine aB ?_))
  refine ⟨k + 1, hkl, Wk.mk [(40, some 40)] rfl rfl rfl ?_ ?_, by omega⟩
  ·exact allT
  ·refine ⟨HeapOk.row rfl rfl rfl ?_, trivial⟩
   rw [hts]
   have hu := colC_upd s (l.take k) v
   rw [hcv] at hu
   exact iF_set (by rw [hu c, if_pos rfl]) fun i h => by rw [hu i, if_neg h]
 have hkl' : ¬ (k : Int) < l.length := by omega
 obtain rfl : k = l.length := by omega
 rw [List.take_length]
 repeat (first
  | refine uA ?_
  | refine uB ?_
  | refine uH ?_
  | refine AWp.ret ?_
  | refine kU ?_
  | (refine rG 3 ?_
     (iterate 2 refine kA ?_)
     refine qr5 (aO tyOk) ?_
     refine qr5f aJ ?_
     refine aB ?_)
  | (refine rG 6 ?_
     refine kA ?_
     refine kC ?_
     refine aB ?_))
 refine ⟨mkSt 33 [(6, .c (.ls n 1 (iF (colC s l))))] [] [], [], Wk.mk [] rfl rfl rfl ?_ trivial, rfl, rfl, aR1⟩
 exact allT
def outN (c : Nat → Int) (f t : Nat) : Nat → Int
 | 0 => 0
 | k + 1 => outN c f t k + if k < f ∨ f + t ≤ k then c k else 0
theorem wnF_z (c : Nat → Int) (k : Nat) : wnF c 0 (k + 1) = wnF c 0 k + c k := by
 show wnF c 0 k + c (0 + k) = _
 rw [Nat.zero_add]
theorem outN_lo {c : Nat → Int} {f t : Nat} : ∀ {k : Nat}, k ≤ f → outN c f t k = wnF c 0 k
 | 0, _ => rfl
 | k + 1, h => by
   rw [wnF_z]
   unfold outN
   rw [outN_lo (by omega), if_pos (.inl (by omega))]
theorem outN_mid {c : Nat → Int} {f t : Nat} : ∀ {m : Nat}, m ≤ t → outN c f t (f + m) = wnF c 0 f
 | 0, _ => outN_lo (Nat.le_refl _)
 | m + 1, h => by
   show outN c f t (f + m) + (if f + m < f ∨ f + t ≤ f + m then c (f + m) else 0) = _
   rw [outN_mid (by omega), if_neg (by omega), Int.add_zero]
theorem wn_split (c : Nat → Int) (f : Nat) : ∀ m, wnF c 0 (f + m) = wnF c 0 f + wnF c f m
 | 0 => by show wnF c 0 f = wnF c 0 f + 0; omega
 | m + 1 => by
   have e : wnF c f (m + 1) = wnF c f m + c (f + m) := rfl
   rw [e, ← Nat.add_assoc, wnF_z, wn_split c f m]
   omega
theorem outN_hi {c : Nat → Int} {f t : Nat} : ∀ m, outN c f t (f + t + m) = wnF c 0 (f + t + m) - wnF c f t
 | 0 => by
   rw [Nat.add_zero, outN_mid (Nat.le_refl _), wn_split]
   omega
 | m + 1 => by
   show outN c f t (f + t + m) + (if f + t + m < f ∨ f + t ≤ f + t + m then c (f + t + m) else 0) = wnF c 0 (f + t + m + 1) - wnF c f t
   rw [outN_hi m, if_pos (.inr (by omega)), wnF_z]
   omega
theorem outN_eq {c : Nat → Int} {f t n : Nat} (h : f + t ≤ n) : outN c f t n = wnF c 0 n - wnF c f t := by
 have := outN_hi (c := c) (f := f) (t := t) (n - (f + t))
 rwa [show f + t + (n - (f + t)) = n by omega] at this
theorem outN_bd {c : Nat → Int} {f t : Nat} {B : Int} (h : ∀ i, 0 ≤ c i ∧ c i ≤ B) : ∀ k : Nat, 0 ≤ outN c f t k ∧ outN c f t k ≤ k * B
 | 0 => by unfold outN; omega
 | k + 1 => by
   have h1 := outN_bd (f := f) (t := t) h k
   have h2 := h k
   have e : ((k + 1 : Nat) : Int) * B = k * B + B := by rw [Int.natCast_succ, Int.add_mul, Int.one_mul]
   unfold outN
   split <;> omega
set_option maxHeartbeats 2000000 in
set_option maxRecDepth 100000 in
theorem outside_A (c : Nat → Int) (n f t : Nat) (hn : n ≤ 104) (hf : f ≤ 200) (ht : t ≤ 200) (hc : ∀ i, 0 ≤ c i ∧ c i ≤ 1000000) : ACalls Try.prog 107 [.c (.ls n 1 (iF c)), .c (iC f), .c (iC t)] (.c (iC (outN c f t n))) := by
 refine acalls_at Try.func107 rfl rfl Try.ntmps107 rfl ?_
 repeat (first
  | refine uA ?_
  | refine uB ?_
  | refine uC ?_
  | (refine rG 0 ?_
     refine kC ?_
     refine aB ?_)
  | (refine rG 1 ?_
     refine kC ?_
     refine aB ?_)
  | (refine rG 2 ?_
     refine kC ?_
     refine aB ?_))
 refine AWp.round (fun k : Nat => mkSt 32 [(0, .c (.ls n 1 (iF c))), (1, .c (iC f)), (2, .c (iC t)), (7, .c (iC (outN c f t k))), (8, .c (iC k))] [] [])
  (fun k => k ≤ n) (fun k => n - k) 0 (Nat.zero_le _) ?_ (fun k hk => ?_)
 ·refine Wk.mk [] rfl rfl rfl ?_ trivial
  exact allT
 have hb := outN_bd (f := f) (t := t) hc k
 have hck := hc k
 by_cases hkl : k < n
 ·have hkl' : (k : Int) < n := by omega
  by_cases h1 : k < f
  ·have h1' : (k : Int) < f := by omega
   have e : outN c f t (k + 1) = outN c f t k + c k := by
    show _ + _ = _
    rw [if_pos (.inl h1)]
   repeat (first
    | refine uA ?_
    | refine uB ?_
    | refine uC ?_
    | refine uG ?_
    | refine uD ?_
    | refine kT ?_
    | (refine rG 3 ?_
       (iterate 2 refine kA ?_)
       refine qr5 (aO tyOk) ?_
       refine qr5t aK ?_
       refine aB ?_)
    | (refine rG 4 ?_
       refine kA ?_
       refine qr4w2 aL ?_
       refine kC ?_
       refine aB ?_)
    | (refine rG 5 ?_
       (iterate 2 refine kA ?_)
       refine qr5t aK ?_
       refine kA ?_
       (iterate 5 refine qr2 aG ?_)
       refine qr4 aS ?_
       refine aB ?_)
    | (refine rG 6 ?_
       (iterate 3 refine kA ?_)
       refine qr8eo2 (aP (k := k) tyOk) ?_
       refine qr5o (aV tyOk) ?_
       refine qr4w2 aL ?_
       refine kC ?_
       refine aB ?_))
   refine ⟨k + 1, hkl, Wk.mk [] rfl rfl rfl ?_ trivial, by omega⟩
   rw [e]
   exact allT
  ·have h1' : ¬ (k : Int) < f := by omega
   by_cases h2 : f + t ≤ k
   ·have h2' : (f : Int) + t ≤ k := by omega
    have e : outN c f t (k + 1) = outN c f t k + c k := by
     show _ + _ = _
     rw [if_pos (.inr h2)]
    repeat (first
     | refine uA ?_
     | refine uB ?_
     | refine uC ?_
     | refine uG ?_
     | refine uD ?_
     | refine kT ?_
     | (refine rG 3 ?_
        (iterate 2 refine kA ?_)
        refine qr5 (aO tyOk) ?_
        refine qr5t aK ?_
        refine aB ?_)
     | (refine rG 4 ?_
        refine kA ?_
        refine qr4w2 aL ?_
        refine kC ?_
        refine aB ?_)
     | (refine rG 5 ?_
        (iterate 2 refine kA ?_)
        refine qr5f aJ ?_
        (iterate 4 refine kA ?_)
        refine qr4w2 aL ?_
        refine qr5t aK ?_
        refine qr4 aR ?_
        refine aB ?_)
     | (refine rG 6 ?_
        (iterate 3 refine kA ?_)
        refine qr8eo2 (aP (k := k) tyOk) ?_
        refine qr5o (aV tyOk) ?_
        refine qr4w2 aL ?_
        refine kC ?_
        refine aB ?_))
    refine ⟨k + 1, hkl, Wk.mk [] rfl rfl rfl ?_ trivial, by omega⟩
    rw [e]
    exact allT
   ·have h2' : ¬ (f : Int) + t ≤ k := by omega
    have e : outN c f t (k + 1) = outN c f t k := by
     show _ + _ = _
     rw [if_neg (by omega), Int.add_zero]
    repeat (first
     | refine uA ?_
     | refine uB ?_
     | refine uC ?_
     | refine uG ?_
     | refine uD ?_
     | refine kT ?_
     | refine kU ?_
     | (refine rG 3 ?_
        (iterate 2 refine kA ?_)
        refine qr5 (aO tyOk) ?_
        refine qr5t aK ?_
        refine aB ?_)
     | (refine rG 4 ?_
        refine kA ?_
        refine qr4w2 aL ?_
        refine kC ?_
        refine aB ?_)
     | (refine rG 5 ?_
        (iterate 2 refine kA ?_)
        refine qr5f aJ ?_
        (iterate 4 refine kA ?_)
        refine qr4w2 aL ?_
        refine qr5f aJ ?_
        refine qr4 aR ?_
        refine aB ?_))
    refine ⟨k + 1, hkl, Wk.mk [] rfl rfl rfl ?_ trivial, by omega⟩
    rw [e]
    exact allT
 have hkl' : ¬ (k : Int) < n := by omega
 obtain rfl : k = n := by omega
 repeat (first
  | refine uA ?_
  | refine uB ?_
  | refine uH ?_
  | refine AWp.ret ?_
  | refine kU ?_
  | (refine rG 3 ?_
     (iterate 2 refine kA ?_)
     refine qr5 (aO tyOk) ?_
     refine qr5f aJ ?_
     refine aB ?_)
  | (refine rG 7 ?_
     refine kA ?_
     refine kC ?_
     refine aB ?_))
 refine ⟨mkSt 32 [(6, .c (iC (outN c f t k)))] [] [], [], Wk.mk [] rfl rfl rfl ?_ trivial, rfl, rfl, aR1⟩
 exact allT
theorem tot_col {s : Sd} {l : List Int} {n : Nat} (h : ∀ k, k < l.length → colV s (l.getD k 0) < n) : wnF (colC s l) 0 n = l.length := by
 rw [show wnF (colC s l) 0 n = winC s l 0 n from rfl, win_cnt]
 congr 1
 rw [List.filter_eq_self.2 fun k hk => ?_]
 obtain ⟨i, hi, rfl⟩ := List.getElem_of_mem hk
 have := h i hi
 rw [List.getD_eq_getElem?_getD, List.getElem?_eq_getElem hi, Option.getD_some] at this
 exact decide_eq_true ⟨Nat.zero_le _, by omega⟩
theorem outN_out {s : Sd} {l : List Int} {n f t : Nat} (h : ∀ k, k < l.length → colV s (l.getD k 0) < n) (hf : f + t ≤ n) : outN (colC s l) f t n = outC s t f l := by
 rw [outN_eq hf, tot_col h, out_win]
theorem decB_no {s t : Sd} {n M f : Nat} {lA lB : List Int} (hf : f < M) (h : openB s t n lA lB f = true) : decB s t n M lA lB = false := by
 unfold decB
 rw [List.all_eq_false]
 exact ⟨f, List.mem_range.2 hf, by simp [h]⟩
theorem decB_yes {s t : Sd} {n M : Nat} {lA lB : List Int} (h : ∀ f, f < M → openB s t n lA lB f = false) : decB s t n M lA lB = true :=
 List.all_eq_true.2 fun f hf => by rw [h f (List.mem_range.1 hf)]; rfl
theorem outC_bd (s : Sd) (t f : Nat) (l : List Int) : 0 ≤ outC s t f l ∧ outC s t f l ≤ l.length := by
 unfold outC
 have := List.length_filter_le (fun k => decide (colV s k < f ∨ f + t ≤ colV s k)) l
 omega
set_option maxHeartbeats 4000000 in
set_option maxRecDepth 100000 in
theorem rdecides_A (a b : Bp) (x y : Bg) (d : Int × Int) (lA lB : List Int) (h : cmpOk a b) (hd : -4 ≤ d.1 ∧ d.1 ≤ 4) (hA : lA.length ≤ 1000000) (hB : lB.length ≤ 1000000) (hLA : ∀ k, k < lA.length → aloB (sd1 a b x y d) (lA.getD k 0) = true) (hLB : ∀ k, k < lB.length → aloB (sd2 a b x y d) (lB.getD k 0) = true) :
 ACalls Try.prog 50 [.c (liV lA), .c (liV lB), .c (iC a.W), .c (iC d.1), .ag (bgC x), .ag (bgC y)] (.c (bC (decB (sd1 a b x y d) (sd2 a b x y d) (stN a.W x y).toNat (alM a.W x y) lA lB))) := by
 obtain ⟨ha, hb, hW, hH⟩ := h
 obtain ⟨w1, w2, w3, w4, w5⟩ := okB ha
 have hst := stN_bd x y w1
 obtain ⟨n, hn⟩ := Int.eq_ofNat_of_zero_le (show 0 ≤ a.W + 8 by omega)
 obtain ⟨t, ht⟩ := Int.eq_ofNat_of_zero_le hst.1
 have hS := rStrip_A a.W x y ⟨w1, w2⟩
 have h1 := rlim24_A x
 have h2 := rlim24_A y
 have b1 := lim_bds x
 have b2 := lim_bds y
 have c1 := columns_A (sd1 a b x y d) lA n hn (by omega) ha (by show -4 ≤ (0 : Int) ∧ (0 : Int) ≤ 4; omega) hA hLA
 have c2 := columns_A (sd2 a b x y d) lB n (by show b.W + 8 = _; rw [← hW]; exact hn) (by omega) hb hd hB hLB
 have k1 : ∀ k, k < lA.length → colV (sd1 a b x y d) (lA.getD k 0) < n := fun k hk => by
  obtain ⟨_, g, _⟩ := col_bd (s := sd1 a b x y d) ha (by show -4 ≤ (0 : Int) ∧ (0 : Int) ≤ 4; omega) (hLA k hk)
  have : ((colV (sd1 a b x y d) (lA.getD k 0) : Nat) : Int) < a.W + 8 := g
  omega
 have k2 : ∀ k, k < lB.length → colV (sd2 a b x y d) (lB.getD k 0) < n := fun k hk => by
  obtain ⟨_, g, _⟩ := col_bd (s := sd2 a b x y d) hb hd (hLB k hk)
  have : ((colV (sd2 a b x y d) (lB.getD k 0) : Nat) : Int) < b.W + 8 := g
  omega
 have hM : alM a.W x y = n + 1 - t := by unfold alM; omega
 have e0 : (sd1 a b x y d).mo = (lim4 x).lo + (lim4 y).bl := rfl
 have e1 : (sd2 a b x y d).mo = (lim4 y).lo + (lim4 x).bl := rfl
 rw [show (sd1 a b x y d).o.W = a.W from rfl, show (sd1 a b x y d).mv = 0 from rfl] at c1
 rw [show (sd2 a b x y d).o.W = b.W from rfl, show (sd2 a b x y d).mv = d.1 from rfl, ← hW] at c2
 rw [ht] at hS hst
 rw [hM, ht, Int.toNat_natCast]
 have hno1 := @decB_no (sd1 a b x y d) (sd2 a b x y d) t (n + 1 - t)
 have hyes := @decB_yes (sd1 a b x y d) (sd2 a b x y d) t (n + 1 - t)
 have ob : ∀ f, openB (sd1 a b x y d) (sd2 a b x y d) t lA lB f = (decide (outC (sd1 a b x y d) t f lA ≤ (lim4 x).lo + (lim4 y).bl) && decide (outC (sd2 a b x y d) t f lB ≤ (lim4 y).lo + (lim4 x).bl)) := fun f => rfl
 have o1 := @outN_out (sd1 a b x y d) lA n
 have o2 := @outN_out (sd2 a b x y d) lB n
 have ab1 := fun f => outC_bd (sd1 a b x y d) t f lA
 have ab2 := fun f => outC_bd (sd2 a b x y d) t f lB
 have nn1 := colC_nn (sd1 a b x y d) lA
 have nn2 := colC_nn (sd2 a b x y d) lB
 generalize sd1 a b x y d = s at *
 generalize sd2 a b x y d = q at *
 generalize hX : lim4 x = X at *
 generalize hY : lim4 y = Y at *
 refine acalls_at Try.func50 rfl rfl Try.ntmps50 rfl ?_
 repeat (first
  | refine uA ?_
  | refine uB ?_
  | refine uC ?_
  | (refine rG 0 ?_
     (iterate 2 refine qr5 aQ ?_)
     refine kC ?_
     refine aB ?_)
  | (refine rG 1 ?_
     refine kA ?_
     (iterate 2 refine kF ?_)
     refine aH rfl rfl rfl rfl Try.func105 rfl (by kernel_rfl) (hS) ?_
     refine kC ?_
     refine aB ?_)
  | (refine rG 2 ?_
     refine kF ?_
     refine aH rfl rfl rfl rfl Try.func99 rfl (by kernel_rfl) (h1) ?_
     refine kI ?_
     refine aB ?_)
  | (refine rG 3 ?_
     refine kF ?_
     refine aH rfl rfl rfl rfl Try.func99 rfl (by kernel_rfl) (h2) ?_
     refine kI ?_
     refine aB ?_)
  | (refine rG 4 ?_
     (iterate 2 refine kA ?_)
     refine aH rfl rfl rfl rfl Try.func106 rfl (by kernel_rfl) (c1) ?_
     refine kC ?_
     refine aB ?_)
  | (refine rG 5 ?_
     (iterate 3 refine kA ?_)
     refine aH rfl rfl rfl rfl Try.func106 rfl (by kernel_rfl) (c2) ?_
     refine kC ?_
     refine aB ?_)
  | (refine rG 6 ?_
     refine kC ?_
     refine aB ?_))
 refine AWp.round (fun k : Nat => mkSt 62 [(2, .c (iC a.W)), (10, .c (.pt 10 4 0 0)), (11, .c (.pt 11 4 0 0)), (13, .c (iC t)), (14, .c (.ls n 1 (iF (colC s lA)))), (15, .c (.ls n 1 (iF (colC q lB)))), (16, .c (iC k))] [(10, ⟨false, 1, 4, 33, lF (bgC X)⟩), (11, ⟨false, 1, 4, 33, lF (bgC Y)⟩)] [10, 11])
  (fun k => k ≤ n + 1 - t ∧ ∀ j, j < k → openB s q t lA lB j = false) (fun k => n + 1 - t - k) 0 ⟨Nat.zero_le _, fun _ h => absurd h (Nat.not_lt_zero _)⟩ ?_ (fun k hk => ?_)
 ·refine Wk.mk [(10, some 10), (11, some 11)] rfl rfl rfl ?_ ?_
  ·exact allT
  ·exact allH
 obtain ⟨hk, hno⟩ := hk
 by_cases hkl : k < n + 1 - t
 ·have hkl' : (k : Int) + t ≤ a.W + 8 := by omega
  have u1 := outside_A (colC s lA) n k t (by omega) (by omega) (by omega) (fun i => ⟨(nn1 i).1, by have := (nn1 i).2; omega⟩)
  have u2 := outside_A (colC q lB) n k t (by omega) (by omega) (by omega) (fun i => ⟨(nn2 i).1, by have := (nn2 i).2; omega⟩)
  rw [o1 k1 (by omega)] at u1
  rw [o2 k2 (by omega)] at u2
  have hop := ob k
  have ab1 := ab1 k
  have ab2 := ab2 k
  generalize outC s t k lA = v1 at *
  generalize outC q t k lB = v2 at *
  by_cases g1 : v1 ≤ X.lo + Y.bl
  ·by_cases g2 : v2 ≤ Y.lo + X.bl
   ·rw [decide_eq_true g1, decide_eq_true g2] at hop
    rw [hno1 hkl hop]
    repeat (first
     | refine uA ?_
     | refine uB ?_
     | refine uC ?_
     | refine uG ?_
     | refine AWp.ret ?_
     | refine thenA_r ?_
     | refine uE ?_
     | refine kT ?_
     | (refine rG 7 ?_
        (iterate 2 refine kA ?_)
        refine qr4w2 aL ?_
        refine kA ?_
        refine qr4w2 aL ?_
        refine qr5t aK ?_
        refine aB ?_)
     | (refine AWp.draw (id := 9) mixed ?_; (iterate 3 refine kA ?_); refine aH rfl rfl rfl rfl Try.func107 rfl (by kernel_rfl) (u1) ?_; refine kD ?_; refine kE ?_; refine kD ?_; refine kE ?_; refine qr4w2 aL ?_; refine qr5t aK ?_; (iterate 4 refine kA ?_); refine aH rfl rfl rfl rfl Try.func107 rfl (by kernel_rfl) (u2) ?_; refine kD ?_; refine kE ?_; refine kD ?_; refine kE ?_; refine qr4w2 aL ?_; refine qr5t aK ?_; refine qr4 aS ?_; refine aB ⟨by kernel_rfl, ?_⟩)
     | (refine rG 10 ?_
        refine kC ?_
        refine aB ?_))
    refine ⟨mkSt 62 [(12, .c (bC false))] [] [], [], Wk.mk [] rfl rfl rfl ?_ trivial, rfl, rfl, aR1⟩
    exact allT
   ·rw [decide_eq_true g1, decide_eq_false g2] at hop
    repeat (first
     | refine uA ?_
     | refine uB ?_
     | refine uC ?_
     | refine uG ?_
     | refine uD ?_
     | refine kT ?_
     | refine kU ?_
     | (refine rG 7 ?_
        (iterate 2 refine kA ?_)
        refine qr4w2 aL ?_
        refine kA ?_
        refine qr4w2 aL ?_
        refine qr5t aK ?_
        refine aB ?_)
     | (refine rG 8 ?_
        refine kA ?_
        refine qr4w2 aL ?_
        refine kC ?_
        refine aB ?_)
     | (refine AWp.draw (id := 9) mixed ?_; (iterate 3 refine kA ?_); refine aH rfl rfl rfl rfl Try.func107 rfl (by kernel_rfl) (u1) ?_; refine kD ?_; refine kE ?_; refine kD ?_; refine kE ?_; refine qr4w2 aL ?_; refine qr5t aK ?_; (iterate 4 refine kA ?_); refine aH rfl rfl rfl rfl Try.func107 rfl (by kernel_rfl) (u2) ?_; refine kD ?_; refine kE ?_; refine kD ?_; refine kE ?_; refine qr4w2 aL ?_; refine qr5f aJ ?_; refine qr4 aS ?_; refine aB ⟨by kernel_rfl, ?_⟩))
    refine ⟨k + 1, ⟨hkl, fun j hj => ?_⟩, Wk.mk [(10, some 10), (11, some 11)] rfl rfl rfl ?_ ?_, by omega⟩
    ·by_cases e : j = k
     ·rw [e]; exact hop
     ·exact hno j (by omega)
    ·exact allT
    ·exact allH
  ·rw [decide_eq_false g1, Bool.false_and] at hop
   repeat (first
    | refine uA ?_
    | refine uB ?_
    | refine uC ?_
    | refine uG ?_
    | refine uD ?_
    | refine kT ?_
    | refine kU ?_
    | (refine rG 7 ?_
       (iterate 2 refine kA ?_)
       refine qr4w2 aL ?_
       refine kA ?_
       refine qr4w2 aL ?_
       refine qr5t aK ?_
       refine aB ?_)
    | (refine rG 8 ?_
       refine kA ?_
       refine qr4w2 aL ?_
       refine kC ?_
       refine aB ?_)
    | (refine AWp.draw (id := 9) mixed ?_; (iterate 3 refine kA ?_); refine aH rfl rfl rfl rfl Try.func107 rfl (by kernel_rfl) (u1) ?_; refine kD ?_; refine kE ?_; refine kD ?_; refine kE ?_; refine qr4w2 aL ?_; refine qr5f aJ ?_; refine kA ?_; (iterate 10 refine qr2 aG ?_); refine qr4 aR ?_; refine aB ⟨by kernel_rfl, ?_⟩))
   refine ⟨k + 1, ⟨hkl, fun j hj => ?_⟩, Wk.mk [(10, some 10), (11, some 11)] rfl rfl rfl ?_ ?_, by omega⟩
   ·by_cases e : j = k
    ·rw [e]; exact hop
    ·exact hno j (by omega)
   ·exact allT
   ·exact allH
 have hkl' : ¬ (k : Int) + t ≤ a.W + 8 := by omega
 obtain rfl : k = n + 1 - t := by omega
 rw [hyes hno]
 repeat (first
  | refine uA ?_
  | refine uB ?_
  | refine uH ?_
  | refine AWp.ret ?_
  | refine kU ?_
  | (refine rG 7 ?_
     (iterate 2 refine kA ?_)
     refine qr4w2 aL ?_
     refine kA ?_
     refine qr4w2 aL ?_
     refine qr5f aJ ?_
     refine aB ?_)
  | (refine rG 11 ?_
     refine kC ?_
     refine aB ?_))
 refine ⟨mkSt 62 [(12, .c (bC true))] [] [], [], Wk.mk [] rfl rfl rfl ?_ trivial, rfl, rfl, aR1⟩
 exact allT
set_option maxHeartbeats 2000000 in
set_option maxRecDepth 100000 in
theorem ralone_A (s : Sd) (ho : chk s.o.W s.o.H s.o.n = 0) (hp : chk s.p.W s.p.H s.p.n = 0) (hx : -4 ≤ s.dx ∧ s.dx ≤ 4) (hy : -4 ≤ s.dy ∧ s.dy ≤ 4) :
 ACalls Try.prog 41 [.ag (bpC s.o), .ag (bpC s.p), .c (iC s.dx), .c (iC s.dy)] (.c (liV (aloL s))) := by
 have b9 := n_bd ho
 refine acalls_at Try.func41 rfl rfl Try.ntmps41 rfl ?_
 repeat (first
  | refine uA ?_
  | refine uB ?_
  | refine uC ?_
  | (refine rG 0 ?_
     (iterate 2 refine qr5 aQ ?_)
     refine kC ?_
     refine aB ?_)
  | (refine rG 1 ?_
     refine kC ?_
     refine aB ?_)
  | (refine rG 2 ?_
     refine kC ?_
     refine aB ?_))
 refine AWp.round (fun k : Nat => mkSt 45 [(2, .c (iC s.dx)), (3, .c (iC s.dy)), (4, .c (.pt 4 3 0 0)), (5, .c (.pt 5 3 0 0)), (9, .c (.ow 50)), (10, .c (iC k))] [(4, ⟨false, 1, 3, 31, lF (bpC s.o)⟩), (5, ⟨false, 1, 3, 31, lF (bpC s.p)⟩), (50, rwI (aloN s k))] [4, 5, 50])
  (fun k => k ≤ s.o.n) (fun k => s.o.n - k) 0 (Nat.zero_le _) ?_ (fun k hk => ?_)
 ·refine Wk.mk [(4, some 4), (5, some 5), (50, none)] rfl rfl rfl ?_ ?_
  ·exact allT
  ·exact allH
 by_cases hkl : k < s.o.n
 ·have hkl' : (k : Int) < s.o.n := by omega
  obtain ⟨q1, q2, q3⟩ := side_div ho hkl
  have hH : s.o.H ≤ 96 := (okB ho).2.2.2.1
  have hg := Get_A s.p.W s.p.H s.p.n s.p.d ((k : Int) % s.o.W - s.dx) ((k : Int) / s.o.W - s.dy) hp
  have hdc : ∀ v, s.o.d k = v → bF s.o.d k 0 = bC v := fun v h => congrArg (fun b => CV.p (.bool b)) h
  have hsu := aloN_succ s k
  have hln := aloN_len s k
  have hA : aloB s k = (s.o.d k && !hasB s.p.W s.p.H s.p.d ((k : Int) % s.o.W - s.dx) ((k : Int) / s.o.W - s.dy)) := by
   unfold aloB
   rw [decide_eq_true (Int.natCast_nonneg k), decide_eq_true hkl', Bool.true_and, Bool.true_and, show ((k : Int)).toNat = k from Int.toNat_natCast k]
  rw [hA] at hsu
  cases hd : s.o.d k with
  | false =>
    rw [hd, Bool.false_and, if_neg (by decide), List.append_nil] at hsu
    repeat (first
     | refine uA ?_
     | refine uB ?_
     | refine uC ?_
     | refine uG ?_
     | refine uD ?_
     | refine kT ?_
     | refine kU ?_
     | (refine rG 3 ?_
        refine kA ?_
        refine kD ?_
        refine kE ?_
        refine qr5 (aO tyOk) ?_
        refine qr5t aK ?_
        refine aB ?_)
     | (refine rG 4 ?_
        refine kA ?_
        refine qr4w2 aL ?_
        refine kC ?_
        refine aB ?_)
     | (refine AWp.draw (id := 5) mixed ?_; refine kD ?_; refine kE ?_; refine kA ?_; refine qr8eo2 (aP (k := k) tyOk) ?_; refine AList.load1lE tyOk (hdc _ hd) rfl rfl rfl rfl rfl oM ?_; refine kA ?_; (iterate 15 refine qr2 aG ?_); refine qr4 aR ?_; refine aB ⟨by kernel_rfl, ?_⟩))
    refine ⟨k + 1, hkl, Wk.mk [(4, some 4), (5, some 5), (50, some 50)] rfl rfl rfl ?_ ?_, by omega⟩
    ·exact allT
    ·rw [hsu]
     exact allH
  | true =>
    rw [hd, Bool.true_and] at hsu
    cases hh : hasB s.p.W s.p.H s.p.d ((k : Int) % s.o.W - s.dx) ((k : Int) / s.o.W - s.dy) with
    | true =>
      rw [hh] at hsu hg
      rw [if_neg (by decide), List.append_nil] at hsu
      repeat (first
       | refine uA ?_
       | refine uB ?_
       | refine uC ?_
       | refine uG ?_
       | refine uD ?_
       | refine kT ?_
       | refine kU ?_
       | (refine rG 3 ?_
          refine kA ?_
          refine kD ?_
          refine kE ?_
          refine qr5 (aO tyOk) ?_
          refine qr5t aK ?_
          refine aB ?_)
       | (refine rG 4 ?_
          refine kA ?_
          refine qr4w2 aL ?_
          refine kC ?_
          refine aB ?_)
       | (refine AWp.draw (id := 5) mixed ?_; refine kD ?_; refine kE ?_; refine kA ?_; refine qr8eo2 (aP (k := k) tyOk) ?_; refine AList.load1lE tyOk (hdc _ hd) rfl rfl rfl rfl rfl oM ?_; refine kA ?_; refine kF ?_; refine kA ?_; refine kD ?_; refine kE ?_; refine qr4w2 AList.rem ?_; refine kA ?_; refine qr4w2 AList.sub ?_; refine kA ?_; refine kD ?_; refine kE ?_; refine qr4w3 AList.quo ?_; refine kA ?_; refine qr4w2 AList.sub ?_; refine aH rfl rfl rfl rfl Try.func100 rfl (by kernel_rfl) (hg) ?_; refine qr3 AList.notB ?_; refine qr4 aS ?_; refine aB ⟨by kernel_rfl, ?_⟩))
      refine ⟨k + 1, hkl, Wk.mk [(4, some 4), (5, some 5), (50, some 50)] rfl rfl rfl ?_ ?_, by omega⟩
      ·exact allT
      ·rw [hsu]
       exact allH
    | false =>
      rw [hh] at hsu hg
      rw [if_pos (by decide)] at hsu
      have hlen : (aloN s (k + 1)).length = (aloN s k).length + 1 := by rw [hsu, List.length_append]; rfl
      repeat (first
       | refine uA ?_
       | refine uB ?_
       | refine uC ?_
       | refine uG ?_
       | refine uD ?_
       | refine kT ?_
       | (refine rG 3 ?_
          refine kA ?_
          refine kD ?_
          refine kE ?_
          refine qr5 (aO tyOk) ?_
          refine qr5t aK ?_
          refine aB ?_)
       | (refine rG 4 ?_
          refine kA ?_
          refine qr4w2 aL ?_
          refine kC ?_
          refine aB ?_)
       | (refine AWp.draw (id := 5) mixed ?_; refine kD ?_; refine kE ?_; refine kA ?_; refine qr8eo2 (aP (k := k) tyOk) ?_; refine AList.load1lE tyOk (hdc _ hd) rfl rfl rfl rfl rfl oM ?_; refine kA ?_; refine kF ?_; refine kA ?_; refine kD ?_; refine kE ?_; refine qr4w2 AList.rem ?_; refine kA ?_; refine qr4w2 AList.sub ?_; refine kA ?_; refine kD ?_; refine kE ?_; refine qr4w3 AList.quo ?_; refine kA ?_; refine qr4w2 AList.sub ?_; refine aH rfl rfl rfl rfl Try.func100 rfl (by kernel_rfl) (hg) ?_; refine qr3 AList.notB ?_; refine qr4 aS ?_; refine aB ⟨by kernel_rfl, ?_⟩)
       | (refine rG 6 ?_
          (iterate 2 refine kA ?_)
          refine qr11 (AList.litSl tyOk) ?_
          refine AList.appL tyOk rfl rfl rfl rfl rfl rfl rfl rfl rfl rfl oM oM ?_
          refine kC ?_
          refine aB ?_))
      refine ⟨k + 1, hkl, Wk.mk [(4, some 4), (5, some 5), (50, some 43)] rfl rfl rfl ?_ ?_, by omega⟩
      ·exact allT
      ·refine ⟨hSm, hSm, HeapOk.row rfl rfl hlen ?_, trivial⟩
       rw [hsu]
       exact rwI_snoc _ _
 have hkl' : ¬ (k : Int) < s.o.n := by omega
 obtain rfl : k = s.o.n := by omega
 repeat (first
  | refine uA ?_
  | refine uB ?_
  | refine uH ?_
  | refine AWp.ret ?_
  | refine kU ?_
  | (refine rG 3 ?_
     refine kA ?_
     refine kD ?_
     refine kE ?_
     refine qr5 (aO tyOk) ?_
     refine qr5f aJ ?_
     refine aB ?_)
  | (refine rG 7 ?_
     refine kA ?_
     refine kC ?_
     refine aB ?_))
 refine ⟨mkSt 45 [(8, .c (liV (aloL s)))] [] [], [], Wk.mk [] rfl rfl rfl ?_ trivial, rfl, rfl, aR1⟩
 exact ⟨⟨_, rfl, .c (LeC.fz rfl rfl rfl (fun _ _ _ _ => ⟨rfl, rfl⟩))⟩, trivial⟩
set_option maxHeartbeats 2000000 in
set_option maxRecDepth 100000 in
theorem rsizes_A (a b : Bp) : ACalls Try.prog 38 [.ag (bpC a), .ag (bpC b)] (.c (iC (szV a b))) := by
 have h1 := rbCheck_A a.W a.H a.n a.d
 have h2 := rbCheck_A b.W b.H b.n b.d
 by_cases c1 : chk a.W a.H a.n = 0
 ·rw [c1] at h1
  by_cases c2 : chk b.W b.H b.n = 0
  ·rw [c2] at h2
   by_cases c3 : a.W = b.W
   ·by_cases c4 : a.H = b.H
    ·rw [show szV a b = 0 from (szV_ok a b).2 ⟨c1, c2, c3, c4⟩]
     refine acalls_at Try.func38 rfl rfl Try.ntmps38 rfl ?_
     repeat (first
      | refine uA ?_
      | refine uB ?_
      | refine uG ?_
      | refine AWp.ret ?_
      | refine kT ?_
      | refine kU ?_
      | (refine rG 0 ?_
         (iterate 2 refine qr5 aQ ?_)
         refine kC ?_
         refine aB ?_)
      | (refine rG 1 ?_
         refine kF ?_
         refine aH rfl rfl rfl rfl Try.func94 rfl (by kernel_rfl) (h1) ?_
         refine kC ?_
         refine aB ?_)
      | (refine rG 2 ?_
         refine kA ?_
         refine qr5 aW ?_
         refine aB ?_)
      | (refine rG 3 ?_
         refine kF ?_
         refine aH rfl rfl rfl rfl Try.func94 rfl (by kernel_rfl) (h2) ?_
         refine kC ?_
         refine aB ?_)
      | (refine rG 4 ?_
         refine kA ?_
         refine qr5 aW ?_
         refine kA ?_
         refine kD ?_
         refine kE ?_
         refine kD ?_
         refine kE ?_
         refine qr5f aJ ?_
         refine kA ?_
         refine kD ?_
         refine kE ?_
         refine kD ?_
         refine kE ?_
         refine qr5f aJ ?_
         refine qr4 aR ?_
         refine qr4 aS ?_
         refine aB ?_)
      | (refine rG 6 ?_
         refine kA ?_
         refine kC ?_
         refine aB ?_))
     refine ⟨mkSt 29 [(4, .c (iC (0)))] [] [], [], Wk.mk [] rfl rfl rfl ?_ trivial, rfl, rfl, aR1⟩
     exact allT
    ·rw [show szV a b = 13 from (if_pos c1).trans ((if_pos c2).trans (if_neg fun h => c4 h.2))]
     refine acalls_at Try.func38 rfl rfl Try.ntmps38 rfl ?_
     repeat (first
      | refine uA ?_
      | refine uB ?_
      | refine AWp.ret ?_
      | refine kT ?_
      | (refine rG 0 ?_
         (iterate 2 refine qr5 aQ ?_)
         refine kC ?_
         refine aB ?_)
      | (refine rG 1 ?_
         refine kF ?_
         refine aH rfl rfl rfl rfl Try.func94 rfl (by kernel_rfl) (h1) ?_
         refine kC ?_
         refine aB ?_)
      | (refine rG 2 ?_
         refine kA ?_
         refine qr5 aW ?_
         refine aB ?_)
      | (refine rG 3 ?_
         refine kF ?_
         refine aH rfl rfl rfl rfl Try.func94 rfl (by kernel_rfl) (h2) ?_
         refine kC ?_
         refine aB ?_)
      | (refine rG 4 ?_
         refine kA ?_
         refine qr5 aW ?_
         refine kA ?_
         refine kD ?_
         refine kE ?_
         refine kD ?_
         refine kE ?_
         refine qr5f aJ ?_
         refine kA ?_
         refine kD ?_
         refine kE ?_
         refine kD ?_
         refine kE ?_
         refine qr5t aK ?_
         refine qr4 aR ?_
         refine qr4 aS ?_
         refine aB ?_)
      | (refine rG 5 ?_
         refine kC ?_
         refine aB ?_)
      | (refine rG 6 ?_
         refine kA ?_
         refine kC ?_
         refine aB ?_))
     refine ⟨mkSt 29 [(4, .c (iC (13)))] [] [], [], Wk.mk [] rfl rfl rfl ?_ trivial, rfl, rfl, aR1⟩
     exact allT
   ·rw [show szV a b = 13 from (if_pos c1).trans ((if_pos c2).trans (if_neg fun h => c3 h.1))]
    refine acalls_at Try.func38 rfl rfl Try.ntmps38 rfl ?_
    repeat (first
     | refine uA ?_
     | refine uB ?_
     | refine AWp.ret ?_
     | refine kT ?_
     | (refine rG 0 ?_
        (iterate 2 refine qr5 aQ ?_)
        refine kC ?_
        refine aB ?_)
     | (refine rG 1 ?_
        refine kF ?_
        refine aH rfl rfl rfl rfl Try.func94 rfl (by kernel_rfl) (h1) ?_
        refine kC ?_
        refine aB ?_)
     | (refine rG 2 ?_
        refine kA ?_
        refine qr5 aW ?_
        refine aB ?_)
     | (refine rG 3 ?_
        refine kF ?_
        refine aH rfl rfl rfl rfl Try.func94 rfl (by kernel_rfl) (h2) ?_
        refine kC ?_
        refine aB ?_)
     | (refine rG 4 ?_
        refine kA ?_
        refine qr5 aW ?_
        refine kA ?_
        refine kD ?_
        refine kE ?_
        refine kD ?_
        refine kE ?_
        refine qr5t aK ?_
        refine kA ?_
        (iterate 5 refine qr2 aG ?_)
        (iterate 2 refine qr4 aS ?_)
        refine aB ?_)
     | (refine rG 5 ?_
        refine kC ?_
        refine aB ?_)
     | (refine rG 6 ?_
        refine kA ?_
        refine kC ?_
        refine aB ?_))
    refine ⟨mkSt 29 [(4, .c (iC (13)))] [] [], [], Wk.mk [] rfl rfl rfl ?_ trivial, rfl, rfl, aR1⟩
    exact allT
  ·rw [show szV a b = chk b.W b.H b.n from (if_pos c1).trans (if_neg c2)]
   refine acalls_at Try.func38 rfl rfl Try.ntmps38 rfl ?_
   repeat (first
    | refine uA ?_
    | refine uB ?_
    | refine uG ?_
    | refine AWp.ret ?_
    | refine kT ?_
    | refine kU ?_
    | (refine rG 0 ?_
       (iterate 2 refine qr5 aQ ?_)
       refine kC ?_
       refine aB ?_)
    | (refine rG 1 ?_
       refine kF ?_
       refine aH rfl rfl rfl rfl Try.func94 rfl (by kernel_rfl) (h1) ?_
       refine kC ?_
       refine aB ?_)
    | (refine rG 2 ?_
       refine kA ?_
       refine qr5 aW ?_
       refine aB ?_)
    | (refine rG 3 ?_
       refine kF ?_
       refine aH rfl rfl rfl rfl Try.func94 rfl (by kernel_rfl) (h2) ?_
       refine kC ?_
       refine aB ?_)
    | (refine rG 4 ?_
       refine kA ?_
       refine qr5f aJ ?_
       refine kA ?_
       (iterate 12 refine qr2 aG ?_)
       refine qr4 aR ?_
       refine aB ?_)
    | (refine rG 6 ?_
       refine kA ?_
       refine kC ?_
       refine aB ?_))
   refine ⟨mkSt 29 [(4, .c (iC (chk b.W b.H b.n)))] [] [], [], Wk.mk [] rfl rfl rfl ?_ trivial, rfl, rfl, aR1⟩
   exact allT
 ·rw [show szV a b = chk a.W a.H a.n from if_neg c1]
  refine acalls_at Try.func38 rfl rfl Try.ntmps38 rfl ?_
  repeat (first
   | refine uA ?_
   | refine uB ?_
   | refine uG ?_
   | refine AWp.ret ?_
   | refine kU ?_
   | (refine rG 0 ?_
      (iterate 2 refine qr5 aQ ?_)
      refine kC ?_
      refine aB ?_)
   | (refine rG 1 ?_
      refine kF ?_
      refine aH rfl rfl rfl rfl Try.func94 rfl (by kernel_rfl) (h1) ?_
      refine kC ?_
      refine aB ?_)
   | (refine rG 2 ?_
      refine kA ?_
      refine qr5f aJ ?_
      refine aB ?_)
   | (refine rG 4 ?_
      refine kA ?_
      refine qr5f aJ ?_
      refine kA ?_
      (iterate 12 refine qr2 aG ?_)
      refine qr4 aR ?_
      refine aB ?_)
   | (refine rG 6 ?_
      refine kA ?_
      refine kC ?_
      refine aB ?_))
  refine ⟨mkSt 29 [(4, .c (iC (chk a.W a.H a.n)))] [] [], [], Wk.mk [] rfl rfl rfl ?_ trivial, rfl, rfl, aR1⟩
  exact allT
end Go.Proofs.Ytekkldgmjdllbaa
end
