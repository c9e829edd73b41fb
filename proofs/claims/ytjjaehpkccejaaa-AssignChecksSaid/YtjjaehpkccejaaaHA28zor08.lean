/- Parts of the proof: A28i, A28j, A28u, A28v. -/
import Derived.Test.YtjjaehpkccejaaaG32
import Derived.Test.YtjjaehpkccejaaaG29
import Derived.Test.YtjjaehpkccejaaaHA28zor07
import Derived.Test.YtjjaehpkccejaaaG28
import Derived.Test.YtjjaehpkccejaaaG19
import Derived.Test.YtjjaehpkccejaaaHA28zor03
import Derived.Test.YtjjaehpkccejaaaG27
import Derived.Test.YtjjaehpkccejaaaG18
import Derived.Test.YtjjaehpkccejaaaG14
import Derived.Test.YtjjaehpkccejaaaG07
import Derived.Test.YtjjaehpkccejaaaHA28zor01
import Derived.Test.YtjjaehpkccejaaaG10
import Derived.Test.YtjjaehpkccejaaaG03
import Derived.Scope
import Derived.Test.YtjjaehpkccejaaaG06
import Derived.Laws.StructEq
import Derived.Test.YtjjaehpkccejaaaG21
import Derived.Test.YtjjaehpkccejaaaHA28zor04
import Derived.Test.YtjjaehpkccejaaaG17
import Derived.Test.YtjjaehpkccejaaaG08
import Derived.Test.YtjjaehpkccejaaaG02
import Derived.RangeFuncLeaves
import Derived.RangeFuncRecord
import Derived.Test.YtjjaehpkccejaaaG09
import Derived.Shelf.Abstract
import Derived.Test.YtjjaehpkccejaaaG01
import Derived.Test.YtjjaehpkccejaaaG24
import Derived.Test.YtjjaehpkccejaaaHA28zor02
import Derived.Test.YtjjaehpkccejaaaG13
import Derived.Test.YtjjaehpkccejaaaProg
import Derived.Test.YtjjaehpkccejaaaG26
import Derived.Laws.Pointers
import Derived.WalkKit
import Derived.Lib.Hide
import Derived.Deep.QuietTactic
import Derived.BigQuiet
import Derived.Deep.DrawnRows
import Derived.Deep.AppendLies
import Derived.Test.YtjjaehpkccejaaaG16
import Derived.RangeFuncNested
import Derived.OrdersIn
import Derived.TacticsIn
import Derived.RangeFuncCalls
import Derived.Test.YtjjaehpkccejaaaG05
import Derived.Test.YtjjaehpkccejaaaG25
import Derived.WideKeyMaps
import Derived.MapKept
import Derived.Carry
import Derived.Maps.AppendAt
import Derived.OwnWalk
import Derived.Test.YtjjaehpkccejaaaG15
import Derived.Laws.Cover3
import Derived.StillTail
import Derived.Below
import Derived.Deep.Draws
import Derived.KernelRfl
import Derived.Test.YtjjaehpkccejaaaG04
import Derived.Great.BuildSlice
import Derived.Test.YtjjaehpkccejaaaG12
import Derived.Test.YtjjaehpkccejaaaG11
import Derived.Test.YtjjaehpkccejaaaG31
import Derived.Test.YtjjaehpkccejaaaG30
import Derived.DeepKeys4
import Derived.Test.YtjjaehpkccejaaaG22
import Derived.Test.YtjjaehpkccejaaaHA28zor05
import Derived.Test.YtjjaehpkccejaaaG20
set_option linter.unusedSimpArgs false
set_option linter.unusedVariables false
section
namespace Go.Proofs.Ytjjaehpkccejaaa
open Go.RowKit Go.Flow Go.AV Go.Plain
theorem rowF_app {α : Type} {c : α → List CV} {z : α} (A B : List α) (sz : Nat) (hc : ∀ x, (c x).all immC = true) : ∀ i, i < A.length + B.length → ∀ j, j < sz → appF (rowF c z A) A.length (rowF c z B) i j = rowF c z (A ++ B) i j ∧ immC (appF (rowF c z A) A.length (rowF c z B) i j) = true := fun i hi j _ => by
 have : appF (rowF c z A) A.length (rowF c z B) i j = rowF c z (A ++ B) i j := by
  unfold appF rowF
  have e : ∀ k, (A ++ B).getD k z = (A ++ B)[k]?.getD z := fun k => List.getD_eq_getElem?_getD
  rw [e]
  by_cases h : i < A.length
  ·rw [show Nat.blt i A.length = true from Nat.blt_eq.mpr h, List.getElem?_append_left h, ← List.getD_eq_getElem?_getD]
   rfl
  ·rw [show Nat.blt i A.length = false from Bool.eq_false_iff.2 fun h' => h (Nat.blt_eq.mp h'), List.getElem?_append_right (by omega), ← List.getD_eq_getElem?_getD]
   rfl
 rw [this]
 exact ⟨rfl, rowF_imm hc _ i j⟩
set_option maxHeartbeats 2000000 in
set_option maxRecDepth 100000 in
theorem bitmaps_A (p : Pb) (hC : p.C.length ≤ 200) (hF : p.F.length ≤ 200) (hl : ∀ i, i < p.C.length → (p.C.getD i []).length ≤ 200) : ACalls Try.prog 43 [.ag (pbC p)] (.c (lsB (allB p))) := by
 have hpl := preB_len hl
 refine acalls_at Try.func43 rfl rfl Try.ntmps43 rfl ?_
 repeat (first
  | refine AWp.seq ?_
  | refine thenA_n ?_
  | refine AWp.block ?_
  | (refine rG 0 ?_
     refine qr5 aQ ?_
     refine kC ?_
     refine aB ?_)
  | (refine rG 1 ?_
     refine kC ?_
     refine aB ?_)
  | (refine rG 2 ?_
     refine kC ?_
     refine aB ?_))
 refine AWp.round (fun i : Nat => mkSt 23 [(1, .c (.pt 1 5 0 0)), (3, .c (.ow 20)), (4, .c (iC i))] [(1, ⟨false, 1, 5, 32, lF (pbC p)⟩), (20, bpB (preB p.C i))] [1, 20])
  (fun i => i ≤ p.C.length) (fun i => p.C.length - i) 0 (Nat.zero_le _) ?_ (fun i hi => ?_)
 ·refine Wk.mk [(1, some 1), (20, none)] rfl rfl rfl ?_ ?_
  ·exact allT
  ·exact allH
 ·by_cases hil : i < p.C.length
  ·have hil' : (i : Int) < p.C.length := by omega
   have hsu := preB_succ hil
   have h1 := hpl i hi
   have h2 := hl i hil
   obtain ⟨L, hL⟩ : ∃ L, p.C.getD i [] = L := ⟨_, rfl⟩
   rw [hL] at hsu h2
   have hcF : chF p.C i 0 = lsB L := by rw [← hL]
   obtain ⟨P, hP⟩ : ∃ P, preB p.C i = P := ⟨_, rfl⟩
   rw [hP] at hsu h1
   rw [hP]
   have hlen : (preB p.C (i + 1)).length = P.length + L.length := by rw [hsu, List.length_append]
   repeat (first
    | refine AWp.seq ?_
    | refine thenA_n ?_
    | refine AWp.block ?_
    | refine AWp.skip ?_
    | refine inBlk_n ?_
    | refine AWp.condT rfl cnT ?_
    | (refine rG 3 ?_
       refine kA ?_
       refine kD ?_
       refine kE ?_
       refine qr5 (aO tyOk) ?_
       refine qr5t aK ?_
       refine aB ?_)
    | (refine rG 4 ?_
       refine kA ?_
       refine qr4w2 aL ?_
       refine kC ?_
       refine aB ?_)
    | (refine rG 5 ?_
       refine kA ?_
       refine kD ?_
       refine kE ?_
       refine kA ?_
       refine qr8eo2 (aP (k := i) tyOk) ?_
       refine AList.load1lE tyOk (hcF) rfl rfl rfl rfl rfl oM ?_
       refine AList.appL tyOk rfl rfl rfl rfl rfl rfl rfl rfl rfl rfl oM oM ?_
       refine kC ?_
       refine aB ?_))
   refine ⟨i + 1, hil, Wk.mk [(1, some 1), (20, some 18)] rfl rfl rfl ?_ ?_, by omega⟩
   ·exact allT
   ·refine ⟨hSm, HeapOk.row rfl rfl hlen ?_, trivial⟩
    rw [hsu]
    exact rowF_app P L 3 bpC_imm
  ·have hil' : ¬ (i : Int) < p.C.length := by omega
   obtain rfl : i = p.C.length := by omega
   have h1 := hpl _ (Nat.le_refl _)
   rw [preB_all] at h1 ⊢
   have hlen : (allB p).length = p.C.flatten.length + p.F.length := List.length_append
   repeat (first
    | refine AWp.seq ?_
    | refine thenA_n ?_
    | refine AWp.exit ?_
    | refine AWp.ret ?_
    | refine AWp.condF rfl cnF ?_
    | (refine rG 3 ?_
       refine kA ?_
       refine kD ?_
       refine kE ?_
       refine qr5 (aO tyOk) ?_
       refine qr5f aJ ?_
       refine aB ?_)
    | (refine rG 6 ?_
       refine kA ?_
       refine kD ?_
       refine kE ?_
       refine AList.appL tyOk rfl rfl rfl rfl rfl rfl rfl rfl rfl rfl oM oM ?_
       refine kC ?_
       refine aB ?_))
   refine ⟨mkSt 23 [(2, .c (lsB (allB p)))] [] [], [], Wk.mk [] rfl rfl rfl ?_ trivial, rfl, rfl, ARets.one (x := .c _) (ARes.tmp rfl rfl)⟩
   exact ⟨⟨_, rfl, .c (LeC.fz rfl rfl hlen (rowF_app p.C.flatten p.F 3 bpC_imm))⟩, trivial⟩
end Go.Proofs.Ytjjaehpkccejaaa
end

section
namespace Go.Proofs.Ytjjaehpkccejaaa
open Go.RowKit Go.Flow Go.AV Go.Plain
set_option maxHeartbeats 4000000 in
set_option maxRecDepth 100000 in
theorem rCheck28_A (p : Pb) (hp : p.ok) : ACalls Try.prog 13 [.ag (pbC p)] (.c (iC (chkP p))) := by
 obtain ⟨hrd, lR, lC, lF', lO, lT, lc⟩ := hp
 by_cases c1 : 4 < p.R.length
 ·rw [chkP_many (.inl c1)]
  have c1' : ((p.R.length : Nat) : Int) > 4 := by omega
  refine acalls_at Try.func13 rfl rfl Try.ntmps13 rfl ?_
  repeat (first
   | refine AWp.seq ?_
   | refine thenA_n ?_
   | refine AWp.ret ?_
   | refine thenA_r ?_
   | refine AWp.condT rfl cnT ?_
   | (refine rG 0 ?_
      refine qr5 aQ ?_
      refine kC ?_
      refine aB ?_)
   | (refine rG 1 ?_
      refine kD ?_
      refine kE ?_
      refine qr5 (aO tyOk) ?_
      refine qr5t aK ?_
      refine kA ?_
      (iterate 4 refine qr2 aG ?_)
      refine qr4 aS ?_
      refine kA ?_
      (iterate 4 refine qr2 aG ?_)
      refine qr4 aS ?_
      refine aB ?_)
   | (refine rG 2 ?_
      refine kC ?_
      refine aB ?_))
  refine ⟨mkSt 109 [(2, .c (iC 2))] [] [], [], Wk.mk [] rfl rfl rfl ?_ trivial, rfl, rfl, ARets.one (x := .c _) (ARes.tmp rfl rfl)⟩
  exact allT
 have c1' : ¬ ((p.R.length : Nat) : Int) > 4 := by omega
 by_cases c2 : 200 < p.C.length
 ·rw [chkP_many (.inr (.inl c2))]
  have c2' : ((p.C.length : Nat) : Int) > 200 := by omega
  refine acalls_at Try.func13 rfl rfl Try.ntmps13 rfl ?_
  repeat (first
   | refine AWp.seq ?_
   | refine thenA_n ?_
   | refine AWp.ret ?_
   | refine thenA_r ?_
   | refine AWp.condT rfl cnT ?_
   | (refine rG 0 ?_
      refine qr5 aQ ?_
      refine kC ?_
      refine aB ?_)
   | (refine rG 1 ?_
      refine kD ?_
      refine kE ?_
      refine qr5 (aO tyOk) ?_
      refine qr5f aJ ?_
      refine kA ?_
      refine kD ?_
      refine kE ?_
      refine qr5 (aO tyOk) ?_
      refine qr5t aK ?_
      refine qr4 aR ?_
      refine kA ?_
      (iterate 4 refine qr2 aG ?_)
      refine qr4 aS ?_
      refine aB ?_)
   | (refine rG 2 ?_
      refine kC ?_
      refine aB ?_))
  refine ⟨mkSt 109 [(2, .c (iC 2))] [] [], [], Wk.mk [] rfl rfl rfl ?_ trivial, rfl, rfl, ARets.one (x := .c _) (ARes.tmp rfl rfl)⟩
  exact allT
 have c2' : ¬ ((p.C.length : Nat) : Int) > 200 := by omega
 by_cases c2b : 200 < p.F.length
 ·rw [chkP_many (.inr (.inr c2b))]
  have c2' : ((p.F.length : Nat) : Int) > 200 := by omega
  refine acalls_at Try.func13 rfl rfl Try.ntmps13 rfl ?_
  repeat (first
   | refine AWp.seq ?_
   | refine thenA_n ?_
   | refine AWp.ret ?_
   | refine thenA_r ?_
   | refine AWp.condT rfl cnT ?_
   | (refine rG 0 ?_
      refine qr5 aQ ?_
      refine kC ?_
      refine aB ?_)
   | (refine rG 1 ?_
      refine kD ?_
      refine kE ?_
      refine qr5 (aO tyOk) ?_
      refine qr5f aJ ?_
      refine kA ?_
      refine kD ?_
      refine kE ?_
      refine qr5 (aO tyOk) ?_
      refine qr5f aJ ?_
      refine qr4 aR ?_
      refine kA ?_
      refine kD ?_
      refine kE ?_
      refine qr5 (aO tyOk) ?_
      refine qr5t aK ?_
      refine qr4 aR ?_
      refine aB ?_)
   | (refine rG 2 ?_
      refine kC ?_
      refine aB ?_))
  refine ⟨mkSt 109 [(2, .c (iC 2))] [] [], [], Wk.mk [] rfl rfl rfl ?_ trivial, rfl, rfl, ARets.one (x := .c _) (ARes.tmp rfl rfl)⟩
  exact allT
 have c2b' : ¬ ((p.F.length : Nat) : Int) > 200 := by omega
 have hM : ¬ (4 < p.R.length ∨ 200 < p.C.length ∨ 200 < p.F.length) := by omega
 have hlong := @chkP_long p
 obtain ⟨e, he⟩ : ∃ e, chkP p = e := ⟨_, rfl⟩
 rw [he]
 refine acalls_at Try.func13 rfl rfl Try.ntmps13 rfl ?_
 repeat (first
  | refine AWp.seq ?_
  | refine thenA_n ?_
  | refine AWp.block ?_
  | refine AWp.skip ?_
  | refine AWp.condF rfl cnF ?_
  | (refine rG 0 ?_
     refine qr5 aQ ?_
     refine kC ?_
     refine aB ?_)
  | (refine rG 1 ?_
     refine kD ?_
     refine kE ?_
     refine qr5 (aO tyOk) ?_
     refine qr5f aJ ?_
     refine kA ?_
     refine kD ?_
     refine kE ?_
     refine qr5 (aO tyOk) ?_
     refine qr5f aJ ?_
     refine qr4 aR ?_
     refine kA ?_
     refine kD ?_
     refine kE ?_
     refine qr5 (aO tyOk) ?_
     refine qr5f aJ ?_
     refine qr4 aR ?_
     refine aB ?_)
  | (refine rG 3 ?_
     refine kC ?_
     refine aB ?_))
 refine AWp.round (fun i : Nat =>
  mkSt 109 [(1, .c (.pt 1 5 0 0)), (3, .c (iC (i : Nat)))] [(1, ⟨false, 1, 5, 32, lF (pbC p)⟩)] [1]
  ) (fun i => i ≤ p.C.length ∧ ∀ i', i' < i → ¬ 32 < (p.C.getD i' []).length) (fun i => p.C.length - i) 0 ⟨Nat.zero_le _, fun _ h => absurd h (Nat.not_lt_zero _)⟩ ?_ (fun i hi => ?_)
 ·refine Wk.mk [(1, some 1)] rfl rfl rfl ?_ ?_
  ·exact allT
  ·exact allH
 obtain ⟨hi, hno⟩ := hi
 by_cases hil : i < p.C.length
 ·have hil' : (i : Int) < p.C.length := by omega
  by_cases h32 : 32 < (p.C.getD i []).length
  ·have h32' : (((p.C.getD i []).length : Nat) : Int) > 32 := by omega
   rw [hlong hM hil h32] at he
   subst he
   repeat (first
    | refine AWp.seq ?_
    | refine thenA_n ?_
    | refine AWp.block ?_
    | refine AWp.skip ?_
    | refine AWp.ret ?_
    | refine thenA_r ?_
    | refine inBlk_r ?_
    | refine AWp.condT rfl cnT ?_
    | (refine rG 4 ?_
       refine kA ?_
       refine kD ?_
       refine kE ?_
       refine qr5 (aO tyOk) ?_
       refine qr5t aK ?_
       refine aB ?_)
    | (refine rG 6 ?_
       refine kD ?_
       refine kE ?_
       refine kA ?_
       refine qr8eo2 (aP (k := i) tyOk) ?_
       refine qr5o (aV tyOk) ?_
       refine qr5 (aO tyOk) ?_
       refine qr5t aK ?_
       refine aB ?_)
    | (refine rG 7 ?_
       refine kC ?_
       refine aB ?_))
   refine ⟨mkSt 109 [(2, .c (iC 2))] [] [], [], Wk.mk [] rfl rfl rfl ?_ trivial, rfl, rfl, ARets.one (x := .c _) (ARes.tmp rfl rfl)⟩
   exact allT
  ·have h32' : ¬ (((p.C.getD i []).length : Nat) : Int) > 32 := by omega
   repeat (first
    | refine AWp.seq ?_
    | refine thenA_n ?_
    | refine AWp.block ?_
    | refine AWp.skip ?_
    | refine inBlk_n ?_
    | refine AWp.condT rfl cnT ?_
    | refine AWp.condF rfl cnF ?_
    | (refine rG 4 ?_
       refine kA ?_
       refine kD ?_
       refine kE ?_
       refine qr5 (aO tyOk) ?_
       refine qr5t aK ?_
       refine aB ?_)
    | (refine rG 5 ?_
       refine kA ?_
       refine qr4w2 aL ?_
       refine kC ?_
       refine aB ?_)
    | (refine rG 6 ?_
       refine kD ?_
       refine kE ?_
       refine kA ?_
       refine qr8eo2 (aP (k := i) tyOk) ?_
       refine qr5o (aV tyOk) ?_
       refine qr5 (aO tyOk) ?_
       refine qr5f aJ ?_
       refine aB ?_))
   refine ⟨i + 1, ⟨hil, fun i' hi' => ?_⟩, Wk.mk [(1, some 1)] rfl rfl rfl ?_ ?_, by omega⟩
   ·by_cases e : i' = i
    ·rw [e]; exact h32
    ·exact hno i' (by omega)
   ·exact allT
   ·exact allH
 have hil' : ¬ (i : Int) < p.C.length := by omega
 obtain rfl : i = p.C.length := by omega
 have hrdk := @chkP_rd p
 repeat (first
  | refine AWp.seq ?_
  | refine thenA_n ?_
  | refine AWp.block ?_
  | refine AWp.exit ?_
  | refine AWp.condF rfl cnF ?_
  | (refine rG 4 ?_
     refine kA ?_
     refine kD ?_
     refine kE ?_
     refine qr5 (aO tyOk) ?_
     refine qr5f aJ ?_
     refine aB ?_)
  | (refine rG 8 ?_
     refine kC ?_
     refine aB ?_))
 refine AWp.round (fun k : Nat =>
  mkSt 109 [(1, .c (.pt 1 5 0 0)), (4, .c (iC (k : Nat)))] [(1, ⟨false, 1, 5, 32, lF (pbC p)⟩)] [1]
  ) (fun k => k ≤ p.R.length ∧ ∀ i, i < k → rdE (p.R.getD i rdZ) = 0) (fun k => p.R.length - k) 0 ⟨Nat.zero_le _, fun _ h => absurd h (Nat.not_lt_zero _)⟩ ?_ (fun k hk => ?_)
 ·refine Wk.mk [(1, some 1)] rfl rfl rfl ?_ ?_
  ·exact allT
  ·exact allH
 obtain ⟨hk, hok⟩ := hk
 by_cases hkl : k < p.R.length
 ·have hkl' : (k : Int) < p.R.length := by omega
  have hc := RRdCheck_A (p.R.getD k rdZ) (hrd _ (getD_mem28 hkl))
  have hrdk' := fun h => hrdk hM hno hkl hok h
  generalize hg : rdE (p.R.getD k rdZ) = v at *
  by_cases hv : v = 0
  ·subst hv
   repeat (first
    | refine AWp.seq ?_
    | refine thenA_n ?_
    | refine AWp.block ?_
    | refine AWp.skip ?_
    | refine inBlk_n ?_
    | refine AWp.condT rfl cnT ?_
    | refine AWp.condF rfl cnF ?_
    | (refine rG 9 ?_
       refine kA ?_
       refine kD ?_
       refine kE ?_
       refine qr5 (aO tyOk) ?_
       refine qr5t aK ?_
       refine aB ?_)
    | (refine rG 10 ?_
       refine kA ?_
       refine qr4w2 aL ?_
       refine kC ?_
       refine aB ?_)
    | (refine rG 11 ?_
       refine kD ?_
       refine kE ?_
       refine kA ?_
       refine qr8eo2 (aP (k := k) tyOk) ?_
       refine qr5o (aT tyOk) ?_
       refine aH rfl rfl rfl rfl Try.func42 rfl (by kernel_rfl) (hc) ?_
       refine kC ?_
       refine aB ?_)
    | (refine rG 12 ?_
       refine kA ?_
       refine qr5 aW ?_
       refine aB ?_))
   refine ⟨k + 1, ⟨hkl, fun i hi => ?_⟩, Wk.mk [(1, some 1)] rfl rfl rfl ?_ ?_, by omega⟩
   ·by_cases e : i = k
    ·rw [e]; exact hg
    ·exact hok i (by omega)
   ·exact allT
   ·exact allH
  ·rw [hrdk' hv] at he
   subst he
   repeat (first
    | refine AWp.seq ?_
    | refine thenA_n ?_
    | refine AWp.block ?_
    | refine AWp.skip ?_
    | refine AWp.ret ?_
    | refine thenA_r ?_
    | refine inBlk_r ?_
    | refine AWp.condT rfl cnT ?_
    | (refine rG 9 ?_
       refine kA ?_
       refine kD ?_
       refine kE ?_
       refine qr5 (aO tyOk) ?_
       refine qr5t aK ?_
       refine aB ?_)
    | (refine rG 11 ?_
       refine kD ?_
       refine kE ?_
       refine kA ?_
       refine qr8eo2 (aP (k := k) tyOk) ?_
       refine qr5o (aT tyOk) ?_
       refine aH rfl rfl rfl rfl Try.func42 rfl (by kernel_rfl) (hc) ?_
       refine kC ?_
       refine aB ?_)
    | (refine rG 12 ?_
       refine kA ?_
       refine qr5t aK ?_
       refine aB ?_)
    | (refine rG 13 ?_
       refine kA ?_
       refine kC ?_
       refine aB ?_))
   refine ⟨mkSt 109 [(2, .c (iC v))] [] [], [], Wk.mk [] rfl rfl rfl ?_ trivial, rfl, rfl, ARets.one (x := .c _) (ARes.tmp rfl rfl)⟩
   exact allT
 have hkl' : ¬ (k : Int) < p.R.length := by omega
 obtain rfl : k = p.R.length := by omega
 by_cases c3 : p.O.length = p.C.length ∧ p.T.length = p.F.length
 ·have c3a : ((p.O.length : Nat) : Int) = p.C.length := by omega
  have c3b : ((p.T.length : Nat) : Int) = p.F.length := by omega
  rw [chkP_maps hM hno hok c3] at he
  have hB := bitmaps_A p (by omega) (by omega) (fun i hi => by have := hno i hi; omega)
  have hBl : (allB p).length ≤ 100000 := by
   have h1 : (allB p).length = p.C.flatten.length + p.F.length := List.length_append
   have h2 := preB_len (C := p.C) (fun i hi => by have := hno i hi; omega) _ (Nat.le_refl _)
   rw [preB_all] at h2
   omega
  generalize allB p = L at *
  have hb := @chkA_bad L
  have hs := @chkA_size L
  repeat (first
   | refine AWp.seq ?_
   | refine thenA_n ?_
   | refine AWp.block ?_
   | refine AWp.skip ?_
   | refine AWp.exit ?_
   | refine AWp.condF rfl cnF ?_
   | (refine rG 9 ?_
      refine kA ?_
      refine kD ?_
      refine kE ?_
      refine qr5 (aO tyOk) ?_
      refine qr5f aJ ?_
      refine aB ?_)
   | (refine rG 14 ?_
      refine kD ?_
      refine kE ?_
      refine qr5 (aO tyOk) ?_
      refine kD ?_
      refine kE ?_
      refine qr5 (aO tyOk) ?_
      refine qr5f aJ ?_
      refine kA ?_
      refine kD ?_
      refine kE ?_
      refine qr5 (aO tyOk) ?_
      refine kD ?_
      refine kE ?_
      refine qr5 (aO tyOk) ?_
      refine qr5f aJ ?_
      refine qr4 aR ?_
      refine aB ?_)
   | (refine rG 16 ?_
      refine kF ?_
      refine aH rfl rfl rfl rfl Try.func43 rfl (by kernel_rfl) (hB) ?_
      refine kC ?_
      refine aB ?_)
   | (refine rG 17 ?_
      refine kC ?_
      refine aB ?_))
  refine AWp.round (fun k : Nat => mkSt 109 [(6, .c (lsB L)), (7, .c (iC k))] [] [])
   (fun k => k ≤ L.length ∧ GoodL L k) (fun k => L.length - k) 0 ⟨Nat.zero_le _, fun _ h => absurd h (Nat.not_lt_zero _)⟩ ?_ (fun k hk => ?_)
  ·refine Wk.mk [] rfl rfl rfl ?_ trivial
   exact allT
  obtain ⟨hk, hg⟩ := hk
  by_cases hkl : k < L.length
  ·have hkl' : (k : Int) < L.length := by omega
   have h0 : 0 < L.length := by omega
   have hC := rbCheck_A (L.getD k bpZ).W (L.getD k bpZ).H (L.getD k bpZ).n (L.getD k bpZ).d
   by_cases e1 : chk (L.getD k bpZ).W (L.getD k bpZ).H (L.getD k bpZ).n = 0
   ·rw [e1] at hC
    by_cases e2 : (L.getD k bpZ).W = (L.getD 0 bpZ).W ∧ (L.getD k bpZ).H = (L.getD 0 bpZ).H
    ·have hgs := GoodL.succ hg e1 e2
     obtain ⟨e2a, e2b⟩ := e2
     repeat (first
      | refine AWp.seq ?_
      | refine thenA_n ?_
      | refine AWp.block ?_
      | refine AWp.skip ?_
      | refine inBlk_n ?_
      | refine AWp.condT rfl cnT ?_
      | refine AWp.condF rfl cnF ?_
      | (refine rG 18 ?_
         (iterate 2 refine kA ?_)
         refine qr5 (aO tyOk) ?_
         refine qr5t aK ?_
         refine aB ?_)
      | (refine rG 19 ?_
         refine kA ?_
         refine qr4w2 aL ?_
         refine kC ?_
         refine aB ?_)
      | (refine rG 20 ?_
         (iterate 2 refine kA ?_)
         refine qr8eo2 (aP (k := k) tyOk) ?_
         refine qr5o (aT tyOk) ?_
         refine aH rfl rfl rfl rfl Try.func44 rfl (by kernel_rfl) (hC) ?_
         refine kC ?_
         refine aB ?_)
      | (refine rG 21 ?_
         refine kA ?_
         refine qr5 aW ?_
         refine aB ?_)
      | (refine AWp.draw (id := 23) mixed ?_; (iterate 2 refine kA ?_); refine qr8eo2 (aP (k := k) tyOk) ?_; refine qr7 (AList.fieldPl tyOk) ?_; refine qr5o (aV tyOk) ?_; refine kA ?_; refine qr8eo2 (aP (k := 0) tyOk) ?_; refine qr7 (AList.fieldPl tyOk) ?_; refine qr5o (aV tyOk) ?_; refine qr5f aJ ?_; (iterate 3 refine kA ?_); refine qr8eo2 (aP (k := k) tyOk) ?_; refine qr7 (AList.fieldPl tyOk) ?_; refine qr5o (aV tyOk) ?_; refine kA ?_; refine qr8eo2 (aP (k := 0) tyOk) ?_; refine qr7 (AList.fieldPl tyOk) ?_; refine qr5o (aV tyOk) ?_; refine qr5f aJ ?_; refine qr4 aR ?_; refine aB ⟨by kernel_rfl, ?_⟩))
     refine ⟨k + 1, ⟨hkl, hgs⟩, Wk.mk [] rfl rfl rfl ?_ trivial, by omega⟩
     exact allT
    ·rw [hs hkl hg e1 e2] at he
     subst he
     by_cases e2a : (L.getD k bpZ).W = (L.getD 0 bpZ).W
     ·have e2b : ¬ (L.getD k bpZ).H = (L.getD 0 bpZ).H := fun h => e2 ⟨e2a, h⟩
      repeat (first
       | refine AWp.seq ?_
       | refine thenA_n ?_
       | refine AWp.block ?_
       | refine AWp.skip ?_
       | refine AWp.ret ?_
       | refine thenA_r ?_
       | refine inBlk_r ?_
       | refine AWp.condT rfl cnT ?_
       | refine AWp.condF rfl cnF ?_
       | (refine rG 18 ?_
          (iterate 2 refine kA ?_)
          refine qr5 (aO tyOk) ?_
          refine qr5t aK ?_
          refine aB ?_)
       | (refine rG 20 ?_
          (iterate 2 refine kA ?_)
          refine qr8eo2 (aP (k := k) tyOk) ?_
          refine qr5o (aT tyOk) ?_
          refine aH rfl rfl rfl rfl Try.func44 rfl (by kernel_rfl) (hC) ?_
          refine kC ?_
          refine aB ?_)
       | (refine rG 21 ?_
          refine kA ?_
          refine qr5 aW ?_
          refine aB ?_)
       | (refine AWp.draw (id := 23) mixed ?_; (iterate 2 refine kA ?_); refine qr8eo2 (aP (k := k) tyOk) ?_; refine qr7 (AList.fieldPl tyOk) ?_; refine qr5o (aV tyOk) ?_; refine kA ?_; refine qr8eo2 (aP (k := 0) tyOk) ?_; refine qr7 (AList.fieldPl tyOk) ?_; refine qr5o (aV tyOk) ?_; refine qr5f aJ ?_; (iterate 3 refine kA ?_); refine qr8eo2 (aP (k := k) tyOk) ?_; refine qr7 (AList.fieldPl tyOk) ?_; refine qr5o (aV tyOk) ?_; refine kA ?_; refine qr8eo2 (aP (k := 0) tyOk) ?_; refine qr7 (AList.fieldPl tyOk) ?_; refine qr5o (aV tyOk) ?_; refine qr5t aK ?_; refine qr4 aR ?_; refine aB ⟨by kernel_rfl, ?_⟩)
       | (refine rG 24 ?_
          refine kC ?_
          refine aB ?_))
      refine ⟨mkSt 109 [(2, .c (iC 13))] [] [], [], Wk.mk [] rfl rfl rfl ?_ trivial, rfl, rfl, ARets.one (x := .c _) (ARes.tmp rfl rfl)⟩
      exact allT
     ·repeat (first
       | refine AWp.seq ?_
       | refine thenA_n ?_
       | refine AWp.block ?_
       | refine AWp.skip ?_
       | refine AWp.ret ?_
       | refine thenA_r ?_
       | refine inBlk_r ?_
       | refine AWp.condT rfl cnT ?_
       | refine AWp.condF rfl cnF ?_
       | (refine rG 18 ?_
          (iterate 2 refine kA ?_)
          refine qr5 (aO tyOk) ?_
          refine qr5t aK ?_
          refine aB ?_)
       | (refine rG 20 ?_
          (iterate 2 refine kA ?_)
          refine qr8eo2 (aP (k := k) tyOk) ?_
          refine qr5o (aT tyOk) ?_
          refine aH rfl rfl rfl rfl Try.func44 rfl (by kernel_rfl) (hC) ?_
          refine kC ?_
          refine aB ?_)
       | (refine rG 21 ?_
          refine kA ?_
          refine qr5 aW ?_
          refine aB ?_)
       | (refine AWp.draw (id := 23) mixed ?_; (iterate 2 refine kA ?_); refine qr8eo2 (aP (k := k) tyOk) ?_; refine qr7 (AList.fieldPl tyOk) ?_; refine qr5o (aV tyOk) ?_; refine kA ?_; refine qr8eo2 (aP (k := 0) tyOk) ?_; refine qr7 (AList.fieldPl tyOk) ?_; refine qr5o (aV tyOk) ?_; refine qr5t aK ?_; refine kA ?_; (iterate 10 refine qr2 aG ?_); refine qr4 aS ?_; refine aB ⟨by kernel_rfl, ?_⟩)
       | (refine rG 24 ?_
          refine kC ?_
          refine aB ?_))
      refine ⟨mkSt 109 [(2, .c (iC 13))] [] [], [], Wk.mk [] rfl rfl rfl ?_ trivial, rfl, rfl, ARets.one (x := .c _) (ARes.tmp rfl rfl)⟩
      exact allT
   ·rw [hb hkl hg e1] at he
    rw [he] at hC e1
    repeat (first
     | refine AWp.seq ?_
     | refine thenA_n ?_
     | refine AWp.block ?_
     | refine AWp.skip ?_
     | refine AWp.ret ?_
     | refine thenA_r ?_
     | refine inBlk_r ?_
     | refine AWp.condT rfl cnT ?_
     | (refine rG 18 ?_
        (iterate 2 refine kA ?_)
        refine qr5 (aO tyOk) ?_
        refine qr5t aK ?_
        refine aB ?_)
     | (refine rG 20 ?_
        (iterate 2 refine kA ?_)
        refine qr8eo2 (aP (k := k) tyOk) ?_
        refine qr5o (aT tyOk) ?_
        refine aH rfl rfl rfl rfl Try.func44 rfl (by kernel_rfl) (hC) ?_
        refine kC ?_
        refine aB ?_)
     | (refine rG 21 ?_
        refine kA ?_
        refine qr5t aK ?_
        refine aB ?_)
     | (refine rG 22 ?_
        refine kA ?_
        refine kC ?_
        refine aB ?_))
    refine ⟨mkSt 109 [(2, .c (iC e))] [] [], [], Wk.mk [] rfl rfl rfl ?_ trivial, rfl, rfl, ARets.one (x := .c _) (ARes.tmp rfl rfl)⟩
    exact allT
  ·have hkl' : ¬ (k : Int) < L.length := by omega
   obtain rfl : k = L.length := by omega
   rw [chkA_ok hg] at he
   subst he
   repeat (first
    | refine AWp.seq ?_
    | refine thenA_n ?_
    | refine AWp.exit ?_
    | refine AWp.ret ?_
    | refine AWp.condF rfl cnF ?_
    | (refine rG 18 ?_
       (iterate 2 refine kA ?_)
       refine qr5 (aO tyOk) ?_
       refine qr5f aJ ?_
       refine aB ?_)
    | (refine rG 25 ?_
       refine kC ?_
       refine aB ?_))
   refine ⟨mkSt 109 [(2, .c (iC 0))] [] [], [], Wk.mk [] rfl rfl rfl ?_ trivial, rfl, rfl, ARets.one (x := .c _) (ARes.tmp rfl rfl)⟩
   exact allT
 ·rw [chkP_len hM hno hok c3] at he
  subst he
  by_cases c3a : p.O.length = p.C.length
  ·have c3a' : ((p.O.length : Nat) : Int) = p.C.length := by omega
   have c3b : ¬ ((p.T.length : Nat) : Int) = p.F.length := by omega
   repeat (first
    | refine AWp.seq ?_
    | refine thenA_n ?_
    | refine AWp.exit ?_
    | refine AWp.ret ?_
    | refine thenA_r ?_
    | refine AWp.condT rfl cnT ?_
    | refine AWp.condF rfl cnF ?_
    | (refine rG 9 ?_
       refine kA ?_
       refine kD ?_
       refine kE ?_
       refine qr5 (aO tyOk) ?_
       refine qr5f aJ ?_
       refine aB ?_)
    | (refine rG 14 ?_
       refine kD ?_
       refine kE ?_
       refine qr5 (aO tyOk) ?_
       refine kD ?_
       refine kE ?_
       refine qr5 (aO tyOk) ?_
       refine qr5f aJ ?_
       refine kA ?_
       refine kD ?_
       refine kE ?_
       refine qr5 (aO tyOk) ?_
       refine kD ?_
       refine kE ?_
       refine qr5 (aO tyOk) ?_
       refine qr5t aK ?_
       refine qr4 aR ?_
       refine aB ?_)
    | (refine rG 15 ?_
       refine kC ?_
       refine aB ?_))
   refine ⟨mkSt 109 [(2, .c (iC 1))] [] [], [], Wk.mk [] rfl rfl rfl ?_ trivial, rfl, rfl, ARets.one (x := .c _) (ARes.tmp rfl rfl)⟩
   exact allT
  ·have c3a' : ¬ ((p.O.length : Nat) : Int) = p.C.length := by omega
   repeat (first
    | refine AWp.seq ?_
    | refine thenA_n ?_
    | refine AWp.exit ?_
    | refine AWp.ret ?_
    | refine thenA_r ?_
    | refine AWp.condT rfl cnT ?_
    | refine AWp.condF rfl cnF ?_
    | (refine rG 9 ?_
       refine kA ?_
       refine kD ?_
       refine kE ?_
       refine qr5 (aO tyOk) ?_
       refine qr5f aJ ?_
       refine aB ?_)
    | (refine rG 14 ?_
       refine kD ?_
       refine kE ?_
       refine qr5 (aO tyOk) ?_
       refine kD ?_
       refine kE ?_
       refine qr5 (aO tyOk) ?_
       refine qr5t aK ?_
       refine kA ?_
       (iterate 7 refine qr2 aG ?_)
       refine qr4 aS ?_
       refine aB ?_)
    | (refine rG 15 ?_
       refine kC ?_
       refine aB ?_))
   refine ⟨mkSt 109 [(2, .c (iC 1))] [] [], [], Wk.mk [] rfl rfl rfl ?_ trivial, rfl, rfl, ARets.one (x := .c _) (ARes.tmp rfl rfl)⟩
   exact allT
end Go.Proofs.Ytjjaehpkccejaaa
end

section
namespace Go.Proofs.Ytjjaehpkccejaaa
open Go.RowKit Go.Flow Go.AV Go.Plain
set_option maxHeartbeats 2000000 in
set_option maxRecDepth 100000 in
theorem rHolds28_A (p : Pb) (hp : p.ok) (n : Nat) (f : Nat → Int) (hn : n ≤ 1000000) : ACalls Try.prog 15 [.ag (pbC p), .c (.ls n 1 (iF f))] (.c (bC (holdsV p n f))) := by
 have hC := rCheck28_A p hp
 have hno := @holdsV_no p n f
 have lC := hp.lC
 obtain ⟨e, he⟩ : ∃ e, chkP p = e := ⟨_, rfl⟩
 rw [he] at hC hno
 by_cases h0 : e = 0
 ·subst h0
  have hfit := chkP_fit hp he
  by_cases hl : n = p.C.length
  ·have hl' : (n : Int) = p.C.length := by omega
   obtain ⟨V, hV⟩ : ∃ V, holdsV p n f = V := ⟨_, rfl⟩
   rw [hV] at hno ⊢
   have hyes := @holdsV_iff p n f
   rw [hV, he] at hyes
   refine acalls_at Try.func15 rfl rfl Try.ntmps15 rfl ?_
   repeat (first
    | refine AWp.seq ?_
    | refine thenA_n ?_
    | refine AWp.block ?_
    | refine AWp.skip ?_
    | refine AWp.condF rfl cnF ?_
    | (refine rG 0 ?_
       refine qr5 aQ ?_
       refine kC ?_
       refine aB ?_)
    | (refine rG 1 ?_
       refine kF ?_
       refine aH rfl rfl rfl rfl Try.func13 rfl (by kernel_rfl) (hC) ?_
       refine qr5 aW ?_
       (iterate 2 refine kA ?_)
       refine qr5 (aO tyOk) ?_
       refine kD ?_
       refine kE ?_
       refine qr5 (aO tyOk) ?_
       refine qr5f aJ ?_
       refine qr4 aR ?_
       refine aB ?_)
    | (refine rG 3 ?_
       refine kC ?_
       refine aB ?_))
   refine AWp.round (fun k : Nat =>
    mkSt 48 [(1, .c (.ls n 1 (iF f))), (2, .c (.pt 2 5 0 0)), (5, .c (iC (k : Nat)))] [(2, ⟨false, 1, 5, 32, lF (pbC p)⟩)] [2]
    ) (fun k => k ≤ n ∧ ∀ j, j < k → stepOk p f j = true) (fun k => n - k) 0 ⟨Nat.zero_le _, fun _ h => absurd h (Nat.not_lt_zero _)⟩ ?_ (fun k hk => ?_)
   ·refine Wk.mk [(2, some 2)] rfl rfl rfl ?_ ?_
    ·exact allT
    ·exact allH
   obtain ⟨hk, hok⟩ := hk
   by_cases hkl : k < n
   ·have hkl' : (k : Int) < n := by omega
    obtain ⟨L, hL⟩ : ∃ L, p.C.getD k [] = L := ⟨_, rfl⟩
    have hcF : chF p.C k 0 = lsB L := by rw [← hL]
    have hLl : L.length ≤ 32 := by rw [← hL]; exact hfit.l _ (getD_mem28 (by omega))
    have hst := @stepOk_iff p f k
    rw [hL] at hst
    by_cases c1 : f k < 0
    ·obtain rfl := hno fun h => absurd (hst.1 (h.2 k hkl)).1.1 (by omega)
     repeat (first
      | refine AWp.seq ?_
      | refine thenA_n ?_
      | refine AWp.block ?_
      | refine AWp.skip ?_
      | refine AWp.ret ?_
      | refine thenA_r ?_
      | refine inBlk_r ?_
      | refine AWp.condT rfl cnT ?_
      | (refine rG 4 ?_
         (iterate 2 refine kA ?_)
         refine qr5 (aO tyOk) ?_
         refine qr5t aK ?_
         refine aB ?_)
      | (refine AWp.draw (id := 6) mixed ?_; (iterate 2 refine kA ?_); refine qr8eo2 (aP (k := k) tyOk) ?_; refine qr5o (aV tyOk) ?_; refine qr5t aK ?_; refine kA ?_; (iterate 11 refine qr2 aG ?_); refine qr4 aS ?_; refine aB ⟨by kernel_rfl, ?_⟩)
      | (refine rG 7 ?_
         refine kC ?_
         refine aB ?_))
     refine ⟨mkSt 48 [(4, .c (bC false))] [] [], [], Wk.mk [] rfl rfl rfl ?_ trivial, rfl, rfl, ARets.one (x := .c _) (ARes.tmp rfl rfl)⟩
     exact allT
    by_cases c2 : f k ≥ L.length
    ·obtain rfl := hno fun h => absurd (hst.1 (h.2 k hkl)).1.2 (by omega)
     repeat (first
      | refine AWp.seq ?_
      | refine thenA_n ?_
      | refine AWp.block ?_
      | refine AWp.skip ?_
      | refine AWp.ret ?_
      | refine thenA_r ?_
      | refine inBlk_r ?_
      | refine AWp.condT rfl cnT ?_
      | (refine rG 4 ?_
         (iterate 2 refine kA ?_)
         refine qr5 (aO tyOk) ?_
         refine qr5t aK ?_
         refine aB ?_)
      | (refine AWp.draw (id := 6) mixed ?_; (iterate 2 refine kA ?_); refine qr8eo2 (aP (k := k) tyOk) ?_; refine qr5o (aV tyOk) ?_; refine qr5f aJ ?_; (iterate 3 refine kA ?_); refine qr8eo2 (aP (k := k) tyOk) ?_; refine qr5o (aV tyOk) ?_; refine kD ?_; refine kE ?_; refine kA ?_; refine qr8eo2 (aP (k := k) tyOk) ?_; refine AList.load1lE tyOk (hcF) rfl rfl rfl rfl rfl oM ?_; refine qr5 (aO tyOk) ?_; refine qr5t aK ?_; refine qr4 aR ?_; refine aB ⟨by kernel_rfl, ?_⟩)
      | (refine rG 7 ?_
         refine kC ?_
         refine aB ?_))
     refine ⟨mkSt 48 [(4, .c (bC false))] [] [], [], Wk.mk [] rfl rfl rfl ?_ trivial, rfl, rfl, ARets.one (x := .c _) (ARes.tmp rfl rfl)⟩
     exact allT
    have hpk := PkOk.of hfit (k := k) (c := f k) (by omega) (by rw [hL]; omega)
    have hfr := rfree_A p hfit k (fun i => f (0 + i)) (fun i hi => by
     rw [Nat.zero_add]
     by_cases ei : i = k
     ·rw [ei]; exact hpk
     ·exact PkOk.of hfit (by omega) (stepOk_iff.1 (hok i (by omega))).1)
    rw [show freeV p k (fun i => f (0 + i)) (f (0 + k)) = freeV p k f (f k) by rw [show (fun i => f (0 + i)) = f from funext fun i => by rw [Nat.zero_add], Nat.zero_add]] at hfr
    cases hf : freeV p k f (f k) with
    | false =>
      rw [hf] at hfr
      obtain rfl := hno fun h => by have := (hst.1 (h.2 k hkl)).2; rw [hf] at this; cases this
      repeat (first
       | refine AWp.seq ?_
       | refine thenA_n ?_
       | refine AWp.block ?_
       | refine AWp.skip ?_
       | refine AWp.ret ?_
       | refine thenA_r ?_
       | refine inBlk_r ?_
       | refine AWp.condT rfl cnT ?_
       | refine AWp.condF rfl cnF ?_
       | (refine rG 4 ?_
          (iterate 2 refine kA ?_)
          refine qr5 (aO tyOk) ?_
          refine qr5t aK ?_
          refine aB ?_)
       | (refine AWp.draw (id := 6) mixed ?_; (iterate 2 refine kA ?_); refine qr8eo2 (aP (k := k) tyOk) ?_; refine qr5o (aV tyOk) ?_; refine qr5f aJ ?_; (iterate 3 refine kA ?_); refine qr8eo2 (aP (k := k) tyOk) ?_; refine qr5o (aV tyOk) ?_; refine kD ?_; refine kE ?_; refine kA ?_; refine qr8eo2 (aP (k := k) tyOk) ?_; refine AList.load1lE tyOk (hcF) rfl rfl rfl rfl rfl oM ?_; refine qr5 (aO tyOk) ?_; refine qr5f aJ ?_; refine qr4 aR ?_; refine aB ⟨by kernel_rfl, ?_⟩)
       | (refine AWp.draw (id := 8) mixed ?_; refine kF ?_; (iterate 2 refine kA ?_); refine qr4w2 aL ?_; refine AList.cut (l := 0) (h := (k + 1)) tyOk rfl rfl rfl rfl rfl rfl rfl rfl ⟨_, _, rfl, by first | rfl | omega⟩ (by omega) (by omega) ?_; refine aH rfl rfl rfl rfl Try.func46 rfl (by kernel_rfl) (hfr) ?_; refine qr3 AList.notB ?_; refine aB ⟨by kernel_rfl, ?_⟩)
       | (refine rG 9 ?_
          refine kC ?_
          refine aB ?_))
      refine ⟨mkSt 48 [(4, .c (bC false))] [] [], [], Wk.mk [] rfl rfl rfl ?_ trivial, rfl, rfl, ARets.one (x := .c _) (ARes.tmp rfl rfl)⟩
      exact allT
    | true =>
      rw [hf] at hfr
      repeat (first
       | refine AWp.seq ?_
       | refine thenA_n ?_
       | refine AWp.block ?_
       | refine AWp.skip ?_
       | refine inBlk_n ?_
       | refine AWp.condT rfl cnT ?_
       | refine AWp.condF rfl cnF ?_
       | (refine rG 4 ?_
          (iterate 2 refine kA ?_)
          refine qr5 (aO tyOk) ?_
          refine qr5t aK ?_
          refine aB ?_)
       | (refine rG 5 ?_
          refine kA ?_
          refine qr4w2 aL ?_
          refine kC ?_
          refine aB ?_)
       | (refine AWp.draw (id := 6) mixed ?_; (iterate 2 refine kA ?_); refine qr8eo2 (aP (k := k) tyOk) ?_; refine qr5o (aV tyOk) ?_; refine qr5f aJ ?_; (iterate 3 refine kA ?_); refine qr8eo2 (aP (k := k) tyOk) ?_; refine qr5o (aV tyOk) ?_; refine kD ?_; refine kE ?_; refine kA ?_; refine qr8eo2 (aP (k := k) tyOk) ?_; refine AList.load1lE tyOk (hcF) rfl rfl rfl rfl rfl oM ?_; refine qr5 (aO tyOk) ?_; refine qr5f aJ ?_; refine qr4 aR ?_; refine aB ⟨by kernel_rfl, ?_⟩)
       | (refine AWp.draw (id := 8) mixed ?_; refine kF ?_; (iterate 2 refine kA ?_); refine qr4w2 aL ?_; refine AList.cut (l := 0) (h := (k + 1)) tyOk rfl rfl rfl rfl rfl rfl rfl rfl ⟨_, _, rfl, by first | rfl | omega⟩ (by omega) (by omega) ?_; refine aH rfl rfl rfl rfl Try.func46 rfl (by kernel_rfl) (hfr) ?_; refine qr3 AList.notB ?_; refine aB ⟨by kernel_rfl, ?_⟩))
      refine ⟨k + 1, ⟨hkl, fun j hj => ?_⟩, Wk.mk [(2, some 2)] rfl rfl rfl ?_ ?_, by omega⟩
      ·by_cases ej : j = k
       ·rw [ej]; exact hst.2 ⟨⟨by omega, by omega⟩, hf⟩
       ·exact hok j (by omega)
      ·exact allT
      ·exact allH
   have hkl' : ¬ (k : Int) < n := by omega
   obtain rfl : n = k := by omega
   obtain rfl : V = true := hyes.2 ⟨⟨rfl, hl⟩, hok⟩
   repeat (first
    | refine AWp.seq ?_
    | refine thenA_n ?_
    | refine AWp.exit ?_
    | refine AWp.ret ?_
    | refine AWp.condF rfl cnF ?_
    | (refine rG 4 ?_
       (iterate 2 refine kA ?_)
       refine qr5 (aO tyOk) ?_
       refine qr5f aJ ?_
       refine aB ?_)
    | (refine rG 10 ?_
       refine kC ?_
       refine aB ?_))
   refine ⟨mkSt 48 [(4, .c (bC true))] [] [], [], Wk.mk [] rfl rfl rfl ?_ trivial, rfl, rfl, ARets.one (x := .c _) (ARes.tmp rfl rfl)⟩
   exact allT
  ·have hl' : ¬ (n : Int) = p.C.length := by omega
   rw [hno fun h => hl h.1.2]
   refine acalls_at Try.func15 rfl rfl Try.ntmps15 rfl ?_
   repeat (first
    | refine AWp.seq ?_
    | refine thenA_n ?_
    | refine AWp.ret ?_
    | refine thenA_r ?_
    | refine AWp.condT rfl cnT ?_
    | (refine rG 0 ?_
       refine qr5 aQ ?_
       refine kC ?_
       refine aB ?_)
    | (refine rG 1 ?_
       refine kF ?_
       refine aH rfl rfl rfl rfl Try.func13 rfl (by kernel_rfl) (hC) ?_
       refine qr5 aW ?_
       (iterate 2 refine kA ?_)
       refine qr5 (aO tyOk) ?_
       refine kD ?_
       refine kE ?_
       refine qr5 (aO tyOk) ?_
       refine qr5t aK ?_
       refine qr4 aR ?_
       refine aB ?_)
    | (refine rG 2 ?_
       refine kC ?_
       refine aB ?_))
   refine ⟨mkSt 48 [(4, .c (bC false))] [] [], [], Wk.mk [] rfl rfl rfl ?_ trivial, rfl, rfl, ARets.one (x := .c _) (ARes.tmp rfl rfl)⟩
   exact allT
 ·rw [hno fun h => h0 h.1.1]
  refine acalls_at Try.func15 rfl rfl Try.ntmps15 rfl ?_
  repeat (first
   | refine AWp.seq ?_
   | refine thenA_n ?_
   | refine AWp.ret ?_
   | refine thenA_r ?_
   | refine AWp.condT rfl cnT ?_
   | (refine rG 0 ?_
      refine qr5 aQ ?_
      refine kC ?_
      refine aB ?_)
   | (refine rG 1 ?_
      refine kF ?_
      refine aH rfl rfl rfl rfl Try.func13 rfl (by kernel_rfl) (hC) ?_
      refine qr5t aK ?_
      refine kA ?_
      (iterate 6 refine qr2 aG ?_)
      refine qr4 aS ?_
      refine aB ?_)
   | (refine rG 2 ?_
      refine kC ?_
      refine aB ?_))
  refine ⟨mkSt 48 [(4, .c (bC false))] [] [], [], Wk.mk [] rfl rfl rfl ?_ trivial, rfl, rfl, ARets.one (x := .c _) (ARes.tmp rfl rfl)⟩
  exact allT
end Go.Proofs.Ytjjaehpkccejaaa
end

section
namespace Go.Proofs.Ytjjaehpkccejaaa
open Go.RowKit Go.Flow Go.AV Go.Plain
set_option maxHeartbeats 1000000 in
set_option maxRecDepth 100000 in
theorem md21_A (bl sh : Int) : ACalls Try.prog 33 [.c (iC bl), .c (iC sh)] (.ag (rdC (md21 bl sh))) := by
 unfold md21
 have hM := Mod_A bl 3 (by omega) (by omega)
 have h0 := Int.emod_nonneg bl (show (3 : Int) ≠ 0 by omega)
 have h3 := Int.emod_lt_of_pos bl (show (0 : Int) < 3 by omega)
 generalize bl % 3 = c at *
 have hS := side21_A c 0 (by omega)
 have hpos : 0 < (2 * c + 1) * (2 * c + 1) ∧ (2 * c + 1) * (2 * c + 1) ≤ 25 := by
  have : c = 0 ∨ c = 1 ∨ c = 2 := by omega
  rcases this with rfl | rfl | rfl <;> decide
 have hM2 := Mod_A sh ((2 * c + 1) * (2 * c + 1)) (by omega) (by omega)
 have h4 := Int.emod_nonneg sh (show (2 * c + 1) * (2 * c + 1) ≠ 0 by omega)
 have h5 := Int.emod_lt_of_pos sh (show (0 : Int) < (2 * c + 1) * (2 * c + 1) by omega)
 generalize hs : 2 * c + 1 = s at *
 generalize sh % (s * s) = v at *
 refine acalls_at Try.func33 rfl rfl Try.ntmps33 rfl ?_
 repeat (first
  | refine AWp.seq ?_
  | refine thenA_n ?_
  | refine AWp.ret ?_
  | (refine rG 0 ?_
     refine qr5 (aM tyOk) ?_
     refine aB ?_)
  | (refine rG 1 ?_
     refine kA ?_
     refine aH rfl rfl rfl rfl Try.func18 rfl (by kernel_rfl) (hM) ?_
     refine qr8 (aX tyOk) ?_
     refine qr5 (aM tyOk) ?_
     refine kI ?_
     refine aB ?_)
  | (refine AWp.draw (id := 2) mixed ?_; refine kA ?_; refine kF ?_; refine aH rfl rfl rfl rfl Try.func59 rfl (by kernel_rfl) (hS) ?_; refine kF ?_; refine aH rfl rfl rfl rfl Try.func59 rfl (by kernel_rfl) (hS) ?_; refine qr4w2 AList.mul ?_; refine aH rfl rfl rfl rfl Try.func18 rfl (by kernel_rfl) (hM2) ?_; refine qr4w2 aL ?_; refine kD ?_; refine kI ?_; refine aB ⟨by kernel_rfl, ?_⟩)
  | (refine rG 3 ?_
     refine kF ?_
     refine kI ?_
     refine aB ?_))
 refine ⟨mkSt 19 [(4, .c (.pt 4 2 0 0))] [(4, ⟨false, 1, 2, 65, lF (rdC ⟨c, 1 + v⟩)⟩)] [4], [(4, ⟨false, 1, 2, 65, lF (rdC ⟨c, 1 + v⟩)⟩)], Wk.mk [(4, some 4)] rfl rfl rfl ?_ ?_, rfl, rfl, ARets.one (x := .ag _) (ARes.box tyOk rfl rfl rfl rfl rfl rfl rfl)⟩
 ·exact allT
 ·exact allH
def pasK (d : Nat → Bool) (W H : Int) (e : Nat → Bool) (k p : Nat) : Bool := if p < k then pasD d W H e p else false
theorem pasK_new {d : Nat → Bool} {W H : Int} {e : Nat → Bool} {i j : Nat} (hi : i < 6) : pasK d W H e (j * 6 + i + 1) (j * 6 + i) = (hasB 6 5 d i j || hasB W H e ((i : Int) - 0) ((j : Int) - 0)) := by
 unfold pasK pasD
 rw [if_pos (by omega), show (j * 6 + i) % 6 = i by omega, show (j * 6 + i) / 6 = j by omega]
theorem pasK_old {d : Nat → Bool} {W H : Int} {e : Nat → Bool} {k p : Nat} (h : ¬ p = k) : pasK d W H e (k + 1) p = pasK d W H e k p := by
 unfold pasK
 by_cases h1 : p < k
 ·rw [if_pos h1, if_pos (by omega)]
 ·rw [if_neg h1, if_neg (by omega)]
set_option maxHeartbeats 2000000 in
set_option maxRecDepth 100000 in
theorem Paste_A (d : Nat → Bool) (W H : Int) (n : Nat) (e : Nat → Bool) (hb : chk W H n = 0) : ACalls Try.prog 37 [.ag (bmpV 6 5 30 d), .ag (bmpV W H n e), .c (iC 0), .c (iC 0)] (.ag (bmpV 6 5 30 (pasD d W H e))) := by
 have hN := New_T 6 5 30 (by omega) (by omega) rfl (by omega)
 have ha : chk 6 5 30 = 0 := by decide
 have hC := rbCheck_A 6 5 30 d
 rw [ha] at hC
 refine acalls_at Try.func37 rfl rfl Try.ntmps37 rfl ?_
 repeat (first
  | refine AWp.seq ?_
  | refine thenA_n ?_
  | refine AWp.block ?_
  | refine AWp.skip ?_
  | refine AWp.condF rfl cnF ?_
  | (refine rG 0 ?_
     (iterate 2 refine qr5 aQ ?_)
     refine qr5 (aM tyOk) ?_
     refine aB ?_)
  | (refine rG 1 ?_
     refine kD ?_
     refine kE ?_
     refine kD ?_
     refine kE ?_
     refine AList.callT rfl rfl rfl rfl rfl Try.func34 rfl (by kernel_rfl) (hN) (fun _ _ _ _ => rfl) ?_
     refine kA ?_
     (iterate 2 refine qr4 aN ?_)
     refine qr5 (aM tyOk) ?_
     refine kI ?_
     refine kC ?_
     refine aB ?_)
  | (refine rG 2 ?_
     refine kA ?_
     refine qr5 aW ?_
     refine kA ?_
     refine kF ?_
     refine aH rfl rfl rfl rfl Try.func44 rfl (by kernel_rfl) (hC) ?_
     refine qr5 aW ?_
     refine qr4 aR ?_
     refine aB ?_)
  | (refine rG 4 ?_
     refine kC ?_
     refine aB ?_))
 refine AWp.round (fun j : Nat =>
  mkSt 65 [(4, .c (.pt 4 3 0 0)), (5, .c (.pt 5 3 0 0)), (8, .c (.pt 8 3 0 0)), (9, .c (.pt 9 3 0 0)), (2, .c (iC 0)), (3, .c (iC 0)), (11, .c (iC (j : Nat)))] [(4, ⟨false, 1, 3, 47, lF (bmpV 6 5 30 d)⟩), (5, ⟨false, 1, 3, 47, lF (bmpV W H n e)⟩), (8, ⟨false, 1, 3, 47, lF [iC 0, iC 0, .p (.slice none 0 0)]⟩), (9, ⟨false, 1, 3, 47, lF [iC 6, iC 5, .ow 20]⟩), (20, rowBl 30 (pasK d W H e (j * 6)))] [4, 5, 8, 9, 20]
  ) (fun j => j ≤ 5) (fun j => 5 - j) 0 (Nat.zero_le _) ?_ (fun j hj => ?_)
 ·refine Wk.mk [(4, some 4), (5, some 5), (8, some 8), (9, some 9), (20, some 18)] rfl rfl rfl ?_ ?_
  ·exact allT
  ·exact ⟨hSm, hSm, hSm, HeapOk.box rfl rfl ⟨LeC.int rfl, LeC.int rfl, LeC.ow _ _ rfl, trivial⟩ rfl, HeapOk.row rfl rfl rfl (fun i _ => cell1 ⟨rfl, rfl⟩), trivial⟩
 by_cases hjl : j < 5
 ·have hjl' : (j : Int) < 5 := by omega
  repeat (first
   | refine AWp.seq ?_
   | refine thenA_n ?_
   | refine AWp.block ?_
   | refine AWp.skip ?_
   | refine AWp.condT rfl cnT ?_
   | (refine rG 5 ?_
      refine kA ?_
      refine kD ?_
      refine kE ?_
      refine qr5t aK ?_
      refine aB ?_)
   | (refine rG 7 ?_
      refine kC ?_
      refine aB ?_))
  refine AWp.round (fun i : Nat =>
   mkSt 65 [(4, .c (.pt 4 3 0 0)), (5, .c (.pt 5 3 0 0)), (8, .c (.pt 8 3 0 0)), (9, .c (.pt 9 3 0 0)), (2, .c (iC 0)), (3, .c (iC 0)), (11, .c (iC j)), (12, .c (iC (i : Nat)))] [(4, ⟨false, 1, 3, 47, lF (bmpV 6 5 30 d)⟩), (5, ⟨false, 1, 3, 47, lF (bmpV W H n e)⟩), (8, ⟨false, 1, 3, 47, lF [iC 0, iC 0, .p (.slice none 0 0)]⟩), (9, ⟨false, 1, 3, 47, lF [iC 6, iC 5, .ow 20]⟩), (20, rowBl 30 (pasK d W H e (j * 6 + i)))] [4, 5, 8, 9, 20]
   ) (fun i => i ≤ 6) (fun i => 6 - i) 0 (Nat.zero_le _) ?_ (fun i hi => ?_)
  ·refine Wk.mk [(4, some 4), (5, some 5), (8, some 8), (9, some 9), (20, some 20)] rfl rfl rfl ?_ ?_
   ·exact allT
   ·exact ⟨hSm, hSm, hSm, HeapOk.box rfl rfl ⟨LeC.int rfl, LeC.int rfl, LeC.ow _ _ rfl, trivial⟩ rfl, HeapOk.row rfl rfl rfl (fun i _ => cell1 ⟨rfl, rfl⟩), trivial⟩
  by_cases hil : i < 6
  ·have hil' : (i : Int) < 6 := by omega
   have g1 := Get_A 6 5 30 d i j ha
   have g2 := Get_A W H n e ((i : Int) - 0) ((j : Int) - 0) hb
   have hnew := pasK_new (d := d) (W := W) (H := H) (e := e) (j := j) hil
   have hlt : j * 6 + i < 30 := by omega
   cases h1 : hasB 6 5 d i j with
   | true =>
     rw [h1] at g1 hnew
     repeat (first
      | refine AWp.seq ?_
      | refine thenA_n ?_
      | refine AWp.block ?_
      | refine AWp.skip ?_
      | refine inBlk_n ?_
      | refine AWp.condT rfl cnT ?_
      | (refine rG 8 ?_
         refine kA ?_
         refine kD ?_
         refine kE ?_
         refine qr5t aK ?_
         refine aB ?_)
      | (refine rG 9 ?_
         refine kA ?_
         refine qr4w2 aL ?_
         refine kC ?_
         refine aB ?_)
      | (refine AWp.draw (id := 10) mixed ?_; refine kD ?_; refine kE ?_; refine kA ?_; refine kD ?_; refine kE ?_; refine qr4w2 AList.mul ?_; refine kA ?_; refine qr4w2 aL ?_; refine kF ?_; (iterate 2 refine kA ?_); refine aH rfl rfl rfl rfl Try.func61 rfl (by kernel_rfl) (g1) ?_; refine kA ?_; (iterate 8 refine qr2 aG ?_); refine qr4 aS ?_; refine qr10eo (AList.idxOw (k := j * 6 + i) tyOk) ?_; refine kI ?_; refine aB ⟨by kernel_rfl, ?_⟩))
     refine ⟨i + 1, hil, Wk.mk [(4, some 4), (5, some 5), (8, some 8), (9, some 9), (20, some 20)] rfl rfl rfl ?_ ?_, by omega⟩
     ·exact allT
     ·exact ⟨hSm, hSm, hSm, HeapOk.box rfl rfl ⟨LeC.int rfl, LeC.int rfl, LeC.ow _ _ rfl, trivial⟩ rfl, HeapOk.row rfl rfl rfl (set_oneB (e := true) (pasK d W H e (j * 6 + i + 1)) (by rw [hnew]; rfl) (fun k hk => pasK_old hk)), trivial⟩
   | false =>
     rw [h1] at g1 hnew
     generalize hasB W H e ((i : Int) - 0) ((j : Int) - 0) = v at g2 hnew
     repeat (first
      | refine AWp.seq ?_
      | refine thenA_n ?_
      | refine AWp.block ?_
      | refine AWp.skip ?_
      | refine inBlk_n ?_
      | refine AWp.condT rfl cnT ?_
      | (refine rG 8 ?_
         refine kA ?_
         refine kD ?_
         refine kE ?_
         refine qr5t aK ?_
         refine aB ?_)
      | (refine rG 9 ?_
         refine kA ?_
         refine qr4w2 aL ?_
         refine kC ?_
         refine aB ?_)
      | (refine AWp.draw (id := 10) mixed ?_; refine kD ?_; refine kE ?_; refine kA ?_; refine kD ?_; refine kE ?_; refine qr4w2 AList.mul ?_; refine kA ?_; refine qr4w2 aL ?_; refine kF ?_; (iterate 2 refine kA ?_); refine aH rfl rfl rfl rfl Try.func61 rfl (by kernel_rfl) (g1) ?_; refine kA ?_; refine kF ?_; (iterate 2 refine kA ?_); refine qr4w2 AList.sub ?_; (iterate 2 refine kA ?_); refine qr4w2 AList.sub ?_; refine aH rfl rfl rfl rfl Try.func61 rfl (by kernel_rfl) (g2) ?_; refine qr4 aR ?_; refine qr10eo (AList.idxOw (k := j * 6 + i) tyOk) ?_; refine kI ?_; refine aB ⟨by kernel_rfl, ?_⟩))
     refine ⟨i + 1, hil, Wk.mk [(4, some 4), (5, some 5), (8, some 8), (9, some 9), (20, some 20)] rfl rfl rfl ?_ ?_, by omega⟩
     ·exact allT
     ·exact ⟨hSm, hSm, hSm, HeapOk.box rfl rfl ⟨LeC.int rfl, LeC.int rfl, LeC.ow _ _ rfl, trivial⟩ rfl, HeapOk.row rfl rfl rfl (set_oneB (e := v) (pasK d W H e (j * 6 + i + 1)) (by rw [hnew]; rfl) (fun k hk => pasK_old hk)), trivial⟩
  ·have hil' : ¬ (i : Int) < 6 := by omega
   obtain rfl : i = 6 := by omega
   repeat (first
    | refine AWp.seq ?_
    | refine thenA_n ?_
    | refine AWp.exit ?_
    | refine thenA_e ?_
    | refine inBlk_n ?_
    | refine inBlk_hit ?_
    | refine AWp.condF rfl cnF ?_
    | (refine rG 6 ?_
       refine kA ?_
       refine qr4w2 aL ?_
       refine kC ?_
       refine aB ?_)
    | (refine rG 8 ?_
       refine kA ?_
       refine kD ?_
       refine kE ?_
       refine qr5f aJ ?_
       refine aB ?_))
   refine ⟨j + 1, hjl, Wk.mk [(4, some 4), (5, some 5), (8, some 8), (9, some 9), (20, some 20)] rfl rfl rfl ?_ ?_, by omega⟩
   ·exact allT
   ·exact ⟨hSm, hSm, hSm, HeapOk.box rfl rfl ⟨LeC.int rfl, LeC.int rfl, LeC.ow _ _ rfl, trivial⟩ rfl, HeapOk.row rfl rfl rfl (fun i _ => cell1 ⟨by rw [show (j + 1) * 6 = j * 6 + 6 by omega], rfl⟩), trivial⟩
 ·have hjl' : ¬ (j : Int) < 5 := by omega
  obtain rfl : j = 5 := by omega
  repeat (first
   | refine AWp.seq ?_
   | refine thenA_n ?_
   | refine AWp.exit ?_
   | refine AWp.ret ?_
   | refine AWp.condF rfl cnF ?_
   | (refine rG 5 ?_
      refine kA ?_
      refine kD ?_
      refine kE ?_
      refine qr5f aJ ?_
      refine aB ?_)
   | (refine rG 11 ?_
      refine kF ?_
      refine kI ?_
      refine aB ?_))
  refine ⟨mkSt 65 [(8, .c (.pt 8 3 0 0))] [(8, ⟨false, 1, 3, 47, lF (bmpV 6 5 30 (pasD d W H e))⟩)] [8], [(8, ⟨false, 1, 3, 47, lF (bmpV 6 5 30 (pasD d W H e))⟩)], Wk.mk [(8, some 8)] rfl rfl rfl ?_ ?_, rfl, rfl, ARets.one (x := .ag _) (ARes.box tyOk rfl rfl rfl rfl rfl rfl rfl)⟩
  ·exact allT
  ·exact ⟨HeapOk.box rfl rfl ⟨LeC.int rfl, LeC.int rfl, LeC.fz rfl rfl rfl (fun i hi => cell1 ⟨by show bC _ = bC _; unfold pasK; rw [if_pos (by omega)], rfl⟩), trivial⟩ rfl, trivial⟩
end Go.Proofs.Ytjjaehpkccejaaa
end
