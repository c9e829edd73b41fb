/- Parts of the proof: A28i, A28j, A28u, A28v. -/
import Derived.Test.YtjjaehpkccejaaaG32
import Derived.Test.YtjjaehpkccejaaaG29
import Derived.Test.YtjjaehpkccejaaaHA28znr07
import Derived.Test.YtjjaehpkccejaaaG28
import Derived.Test.YtjjaehpkccejaaaG19
import Derived.Test.YtjjaehpkccejaaaHA28znr03
import Derived.Test.YtjjaehpkccejaaaG27
import Derived.Test.YtjjaehpkccejaaaG18
import Derived.Test.YtjjaehpkccejaaaG14
import Derived.Test.YtjjaehpkccejaaaG07
import Derived.Test.YtjjaehpkccejaaaHA28znr01
import Derived.Test.YtjjaehpkccejaaaG10
import Derived.Test.YtjjaehpkccejaaaG03
import Derived.Scope
import Derived.Test.YtjjaehpkccejaaaG06
import Derived.Laws.StructEq
import Derived.Test.YtjjaehpkccejaaaG21
import Derived.Test.YtjjaehpkccejaaaHA28znr04
import Derived.Test.YtjjaehpkccejaaaG17
import Derived.Test.YtjjaehpkccejaaaG08
import Derived.Test.YtjjaehpkccejaaaG02
import Derived.RangeFuncLeaves
import Derived.RangeFuncRecord
import Derived.Test.YtjjaehpkccejaaaG09
import Derived.Shelf.Abstract
import Derived.Test.YtjjaehpkccejaaaG01
import Derived.Test.YtjjaehpkccejaaaG24
import Derived.Test.YtjjaehpkccejaaaHA28znr02
import Derived.Test.YtjjaehpkccejaaaG13
import Derived.Test.YtjjaehpkccejaaaProg
import Derived.Test.YtjjaehpkccejaaaG26
import Derived.Laws.Pointers
import Derived.WalkKit
import Derived.Lib.Hide
import Derived.Deep.QuietTactic
import Derived.BigQuiet
import Derived.Deep.DrawnRows
import Derived.Deep.AppendLies
import Derived.Test.YtjjaehpkccejaaaG16
import Derived.RangeFuncNested
import Derived.OrdersIn
import Derived.TacticsIn
import Derived.RangeFuncCalls
import Derived.Test.YtjjaehpkccejaaaG05
import Derived.Test.YtjjaehpkccejaaaG25
import Derived.WideKeyMaps
import Derived.MapKept
import Derived.Carry
import Derived.Maps.AppendAt
import Derived.OwnWalk
import Derived.Test.YtjjaehpkccejaaaG15
import Derived.Laws.Cover3
import Derived.StillTail
import Derived.Below
import Derived.Deep.Draws
import Derived.KernelRfl
import Derived.Test.YtjjaehpkccejaaaG04
import Derived.Great.BuildSlice
import Derived.Test.YtjjaehpkccejaaaG12
import Derived.Test.YtjjaehpkccejaaaG11
import Derived.Test.YtjjaehpkccejaaaG31
import Derived.Test.YtjjaehpkccejaaaG30
import Derived.DeepKeys4
import Derived.Test.YtjjaehpkccejaaaG22
import Derived.Test.YtjjaehpkccejaaaHA28znr05
import Derived.Test.YtjjaehpkccejaaaG20
set_option linter.unusedSimpArgs false
set_option linter.unusedVariables false
section
namespace Go.Proofs.Ytjjaehpkccejaaa
open Go.RowKit Go.Flow Go.AV Go.Plain
theorem rowF_app {α : Type} {c : α → List CV} {z : α} (A B : List α) (sz : Nat) (hc : ∀ x, (c x).all immC = true) : ∀ i, i < A.length + B.length → ∀ j, j < sz → appF (rowF c z A) A.length (rowF c z B) i j = rowF c z (A ++ B) i j ∧ immC (appF (rowF c z A) A.length (rowF c z B) i j) = true := fun i hi j _ => by
 have : appF (rowF c z A) A.length (rowF c z B) i j = rowF c z (A ++ B) i j := by
  unfold appF rowF
  have e : ∀ k, (A ++ B).getD k z = (A ++ B)[k]?.getD z := fun k => List.getD_eq_getElem?_getD
  rw [e]
  by_cases h : i < A.length
  ·rw [show Nat.blt i A.length = true from Nat.blt_eq.mpr h, List.getElem?_append_left h, ← List.getD_eq_getElem?_getD]
   rfl
  ·rw [show Nat.blt i A.length = false from Bool.eq_false_iff.2 fun h' => h (Nat.blt_eq.mp h'), List.getElem?_append_right (by omega), ← List.getD_eq_getElem?_getD]
   rfl
 rw [this]
 exact ⟨rfl, rowF_imm hc _ i j⟩
set_option maxHeartbeats 2000000 in
set_option maxRecDepth 100000 in
theorem bitmaps_A (p : Pb) (hC : p.C.length ≤ 200) (hF : p.F.length ≤ 200) (hl : ∀ i, i < p.C.length → (p.C.getD i []).length ≤ 200) : ACalls Try.prog 43 [.ag (pbC p)] (.c (lsB (allB p))) := by
 have hpl := preB_len hl
 refine acalls_at Try.func43 rfl rfl Try.ntmps43 rfl ?_
 repeat (first
  | refine AWp.seq ?_
  | refine thenA_n ?_
  | refine AWp.block ?_
  | (refine rG 0 ?_
     refine qr5 aQ ?_
     refine kC ?_
     refine aB ?_)
  | (refine rG 1 ?_
     refine kC ?_
     refine aB ?_)
  | (refine rG 2 ?_
     refine kC ?_
     refine aB ?_))
 refine AWp.round (fun i : Nat => mkSt 23 [(1, .c (.pt 1 5 0 0)), (3, .c (.ow 20)), (4, .c (iC i))] [(1, ⟨false, 1, 5, 32, lF (pbC p)⟩), (20, bpB (preB p.C i))] [1, 20])
  (fun i => i ≤ p.C.length) (fun i => p.C.length - i) 0 (Nat.zero_le _) ?_ (fun i hi => ?_)
 ·refine Wk.mk [(1, some 1), (20, none)] rfl rfl rfl ?_ ?_
  ·exact allT
  ·exact allH
 ·by_cases hil : i < p.C.length
  ·have hil' : (i : Int) < p.C.length := by omega
   have hsu := preB_succ hil
   have h1 := hpl i hi
   have h2 := hl i hil
   obtain ⟨L, hL⟩ : ∃ L, p.C.getD i [] = L := ⟨_, rfl⟩
   rw [hL] at hsu h2
   have hcF : chF p.C i 0 = lsB L := by rw [← hL]
   obtain ⟨P, hP⟩ : ∃ P, preB p.C i = P := ⟨_, rfl⟩
   rw [hP] at hsu h1
   rw [hP]
   have hlen : (preB p.C (i + 1)).length = P.length + L.length := by rw [hsu, List.length_append]
   repeat (first
    | refine AWp.seq ?_
    | refine thenA_n ?_
    | refine AWp.block ?_
    | refine AWp.skip ?_
    | refine inBlk_n ?_
    | refine AWp.condT rfl cnT ?_
    | (refine rG 3 ?_
       refine kA ?_
       refine kD ?_
       refine kE ?_
       refine qr5 (aO tyOk) ?_
       refine qr5t aK ?_
       refine aB ?_)
    | (refine rG 4 ?_
       refine kA ?_
       refine qr4w2 aL ?_
       refine kC ?_
       refine aB ?_)
    | (refine rG 5 ?_
       refine kA ?_
       refine kD ?_
       refine kE ?_
       refine kA ?_
       refine qr8eo2 (aP (k := i) tyOk) ?_
       refine AList.load1lE tyOk (hcF) rfl rfl rfl rfl rfl oM ?_
       refine AList.appL tyOk rfl rfl rfl rfl rfl rfl rfl rfl rfl rfl oM oM ?_
       refine kC ?_
       refine aB ?_))
   refine ⟨i + 1, hil, Wk.mk [(1, some 1), (20, some 18)] rfl rfl rfl ?_ ?_, by omega⟩
   ·exact allT
   ·refine ⟨hSm, HeapOk.row rfl rfl hlen ?_, trivial⟩
    rw [hsu]
    exact rowF_app P L 3 bpC_imm
  ·have hil' : ¬ (i : Int) < p.C.length := by omega
   obtain rfl : i = p.C.length := by omega
   have h1 := hpl _ (Nat.le_refl _)
   rw [preB_all] at h1 ⊢
   have hlen : (allB p).length = p.C.flatten.length + p.F.length := List.length_append
   repeat (first
    | refine AWp.seq ?_
    | refine thenA_n ?_
    | refine AWp.exit ?_
    | refine AWp.ret ?_
    | refine AWp.condF rfl cnF ?_
    | (refine rG 3 ?_
       refine kA ?_
       refine kD ?_
       refine kE ?_
       refine qr5 (aO tyOk) ?_
       refine qr5f aJ ?_
       refine aB ?_)
    | (refine rG 6 ?_
       refine kA ?_
       refine kD ?_
       refine kE ?_
       refine AList.appL tyOk rfl rfl rfl rfl rfl rfl rfl rfl rfl rfl oM oM ?_
       refine kC ?_
       refine aB ?_))
   refine ⟨mkSt 23 [(2, .c (lsB (allB p)))] [] [], [], Wk.mk [] rfl rfl rfl ?_ trivial, rfl, rfl, ARets.one (x := .c _) (ARes.tmp rfl rfl)⟩
   exact ⟨⟨_, rfl, .c (LeC.fz rfl rfl hlen (rowF_app p.C.flatten p.F 3 bpC_imm))⟩, trivial⟩
end Go.Proofs.Ytjjaehpkccejaaa
end

section
namespace Go.Proofs.Ytjjaehpkccejaaa
open Go.RowKit Go.Flow Go.AV Go.Plain
set_option maxHeartbeats 4000000 in
set_option maxRecDepth 100000 in
theorem rCheck28_A (p : Pb) (hp : p.ok) : ACalls Try.prog 13 [.ag (pbC p)] (.c (iC (chkP p))) := by
 obtain ⟨hrd, lR, lC, lF', lO, lT, lc⟩ := hp
 by_cases c1 : 4 < p.R.length
 ·rw [chkP_many (.inl c1)]
  have c1' : ((p.R.length : Nat) : Int) > 4 := by omega
  refine acalls_at Try.func13 rfl rfl Try.ntmps13 rfl ?_
  repeat (first
   | refine AWp.seq ?_
   | refine thenA_n ?_
   | refine AWp.ret ?_
   | refine thenA_r ?_
   | refine AWp.condT rfl cnT ?_
   | (refine rG 0 ?_
      refine qr5 aQ ?_
      refine kC ?_
      refine aB ?_)
   | (refine rG 1 ?_
      refine kD ?_
      refine kE ?_
      refine qr5 (aO tyOk) ?_
      refine qr5t aK ?_
      refine kA ?_
      (iterate 4 refine qr2 aG ?_)
      refine qr4 aS ?_
      refine kA ?_
      (iterate 4 refine qr2 aG ?_)
      refine qr4 aS ?_
      refine aB ?_)
   | (refine rG 2 ?_
      refine kC ?_
      refine aB ?_))
  refine ⟨mkSt 109 [(2, .c (iC 2))] [] [], [], Wk.mk [] rfl rfl rfl ?_ trivial, rfl, rfl, ARets.one (x := .c _) (ARes.tmp rfl rfl)⟩
  exact allT
 have c1' : ¬ ((p.R.length : Nat) : Int) > 4 := by omega
 by_cases c2 : 200 < p.C.length
 ·rw [chkP_many (.inr (.inl c2))]
  have c2' : ((p.C.length : Nat) : Int) > 200 := by omega
  refine acalls_at Try.func13 rfl rfl Try.ntmps13 rfl ?_
  repeat (first
   | refine AWp.seq ?_
   | refine thenA_n ?_
   | refine AWp.ret ?_
   | refine thenA_r ?_
   | refine AWp.condT rfl cnT ?_
   | (refine rG 0 ?_
      refine qr5 aQ ?_
      refine kC ?_
      refine aB ?_)
   | (refine rG 1 ?_
      refine kD ?_
      refine kE ?_
      refine qr5 (aO tyOk) ?_
      refine qr5f aJ ?_
      refine kA ?_
      refine kD ?_
      refine kE ?_
      refine qr5 (aO tyOk) ?_
      refine qr5t aK ?_
      refine qr4 aR ?_
      refine kA ?_
      (iterate 4 refine qr2 aG ?_)
      refine qr4 aS ?_
      refine aB ?_)
   | (refine rG 2 ?_
      refine kC ?_
      refine aB ?_))
  refine ⟨mkSt 109 [(2, .c (iC 2))] [] [], [], Wk.mk [] rfl rfl rfl ?_ trivial, rfl, rfl, ARets.one (x := .c _) (ARes.tmp rfl rfl)⟩
  exact allT
 have c2' : ¬ ((p.C.length : Nat) : Int) > 200 := by omega
 by_cases c2b : 200 < p.F.length
 ·rw [chkP_many (.inr (.inr c2b))]
  have c2' : ((p.F.length : Nat) : Int) > 200 := by omega
  refine acalls_at Try.func13 rfl rfl Try.ntmps13 rfl ?_
  repeat (first
   | refine AWp.seq ?_
   | refine thenA_n ?_
   | refine AWp.ret ?_
   | refine thenA_r ?_
   | refine AWp.condT rfl cnT ?_
   | (refine rG 0 ?_
      refine qr5 aQ ?_
      refine kC ?_
      refine aB ?_)
   | (refine rG 1 ?_
      refine kD ?_
      refine kE ?_
      refine qr5 (aO tyOk) ?_
      refine qr5f aJ ?_
      refine kA ?_
      refine kD ?_
      refine kE ?_
      refine qr5 (aO tyOk) ?_
      refine qr5f aJ ?_
      refine qr4 aR ?_
      refine kA ?_
      refine kD ?_
      refine kE ?_
      refine qr5 (aO tyOk) ?_
      refine qr5t aK ?_
      refine qr4 aR ?_
      refine aB ?_)
   | (refine rG 2 ?_
      refine kC ?_
      refine aB ?_))
  refine ⟨mkSt 109 [(2, .c (iC 2))] [] [], [], Wk.mk [] rfl rfl rfl ?_ trivial, rfl, rfl, ARets.one (x := .c _) (ARes.tmp rfl rfl)⟩
  exact allT
 have c2b' : ¬ ((p.F.length : Nat) : Int) > 200 := by omega
 have hM : ¬ (4 < p.R.length ∨ 200 < p.C.length ∨ 200 < p.F.length) := by omega
 have hlong := @chkP_long p
 obtain ⟨e, he⟩ : ∃ e, chkP p = e := ⟨_, rfl⟩
 rw [he]
 refine acalls_at Try.func13 rfl rfl Try.ntmps13 rfl ?_
 repeat (first
  | refine AWp.seq ?_
  | refine thenA_n ?_
  | refine AWp.block ?_
  | refine AWp.skip ?_
  | refine AWp.condF rfl cnF ?_
  | (refine rG 0 ?_
     refine qr5 aQ ?_
     refine kC ?_
     refine aB ?_)
  | (refine rG 1 ?_
     refine kD ?_
     refine kE ?_
     refine qr5 (aO tyOk) ?_
     refine qr5f aJ ?_
     refine kA ?_
     refine kD ?_
     refine kE ?_
     refine qr5 (aO tyOk) ?_
     refine qr5f aJ ?_
     refine qr4 aR ?_
     refine kA ?_
     refine kD ?_
     refine kE ?_
     refine qr5 (aO tyOk) ?_
     refine qr5f aJ ?_
     refine qr4 aR ?_
     refine aB ?_)
  | (refine rG 3 ?_
     refine kC ?_
     refine aB ?_))
 refine AWp.round (fun i : Nat =>
  mkSt 109 [(1, .c (.pt 1 5 0 0)), (3, .c (iC (i : Nat)))] [(1, ⟨false, 1, 5, 32, lF (pbC p)⟩)] [1]
  ) (fun i => i ≤ p.C.length ∧ ∀ i', i' < i → ¬ 32 < (p.C.getD i' []).length) (fun i => p.C.length - i) 0 ⟨Nat.zero_le _, fun _ h => absurd h (Nat.not_lt_zero _)⟩ ?_ (fun i hi => ?_)
 ·refine Wk.mk [(1, some 1)] rfl rfl rfl ?_ ?_
  ·exact allT
  ·exact allH
 obtain ⟨hi, hno⟩ := hi
 by_cases hil : i < p.C.length
 ·have hil' : (i : Int) < p.C.length := by omega
  by_cases h32 : 32 < (p.C.getD i []).length
  ·have h32' : (((p.C.getD i []).length : Nat) : Int) > 32 := by omega
   rw [hlong hM hil h32] at he
   subst he
   repeat (first
    | refine AWp.seq ?_
    | refine thenA_n ?_
    | refine AWp.block ?_
    | refine AWp.skip ?_
    | refine AWp.ret ?_
    | refine thenA_r ?_
    | refine inBlk_r ?_
    | refine AWp.condT rfl cnT ?_
    | (refine rG 4 ?_
       refine kA ?_
       refine kD ?_
       refine kE ?_
       refine qr5 (aO tyOk) ?_
       refine qr5t aK ?_
       refine aB ?_)
    | (refine rG 6 ?_
       refine kD ?_
       refine kE ?_
       refine kA ?_
       refine qr8eo2 (aP (k := i) tyOk) ?_
       refine qr5o (aV tyOk) ?_
       refine qr5 (aO tyOk) ?_
       refine qr5t aK ?_
       refine aB ?_)
    | (refine rG 7 ?_
       refine kC ?_
       refine aB ?_))
   refine ⟨mkSt 109 [(2, .c (iC 2))] [] [], [], Wk.mk [] rfl rfl rfl ?_ trivial, rfl, rfl, ARets.one (x := .c _) (ARes.tmp rfl rfl)⟩
   exact allT
  ·have h32' : ¬ (((p.C.getD i []).length : Nat) : Int) > 32 := by omega
   repeat (first
    | refine AWp.seq ?_
    | refine thenA_n ?_
    | refine AWp.block ?_
    | refine AWp.skip ?_
    | refine inBlk_n ?_
    | refine AWp.condT rfl cnT ?_
    | refine AWp.condF rfl cnF ?_
    | (refine rG 4 ?_
       refine kA ?_
       refine kD ?_
       refine kE ?_
       refine qr5 (aO tyOk) ?_
       refine qr5t aK ?_
       refine aB ?_)
    | (refine rG 5 ?_
       refine kA ?_
       refine qr4w2 aL ?_
       refine kC ?_
       refine aB ?_)
    | (refine rG 6 ?_
       refine kD ?_
       refine kE ?_
       refine kA ?_
       refine qr8eo2 (aP (k := i) tyOk) ?_
       refine qr5o (aV tyOk) ?_
       refine qr5 (aO tyOk) ?_
       refine qr5f aJ ?_
       refine aB ?_))
   refine ⟨i + 1, ⟨hil, fun i' hi' => ?_⟩, Wk.mk [(1, some 1)] rfl rfl rfl ?_ ?_, by omega⟩
   ·by_cases e : i' = i
    ·rw [e]; exact h32
    ·exact hno i' (by omega)
   ·exact allT
   ·exact allH
 have hil' : ¬ (i : Int) < p.C.length := by omega
 obtain rfl : i = p.C.length := by omega
 have hrdk := @chkP_rd p
 repeat (first
  | refine AWp.seq ?_
  | refine thenA_n ?_
  | refine AWp.block ?_
  | refine AWp.exit ?_
  | refine AWp.condF rfl cnF ?_
  | (refine rG 4 ?_
     refine kA ?_
     refine kD ?_
     refine kE ?_
     refine qr5 (aO tyOk) ?_
     refine qr5f aJ ?_
     refine aB ?_)
  | (refine rG 8 ?_
     refine kC ?_
     refine aB ?_))
 refine AWp.round (fun k : Nat =>
  mkSt 109 [(1, .c (.pt 1 5 0 0)), (4, .c (iC (k : Nat)))] [(1, ⟨false, 1, 5, 32, lF (pbC p)⟩)] [1]
  ) (fun k => k ≤ p.R.length ∧ ∀ i, i < k → rdE (p.R.getD i rdZ) = 0) (fun k => p.R.length - k) 0 ⟨Nat.zero_le _, fun _ h => absurd h (Nat.not_lt_zero _)⟩ ?_ (fun k hk => ?_)
 ·refine Wk.mk [(1, some 1)] rfl rfl rfl ?_ ?_
  ·exact allT
  ·exact allH
 obtain ⟨hk, hok⟩ := hk
 by_cases hkl : k < p.R.length
 ·have hkl' : (k : Int) < p.R.length := by omega
  have hc := RRdCheck_A (p.R.getD k rdZ) (hrd _ (getD_mem28 hkl))
  have hrdk' := fun h => hrdk hM hno hkl hok h
  generalize hg : rdE (p.R.getD k rdZ) = v at *
  by_cases hv : v = 0
  ·subst hv
   repeat (first
    | refine AWp.seq ?_
    | refine thenA_n ?_
    | refine AWp.block ?_
    | refine AWp.skip ?_
    | refine inBlk_n ?_
    | refine AWp.condT rfl cnT ?_
    | refine AWp.condF rfl cnF ?_
    | (refine rG 9 ?_
       refine kA ?_
       refine kD ?_
       refine kE ?_
       refine qr5 (aO tyOk) ?_
       refine qr5t aK ?_
       refine aB ?_)
    | (refine rG 10 ?_
       refine kA ?_
       refine qr4w2 aL ?_
       refine kC ?_
       refine aB ?_)
    | (refine rG 11 ?_
       refine kD ?_
       refine kE ?_
       refine kA ?_
       refine qr8eo2 (aP (k := k) tyOk) ?_
       refine qr5o (aT tyOk) ?_
       refine aH rfl rfl rfl rfl Try.func42 rfl (by kernel_rfl) (hc) ?_
       refine kC ?_
       refine aB ?_)
    | (refine rG 12 ?_
       refine kA ?_
       refine qr5 aW ?_
       refine aB ?_))
   refine ⟨k + 1, ⟨hkl, fun i hi => ?_⟩, Wk.mk [(1, some 1)] rfl rfl rfl ?_ ?_, by omega⟩
   ·by_cases e : i = k
    ·rw [e]; exact hg
    ·exact hok i (by omega)
   ·exact allT
   ·exact allH
  ·rw [hrdk' hv] at he
   subst he
   repeat (first
    | refine AWp.seq ?_
    | refine thenA_n ?_
    | refine AWp.block ?_
    | refine AWp.skip ?_
    | refine AWp.ret ?_
    | refine thenA_r ?_
    | refine inBlk_r ?_
    | refine AWp.condT rfl cnT ?_
    | (refine rG 9 ?_
       refine kA ?_
       refine kD ?_
       refine kE ?_
       refine qr5 (aO tyOk) ?_
       refine qr5t aK ?_
       refine aB ?_)
    | (refine rG 11 ?_
       refine kD ?_
       refine kE ?_
       refine kA ?_
       refine qr8eo2 (aP (k := k) tyOk) ?_
       refine qr5o (aT tyOk) ?_
       refine aH rfl rfl rfl rfl Try.func42 rfl (by kernel_rfl) (hc) ?_
       refine kC ?_
       refine aB ?_)
    | (refine rG 12 ?_
       refine kA ?_
       refine qr5t aK ?_
       refine aB ?_)
    | (refine rG 13 ?_
       refine kA ?_
       refine kC ?_
       refine aB ?_))
   refine ⟨mkSt 109 [(2, .c (iC v))] [] [], [], Wk.mk [] rfl rfl rfl ?_ trivial, rfl, rfl, ARets.one (x := .c _) (ARes.tmp rfl rfl)⟩
   exact allT
 have hkl' : ¬ (k : Int) < p.R.length := by omega
 obtain rfl : k = p.R.length := by omega
 by_cases c3 : p.O.length = p.C.length ∧ p.T.length = p.F.length
 ·have c3a : ((p.O.length : Nat) : Int) = p.C.length := by omega
  have c3b : ((p.T.length : Nat) : Int) = p.F.length := by omega
  rw [chkP_maps hM hno hok c3] at he
  have hB := bitmaps_A p (by omega) (by omega) (fun i hi => by have := hno i hi; omega)
  have hBl : (allB p).length ≤ 100000 := by
   have h1 : (allB p).length = p.C.flatten.length + p.F.length := List.length_append
   have h2 := preB_len (C := p.C) (fun i hi => by have := hno i hi; omega) _ (Nat.le_refl _)
   rw [preB_all] at h2
   omega
  generalize allB p = L at *
  have hb := @chkA_bad L
  have hs := @chkA_size L
  repeat (first
   | refine AWp.seq ?_
   | refine thenA_n ?_
   | refine AWp.block ?_
   | refine AWp.skip ?_
   | refine AWp.exit ?_
   | refine AWp.condF rfl cnF ?_
   | (refine rG 9 ?_
      refine kA ?_
      refine kD ?_
      refine kE ?_
      refine qr5 (aO tyOk) ?_
      refine qr5f aJ ?_
      refine aB ?_)
   | (refine rG 14 ?_
      refine kD ?_
      refine kE ?_
      refine qr5 (aO tyOk) ?_
      refine kD ?_
      refine kE ?_
      refine qr5 (aO tyOk) ?_
      refine qr5f aJ ?_
      refine kA ?_
      refine kD ?_
      refine kE ?_
      refine qr5 (aO tyOk) ?_
      refine kD ?_
      refine kE ?_
      refine qr5 (aO tyOk) ?_
      refine qr5f aJ ?_
      refine qr4 aR ?_
      refine aB ?_)
   | (refine rG 16 ?_
      refine kF ?_
      refine aH rfl rfl rfl rfl Try.func43 rfl (by kernel_rfl) (hB) ?_
      refine kC ?_
      refine aB ?_)
   | (refine rG 17 ?_
      refine kC ?_
      refine aB ?_))
  refine AWp.round (fun k : Nat => mkSt 109 [(6, .c (lsB L)), (7, .c (iC k))] [] [])
   (fun k => k ≤ L.length ∧ GoodL L k) (fun k => L.length - k) 0 ⟨Nat.zero_le _, fun _ h => absurd h (Nat.not_lt_zero _)⟩ ?_ (fun k hk => ?_)
  ·refine Wk.mk [] rfl rfl rfl ?_ trivial
   exact allT
  obtain ⟨hk, hg⟩ := hk
  by_cases hkl : k < L.length
  ·have hkl' : (k : Int) < L.length := by omega
   have h0 : 0 < L.length := by omega
   have hC := rbCheck_A (L.getD k bpZ).W (L.getD k bpZ).H (L.getD k bpZ).n (L.getD k bpZ).d
   by_cases e1 : chk (L.getD k bpZ).W (L.getD k bpZ).H (L.getD k bpZ).n = 0
   ·rw [e1] at hC
    by_cases e2 : (L.getD k bpZ).W = (L.getD 0 bpZ).W ∧ (L.getD k bpZ).H = (L.getD 0 bpZ).H
    ·have hgs := GoodL.succ hg e1 e2
     obtain ⟨e2a, e2b⟩ := e2
     repeat (first
      | refine AWp.seq ?_
      | refine thenA_n ?_
      | refine AWp.block ?_
      | refine AWp.skip ?_
      | refine inBlk_n ?_
      | refine AWp.condT rfl cnT ?_
      | refine AWp.condF rfl cnF ?_
      | (refine rG 18 ?_
         (iterate 2 refine kA ?_)
         refine qr5 (aO tyOk) ?_
         refine qr5t aK ?_
         refine aB ?_)
      | (refine rG 19 ?_
         refine kA ?_
         refine qr4w2 aL ?_
         refine kC ?_
         refine aB ?_)
      | (refine rG 20 ?_
         (iterate 2 refine kA ?_)
         refine qr8eo2 (aP (k := k) tyOk) ?_
         refine qr5o (aT tyOk) ?_
         refine aH rfl rfl rfl rfl Try.func44 rfl (by kernel_rfl) (hC) ?_
         refine kC ?_
         refine aB ?_)
      | (refine rG 21 ?_
         refine kA ?_
         refine qr5 aW ?_
         refine aB ?_)
      | (refine AWp.draw (id := 23) mixed ?_; (iterate 2 refine kA ?_); refine qr8eo2 (aP (k := k) tyOk) ?_; refine qr7 (AList.fieldPl tyOk) ?_; refine qr5o (aV tyOk) ?_; refine kA ?_; refine qr8eo2 (aP (k := 0) tyOk) ?_; refine qr7 (AList.fieldPl tyOk) ?_; refine qr5o (aV tyOk) ?_; refine qr5f aJ ?_; (iterate 3 refine kA ?_); refine qr8eo2 (aP (k := k) tyOk) ?_; refine qr7 (AList.fieldPl tyOk) ?_; refine qr5o (aV tyOk) ?_; refine kA ?_; refine qr8eo2 (aP (k := 0) tyOk) ?_; refine qr7 (AList.fieldPl tyOk) ?_; refine qr5o (aV tyOk) ?_; refine qr5f aJ ?_; refine qr4 aR ?_; refine aB ⟨by kernel_rfl, ?_⟩))
     refine ⟨k + 1, ⟨hkl, hgs⟩, Wk.mk [] rfl rfl rfl ?_ trivial, by omega⟩
     exact allT
    ·rw [hs hkl hg e1 e2] at he
     subst he
     by_cases e2a : (L.getD k bpZ).W = (L.getD 0 bpZ).W
     ·have e2b : ¬ (L.getD k bpZ).H = (L.getD 0 bpZ).H := fun h => e2 ⟨e2a, h⟩
      repeat (first
       | refine AWp.seq ?_
       | refine thenA_n ?_
       | refine AWp.block ?_
       | refine AWp.skip ?_
       | refine AWp.ret ?_
       | refine thenA_r ?_
       | refine inBlk_r ?_
       | refine AWp.condT rfl cnT ?_
       | refine AWp.condF rfl cnF ?_
       | (refine rG 18 ?_
          (iterate 2 refine kA ?_)
          refine qr5 (aO tyOk) ?_
          refine qr5t aK ?_
          refine aB ?_)
       | (refine rG 20 ?_
          (iterate 2 refine kA ?_)
          refine qr8eo2 (aP (k := k) tyOk) ?_
          refine qr5o (aT tyOk) ?_
          refine aH rfl rfl rfl rfl Try.func44 rfl (by kernel_rfl) (hC) ?_
          refine kC ?_
          refine aB ?_)
       | (refine rG 21 ?_
          refine kA ?_
          refine qr5 aW ?_
          refine aB ?_)
       | (refine AWp.draw (id := 23) mixed ?_; (iterate 2 refine kA ?_); refine qr8eo2 (aP (k := k) tyOk) ?_; refine qr7 (AList.fieldPl tyOk) ?_; refine qr5o (aV tyOk) ?_; refine kA ?_; refine qr8eo2 (aP (k := 0) tyOk) ?_; refine qr7 (AList.fieldPl tyOk) ?_; refine qr5o (aV tyOk) ?_; refine qr5f aJ ?_; (iterate 3 refine kA ?_); refine qr8eo2 (aP (k := k) tyOk) ?_; refine qr7 (AList.fieldPl tyOk) ?_; refine qr5o (aV tyOk) ?_; refine kA ?_; refine qr8eo2 (aP (k := 0) tyOk) ?_; refine qr7 (AList.fieldPl tyOk) ?_; refine qr5o (aV tyOk) ?_; refine qr5t aK ?_; refine qr4 aR ?_; refine aB ⟨by kernel_rfl, ?_⟩)
       | (refine rG 24 ?_
          refine kC ?_
          refine aB ?_))
      refine ⟨mkSt 109 [(2, .c (iC 13))] [] [], [], Wk.mk [] rfl rfl rfl ?_ trivial, rfl, rfl, ARets.one (x := .c _) (ARes.tmp rfl rfl)⟩
      exact allT
     ·repeat (first
       | refine AWp.seq ?_
       | refine thenA_n ?_
       | refine AWp.block ?_
       | refine AWp.skip ?_
       | refine AWp.ret ?_
       | refine thenA_r ?_
       | refine inBlk_r ?_
       | refine AWp.condT rfl cnT ?_
       | refine AWp.condF rfl cnF ?_
       | (refine rG 18 ?_
          (iterate 2 refine kA ?_)
          refine qr5 (aO tyOk) ?_
          refine qr5t aK ?_
          refine aB ?_)
       | (refine rG 20 ?_
          (iterate 2 refine kA ?_)
          refine qr8eo2 (aP (k := k) tyOk) ?_
          refine qr5o (aT tyOk) ?_
          refine aH rfl rfl rfl rfl Try.func44 rfl (by kernel_rfl) (hC) ?_
          refine kC ?_
          refine aB ?_)
       | (refine rG 21 ?_
          refine kA ?_
          refine qr5 aW ?_
          refine aB ?_)
       | (refine AWp.draw (id := 23) mixed ?_; (iterate 2 refine kA ?_); refine qr8eo2 (aP (k := k) tyOk) ?_; refine qr7 (AList.fieldPl tyOk) ?_; refine qr5o (aV tyOk) ?_; refine kA ?_; refine qr8eo2 (aP (k := 0) tyOk) ?_; refine qr7 (AList.fieldPl tyOk) ?_; refine qr5o (aV tyOk) ?_; refine qr5t aK ?_; refine kA ?_; (iterate 10 refine qr2 aG ?_); refine qr4 aS ?_; refine aB ⟨by kernel_rfl, ?_⟩)
       | (refine rG 24 ?_
          refine kC ?_
          refine aB ?_))
      refine ⟨mkSt 109 [(2, .c (iC 13))] [] [], [], Wk.mk [] rfl rfl rfl ?_ trivial, rfl, rfl, ARets.one (x := .c _) (ARes.tmp rfl rfl)⟩
      exact allT
   ·rw [hb hkl hg e1] at he
    rw [he] at hC e1
    repeat (first
     | refine AWp.seq ?_
     | refine thenA_n ?_
     | refine AWp.block ?_
     | refine AWp.skip ?_
     | refine AWp.ret ?_
     | refine thenA_r ?_
     | refine inBlk_r ?_
     | refine AWp.condT rfl cnT ?_
     | (refine rG 18 ?_
        (iterate 2 refine kA ?_)
        refine qr5 (aO tyOk) ?_
        refine qr5t aK ?_
        refine aB ?_)
     | (refine rG 20 ?_
        (iterate 2 refine kA ?_)
        refine qr8eo2 (aP (k := k) tyOk) ?_
        refine qr5o (aT tyOk) ?_
        refine aH rfl rfl rfl rfl Try.func44 rfl (by kernel_rfl) (hC) ?_
        refine kC ?_
        refine aB ?_)
     | (refine rG 21 ?_
        refine kA ?_
        refine qr5t aK ?_
        refine aB ?_)
     | (refine rG 22 ?_
        refine kA ?_
        refine kC ?_
        refine aB ?_))
    refine ⟨mkSt 109 [(2, .c (iC e))] [] [], [], Wk.mk [] rfl rfl rfl ?_ trivial, rfl, rfl, ARets.one (x := .c _) (ARes.tmp rfl rfl)⟩
    exact allT
  ·have hkl' : ¬ (k : Int) < L.length := by omega
   obtain rfl : k = L.length := by omega
   rw [chkA_ok hg] at he
   subst he
   repeat (first
    | refine AWp.seq ?_
    | refine thenA_n ?_
    | refine AWp.exit ?_
    | refine AWp.ret ?_
    | refine AWp.condF rfl cnF ?_
    | (refine rG 18 ?_
       (iterate 2 refine kA ?_)
       refine qr5 (aO tyOk) ?_
       refine qr5f aJ ?_
       refine aB ?_)
    | (refine rG 25 ?_
       refine kC ?_
       refine aB ?_))
   refine ⟨mkSt 109 [(2, .c (iC 0))] [] [], [], Wk.mk [] rfl rfl rfl ?_ trivial, rfl, rfl, ARets.one (x := .c _) (ARes.tmp rfl rfl)⟩
   exact allT
 ·rw [chkP_len hM hno hok c3] at he
  subst he
  by_cases c3a : p.O.length = p.C.length
  ·have c3a' : ((p.O.length : Nat) : Int) = p.C.length := by omega
   have c3b : ¬ ((p.T.length : Nat) : Int) = p.F.length := by omega
   repeat (first
    | refine AWp.seq ?_
    | refine thenA_n ?_
    | refine AWp.exit ?_
    | refine AWp.ret ?_
    | refine thenA_r ?_
    | refine AWp.condT rfl cnT ?_
    | refine AWp.condF rfl cnF ?_
    | (refine rG 9 ?_
       refine kA ?_
       refine kD ?_
       refine kE ?_
       refine qr5 (aO tyOk) ?_
       refine qr5f aJ ?_
       refine aB ?_)
    | (refine rG 14 ?_
       refine kD ?_
       refine kE ?_
       refine qr5 (aO tyOk) ?_
       refine kD ?_
       refine kE ?_
       refine qr5 (aO tyOk) ?_
       refine qr5f aJ ?_
       refine kA ?_
       refine kD ?_
       refine kE ?_
       refine qr5 (aO tyOk) ?_
       refine kD ?_
       refine kE ?_
       refine qr5 (aO tyOk) ?_
       refine qr5t aK ?_
       refine qr4 aR ?_
       refine aB ?_)
    | (refine rG 15 ?_
       refine kC ?_
       refine aB ?_))
   refine ⟨mkSt 109 [(2, .c (iC 1))] [] [], [], Wk.mk [] rfl rfl rfl ?_ trivial, rfl, rfl, ARets.one (x := .c _) (ARes.tmp rfl rfl)⟩
   exact allT
  ·have c3a' : ¬ ((p.O.length : Nat) : Int) = p.C.length := by omega
   repeat (first
    | refine AWp.seq ?_
    | refine thenA_n ?_
    | refine AWp.exit ?_
    | refine AWp.ret ?_
    | refine thenA_r ?_
    | refine AWp.condT rfl cnT ?_
    | refine AWp.condF rfl cnF ?_
    | (refine rG 9 ?_
       refine kA ?_
       refine kD ?_
       refine kE ?_
       refine qr5 (aO tyOk) ?_
       refine qr5f aJ ?_
       refine aB ?_)
    | (refine rG 14 ?_
       refine kD ?_
       refine kE ?_
       refine qr5 (aO tyOk) ?_
       refine kD ?_
       refine kE ?_
       refine qr5 (aO tyOk) ?_
       refine qr5t aK ?_
       refine kA ?_
       (iterate 7 refine qr2 aG ?_)
       refine qr4 aS ?_
       refine aB ?_)
    | (refine rG 15 ?_
       refine kC ?_
       refine aB ?_))
   refine ⟨mkSt 109 [(2, .c (iC 1))] [] [], [], Wk.mk [] rfl rfl rfl ?_ trivial, rfl, rfl, ARets.one (x := .c _) (ARes.tmp rfl rfl)⟩
   exact allT
end Go.Proofs.Ytjjaehpkccejaaa
end

section
namespace Go.Proofs.Ytjjaehpkccejaaa
open Go.RowKit Go.Flow Go.AV Go.Plain
theorem freeV_congr {p : Pb} {n : Nat} {f g : Nat → Int} {c : Int} (h : ∀ k, k < n → f k = g k) : freeV p n f c = freeV p n g c := by
 unfold freeV
 congr 1
 rw [Bool.eq_iff_iff, List.all_eq_true, List.all_eq_true]
 constructor
 ·intro h1 k hk
  rw [← h k (List.mem_range.1 hk)]; exact h1 k hk
 ·intro h1 k hk
  rw [h k (List.mem_range.1 hk)]; exact h1 k hk
abbrev rsB (p : Pb) (st : Int) : AB := ⟨false, 1, 6, 102, lF (pbC p ++ [iC st])⟩
theorem lendR {S : St} {all : List Nat} {p : Pb} {i1 : Nat} {st : Int} {F : Nat → Nat → CV} (h1 : S.h i1 = some ⟨false, 1, 6, 102, F⟩) (hF : cellsFrom (F 0) 0 6 = pbC p ++ [iC st]) : LendOk2 S all [i1] [rsB p st] :=
 LendOk2.box h1 (by
  rw [hF]
  exact ⟨.imm rfl, .imm rfl, .imm rfl, .imm rfl, .imm rfl, .imm rfl, trivial⟩) rfl trivial
theorem backR {ids ni : List Nat} {p : Pb} {st : Int} : BackB ids ni [rsB p st] [rsB p st] := BackB.same (fun k hk j hj => by
 obtain rfl : k = 0 := Nat.lt_one_iff.mp hk
 have hj : j < 6 := hj
 have : j = 0 ∨ j = 1 ∨ j = 2 ∨ j = 3 ∨ j = 4 ∨ j = 5 := by omega
 rcases this with rfl | rfl | rfl | rfl | rfl | rfl <;> rfl) trivial
set_option maxHeartbeats 4000000 in
set_option maxRecDepth 100000 in
theorem rfrom_A (p : Pb) (hp : p.fit) : ∀ (m : Nat) (ch : List Int) (n : Nat) (st : Int), n = ch.length → n + m = p.C.length → ChOk p ch → (0 ≤ st ∧ st ≤ 20000) →
 GCalls Try.prog 51 [.c (.pt 1000 6 0 0), .c (.ls n 1 (iF (fI ch)))] [rsB p st] (.tu [.c (lsI (fromV p m ch st).1), .c (iC (fromV p m ch st).2.1)]) [rsB p (fromV p m ch st).2.2] []
 | 0, ch, n, st, hn, hm, hch, hst => by
   have hlen : (n : Int) = p.C.length := by omega
   obtain ⟨V, hV⟩ : ∃ V, fromV p 0 ch st = V := ⟨_, rfl⟩
   rw [hV]
   replace hV : (ch, (0 : Int), st) = V := hV
   subst hV
   refine ge_at Try.func51 rfl rfl Try.ntmps51 rfl ?_
   repeat (first
    | refine AWp.seq ?_
    | refine thenA_n ?_
    | refine AWp.ret ?_
    | refine thenA_r ?_
    | refine AWp.condT rfl cnT ?_
    | (refine rG 0 ?_
       (iterate 2 refine kC ?_)
       refine aB ?_)
    | (refine rG 1 ?_
       refine kA ?_
       refine qr5 (aO tyOk) ?_
       refine kC ?_
       refine aB ?_)
    | (refine rG 2 ?_
       (iterate 2 refine kA ?_)
       refine AList.nilPt rfl rfl rfl rfl ?_
       (iterate 2 refine kD ?_)
       refine kE ?_
       refine qr5 (aO tyOk) ?_
       refine qr5t aK ?_
       refine aB ?_)
    | (refine rG 3 ?_
       refine kA ?_
       (iterate 2 refine kC ?_)
       refine aB ?_))
   subst hn
   refine ⟨mkL 70 1 [(4, .c (lsI (ch))), (5, .c (iC (0)))] [(1000, rsB p (st))] [], [], _, [rsB p (st)], [], ⟨rfl, rfl, rfl⟩, rfl, Wk.mkL [] rfl rfl rfl rfl rfl ?_ ?_, rfl, rfl, GRets.two (x := .c _) (y := .c _) (GRes.tmp rfl) (GRes.tmp rfl)⟩
   ·exact allT
   ·exact ⟨HeapOk.lent rfl rfl rfl rfl, trivial⟩
 | m + 1, ch, n, st, hn, hm, hch, hst => by
   have hlt : n < p.C.length := by omega
   have hlt' : ¬ (n : Int) = p.C.length := by omega
   have hnn : ch.length = n := hn.symm
   have hsn := fun c : Int => chI_snoc ch c
   rw [hnn] at hsn
   obtain ⟨L, hL⟩ : ∃ L, p.C.getD n [] = L := ⟨_, rfl⟩
   have hLl : L.length ≤ 32 := by rw [← hL]; exact hp.l _ (getD_mem28 hlt)
   have hcF : chF p.C n 0 = lsB L := by rw [← hL]
   have hcl := hp.c
   have hpk := fun c (h : c < L.length) => hp.pk hlt (c := c) (by rw [hL]; exact h)
   have hfree : ∀ c : Int, PkOk p n c → ACalls Try.prog 46 [.ag (pbC p), .c (.ls (n + 1) 1 (iF (fI (ch ++ [c]))))] (.c (bC (freeV p n (fI ch) c))) := fun c h1 => by
    have h2 := rfree_A p hp n (fI (ch ++ [c])) (fun k hk => (hch.snoc (by rw [hnn]; exact h1)) k (by rw [List.length_append]; simp; omega))
    have e1 : fI (ch ++ [c]) n = c := by rw [← hnn]; exact fI_last ch c
    rw [e1, freeV_congr (g := fI ch) fun k hk => fI_snoc ch c k (by omega)] at h2
    exact h2
   have hih := fun st c hst (h1 : PkOk p n c) => rfrom_A p hp m (ch ++ [c]) (n + 1) st (by rw [List.length_append, hnn]; rfl) (by omega) (hch.snoc (by rw [hnn]; exact h1)) hst
   obtain ⟨V, hV⟩ : ∃ V, fromV p (m + 1) ch st = V := ⟨_, rfl⟩
   rw [hV]
   replace hV : tryV (fromV p m) p ch L.length 0 st = V := by rw [← hL, ← hnn]; exact hV
   refine ge_at Try.func51 rfl rfl Try.ntmps51 rfl ?_
   repeat (first
    | refine AWp.seq ?_
    | refine thenA_n ?_
    | refine AWp.block ?_
    | refine AWp.skip ?_
    | refine AWp.condF rfl cnF ?_
    | (refine rG 0 ?_
       (iterate 2 refine kC ?_)
       refine aB ?_)
    | (refine rG 1 ?_
       refine kA ?_
       refine qr5 (aO tyOk) ?_
       refine kC ?_
       refine aB ?_)
    | (refine rG 2 ?_
       (iterate 2 refine kA ?_)
       refine AList.nilPt rfl rfl rfl rfl ?_
       (iterate 2 refine kD ?_)
       refine kE ?_
       refine qr5 (aO tyOk) ?_
       refine qr5f aJ ?_
       refine aB ?_)
    | (refine rG 4 ?_
       refine kC ?_
       refine aB ?_))
   refine AWp.round (fun s : Nat × Int =>
    mkL 70 1 [(0, .c (.pt 1000 6 0 0)), (1, .c (.ls n 1 (iF (fI ch)))), (6, .c (iC n)), (7, .c (iC s.1))] [(1000, rsB p s.2)] []
    ) (fun s => s.1 ≤ L.length ∧ (0 ≤ s.2 ∧ s.2 ≤ 20000) ∧ tryV (fromV p m) p ch (L.length - s.1) s.1 s.2 = V) (fun s => L.length - s.1) (0, st) ⟨Nat.zero_le _, hst, hV⟩ ?_ (fun s hs => ?_)
   ·refine Wk.mkL [] rfl rfl rfl rfl rfl ?_ ?_
    ·repeat (first | exact trivial | refine ⟨⟨_, rfl, by first | exact LeA.c (LeC.ptB _ _ _ _ rfl) | exact leT⟩, ?_⟩)
    ·exact ⟨HeapOk.lent rfl rfl rfl rfl, trivial⟩
   obtain ⟨c, st1⟩ := s
   obtain ⟨hc, hst1, hinv⟩ := hs
   dsimp only at hc hst1 hinv ⊢
   by_cases hcl : c < L.length
   ·have hcl' : (c : Int) < L.length := by omega
    obtain ⟨r, hr⟩ : ∃ r, L.length - c = r + 1 := ⟨L.length - c - 1, by omega⟩
    have hr' : L.length - (c + 1) = r := by omega
    rw [hr] at hinv
    by_cases hov : 20000 < st1 + 1
    ·have hov' : st1 + 1 > 20000 := hov
     rw [tryV_over hov] at hinv
     subst hinv
     repeat (first
      | refine AWp.seq ?_
      | refine thenA_n ?_
      | refine AWp.block ?_
      | refine AWp.skip ?_
      | refine AWp.ret ?_
      | refine thenA_r ?_
      | refine inBlk_r ?_
      | refine AWp.condT rfl cnT ?_
      | (refine rG 5 ?_
         (iterate 2 refine kA ?_)
         refine AList.nilPt rfl rfl rfl rfl ?_
         (iterate 2 refine kD ?_)
         refine kE ?_
         refine kA ?_
         refine qr8eo2 (aP (k := n) tyOk) ?_
         refine AList.load1lE tyOk (hcF) rfl rfl rfl rfl rfl oM ?_
         refine qr5 (aO tyOk) ?_
         refine qr5t aK ?_
         refine aB ?_)
      | (refine rG 7 ?_
         refine kA ?_
         refine AList.nilPt rfl rfl rfl rfl ?_
         refine kD ?_
         refine kE ?_
         refine qr4w2 aL ?_
         refine AList.nilPt rfl rfl rfl rfl ?_
         refine kD ?_
         refine kI ?_
         refine aB ?_)
      | (refine rG 8 ?_
         refine kA ?_
         refine AList.nilPt rfl rfl rfl rfl ?_
         refine kD ?_
         refine kE ?_
         refine qr5t aK ?_
         refine aB ?_)
      | (refine rG 9 ?_
         (iterate 2 refine kC ?_)
         refine aB ?_))
     refine ⟨mkL 70 1 [(4, .c (lsI ([]))), (5, .c (iC (61)))] [(1000, rsB p (st1 + 1))] [], [], _, [rsB p (st1 + 1)], [], ⟨rfl, rfl, rfl⟩, rfl, Wk.mkL [] rfl rfl rfl rfl rfl ?_ ?_, rfl, rfl, GRets.two (x := .c _) (y := .c _) (GRes.tmp rfl) (GRes.tmp rfl)⟩
     ·exact allT
     ·exact ⟨HeapOk.lent rfl rfl rfl rfl, trivial⟩
    ·have hov' : ¬ st1 + 1 > 20000 := hov
     have hfr := hfree (c : Int) (hpk c hcl)
     obtain ⟨f, hf⟩ : ∃ f, freeV p n (fI ch) c = f := ⟨_, rfl⟩
     rw [hf] at hfr
     rw [← hnn] at hf
     repeat (first
      | refine AWp.seq ?_
      | refine thenA_n ?_
      | refine AWp.block ?_
      | refine AWp.skip ?_
      | refine AWp.condT rfl cnT ?_
      | refine AWp.condF rfl cnF ?_
      | (refine rG 5 ?_
         (iterate 2 refine kA ?_)
         refine AList.nilPt rfl rfl rfl rfl ?_
         (iterate 2 refine kD ?_)
         refine kE ?_
         refine kA ?_
         refine qr8eo2 (aP (k := n) tyOk) ?_
         refine AList.load1lE tyOk (hcF) rfl rfl rfl rfl rfl oM ?_
         refine qr5 (aO tyOk) ?_
         refine qr5t aK ?_
         refine aB ?_)
      | (refine rG 7 ?_
         refine kA ?_
         refine AList.nilPt rfl rfl rfl rfl ?_
         refine kD ?_
         refine kE ?_
         refine qr4w2 aL ?_
         refine AList.nilPt rfl rfl rfl rfl ?_
         refine kD ?_
         refine kI ?_
         refine aB ?_)
      | (refine rG 8 ?_
         refine kA ?_
         refine AList.nilPt rfl rfl rfl rfl ?_
         refine kD ?_
         refine kE ?_
         refine qr5f aJ ?_
         refine aB ?_)
      | (refine rG 10 ?_
         refine qr7 (AList.emptySl tyOk) ?_
         refine kA ?_
         refine AList.appL0 tyOk rfl rfl rfl rfl rfl rfl rfl rfl rfl rfl oM oM ?_
         refine kA ?_
         refine qr11 (AList.litSl tyOk) ?_
         refine AList.appL tyOk rfl rfl rfl rfl rfl rfl rfl rfl rfl rfl oM oM ?_
         refine kC ?_
         refine aB ?_))
     refine AWp.weak (S' :=
      mkL 70 1 [(0, .c (.pt 1000 6 0 0)), (1, .c (.ls n 1 (iF (fI ch)))), (6, .c (iC n)), (7, .c (iC c)), (8, .c (.ls (n + 1) 1 (iF (fI (ch ++ [(c : Int)])))))] [(1000, rsB p (st1 + 1))] []
      ) (Wk.mkL [] rfl rfl rfl rfl rfl ?_ ?_) ?_
     ·repeat (first | exact trivial | refine ⟨⟨_, rfl, by first | exact LeA.c (LeC.ptB _ _ _ _ rfl) | exact LeA.c (LeC.fz rfl rfl rfl (hsn _)) | exact leT⟩, ?_⟩)
     ·exact ⟨HeapOk.lent rfl rfl rfl rfl, trivial⟩
     cases f with
     | false =>
       rw [tryV_skip hov hf] at hinv
       repeat (first
        | refine thenA_n ?_
        | refine AWp.exit ?_
        | refine thenA_e ?_
        | refine inBlk_hit ?_
        | refine AWp.condT rfl cnT ?_
        | (refine rG 6 ?_
           refine kA ?_
           refine qr4w2 aL ?_
           refine kC ?_
           refine aB ?_)
        | (refine rG 11 ?_
           refine kA ?_
           refine AList.nilPt rfl rfl rfl rfl ?_
           refine kD ?_
           refine kF ?_
           refine kA ?_
           refine aH rfl rfl rfl rfl Try.func46 rfl (by kernel_rfl) (hfr) ?_
           refine qr3 AList.notB ?_
           refine aB ?_))
       refine ⟨(c + 1, st1 + 1), ⟨hcl, ⟨by dsimp only; omega, by dsimp only; omega⟩, by dsimp only; rw [hr']; exact hinv⟩, Wk.mkL [] rfl rfl rfl rfl rfl ?_ ?_, by dsimp only; omega⟩
       ·repeat (first | exact trivial | refine ⟨⟨_, rfl, by first | exact LeA.c (LeC.ptB _ _ _ _ rfl) | exact leT⟩, ?_⟩)
       ·exact ⟨HeapOk.lent rfl rfl rfl rfl, trivial⟩
     | true =>
       have hgo := hih (st1 + 1) (c : Int) ⟨by omega, by omega⟩ (hpk c hcl)
       have hso := fromV_st (p := p) m (ch ++ [(c : Int)]) (st1 + 1) ⟨by omega, by omega⟩
       have hto := tryV_out (rec := fromV p m) (r := r) hov hf
       have htg := tryV_go (rec := fromV p m) (r := r) hov hf
       generalize fromV p m (ch ++ [(c : Int)]) (st1 + 1) = o at hgo hso hto htg
       obtain ⟨ol, oe, os⟩ := o
       dsimp only at hgo hto htg
       obtain ⟨hso1, hso2⟩ := hso
       dsimp only at hso1 hso2
       repeat (first
        | refine AWp.seq ?_
        | refine thenA_n ?_
        | refine AWp.skip ?_
        | refine AWp.condF rfl cnF ?_
        | (refine rG 11 ?_
           refine kA ?_
           refine AList.nilPt rfl rfl rfl rfl ?_
           refine kD ?_
           refine kF ?_
           refine kA ?_
           refine aH rfl rfl rfl rfl Try.func46 rfl (by kernel_rfl) (hfr) ?_
           refine qr3 AList.notB ?_
           refine aB ?_)
        | (refine rG 12 ?_
           (iterate 2 refine kA ?_)
           refine AList.callG [1000] [] [rsB p (st1 + 1)] [rsB p os] [] [rsB p os] [] rfl rfl FnV.func rfl Try.func51 rfl (by kernel_rfl) (lendR rfl rfl) rfl (backT2 (lsI ol) (iC oe) rfl rfl) (backR) (trivial) (hgo) ?_
           refine kA ?_
           (iterate 2 refine qr4 aN ?_)
           (iterate 2 refine kC ?_)
           refine aB ?_))
       by_cases he : oe = 60
       ·rw [htg he] at hinv
        have hos := hso2 he
        repeat (first
         | refine thenA_n ?_
         | refine AWp.skip ?_
         | refine inBlk_n ?_
         | refine AWp.condF rfl cnF ?_
         | (refine rG 6 ?_
            refine kA ?_
            refine qr4w2 aL ?_
            refine kC ?_
            refine aB ?_)
         | (refine rG 13 ?_
            refine kA ?_
            refine qr5f aJ ?_
            refine aB ?_))
        refine ⟨(c + 1, os), ⟨hcl, ⟨hso1, hos⟩, by dsimp only; rw [hr']; exact hinv⟩, Wk.mkL [] rfl rfl rfl rfl rfl ?_ ?_, by dsimp only; omega⟩
        ·repeat (first | exact trivial | refine ⟨⟨_, rfl, by first | exact LeA.c (LeC.ptB _ _ _ _ rfl) | exact leT⟩, ?_⟩)
        ·exact ⟨HeapOk.lent rfl rfl rfl rfl, trivial⟩
       ·rw [hto he] at hinv
        subst hinv
        repeat (first
         | refine AWp.seq ?_
         | refine thenA_n ?_
         | refine AWp.ret ?_
         | refine thenA_r ?_
         | refine inBlk_r ?_
         | refine AWp.condT rfl cnT ?_
         | (refine rG 13 ?_
            refine kA ?_
            refine qr5t aK ?_
            refine aB ?_)
         | (refine rG 14 ?_
            (iterate 2 refine kA ?_)
            (iterate 2 refine kC ?_)
            refine aB ?_))
        refine ⟨mkL 70 1 [(4, .c (lsI (ol))), (5, .c (iC (oe)))] [(1000, rsB p (os))] [], [], _, [rsB p (os)], [], ⟨rfl, rfl, rfl⟩, rfl, Wk.mkL [] rfl rfl rfl rfl rfl ?_ ?_, rfl, rfl, GRets.two (x := .c _) (y := .c _) (GRes.tmp rfl) (GRes.tmp rfl)⟩
        ·exact allT
        ·exact ⟨HeapOk.lent rfl rfl rfl rfl, trivial⟩
   ·have hcl' : ¬ (c : Int) < L.length := by omega
    obtain rfl : c = L.length := by omega
    rw [Nat.sub_self] at hinv
    replace hinv : ([], 60, st1) = V := hinv
    subst hinv
    repeat (first
     | refine AWp.seq ?_
     | refine thenA_n ?_
     | refine AWp.exit ?_
     | refine AWp.ret ?_
     | refine AWp.condF rfl cnF ?_
     | (refine rG 5 ?_
        (iterate 2 refine kA ?_)
        refine AList.nilPt rfl rfl rfl rfl ?_
        (iterate 2 refine kD ?_)
        refine kE ?_
        refine kA ?_
        refine qr8eo2 (aP (k := n) tyOk) ?_
        refine AList.load1lE tyOk (hcF) rfl rfl rfl rfl rfl oM ?_
        refine qr5 (aO tyOk) ?_
        refine qr5f aJ ?_
        refine aB ?_)
     | (refine rG 15 ?_
        (iterate 2 refine kC ?_)
        refine aB ?_))
    refine ⟨mkL 70 1 [(4, .c (lsI ([]))), (5, .c (iC (60)))] [(1000, rsB p (st1))] [], [], _, [rsB p (st1)], [], ⟨rfl, rfl, rfl⟩, rfl, Wk.mkL [] rfl rfl rfl rfl rfl ?_ ?_, rfl, rfl, GRets.two (x := .c _) (y := .c _) (GRes.tmp rfl) (GRes.tmp rfl)⟩
    ·exact allT
    ·exact ⟨HeapOk.lent rfl rfl rfl rfl, trivial⟩
set_option maxHeartbeats 1000000 in
set_option maxRecDepth 100000 in
theorem rSolve28_A (p : Pb) (hp : p.ok) : ACalls Try.prog 22 [.ag (pbC p)] (.tu [.c (lsI (solveV p).1), .c (iC (solveV p).2)]) := by
 have hC := rCheck28_A p hp
 unfold solveV
 obtain ⟨e, he⟩ : ∃ e, chkP p = e := ⟨_, rfl⟩
 rw [he] at hC ⊢
 by_cases h0 : e = 0
 ·subst h0
  have hfit := chkP_fit hp he
  have hfr := (rfrom_A p hfit p.C.length [] 0 0 rfl (by omega) (fun k hk => absurd hk (Nat.not_lt_zero _)) ⟨by decide, by decide⟩).cv (args' := [.c (.pt 1000 6 0 0), .c (.p (.slice none 0 0))]) ⟨.c (Cv.refl _), .c Cv.nil, trivial⟩
  rw [if_pos rfl]
  generalize fromV p p.C.length [] 0 = o at *
  obtain ⟨ol, oe, os⟩ := o
  refine acalls_at Try.func22 rfl rfl Try.ntmps22 rfl ?_
  repeat (first
   | refine AWp.seq ?_
   | refine thenA_n ?_
   | refine AWp.skip ?_
   | refine AWp.ret ?_
   | refine AWp.condF rfl cnF ?_
   | (refine rG 0 ?_
      refine qr5 aQ ?_
      (iterate 2 refine kC ?_)
      refine aB ?_)
   | (refine rG 1 ?_
      refine kF ?_
      refine aH rfl rfl rfl rfl Try.func13 rfl (by kernel_rfl) (hC) ?_
      refine kC ?_
      refine aB ?_)
   | (refine rG 2 ?_
      refine kA ?_
      refine qr5 aW ?_
      refine aB ?_)
   | (refine rG 4 ?_
      refine kF ?_
      refine qr8 (aX tyOk) ?_
      refine qr5 aQ ?_
      refine kC ?_
      refine aB ?_)
   | (refine rG 5 ?_
      refine kA ?_
      refine AList.callG [13] [] [rsB p 0] [rsB p os] [] [rsB p os] [] rfl rfl FnV.func rfl Try.func51 rfl (by kernel_rfl) (lendR rfl rfl) rfl (backT2 (lsI ol) (iC oe) rfl rfl) (backR) (trivial) (hfr) ?_
      (iterate 2 refine qr4 aN ?_)
      (iterate 2 refine kC ?_)
      refine aB ?_))
  refine ⟨mkSt 18 [(2, .c (lsI (ol))), (3, .c (iC (oe)))] [] [], [], Wk.mk [] rfl rfl rfl ?_ trivial, rfl, rfl, ARets.two (x := .c _) (y := .c _) (ARes.tmp rfl rfl) (ARes.tmp rfl rfl)⟩
  exact allT
 ·rw [if_neg h0]
  refine acalls_at Try.func22 rfl rfl Try.ntmps22 rfl ?_
  repeat (first
   | refine AWp.seq ?_
   | refine thenA_n ?_
   | refine AWp.ret ?_
   | refine thenA_r ?_
   | refine AWp.condT rfl cnT ?_
   | (refine rG 0 ?_
      refine qr5 aQ ?_
      (iterate 2 refine kC ?_)
      refine aB ?_)
   | (refine rG 1 ?_
      refine kF ?_
      refine aH rfl rfl rfl rfl Try.func13 rfl (by kernel_rfl) (hC) ?_
      refine kC ?_
      refine aB ?_)
   | (refine rG 2 ?_
      refine kA ?_
      refine qr5t aK ?_
      refine aB ?_)
   | (refine rG 3 ?_
      refine kA ?_
      (iterate 2 refine kC ?_)
      refine aB ?_))
  refine ⟨mkSt 18 [(2, .c (lsI ([]))), (3, .c (iC (e)))] [] [], [], Wk.mk [] rfl rfl rfl ?_ trivial, rfl, rfl, ARets.two (x := .c _) (y := .c _) (ARes.tmp rfl rfl) (ARes.tmp rfl rfl)⟩
  exact allT
end Go.Proofs.Ytjjaehpkccejaaa
end

section
namespace Go.Proofs.Ytjjaehpkccejaaa
open Go.RowKit Go.Flow Go.AV Go.Plain
set_option maxHeartbeats 1000000 in
set_option maxRecDepth 100000 in
theorem md21_A (bl sh : Int) : ACalls Try.prog 33 [.c (iC bl), .c (iC sh)] (.ag (rdC (md21 bl sh))) := by
 unfold md21
 have hM := Mod_A bl 3 (by omega) (by omega)
 have h0 := Int.emod_nonneg bl (show (3 : Int) ≠ 0 by omega)
 have h3 := Int.emod_lt_of_pos bl (show (0 : Int) < 3 by omega)
 generalize bl % 3 = c at *
 have hS := side21_A c 0 (by omega)
 have hpos : 0 < (2 * c + 1) * (2 * c + 1) ∧ (2 * c + 1) * (2 * c + 1) ≤ 25 := by
  have : c = 0 ∨ c = 1 ∨ c = 2 := by omega
  rcases this with rfl | rfl | rfl <;> decide
 have hM2 := Mod_A sh ((2 * c + 1) * (2 * c + 1)) (by omega) (by omega)
 have h4 := Int.emod_nonneg sh (show (2 * c + 1) * (2 * c + 1) ≠ 0 by omega)
 have h5 := Int.emod_lt_of_pos sh (show (0 : Int) < (2 * c + 1) * (2 * c + 1) by omega)
 generalize hs : 2 * c + 1 = s at *
 generalize sh % (s * s) = v at *
 refine acalls_at Try.func33 rfl rfl Try.ntmps33 rfl ?_
 repeat (first
  | refine AWp.seq ?_
  | refine thenA_n ?_
  | refine AWp.ret ?_
  | (refine rG 0 ?_
     refine qr5 (aM tyOk) ?_
     refine aB ?_)
  | (refine rG 1 ?_
     refine kA ?_
     refine aH rfl rfl rfl rfl Try.func18 rfl (by kernel_rfl) (hM) ?_
     refine qr8 (aX tyOk) ?_
     refine qr5 (aM tyOk) ?_
     refine kI ?_
     refine aB ?_)
  | (refine AWp.draw (id := 2) mixed ?_; refine kA ?_; refine kF ?_; refine aH rfl rfl rfl rfl Try.func59 rfl (by kernel_rfl) (hS) ?_; refine kF ?_; refine aH rfl rfl rfl rfl Try.func59 rfl (by kernel_rfl) (hS) ?_; refine qr4w2 AList.mul ?_; refine aH rfl rfl rfl rfl Try.func18 rfl (by kernel_rfl) (hM2) ?_; refine qr4w2 aL ?_; refine kD ?_; refine kI ?_; refine aB ⟨by kernel_rfl, ?_⟩)
  | (refine rG 3 ?_
     refine kF ?_
     refine kI ?_
     refine aB ?_))
 refine ⟨mkSt 19 [(4, .c (.pt 4 2 0 0))] [(4, ⟨false, 1, 2, 65, lF (rdC ⟨c, 1 + v⟩)⟩)] [4], [(4, ⟨false, 1, 2, 65, lF (rdC ⟨c, 1 + v⟩)⟩)], Wk.mk [(4, some 4)] rfl rfl rfl ?_ ?_, rfl, rfl, ARets.one (x := .ag _) (ARes.box tyOk rfl rfl rfl rfl rfl rfl rfl)⟩
 ·exact allT
 ·exact allH
def pasK (d : Nat → Bool) (W H : Int) (e : Nat → Bool) (k p : Nat) : Bool := if p < k then pasD d W H e p else false
theorem pasK_new {d : Nat → Bool} {W H : Int} {e : Nat → Bool} {i j : Nat} (hi : i < 6) : pasK d W H e (j * 6 + i + 1) (j * 6 + i) = (hasB 6 5 d i j || hasB W H e ((i : Int) - 0) ((j : Int) - 0)) := by
 unfold pasK pasD
 rw [if_pos (by omega), show (j * 6 + i) % 6 = i by omega, show (j * 6 + i) / 6 = j by omega]
theorem pasK_old {d : Nat → Bool} {W H : Int} {e : Nat → Bool} {k p : Nat} (h : ¬ p = k) : pasK d W H e (k + 1) p = pasK d W H e k p := by
 unfold pasK
 by_cases h1 : p < k
 ·rw [if_pos h1, if_pos (by omega)]
 ·rw [if_neg h1, if_neg (by omega)]
set_option maxHeartbeats 2000000 in
set_option maxRecDepth 100000 in
theorem Paste_A (d : Nat → Bool) (W H : Int) (n : Nat) (e : Nat → Bool) (hb : chk W H n = 0) : ACalls Try.prog 37 [.ag (bmpV 6 5 30 d), .ag (bmpV W H n e), .c (iC 0), .c (iC 0)] (.ag (bmpV 6 5 30 (pasD d W H e))) := by
 have hN := New_T 6 5 30 (by omega) (by omega) rfl (by omega)
 have ha : chk 6 5 30 = 0 := by decide
 have hC := rbCheck_A 6 5 30 d
 rw [ha] at hC
 refine acalls_at Try.func37 rfl rfl Try.ntmps37 rfl ?_
 repeat (first
  | refine AWp.seq ?_
  | refine thenA_n ?_
  | refine AWp.block ?_
  | refine AWp.skip ?_
  | refine AWp.condF rfl cnF ?_
  | (refine rG 0 ?_
     (iterate 2 refine qr5 aQ ?_)
     refine qr5 (aM tyOk) ?_
     refine aB ?_)
  | (refine rG 1 ?_
     refine kD ?_
     refine kE ?_
     refine kD ?_
     refine kE ?_
     refine AList.callT rfl rfl rfl rfl rfl Try.func34 rfl (by kernel_rfl) (hN) (fun _ _ _ _ => rfl) ?_
     refine kA ?_
     (iterate 2 refine qr4 aN ?_)
     refine qr5 (aM tyOk) ?_
     refine kI ?_
     refine kC ?_
     refine aB ?_)
  | (refine rG 2 ?_
     refine kA ?_
     refine qr5 aW ?_
     refine kA ?_
     refine kF ?_
     refine aH rfl rfl rfl rfl Try.func44 rfl (by kernel_rfl) (hC) ?_
     refine qr5 aW ?_
     refine qr4 aR ?_
     refine aB ?_)
  | (refine rG 4 ?_
     refine kC ?_
     refine aB ?_))
 refine AWp.round (fun j : Nat =>
  mkSt 65 [(4, .c (.pt 4 3 0 0)), (5, .c (.pt 5 3 0 0)), (8, .c (.pt 8 3 0 0)), (9, .c (.pt 9 3 0 0)), (2, .c (iC 0)), (3, .c (iC 0)), (11, .c (iC (j : Nat)))] [(4, ⟨false, 1, 3, 47, lF (bmpV 6 5 30 d)⟩), (5, ⟨false, 1, 3, 47, lF (bmpV W H n e)⟩), (8, ⟨false, 1, 3, 47, lF [iC 0, iC 0, .p (.slice none 0 0)]⟩), (9, ⟨false, 1, 3, 47, lF [iC 6, iC 5, .ow 20]⟩), (20, rowBl 30 (pasK d W H e (j * 6)))] [4, 5, 8, 9, 20]
  ) (fun j => j ≤ 5) (fun j => 5 - j) 0 (Nat.zero_le _) ?_ (fun j hj => ?_)
 ·refine Wk.mk [(4, some 4), (5, some 5), (8, some 8), (9, some 9), (20, some 18)] rfl rfl rfl ?_ ?_
  ·exact allT
  ·exact ⟨hSm, hSm, hSm, HeapOk.box rfl rfl ⟨LeC.int rfl, LeC.int rfl, LeC.ow _ _ rfl, trivial⟩ rfl, HeapOk.row rfl rfl rfl (fun i _ => cell1 ⟨rfl, rfl⟩), trivial⟩
 by_cases hjl : j < 5
 ·have hjl' : (j : Int) < 5 := by omega
  repeat (first
   | refine AWp.seq ?_
   | refine thenA_n ?_
   | refine AWp.block ?_
   | refine AWp.skip ?_
   | refine AWp.condT rfl cnT ?_
   | (refine rG 5 ?_
      refine kA ?_
      refine kD ?_
      refine kE ?_
      refine qr5t aK ?_
      refine aB ?_)
   | (refine rG 7 ?_
      refine kC ?_
      refine aB ?_))
  refine AWp.round (fun i : Nat =>
   mkSt 65 [(4, .c (.pt 4 3 0 0)), (5, .c (.pt 5 3 0 0)), (8, .c (.pt 8 3 0 0)), (9, .c (.pt 9 3 0 0)), (2, .c (iC 0)), (3, .c (iC 0)), (11, .c (iC j)), (12, .c (iC (i : Nat)))] [(4, ⟨false, 1, 3, 47, lF (bmpV 6 5 30 d)⟩), (5, ⟨false, 1, 3, 47, lF (bmpV W H n e)⟩), (8, ⟨false, 1, 3, 47, lF [iC 0, iC 0, .p (.slice none 0 0)]⟩), (9, ⟨false, 1, 3, 47, lF [iC 6, iC 5, .ow 20]⟩), (20, rowBl 30 (pasK d W H e (j * 6 + i)))] [4, 5, 8, 9, 20]
   ) (fun i => i ≤ 6) (fun i => 6 - i) 0 (Nat.zero_le _) ?_ (fun i hi => ?_)
  ·refine Wk.mk [(4, some 4), (5, some 5), (8, some 8), (9, some 9), (20, some 20)] rfl rfl rfl ?_ ?_
   ·exact allT
   ·exact ⟨hSm, hSm, hSm, HeapOk.box rfl rfl ⟨LeC.int rfl, LeC.int rfl, LeC.ow _ _ rfl, trivial⟩ rfl, HeapOk.row rfl rfl rfl (fun i _ => cell1 ⟨rfl, rfl⟩), trivial⟩
  by_cases hil : i < 6
  ·have hil' : (i : Int) < 6 := by omega
   have g1 := Get_A 6 5 30 d i j ha
   have g2 := Get_A W H n e ((i : Int) - 0) ((j : Int) - 0) hb
   have hnew := pasK_new (d := d) (W := W) (H := H) (e := e) (j := j) hil
   have hlt : j * 6 + i < 30 := by omega
   cases h1 : hasB 6 5 d i j with
   | true =>
     rw [h1] at g1 hnew
     repeat (first
      | refine AWp.seq ?_
      | refine thenA_n ?_
      | refine AWp.block ?_
      | refine AWp.skip ?_
      | refine inBlk_n ?_
      | refine AWp.condT rfl cnT ?_
      | (refine rG 8 ?_
         refine kA ?_
         refine kD ?_
         refine kE ?_
         refine qr5t aK ?_
         refine aB ?_)
      | (refine rG 9 ?_
         refine kA ?_
         refine qr4w2 aL ?_
         refine kC ?_
         refine aB ?_)
      | (refine AWp.draw (id := 10) mixed ?_; refine kD ?_; refine kE ?_; refine kA ?_; refine kD ?_; refine kE ?_; refine qr4w2 AList.mul ?_; refine kA ?_; refine qr4w2 aL ?_; refine kF ?_; (iterate 2 refine kA ?_); refine aH rfl rfl rfl rfl Try.func61 rfl (by kernel_rfl) (g1) ?_; refine kA ?_; (iterate 8 refine qr2 aG ?_); refine qr4 aS ?_; refine qr10eo (AList.idxOw (k := j * 6 + i) tyOk) ?_; refine kI ?_; refine aB ⟨by kernel_rfl, ?_⟩))
     refine ⟨i + 1, hil, Wk.mk [(4, some 4), (5, some 5), (8, some 8), (9, some 9), (20, some 20)] rfl rfl rfl ?_ ?_, by omega⟩
     ·exact allT
     ·exact ⟨hSm, hSm, hSm, HeapOk.box rfl rfl ⟨LeC.int rfl, LeC.int rfl, LeC.ow _ _ rfl, trivial⟩ rfl, HeapOk.row rfl rfl rfl (set_oneB (e := true) (pasK d W H e (j * 6 + i + 1)) (by rw [hnew]; rfl) (fun k hk => pasK_old hk)), trivial⟩
   | false =>
     rw [h1] at g1 hnew
     generalize hasB W H e ((i : Int) - 0) ((j : Int) - 0) = v at g2 hnew
     repeat (first
      | refine AWp.seq ?_
      | refine thenA_n ?_
      | refine AWp.block ?_
      | refine AWp.skip ?_
      | refine inBlk_n ?_
      | refine AWp.condT rfl cnT ?_
      | (refine rG 8 ?_
         refine kA ?_
         refine kD ?_
         refine kE ?_
         refine qr5t aK ?_
         refine aB ?_)
      | (refine rG 9 ?_
         refine kA ?_
         refine qr4w2 aL ?_
         refine kC ?_
         refine aB ?_)
      | (refine AWp.draw (id := 10) mixed ?_; refine kD ?_; refine kE ?_; refine kA ?_; refine kD ?_; refine kE ?_; refine qr4w2 AList.mul ?_; refine kA ?_; refine qr4w2 aL ?_; refine kF ?_; (iterate 2 refine kA ?_); refine aH rfl rfl rfl rfl Try.func61 rfl (by kernel_rfl) (g1) ?_; refine kA ?_; refine kF ?_; (iterate 2 refine kA ?_); refine qr4w2 AList.sub ?_; (iterate 2 refine kA ?_); refine qr4w2 AList.sub ?_; refine aH rfl rfl rfl rfl Try.func61 rfl (by kernel_rfl) (g2) ?_; refine qr4 aR ?_; refine qr10eo (AList.idxOw (k := j * 6 + i) tyOk) ?_; refine kI ?_; refine aB ⟨by kernel_rfl, ?_⟩))
     refine ⟨i + 1, hil, Wk.mk [(4, some 4), (5, some 5), (8, some 8), (9, some 9), (20, some 20)] rfl rfl rfl ?_ ?_, by omega⟩
     ·exact allT
     ·exact ⟨hSm, hSm, hSm, HeapOk.box rfl rfl ⟨LeC.int rfl, LeC.int rfl, LeC.ow _ _ rfl, trivial⟩ rfl, HeapOk.row rfl rfl rfl (set_oneB (e := v) (pasK d W H e (j * 6 + i + 1)) (by rw [hnew]; rfl) (fun k hk => pasK_old hk)), trivial⟩
  ·have hil' : ¬ (i : Int) < 6 := by omega
   obtain rfl : i = 6 := by omega
   repeat (first
    | refine AWp.seq ?_
    | refine thenA_n ?_
    | refine AWp.exit ?_
    | refine thenA_e ?_
    | refine inBlk_n ?_
    | refine inBlk_hit ?_
    | refine AWp.condF rfl cnF ?_
    | (refine rG 6 ?_
       refine kA ?_
       refine qr4w2 aL ?_
       refine kC ?_
       refine aB ?_)
    | (refine rG 8 ?_
       refine kA ?_
       refine kD ?_
       refine kE ?_
       refine qr5f aJ ?_
       refine aB ?_))
   refine ⟨j + 1, hjl, Wk.mk [(4, some 4), (5, some 5), (8, some 8), (9, some 9), (20, some 20)] rfl rfl rfl ?_ ?_, by omega⟩
   ·exact allT
   ·exact ⟨hSm, hSm, hSm, HeapOk.box rfl rfl ⟨LeC.int rfl, LeC.int rfl, LeC.ow _ _ rfl, trivial⟩ rfl, HeapOk.row rfl rfl rfl (fun i _ => cell1 ⟨by rw [show (j + 1) * 6 = j * 6 + 6 by omega], rfl⟩), trivial⟩
 ·have hjl' : ¬ (j : Int) < 5 := by omega
  obtain rfl : j = 5 := by omega
  repeat (first
   | refine AWp.seq ?_
   | refine thenA_n ?_
   | refine AWp.exit ?_
   | refine AWp.ret ?_
   | refine AWp.condF rfl cnF ?_
   | (refine rG 5 ?_
      refine kA ?_
      refine kD ?_
      refine kE ?_
      refine qr5f aJ ?_
      refine aB ?_)
   | (refine rG 11 ?_
      refine kF ?_
      refine kI ?_
      refine aB ?_))
  refine ⟨mkSt 65 [(8, .c (.pt 8 3 0 0))] [(8, ⟨false, 1, 3, 47, lF (bmpV 6 5 30 (pasD d W H e))⟩)] [8], [(8, ⟨false, 1, 3, 47, lF (bmpV 6 5 30 (pasD d W H e))⟩)], Wk.mk [(8, some 8)] rfl rfl rfl ?_ ?_, rfl, rfl, ARets.one (x := .ag _) (ARes.box tyOk rfl rfl rfl rfl rfl rfl rfl)⟩
  ·exact allT
  ·exact ⟨HeapOk.box rfl rfl ⟨LeC.int rfl, LeC.int rfl, LeC.fz rfl rfl rfl (fun i hi => cell1 ⟨by show bC _ = bC _; unfold pasK; rw [if_pos (by omega)], rfl⟩), trivial⟩ rfl, trivial⟩
end Go.Proofs.Ytjjaehpkccejaaa
end
