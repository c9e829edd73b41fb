/- AssignChecks: the statement. No condition. -/
import Derived.Test.YtjjaehpkccejaaaG34
import Derived.Test.YtjjaehpkccejaaaG33
import Derived.Test.YtjjaehpkccejaaaG32
import Derived.Test.YtjjaehpkccejaaaHA28zor09
import Derived.Test.YtjjaehpkccejaaaG20
import Derived.Test.YtjjaehpkccejaaaG27
import Derived.Test.YtjjaehpkccejaaaG26
import Derived.Test.YtjjaehpkccejaaaG06
import Derived.Test.YtjjaehpkccejaaaHA28zor01
import Derived.Laws.Pointers
import Derived.Test.YtjjaehpkccejaaaHA28zor08
import Derived.Test.YtjjaehpkccejaaaG25
import Derived.WideKeyMaps
import Derived.MapKept
import Derived.Carry
import Derived.Test.YtjjaehpkccejaaaG05
import Derived.Test.YtjjaehpkccejaaaG21
import Derived.Test.YtjjaehpkccejaaaHA28zor04
import Derived.Test.YtjjaehpkccejaaaG22
import Derived.Test.YtjjaehpkccejaaaHA28zor05
import Derived.Test.YtjjaehpkccejaaaG17
import Derived.Test.YtjjaehpkccejaaaHA28zor07
import Derived.Test.YtjjaehpkccejaaaG14
import Derived.Test.YtjjaehpkccejaaaHA28zor03
import Derived.Test.YtjjaehpkccejaaaG10
import Derived.Test.YtjjaehpkccejaaaG08
import Derived.Test.YtjjaehpkccejaaaG04
import Derived.Great.BuildSlice
import Derived.Test.YtjjaehpkccejaaaG31
import Derived.Test.YtjjaehpkccejaaaG13
import Derived.Test.YtjjaehpkccejaaaG07
import Derived.Test.YtjjaehpkccejaaaHA28zor02
import Derived.Test.YtjjaehpkccejaaaProg
import Derived.Shelf.Abstract
import Derived.Test.YtjjaehpkccejaaaG29
import Derived.Test.YtjjaehpkccejaaaG09
import Derived.Laws.StructEq
import Derived.WalkKit
import Derived.Test.YtjjaehpkccejaaaG19
import Derived.Laws.Cover3
import Derived.Test.YtjjaehpkccejaaaG30
import Derived.Test.YtjjaehpkccejaaaG01
import Derived.RangeFuncNested
import Derived.Test.YtjjaehpkccejaaaG03
import Derived.Test.YtjjaehpkccejaaaG15
import Derived.Test.YtjjaehpkccejaaaG28
import Derived.Lib.Hide
import Derived.Deep.QuietTactic
import Derived.BigQuiet
import Derived.Deep.DrawnRows
import Derived.Deep.AppendLies
import Derived.Test.YtjjaehpkccejaaaG02
import Derived.RangeFuncLeaves
import Derived.RangeFuncRecord
import Derived.Test.YtjjaehpkccejaaaG18
import Derived.Maps.AppendAt
import Derived.OwnWalk
import Derived.Scope
import Derived.DeepKeys4
import Derived.StillTail
import Derived.Below
import Derived.Deep.Draws
import Derived.KernelRfl
import Derived.OrdersIn
import Derived.TacticsIn
import Derived.RangeFuncCalls
import Derived.Test.YtjjaehpkccejaaaG24
import Derived.Test.YtjjaehpkccejaaaG16
import Derived.Test.YtjjaehpkccejaaaG12
import Derived.Test.YtjjaehpkccejaaaG11
import Derived.Test.YtjjaehpkccejaaaHA28zor12
import Derived.Test.YtjjaehpkccejaaaG35
import Derived.Test.YtjjaehpkccejaaaHA28zor11
import Derived.Test.YtjjaehpkccejaaaG36
import Derived.Test.YtjjaehpkccejaaaHA28zor10
import Derived.Test.YtjjaehpkccejaaaRows
import Derived.Test.YtjjaehpkccejaaaG23
import Derived.Test.YtjjaehpkccejaaaHA28zor06
import Derived.ProofKit
import Derived.OpenShut
import Derived.Deep.DeepHandedRow
import Derived.SizedLaws
import Derived.ChangeSlices
import Derived.ChangeSame
set_option linter.unusedSimpArgs false
set_option linter.unusedVariables false
section
namespace Go.Proofs.Ytjjaehpkccejaaa
open Go.RowKit Go.Flow Go.AV Go.Plain
def chX (N : Nat) (f : Nat → Int) (k : Nat) : Int := if k < N then f k else 0
/-- Choice k by its number. -/
def chK (p : Pb) (N : Nat) (f : Nat → Int) (k : Nat) : Int := if 0 < (p.C.getD k []).length then chX N f k % ((p.C.getD k []).length : Int) else chX N f k
set_option maxHeartbeats 1000000 in
set_option maxRecDepth 100000 in
theorem choice_A (p : Pb) (hp : p.ok) (N : Nat) (f : Nat → Int) (hN : N ≤ 4611686018427387904) : ACalls Try.prog 16 [.ag (pbC p), .c (.ls N 1 (iF f))] (.c (.ls p.C.length 1 (iF (chK p N f)))) := by
 have lC := hp.lC
 refine acalls_at Try.func16 rfl rfl Try.ntmps16 rfl ?_
 repeat (first
  | refine AWp.seq ?_
  | refine thenA_n ?_
  | refine AWp.block ?_
  | (refine rG 0 ?_
     refine qr5 aQ ?_
     refine kC ?_
     refine aB ?_)
  | (refine rG 1 ?_
     refine kC ?_
     refine aB ?_)
  | (refine rG 2 ?_
     refine kD ?_
     refine kE ?_
     refine qr5 (aO tyOk) ?_
     refine kA ?_
     refine aB ?_))
 refine AWp.round (fun k : Nat =>
  mkSt 43 [(1, .c (.ls N 1 (iF f))), (2, .c (.pt 2 5 0 0)), (5, .c (.ow 20)), (10, .c (iC p.C.length)), (11, .c (iC (k : Nat))) ] [(2, ⟨false, 1, 5, 32, lF (pbC p)⟩), (20, rowI (k : Nat) (chK p N f))] [2, 20]
  ) (fun k => k ≤ p.C.length) (fun k => p.C.length - k) 0 (Nat.zero_le _) ?_ (fun k hk => ?_)
 ·refine Wk.mk [(2, some 2), (20, none)] rfl rfl rfl ?_ ?_
  ·exact allT
  ·exact ⟨hSm, HeapOk.nil rfl rfl, trivial⟩
 by_cases hkl : k < p.C.length
 ·have hkl' : (k : Int) < p.C.length := by omega
  obtain ⟨L, hL⟩ : ∃ L, p.C.getD k [] = L := ⟨_, rfl⟩
  have hcF : chF p.C k 0 = lsB L := by rw [← hL]
  have hLl : L.length ≤ 1000000 := by rw [← hL]; exact hp.lc _ (getD_mem28 hkl)
  have hkK : chK p N f k = if 0 < L.length then chX N f k % (L.length : Int) else chX N f k := by unfold chK; rw [hL]
  repeat (first
   | refine AWp.seq ?_
   | refine thenA_n ?_
   | refine AWp.block ?_
   | refine AWp.skip ?_
   | refine AWp.condT rfl cnT ?_
   | (refine rG 3 ?_
      refine qr5t aK ?_
      refine aB ?_)
   | (refine rG 4 ?_
      refine kA ?_
      refine kC ?_
      refine aB ?_)
   | (refine rG 5 ?_
      refine kC ?_
      refine aB ?_)
   | (refine rG 6 ?_
      (iterate 2 refine kA ?_)
      refine qr5 (aO tyOk) ?_
      refine qr5 aW ?_
      refine aB ?_))
  refine AWp.cut (
   mkSt 43 [(1, .c (.ls N 1 (iF f))), (2, .c (.pt 2 5 0 0)), (5, .c (.ow 20)), (10, .c (iC p.C.length)), (11, .c (iC (k : Nat))) , (6, .c (iC (k : Nat))), (7, .c (iC (chX N f k)))] [(2, ⟨false, 1, 5, 32, lF (pbC p)⟩), (20, rowI (k : Nat) (chK p N f))] [2, 20]
   ) ?_ (fun S1 hw1 => AWp.weak hw1 ?_)
  ·unfold chX
   by_cases h : k < N
   ·have h' : (k : Int) < N := by omega
    rw [if_pos h]
    repeat (first
     | refine AWp.condT rfl cnT ?_
     | (refine rG 7 ?_
        (iterate 2 refine kA ?_)
        refine qr8eo2 (aP (k := k) tyOk) ?_
        refine qr5o (aV tyOk) ?_
        refine kC ?_
        refine aB ?_))
    refine ⟨rfl, Wk.mk [(2, some 2), (20, some 20)] rfl rfl rfl ?_ ?_⟩
    ·exact allT
    ·exact ⟨hSm, HeapOk.row rfl rfl rfl (fun i _ => cell1 ⟨rfl, rfl⟩), trivial⟩
   ·have h' : ¬ (k : Int) < N := by omega
    rw [if_neg h]
    repeat (first
     | refine AWp.skip ?_
     | refine AWp.condF rfl cnF ?_)
    refine ⟨rfl, Wk.mk [(2, some 2), (20, some 20)] rfl rfl rfl ?_ ?_⟩
    ·exact allT
    ·exact ⟨hSm, HeapOk.row rfl rfl rfl (fun i _ => cell1 ⟨rfl, rfl⟩), trivial⟩
  generalize chX N f k = x at *
  refine AWp.seq ?_
  repeat (first
   | refine AWp.seq ?_
   | refine thenA_n ?_
   | (refine rG 8 ?_
      refine kD ?_
      refine kE ?_
      refine kA ?_
      refine qr8eo2 (aP (k := k) tyOk) ?_
      refine AList.load1lE tyOk (hcF) rfl rfl rfl rfl rfl oM ?_
      refine qr5 (aO tyOk) ?_
      refine qr5 aW ?_
      refine aB ?_))
  refine AWp.cut (
   mkSt 43 [(1, .c (.ls N 1 (iF f))), (2, .c (.pt 2 5 0 0)), (5, .c (.ow 20)), (10, .c (iC p.C.length)), (11, .c (iC (k : Nat))) , (7, .c (iC (chK p N f k)))] [(2, ⟨false, 1, 5, 32, lF (pbC p)⟩), (20, rowI (k : Nat) (chK p N f))] [2, 20]
   ) ?_ (fun S1 hw1 => AWp.weak hw1 ?_)
  ·by_cases h : 0 < L.length
   ·have h' : ((L.length : Nat) : Int) > 0 := by omega
    have hM := Mod_A x L.length (by omega) (by omega)
    rw [if_pos h] at hkK
    rw [hkK]
    repeat (first
     | refine AWp.condT rfl cnT ?_
     | (refine rG 9 ?_
        refine kA ?_
        refine kD ?_
        refine kE ?_
        refine kA ?_
        refine qr8eo2 (aP (k := k) tyOk) ?_
        refine AList.load1lE tyOk (hcF) rfl rfl rfl rfl rfl oM ?_
        refine qr5 (aO tyOk) ?_
        refine aH rfl rfl rfl rfl Try.func18 rfl (by kernel_rfl) (hM) ?_
        refine kC ?_
        refine aB ?_))
    refine ⟨rfl, Wk.mk [(2, some 2), (20, some 20)] rfl rfl rfl ?_ ?_⟩
    ·exact allT
    ·exact ⟨hSm, HeapOk.row rfl rfl rfl (fun i _ => cell1 ⟨rfl, rfl⟩), trivial⟩
   ·have h' : ¬ ((L.length : Nat) : Int) > 0 := by omega
    rw [if_neg h] at hkK
    rw [hkK]
    have hM := Mod_A x 1 (by omega) (by omega)
    repeat (first
     | refine AWp.skip ?_
     | refine AWp.condF rfl cnF ?_)
    refine ⟨rfl, Wk.mk [(2, some 2), (20, some 20)] rfl rfl rfl ?_ ?_⟩
    ·exact allT
    ·exact ⟨hSm, HeapOk.row rfl rfl rfl (fun i _ => cell1 ⟨rfl, rfl⟩), trivial⟩
  repeat (first
   | refine thenA_n ?_
   | refine inBlk_n ?_
   | (refine rG 10 ?_
      (iterate 2 refine kA ?_)
      refine qr11 (AList.litSl tyOk) ?_
      refine AList.appL tyOk rfl rfl rfl rfl rfl rfl rfl rfl rfl rfl oM oM ?_
      refine kC ?_
      refine aB ?_)
   | (refine rG 11 ?_
      refine qr4w2 aL ?_
      refine kA ?_
      refine aB ?_))
  refine ⟨k + 1, hkl, Wk.mk [(2, some 2), (20, some 40)] rfl rfl rfl ?_ ?_, by omega⟩
  ·exact allT
  ·exact ⟨hSm, HeapOk.row rfl rfl rfl (app_F (fun _ _ => cell1 rfl) (cell1 rfl) (fun _ _ => cell1 rfl)), trivial⟩
 ·have hkl' : ¬ (k : Int) < p.C.length := by omega
  obtain rfl : k = p.C.length := by omega
  repeat (first
   | refine AWp.seq ?_
   | refine thenA_n ?_
   | refine AWp.exit ?_
   | refine AWp.ret ?_
   | refine AWp.condF rfl cnF ?_
   | (refine rG 3 ?_
      refine qr5f aJ ?_
      refine aB ?_)
   | (refine rG 12 ?_
      refine kA ?_
      refine kC ?_
      refine aB ?_))
  refine ⟨mkSt 43 [(4, .c (.ls p.C.length 1 (iF (chK p N f))))] [] [], [], Wk.mk [] rfl rfl rfl ?_ trivial, rfl, rfl, ARets.one (x := .c _) (ARes.tmp rfl rfl)⟩
  exact ⟨⟨_, rfl, .c (LeC.fz rfl rfl rfl (fun i _ => cell1 ⟨rfl, rfl⟩))⟩, trivial⟩
end Go.Proofs.Ytjjaehpkccejaaa
end

section
namespace Go.Proofs.Ytjjaehpkccejaaa
open Go.RowKit Go.Flow Go.AV Go.Plain
theorem sm_bd {p : Pb} (h : Sm p) : p.bd 200 := by
 obtain ⟨hR, hr, hC, hc, hF, hf, hO, hT⟩ := h
 have h65 : ∀ b : Bp, (∃ d, b = bp65 d) → BpBd 200 b := fun b ⟨d, e⟩ => by subst e; exact ⟨(by decide : -((200 : Nat) : Int) ≤ 6 ∧ (6 : Int) ≤ ((200 : Nat) : Int)), (by decide : 30 ≤ 200)⟩
 exact ⟨fun r h => (hr r h).2, by omega, by omega, by omega, by omega, by omega, fun l hl => ⟨by have := (hc l hl).1; omega, fun b hb => h65 b ((hc l hl).2 b hb)⟩, fun b hb => h65 b (hf b hb)⟩
abbrev pbZ : Pb := ⟨[], [], [], [], []⟩
theorem pbZ_ok : pbZ.ok := ⟨rd_nil, by decide, by decide, by decide, by decide, by decide, fun _ h => by cases h⟩
theorem pbZ_cv : LeL Cv [nl8, nl8, nl8, nl8, nl8] (pbC pbZ) := ⟨Cv.nil, Cv.nil, Cv.nil, Cv.nil, Cv.nil, trivial⟩
theorem facts28 (y : Pb) (hy : y.ok) (L : List CV) (hL : LeL Cv L (pbC y)) (m : Nat) (f : Nat → Int) (hm : m ≤ 9) : ∃ (e : Int) (v : Bool) (n : Nat) (g : Nat → Int) (v' : Bool),
 ACalls Try.prog 12 [.ag L] (.c (iC e)) ∧ ACalls Try.prog 13 [.ag L] (.c (iC e)) ∧
 ACalls Try.prog 14 [.ag L, .c (.ls m 1 (iF f))] (.c (bC v)) ∧ ACalls Try.prog 15 [.ag L, .c (.ls m 1 (iF f))] (.c (bC v)) ∧
 ACalls Try.prog 16 [.ag L, .c (.ls m 1 (iF f))] (.c (.ls n 1 (iF g))) ∧
 ACalls Try.prog 14 [.ag L, .c (.ls n 1 (iF g))] (.c (bC v')) ∧ ACalls Try.prog 15 [.ag L, .c (.ls n 1 (iF g))] (.c (bC v')) :=
 ⟨_, _, _, _, _, (Check28_A y hy).cv ⟨.ag hL, trivial⟩, (rCheck28_A y hy).cv ⟨.ag hL, trivial⟩, (Holds28_A y hy m f (by omega)).cv ⟨.ag hL, .c (Cv.refl _), trivial⟩, (rHolds28_A y hy m f (by omega)).cv ⟨.ag hL, .c (Cv.refl _), trivial⟩,
   (choice_A y hy m f (by omega)).cv ⟨.ag hL, .c (Cv.refl _), trivial⟩, (Holds28_A y hy y.C.length (chK y m f) hy.lC).cv ⟨.ag hL, .c (Cv.refl _), trivial⟩, (rHolds28_A y hy y.C.length (chK y m f) hy.lC).cv ⟨.ag hL, .c (Cv.refl _), trivial⟩⟩
set_option maxHeartbeats 4000000 in
set_option maxRecDepth 100000 in
theorem AssignChecks_A (ll : List (List Int)) (hll : LlOk ll) (q0 q1 q2 r0 r1 r2 : Int) (hq1 : -9223372036854775808 ≤ q1 ∧ q1 ≤ 9223372036854775807) (hr1 : -9223372036854775808 ≤ r1 ∧ r1 ≤ 9223372036854775807) (N : Nat) (f : Nat → Int) (hN : N ≤ 4611686018427387904) :
 ACalls Try.prog 3 [.c (lsL ll), .ag [iC q0, iC q1, iC q2, iC r0, iC r1, iC r2], .c (.ls N 1 (iF f))] (.c (bC true)) := by
 have hM := Made28_A ll hll
 obtain ⟨sm, -⟩ := made_sm ll
 have hSan := sanity28_A
 generalize made28 ll = p at *
 obtain ⟨x, hx, hO⟩ := Odd28_A 200 p (sm_bd sm) (by decide) (by decide) q0 q1 q2 hq1
 obtain ⟨z, hz, hO2⟩ := Odd28_A 240 x hx (by decide) (by decide) r0 r1 r2 hr1
 have hC0 := Check28_A p sm.ok
 rw [sm.chk] at hC0
 have e2 : min (N : Int) 9 = ((min N 9 : Nat) : Int) := by omega
 have e3 : min N 9 ≤ N := by omega
 have e4 : min N 9 ≤ 9 := by omega
 generalize min N 9 = m at e2 e3 e4
 refine acalls_at Try.func3 rfl rfl Try.ntmps3 rfl ?_
 repeat (first
  | refine AWp.seq ?_
  | refine thenA_n ?_
  | refine AWp.block ?_
  | (refine rG 0 ?_
     refine qr5 aQ ?_
     refine kC ?_
     refine aB ?_)
  | (refine rG 1 ?_
     refine aH rfl rfl rfl rfl Try.func9 rfl (by kernel_rfl) (hSan) ?_
     refine kC ?_
     refine aB ?_)
  | (refine rG 2 ?_
     (iterate 2 refine kA ?_)
     refine qr5 (aO tyOk) ?_
     refine qr4 AList.minI ?_
     refine AList.cut (l := 0) (h := m) tyOk rfl rfl rfl rfl rfl rfl rfl rfl ⟨_, _, rfl, by first | rfl | omega⟩ (by omega) (by omega) ?_
     refine kC ?_
     refine aB ?_)
  | (refine rG 3 ?_
     refine kA ?_
     refine aH rfl rfl rfl rfl Try.func10 rfl (by kernel_rfl) (hM) ?_
     refine qr5 (aM tyOk) ?_
     refine kI ?_
     refine aB ?_)
  | (refine rG 4 ?_
     refine kF ?_
     refine qr8o (aU tyOk) ?_
     refine kF ?_
     refine aH rfl rfl rfl rfl Try.func11 rfl (by kernel_rfl) (hO) ?_
     refine qr5 (aM tyOk) ?_
     refine kI ?_
     refine aB ?_)
  | (refine AWp.draw (id := 5) mixed ?_; (iterate 3 refine kF ?_); refine qr8o (aU tyOk) ?_; refine kF ?_; refine aH rfl rfl rfl rfl Try.func11 rfl (by kernel_rfl) (hO2) ?_; refine qr8 (aX tyOk) ?_; refine qr11 (AList.litSl tyOk) ?_; refine qr5 (aO tyOk) ?_; refine kA ?_; refine aB ⟨by kernel_rfl, ?_⟩))
 refine AWp.round (fun k : Nat => mkSt 69 [(2, .c (.ls m 1 (iF f))), (7, .c (bC true)), (8, .c (.pt 8 5 0 0)), (32, .c (.ls 4 5 (sF (pbC p ++ pbC x ++ pbC z ++ [nl8, nl8, nl8, nl8, nl8]) 5))), (33, .c (iC 4)), (34, .c (iC (k : Nat)))] [(8, ⟨false, 1, 5, 32, lF (pbC p)⟩)] [8])
  (fun k => k ≤ 4) (fun k => 4 - k) 0 (Nat.zero_le _) ?_ (fun k hk => ?_)
 ·refine Wk.mk [(8, some 8)] rfl rfl rfl ?_ ?_
  ·repeat (first | exact trivial | refine ⟨⟨_, rfl, by first | exact LeA.c (LeC.lz rfl (fun _ _ _ _ => by rw [Nat.zero_add])) | exact leT⟩, ?_⟩)
  ·exact allH
 have hk3 : k = 0 ∨ k = 1 ∨ k = 2 ∨ k = 3 ∨ k = 4 := by omega
 rcases hk3 with rfl | rfl | rfl | rfl | rfl
 ·obtain ⟨e, v, n, g, v', hc1, hc2, hh1, hh2, hx, hd1, hd2⟩ := facts28 p sm.ok _ (cvRefl _) m f e4
  have hv1 : (!(v == v)) = false := by simp
  have hv2 : (!(v' == v')) = false := by simp
  repeat (first
   | refine AWp.seq ?_
   | refine thenA_n ?_
   | refine AWp.block ?_
   | refine AWp.skip ?_
   | refine inBlk_n ?_
   | refine AWp.condT rfl cnT ?_
   | refine AWp.condF rfl cnF ?_
   | (refine rG 6 ?_
      refine qr5t aK ?_
      refine aB ?_)
   | (refine rG 7 ?_
      refine qr8eo2 (aP (k := 0) tyOk) ?_
      refine qr5o (aT tyOk) ?_
      refine qr5 (aM tyOk) ?_
      refine kI ?_
      refine aB ?_)
   | (refine AWp.draw (id := 8) mixed ?_; refine kF ?_; refine aH rfl rfl rfl rfl Try.func12 rfl (by kernel_rfl) (hc1) ?_; refine kF ?_; refine aH rfl rfl rfl rfl Try.func13 rfl (by kernel_rfl) (hc2) ?_; refine aJ rfl rfl rfl rfl rfl (by simp only [cmpP, eq_self, decide_true, Bool.not_true]) ?_; refine kA ?_; refine kF ?_; refine kA ?_; refine aH rfl rfl rfl rfl Try.func14 rfl (by kernel_rfl) (hh1) ?_; refine kF ?_; refine kA ?_; refine aH rfl rfl rfl rfl Try.func15 rfl (by kernel_rfl) (hh2) ?_; refine qr4k AList.neB ?_; refine qr4 aR ?_; refine aB ⟨by kernel_rfl, ?_⟩)
   | (refine rG 10 ?_
      refine kF ?_
      refine kA ?_
      refine aH rfl rfl rfl rfl Try.func16 rfl (by kernel_rfl) (hx) ?_
      refine kC ?_
      refine aB ?_)
   | (refine AWp.draw (id := 11) mixed ?_; refine kF ?_; refine kA ?_; refine aH rfl rfl rfl rfl Try.func14 rfl (by kernel_rfl) (hd1) ?_; refine kF ?_; refine kA ?_; refine aH rfl rfl rfl rfl Try.func15 rfl (by kernel_rfl) (hd2) ?_; refine qr4k AList.neB ?_; refine aB ⟨by kernel_rfl, ?_⟩)
   | (refine rG 13 ?_
      refine qr4w2 aL ?_
      refine kA ?_
      refine aB ?_))
  refine ⟨0 + 1, by omega, Wk.mk [(8, some 8)] rfl rfl rfl ?_ ?_, by omega⟩
  ·exact allT
  ·exact allH
 ·obtain ⟨e, v, n, g, v', hc1, hc2, hh1, hh2, hx, hd1, hd2⟩ := facts28 x (hx.ok (by decide)) _ (cvRefl _) m f e4
  have hv1 : (!(v == v)) = false := by simp
  have hv2 : (!(v' == v')) = false := by simp
  repeat (first
   | refine AWp.seq ?_
   | refine thenA_n ?_
   | refine AWp.block ?_
   | refine AWp.skip ?_
   | refine inBlk_n ?_
   | refine AWp.condT rfl cnT ?_
   | refine AWp.condF rfl cnF ?_
   | (refine rG 6 ?_
      refine qr5t aK ?_
      refine aB ?_)
   | (refine rG 7 ?_
      refine qr8eo2 (aP (k := 1) tyOk) ?_
      refine qr5o (aT tyOk) ?_
      refine qr5 (aM tyOk) ?_
      refine kI ?_
      refine aB ?_)
   | (refine AWp.draw (id := 8) mixed ?_; refine kF ?_; refine aH rfl rfl rfl rfl Try.func12 rfl (by kernel_rfl) (hc1) ?_; refine kF ?_; refine aH rfl rfl rfl rfl Try.func13 rfl (by kernel_rfl) (hc2) ?_; refine aJ rfl rfl rfl rfl rfl (by simp only [cmpP, eq_self, decide_true, Bool.not_true]) ?_; refine kA ?_; refine kF ?_; refine kA ?_; refine aH rfl rfl rfl rfl Try.func14 rfl (by kernel_rfl) (hh1) ?_; refine kF ?_; refine kA ?_; refine aH rfl rfl rfl rfl Try.func15 rfl (by kernel_rfl) (hh2) ?_; refine qr4k AList.neB ?_; refine qr4 aR ?_; refine aB ⟨by kernel_rfl, ?_⟩)
   | (refine rG 10 ?_
      refine kF ?_
      refine kA ?_
      refine aH rfl rfl rfl rfl Try.func16 rfl (by kernel_rfl) (hx) ?_
      refine kC ?_
      refine aB ?_)
   | (refine AWp.draw (id := 11) mixed ?_; refine kF ?_; refine kA ?_; refine aH rfl rfl rfl rfl Try.func14 rfl (by kernel_rfl) (hd1) ?_; refine kF ?_; refine kA ?_; refine aH rfl rfl rfl rfl Try.func15 rfl (by kernel_rfl) (hd2) ?_; refine qr4k AList.neB ?_; refine aB ⟨by kernel_rfl, ?_⟩)
   | (refine rG 13 ?_
      refine qr4w2 aL ?_
      refine kA ?_
      refine aB ?_))
  refine ⟨1 + 1, by omega, Wk.mk [(8, some 8)] rfl rfl rfl ?_ ?_, by omega⟩
  ·exact allT
  ·exact allH
 ·obtain ⟨e, v, n, g, v', hc1, hc2, hh1, hh2, hx, hd1, hd2⟩ := facts28 z (hz.ok (by decide)) _ (cvRefl _) m f e4
  have hv1 : (!(v == v)) = false := by simp
  have hv2 : (!(v' == v')) = false := by simp
  repeat (first
   | refine AWp.seq ?_
   | refine thenA_n ?_
   | refine AWp.block ?_
   | refine AWp.skip ?_
   | refine inBlk_n ?_
   | refine AWp.condT rfl cnT ?_
   | refine AWp.condF rfl cnF ?_
   | (refine rG 6 ?_
      refine qr5t aK ?_
      refine aB ?_)
   | (refine rG 7 ?_
      refine qr8eo2 (aP (k := 2) tyOk) ?_
      refine qr5o (aT tyOk) ?_
      refine qr5 (aM tyOk) ?_
      refine kI ?_
      refine aB ?_)
   | (refine AWp.draw (id := 8) mixed ?_; refine kF ?_; refine aH rfl rfl rfl rfl Try.func12 rfl (by kernel_rfl) (hc1) ?_; refine kF ?_; refine aH rfl rfl rfl rfl Try.func13 rfl (by kernel_rfl) (hc2) ?_; refine aJ rfl rfl rfl rfl rfl (by simp only [cmpP, eq_self, decide_true, Bool.not_true]) ?_; refine kA ?_; refine kF ?_; refine kA ?_; refine aH rfl rfl rfl rfl Try.func14 rfl (by kernel_rfl) (hh1) ?_; refine kF ?_; refine kA ?_; refine aH rfl rfl rfl rfl Try.func15 rfl (by kernel_rfl) (hh2) ?_; refine qr4k AList.neB ?_; refine qr4 aR ?_; refine aB ⟨by kernel_rfl, ?_⟩)
   | (refine rG 10 ?_
      refine kF ?_
      refine kA ?_
      refine aH rfl rfl rfl rfl Try.func16 rfl (by kernel_rfl) (hx) ?_
      refine kC ?_
      refine aB ?_)
   | (refine AWp.draw (id := 11) mixed ?_; refine kF ?_; refine kA ?_; refine aH rfl rfl rfl rfl Try.func14 rfl (by kernel_rfl) (hd1) ?_; refine kF ?_; refine kA ?_; refine aH rfl rfl rfl rfl Try.func15 rfl (by kernel_rfl) (hd2) ?_; refine qr4k AList.neB ?_; refine aB ⟨by kernel_rfl, ?_⟩)
   | (refine rG 13 ?_
      refine qr4w2 aL ?_
      refine kA ?_
      refine aB ?_))
  refine ⟨2 + 1, by omega, Wk.mk [(8, some 8)] rfl rfl rfl ?_ ?_, by omega⟩
  ·exact allT
  ·exact allH
 ·obtain ⟨e, v, n, g, v', hc1, hc2, hh1, hh2, hx, hd1, hd2⟩ := facts28 pbZ pbZ_ok _ pbZ_cv m f e4
  have hv1 : (!(v == v)) = false := by simp
  have hv2 : (!(v' == v')) = false := by simp
  repeat (first
   | refine AWp.seq ?_
   | refine thenA_n ?_
   | refine AWp.block ?_
   | refine AWp.skip ?_
   | refine inBlk_n ?_
   | refine AWp.condT rfl cnT ?_
   | refine AWp.condF rfl cnF ?_
   | (refine rG 6 ?_
      refine qr5t aK ?_
      refine aB ?_)
   | (refine rG 7 ?_
      refine qr8eo2 (aP (k := 3) tyOk) ?_
      refine qr5o (aT tyOk) ?_
      refine qr5 (aM tyOk) ?_
      refine kI ?_
      refine aB ?_)
   | (refine AWp.draw (id := 8) mixed ?_; refine kF ?_; refine aH rfl rfl rfl rfl Try.func12 rfl (by kernel_rfl) (hc1) ?_; refine kF ?_; refine aH rfl rfl rfl rfl Try.func13 rfl (by kernel_rfl) (hc2) ?_; refine aJ rfl rfl rfl rfl rfl (by simp only [cmpP, eq_self, decide_true, Bool.not_true]) ?_; refine kA ?_; refine kF ?_; refine kA ?_; refine aH rfl rfl rfl rfl Try.func14 rfl (by kernel_rfl) (hh1) ?_; refine kF ?_; refine kA ?_; refine aH rfl rfl rfl rfl Try.func15 rfl (by kernel_rfl) (hh2) ?_; refine qr4k AList.neB ?_; refine qr4 aR ?_; refine aB ⟨by kernel_rfl, ?_⟩)
   | (refine rG 10 ?_
      refine kF ?_
      refine kA ?_
      refine aH rfl rfl rfl rfl Try.func16 rfl (by kernel_rfl) (hx) ?_
      refine kC ?_
      refine aB ?_)
   | (refine AWp.draw (id := 11) mixed ?_; refine kF ?_; refine kA ?_; refine aH rfl rfl rfl rfl Try.func14 rfl (by kernel_rfl) (hd1) ?_; refine kF ?_; refine kA ?_; refine aH rfl rfl rfl rfl Try.func15 rfl (by kernel_rfl) (hd2) ?_; refine qr4k AList.neB ?_; refine aB ⟨by kernel_rfl, ?_⟩)
   | (refine rG 13 ?_
      refine qr4w2 aL ?_
      refine kA ?_
      refine aB ?_))
  refine ⟨3 + 1, by omega, Wk.mk [(8, some 8)] rfl rfl rfl ?_ ?_, by omega⟩
  ·exact allT
  ·exact allH
 ·repeat (first
   | refine AWp.seq ?_
   | refine thenA_n ?_
   | refine AWp.exit ?_
   | refine AWp.ret ?_
   | refine AWp.condF rfl cnF ?_
   | (refine rG 6 ?_
      refine qr5f aJ ?_
      refine aB ?_)
   | (refine rG 14 ?_
      (iterate 2 refine kA ?_)
      refine kF ?_
      refine aH rfl rfl rfl rfl Try.func12 rfl (by kernel_rfl) (hC0) ?_
      refine qr5 aW ?_
      refine qr4 aS ?_
      refine kC ?_
      refine aB ?_))
  refine ⟨mkSt 69 [(6, .c (bC true))] [] [], [], Wk.mk [] rfl rfl rfl ?_ trivial, rfl, rfl, ARets.one (x := .c _) (ARes.tmp rfl rfl)⟩
  exact allT
end Go.Proofs.Ytjjaehpkccejaaa
end

section
namespace Go.Proofs.Ytjjaehpkccejaaa.assignChecks
open Go.ChangeShapes Go.WideShapes Go.ChangeAt Go.RowKit Go.Flow Go.AV
set_option maxRecDepth 100000 in
theorem contract (H : Type) (enc : TypeId × Value → H) (W : World) (base : Nat) (args : Array Value) (ds gs : List (DataW H)) (before : List MemPlace)
 (hval : ∀ (j : Nat) t v, Try.f3.params[j]? = some t → args[j]? = some v → Value.okWide Try.prog W .any base t v)
 (hW : DataW.Whole enc Try.prog Try.f3.params.toList Rows.assignChecksSpec.vars false W args.toList ds gs before)
 (hsz : (DataW.weightsEach Try.prog (Try.f3.params.toList ++ (OpenSpec.ofChange Rows.assignChecksSpec).bare.plain.varTypes Try.prog) (ds ++ gs)).all (· ≤ reachBytes) = true) :
 Calls Try.prog 3 args W fun e W' => ∃ v, e = .returned v ∧ Rows.assignChecksSpec.post enc Try.prog Try.f3 false true false false W args v W' := by
 have hW' := hW
 obtain ⟨p, q, hA0, hV, rfl, hfz, hnd⟩ := hW
 have hA : DataW.TrodAll enc Try.prog W 0 (fun _ => true) true Try.f3.params.toList args.toList ds p := hA0
 have hAk := hA0
 rw [Try.params3] at hA hval hsz
 obtain ⟨rfl, rfl⟩ := trodVars_none hV
 obtain ⟨v0, vs0, d0, ds0, p0, q0, hargs, rfl, rfl, h0, t0⟩ := trodAll_cons hA
 obtain ⟨v1, vs1, d1, ds1, p1, q1, rfl, rfl, rfl, h1, t1⟩ := trodAll_cons t0
 obtain ⟨v2, vs2, d2, ds2, p2, q2, rfl, rfl, rfl, h2, t2⟩ := trodAll_cons t1
 obtain ⟨rfl, rfl, rfl⟩ := trodAll_nil t2
 obtain rfl : args = #[v0, v1, v2] := by rw [← Array.toList_inj]; exact hargs
 have hlt := fun x hx => hW'.lt x hx
 simp only [List.append_nil] at hW'
 rw [List.append_nil] at hsz
 obtain ⟨a0, ok0, r0⟩ := opn_ll.argC (cells_slice Try.underlying22 (hval 0 22 v0 rfl rfl)) h0 (weigh hsz 0 (t := 22) (d := d0) rfl rfl)
 obtain ⟨a1, ok1, r1⟩ := opn_q33.argA Try.underlying24 (hval 1 24 v1 rfl rfl) h1 (weigh hsz 1 (t := 24) (d := d1) rfl rfl)
 obtain ⟨a2, ok2, r2⟩ := opn_ints.argC (cells_slice Try.underlying25 (hval 2 25 v2 rfl rfl)) h2 (weigh hsz 2 (t := 25) (d := d2) rfl rfl)
 refine ((ECalls.of (AssignChecks_A a0 ok0 a1.1.1 a1.1.2.1 a1.1.2.2 a1.2.1 a1.2.2.1 a1.2.2.2 ok1.1 ok1.2 a2.length (fun k => a2.getD k 0) ok2.1)) O0 W [_, _, _] (fun b h => h.elim) ⟨r0, r1, r2, trivial⟩).mono fun e W' ⟨v, r, he, hr, hv, hE⟩ => ?_
 subst hr
 obtain rfl : v = .bool true := hv.2
 subst he
 exact ⟨_, rfl, post_below (pv := []) hW' (fun _ _ _ => trodAll_cons_mk (shut_bool Try.underlying4 _) trodAll_mk0)
  (fun sp hsp => trodAll_below laidOut hE (by rw [Try.params3]; intro t ht; simp only [List.mem_cons, List.not_mem_nil, or_false] at ht; rcases ht with rfl | rfl | rfl <;> exact ⟨by kernel_rfl, of_decide_eq_true (by kernel_rfl)⟩) hAk (fun x hx => hlt x (by rw [List.append_nil]; exact hx)) sp (fun x hx => hsp x (by simpa only [List.append_nil] using hx)))
  (fun _ _ => rfl) (by simp) hE (ok_one (by kernel_rfl) rfl (okWide_bool_mk Try.underlying4 _))⟩
theorem own : ownKnob Try.prog.godebug = none := by kernel_rfl
set_option maxRecDepth 100000 in
theorem lifted (os : Os) (started : os.Started) (H : Type) (enc : TypeId × Value → H) :
 ReturnsInHanded {} Try.checked os 3 .any (Rows.assignChecksSpec.pre6 enc Try.prog Try.f3 Rows.assignChecksRow.domain false) (Rows.assignChecksSpec.post enc Try.prog Try.f3 false true false false) := by
 refine returnsInHanded_of_change_sized (C := Try.checked) own started (by kernel_rfl) Try.func3
  (ChangeSpec.witness6 (enc := enc) (C := Try.checked) false ⟨#[], #[.slice none 0 0, .agg #[.int .i64 0, .int .i64 0, .int .i64 0, .int .i64 0, .int .i64 0, .int .i64 0], .slice none 0 0], []⟩ 8 (by kernel_rfl) (by kernel_rfl) (by kernel_rfl) (by kernel_rfl)) ?_
 intro W base args ds gs before hval hW _ hsz _
 exact contract H enc W base args ds gs before hval hW hsz
theorem said : Rows.AssignChecksSaid :=
 OpenClaim.holds_of_wide 3 Try.f3 rfl rfl rfl rfl rfl rfl rfl ⟨rfl, rfl, rfl, rfl, rfl⟩ rfl rfl rfl rfl rfl (by kernel_rfl) Try.func3 (by kernel_rfl)
  (of_decide_eq_true (by kernel_rfl)) (by unfold Func.isWrapper; first | (rw [if_pos (by decide +kernel)]; kernel_rfl) | (rw [if_neg (by decide +kernel)]; exact ⟨rfl, rfl⟩))
  (fun os started H enc _ => lifted os started H enc)
end Go.Proofs.Ytjjaehpkccejaaa.assignChecks
end
