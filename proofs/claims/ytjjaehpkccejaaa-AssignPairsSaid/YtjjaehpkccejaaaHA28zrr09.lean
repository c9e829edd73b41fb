/- AssignPairs: the statement. No condition. -/
import Derived.Test.YtjjaehpkccejaaaG34
import Derived.Test.YtjjaehpkccejaaaG33
import Derived.Test.YtjjaehpkccejaaaG32
import Derived.Test.YtjjaehpkccejaaaHA28zrr06
import Derived.Test.YtjjaehpkccejaaaG20
import Derived.Test.YtjjaehpkccejaaaG27
import Derived.Test.YtjjaehpkccejaaaG26
import Derived.Test.YtjjaehpkccejaaaG06
import Derived.Laws.Pointers
import Derived.Test.YtjjaehpkccejaaaG25
import Derived.WideKeyMaps
import Derived.MapKept
import Derived.Carry
import Derived.Test.YtjjaehpkccejaaaG05
import Derived.Test.YtjjaehpkccejaaaG21
import Derived.Test.YtjjaehpkccejaaaHA28zrr03
import Derived.Test.YtjjaehpkccejaaaG22
import Derived.Test.YtjjaehpkccejaaaHA28zrr04
import Derived.Test.YtjjaehpkccejaaaG17
import Derived.Test.YtjjaehpkccejaaaG14
import Derived.Test.YtjjaehpkccejaaaG10
import Derived.Test.YtjjaehpkccejaaaHA28zrr01
import Derived.Test.YtjjaehpkccejaaaG08
import Derived.Test.YtjjaehpkccejaaaG04
import Derived.Great.BuildSlice
import Derived.Test.YtjjaehpkccejaaaG31
import Derived.Test.YtjjaehpkccejaaaG13
import Derived.Test.YtjjaehpkccejaaaG07
import Derived.Test.YtjjaehpkccejaaaHA28zrr02
import Derived.Test.YtjjaehpkccejaaaProg
import Derived.Shelf.Abstract
import Derived.Test.YtjjaehpkccejaaaG29
import Derived.Test.YtjjaehpkccejaaaG09
import Derived.Laws.StructEq
import Derived.WalkKit
import Derived.Test.YtjjaehpkccejaaaG19
import Derived.Laws.Cover3
import Derived.Test.YtjjaehpkccejaaaG30
import Derived.Test.YtjjaehpkccejaaaG01
import Derived.RangeFuncNested
import Derived.Test.YtjjaehpkccejaaaG03
import Derived.Test.YtjjaehpkccejaaaG15
import Derived.Test.YtjjaehpkccejaaaG28
import Derived.Lib.Hide
import Derived.Deep.QuietTactic
import Derived.BigQuiet
import Derived.Deep.DrawnRows
import Derived.Deep.AppendLies
import Derived.Test.YtjjaehpkccejaaaG02
import Derived.RangeFuncLeaves
import Derived.RangeFuncRecord
import Derived.Test.YtjjaehpkccejaaaG18
import Derived.Maps.AppendAt
import Derived.OwnWalk
import Derived.Scope
import Derived.DeepKeys4
import Derived.StillTail
import Derived.Below
import Derived.Deep.Draws
import Derived.KernelRfl
import Derived.OrdersIn
import Derived.TacticsIn
import Derived.RangeFuncCalls
import Derived.Test.YtjjaehpkccejaaaG24
import Derived.Test.YtjjaehpkccejaaaG16
import Derived.Test.YtjjaehpkccejaaaG12
import Derived.Test.YtjjaehpkccejaaaG11
import Derived.Test.YtjjaehpkccejaaaHA28zrr08
import Derived.Test.YtjjaehpkccejaaaG36
import Derived.Test.YtjjaehpkccejaaaHA28zrr07
import Derived.Test.YtjjaehpkccejaaaG35
import Derived.Test.YtjjaehpkccejaaaRows
import Derived.Test.YtjjaehpkccejaaaG23
import Derived.Test.YtjjaehpkccejaaaHA28zrr05
import Derived.ProofKit
import Derived.OpenShut
import Derived.Deep.DeepHandedRow
import Derived.SizedLaws
import Derived.ChangeSlices
import Derived.ChangeSame
set_option linter.unusedSimpArgs false
set_option linter.unusedVariables false
section
namespace Go.Proofs.Ytjjaehpkccejaaa
open Go.RowKit Go.Flow Go.AV Go.Plain
def chX (N : Nat) (f : Nat → Int) (k : Nat) : Int := if k < N then f k else 0
/-- Choice k by its number. -/
def chK (p : Pb) (N : Nat) (f : Nat → Int) (k : Nat) : Int := if 0 < (p.C.getD k []).length then chX N f k % ((p.C.getD k []).length : Int) else chX N f k
set_option maxHeartbeats 1000000 in
set_option maxRecDepth 100000 in
theorem choice_A (p : Pb) (hp : p.ok) (N : Nat) (f : Nat → Int) (hN : N ≤ 4611686018427387904) : ACalls Try.prog 16 [.ag (pbC p), .c (.ls N 1 (iF f))] (.c (.ls p.C.length 1 (iF (chK p N f)))) := by
 have lC := hp.lC
 refine acalls_at Try.func16 rfl rfl Try.ntmps16 rfl ?_
 repeat (first
  | refine AWp.seq ?_
  | refine thenA_n ?_
  | refine AWp.block ?_
  | (refine rG 0 ?_
     refine qr5 aQ ?_
     refine kC ?_
     refine aB ?_)
  | (refine rG 1 ?_
     refine kC ?_
     refine aB ?_)
  | (refine rG 2 ?_
     refine kD ?_
     refine kE ?_
     refine qr5 (aO tyOk) ?_
     refine kA ?_
     refine aB ?_))
 refine AWp.round (fun k : Nat =>
  mkSt 43 [(1, .c (.ls N 1 (iF f))), (2, .c (.pt 2 5 0 0)), (5, .c (.ow 20)), (10, .c (iC p.C.length)), (11, .c (iC (k : Nat))) ] [(2, ⟨false, 1, 5, 32, lF (pbC p)⟩), (20, rowI (k : Nat) (chK p N f))] [2, 20]
  ) (fun k => k ≤ p.C.length) (fun k => p.C.length - k) 0 (Nat.zero_le _) ?_ (fun k hk => ?_)
 ·refine Wk.mk [(2, some 2), (20, none)] rfl rfl rfl ?_ ?_
  ·exact allT
  ·exact ⟨hSm, HeapOk.nil rfl rfl, trivial⟩
 by_cases hkl : k < p.C.length
 ·have hkl' : (k : Int) < p.C.length := by omega
  obtain ⟨L, hL⟩ : ∃ L, p.C.getD k [] = L := ⟨_, rfl⟩
  have hcF : chF p.C k 0 = lsB L := by rw [← hL]
  have hLl : L.length ≤ 1000000 := by rw [← hL]; exact hp.lc _ (getD_mem28 hkl)
  have hkK : chK p N f k = if 0 < L.length then chX N f k % (L.length : Int) else chX N f k := by unfold chK; rw [hL]
  repeat (first
   | refine AWp.seq ?_
   | refine thenA_n ?_
   | refine AWp.block ?_
   | refine AWp.skip ?_
   | refine AWp.condT rfl cnT ?_
   | (refine rG 3 ?_
      refine qr5t aK ?_
      refine aB ?_)
   | (refine rG 4 ?_
      refine kA ?_
      refine kC ?_
      refine aB ?_)
   | (refine rG 5 ?_
      refine kC ?_
      refine aB ?_)
   | (refine rG 6 ?_
      (iterate 2 refine kA ?_)
      refine qr5 (aO tyOk) ?_
      refine qr5 aW ?_
      refine aB ?_))
  refine AWp.cut (
   mkSt 43 [(1, .c (.ls N 1 (iF f))), (2, .c (.pt 2 5 0 0)), (5, .c (.ow 20)), (10, .c (iC p.C.length)), (11, .c (iC (k : Nat))) , (6, .c (iC (k : Nat))), (7, .c (iC (chX N f k)))] [(2, ⟨false, 1, 5, 32, lF (pbC p)⟩), (20, rowI (k : Nat) (chK p N f))] [2, 20]
   ) ?_ (fun S1 hw1 => AWp.weak hw1 ?_)
  ·unfold chX
   by_cases h : k < N
   ·have h' : (k : Int) < N := by omega
    rw [if_pos h]
    repeat (first
     | refine AWp.condT rfl cnT ?_
     | (refine rG 7 ?_
        (iterate 2 refine kA ?_)
        refine qr8eo2 (aP (k := k) tyOk) ?_
        refine qr5o (aV tyOk) ?_
        refine kC ?_
        refine aB ?_))
    refine ⟨rfl, Wk.mk [(2, some 2), (20, some 20)] rfl rfl rfl ?_ ?_⟩
    ·exact allT
    ·exact ⟨hSm, HeapOk.row rfl rfl rfl (fun i _ => cell1 ⟨rfl, rfl⟩), trivial⟩
   ·have h' : ¬ (k : Int) < N := by omega
    rw [if_neg h]
    repeat (first
     | refine AWp.skip ?_
     | refine AWp.condF rfl cnF ?_)
    refine ⟨rfl, Wk.mk [(2, some 2), (20, some 20)] rfl rfl rfl ?_ ?_⟩
    ·exact allT
    ·exact ⟨hSm, HeapOk.row rfl rfl rfl (fun i _ => cell1 ⟨rfl, rfl⟩), trivial⟩
  generalize chX N f k = x at *
  refine AWp.seq ?_
  repeat (first
   | refine AWp.seq ?_
   | refine thenA_n ?_
   | (refine rG 8 ?_
      refine kD ?_
      refine kE ?_
      refine kA ?_
      refine qr8eo2 (aP (k := k) tyOk) ?_
      refine AList.load1lE tyOk (hcF) rfl rfl rfl rfl rfl oM ?_
      refine qr5 (aO tyOk) ?_
      refine qr5 aW ?_
      refine aB ?_))
  refine AWp.cut (
   mkSt 43 [(1, .c (.ls N 1 (iF f))), (2, .c (.pt 2 5 0 0)), (5, .c (.ow 20)), (10, .c (iC p.C.length)), (11, .c (iC (k : Nat))) , (7, .c (iC (chK p N f k)))] [(2, ⟨false, 1, 5, 32, lF (pbC p)⟩), (20, rowI (k : Nat) (chK p N f))] [2, 20]
   ) ?_ (fun S1 hw1 => AWp.weak hw1 ?_)
  ·by_cases h : 0 < L.length
   ·have h' : ((L.length : Nat) : Int) > 0 := by omega
    have hM := Mod_A x L.length (by omega) (by omega)
    rw [if_pos h] at hkK
    rw [hkK]
    repeat (first
     | refine AWp.condT rfl cnT ?_
     | (refine rG 9 ?_
        refine kA ?_
        refine kD ?_
        refine kE ?_
        refine kA ?_
        refine qr8eo2 (aP (k := k) tyOk) ?_
        refine AList.load1lE tyOk (hcF) rfl rfl rfl rfl rfl oM ?_
        refine qr5 (aO tyOk) ?_
        refine aH rfl rfl rfl rfl Try.func18 rfl (by kernel_rfl) (hM) ?_
        refine kC ?_
        refine aB ?_))
    refine ⟨rfl, Wk.mk [(2, some 2), (20, some 20)] rfl rfl rfl ?_ ?_⟩
    ·exact allT
    ·exact ⟨hSm, HeapOk.row rfl rfl rfl (fun i _ => cell1 ⟨rfl, rfl⟩), trivial⟩
   ·have h' : ¬ ((L.length : Nat) : Int) > 0 := by omega
    rw [if_neg h] at hkK
    rw [hkK]
    have hM := Mod_A x 1 (by omega) (by omega)
    repeat (first
     | refine AWp.skip ?_
     | refine AWp.condF rfl cnF ?_)
    refine ⟨rfl, Wk.mk [(2, some 2), (20, some 20)] rfl rfl rfl ?_ ?_⟩
    ·exact allT
    ·exact ⟨hSm, HeapOk.row rfl rfl rfl (fun i _ => cell1 ⟨rfl, rfl⟩), trivial⟩
  repeat (first
   | refine thenA_n ?_
   | refine inBlk_n ?_
   | (refine rG 10 ?_
      (iterate 2 refine kA ?_)
      refine qr11 (AList.litSl tyOk) ?_
      refine AList.appL tyOk rfl rfl rfl rfl rfl rfl rfl rfl rfl rfl oM oM ?_
      refine kC ?_
      refine aB ?_)
   | (refine rG 11 ?_
      refine qr4w2 aL ?_
      refine kA ?_
      refine aB ?_))
  refine ⟨k + 1, hkl, Wk.mk [(2, some 2), (20, some 40)] rfl rfl rfl ?_ ?_, by omega⟩
  ·exact allT
  ·exact ⟨hSm, HeapOk.row rfl rfl rfl (app_F (fun _ _ => cell1 rfl) (cell1 rfl) (fun _ _ => cell1 rfl)), trivial⟩
 ·have hkl' : ¬ (k : Int) < p.C.length := by omega
  obtain rfl : k = p.C.length := by omega
  repeat (first
   | refine AWp.seq ?_
   | refine thenA_n ?_
   | refine AWp.exit ?_
   | refine AWp.ret ?_
   | refine AWp.condF rfl cnF ?_
   | (refine rG 3 ?_
      refine qr5f aJ ?_
      refine aB ?_)
   | (refine rG 12 ?_
      refine kA ?_
      refine kC ?_
      refine aB ?_))
  refine ⟨mkSt 43 [(4, .c (.ls p.C.length 1 (iF (chK p N f))))] [] [], [], Wk.mk [] rfl rfl rfl ?_ trivial, rfl, rfl, ARets.one (x := .c _) (ARes.tmp rfl rfl)⟩
  exact ⟨⟨_, rfl, .c (LeC.fz rfl rfl rfl (fun i _ => cell1 ⟨rfl, rfl⟩))⟩, trivial⟩
end Go.Proofs.Ytjjaehpkccejaaa
end

section
namespace Go.Proofs.Ytjjaehpkccejaaa
open Go.RowKit Go.Flow Go.AV Go.Plain
/-- The chosen bitmaps of the first k lists. -/
def mapsK (p : Pb) (D : Nat → Int) (k : Nat) : List Bp := (List.range k).map fun i => (p.C.getD i []).getD (D i).toNat bpZ
theorem mapsK_len (p : Pb) (D : Nat → Int) (k : Nat) : (mapsK p D k).length = k := by simp [mapsK]
theorem mapsK_succ (p : Pb) (D : Nat → Int) (k : Nat) : mapsK p D (k + 1) = mapsK p D k ++ [(p.C.getD k []).getD (D k).toNat bpZ] := by simp [mapsK, List.range_succ]
theorem mapsK_get (p : Pb) (D : Nat → Int) {k i : Nat} (h : i < k) : (mapsK p D k).getD i bpZ = (p.C.getD i []).getD (D i).toNat bpZ := by simp [mapsK, List.getD_eq_getElem?_getD, h]
theorem take_snoc28 {α : Type} {L : List α} {z : α} {k : Nat} (h : k < L.length) : L.take (k + 1) = L.take k ++ [L.getD k z] := by
 rw [List.take_add_one, List.getElem?_eq_getElem h, List.getD_eq_getElem?_getD, List.getElem?_eq_getElem h]
 rfl
section
variable (R : List Rd) (M : List Bp) (G : List Bg)
def clI (i j : Nat) : Bool := (clashV R (M.getD i bpZ) (M.getD j bpZ) (G.getD i bgZ) (G.getD j bgZ)).2.2
def hRow (i m : Nat) : Bool := (List.range m).all fun j => !clI R M G i j
def hTo (n i : Nat) : Bool := (List.range i).all fun i' => hRow R M G i' (min i' n)
theorem hRow_succ (i m : Nat) : hRow R M G i (m + 1) = (hRow R M G i m && !clI R M G i m) := by unfold hRow; rw [List.range_succ, List.all_append]; simp
theorem hTo_succ (n i : Nat) : hTo R M G n (i + 1) = (hTo R M G n i && hRow R M G i (min i n)) := by unfold hTo; rw [List.range_succ, List.all_append]; simp
theorem hTo_iff {n t : Nat} : hTo R M G n t = true ↔ ∀ i, i < t → ∀ j, j < min i n → clI R M G i j = false := by
 unfold hTo hRow
 simp [List.all_eq_true]
end
/-- The first reader so far who confuses two bitmaps; -1: none. -/
def fstR (a b : Bp) (x y : Bg) (L : List Rd) : Nat → Int
 | 0 => -1
 | k + 1 => if fstR a b x y L k < 0 ∧ rcB (L.getD k rdZ) a b x y = true then k else fstR a b x y L k
theorem fst_inv (a b : Bp) (x y : Bg) (L : List Rd) : ∀ k, (fstR a b x y L k = -1 ∧ ∀ i, i < k → rcB (L.getD i rdZ) a b x y = false) ∨ (∃ m : Nat, m < k ∧ fstR a b x y L k = m ∧ rcB (L.getD m rdZ) a b x y = true ∧ ∀ i, i < m → rcB (L.getD i rdZ) a b x y = false)
 | 0 => .inl ⟨rfl, fun _ h => absurd h (Nat.not_lt_zero _)⟩
 | k + 1 => by
   unfold fstR
   rcases fst_inv a b x y L k with ⟨h1, h2⟩ | ⟨m, h1, h2, h3, h4⟩
   ·cases hb : rcB (L.getD k rdZ) a b x y with
    | true =>
      rw [if_pos ⟨by omega, rfl⟩]
      exact .inr ⟨k, by omega, rfl, hb, h2⟩
    | false =>
      rw [if_neg (by simp)]
      refine .inl ⟨h1, fun i hi => ?_⟩
      by_cases e : i = k
      ·rw [e, hb]
      ·exact h2 i (by omega)
   ·rw [if_neg (by omega)]
    exact .inr ⟨m, by omega, h2, h3, h4⟩
theorem fst_clash (a b : Bp) (x y : Bg) (R : List Rd) : ((clashV R a b x y).2.2 = true ∧ fstR a b x y (rdL R) (rdL R).length = ((clashV R a b x y).1 : Int)) ∨ ((clashV R a b x y).2.2 = false ∧ fstR a b x y (rdL R) (rdL R).length = -1) := by
 rcases fst_inv a b x y (rdL R) (rdL R).length with ⟨h1, h2⟩ | ⟨m, h1, h2, h3, h4⟩
 ·right
  unfold clashV
  rw [clashL_no h2]
  exact ⟨rfl, h1⟩
 ·left
  unfold clashV
  rw [clashL_hit h1 h4 h3]
  exact ⟨rfl, by rw [h2]; simp⟩
theorem pairs_holds {p : Pb} {D : Nat → Int} (hk : chkP p = 0) (hf : p.fit) (hD : ∀ k, k < p.C.length → 0 ≤ D k ∧ D k < (p.C.getD k []).length) : holdsV p p.C.length D = hTo p.R (mapsK p D p.C.length ++ p.F) (p.O ++ p.T) p.C.length (p.C.length + p.F.length) := by
 have hO : p.O.length = p.C.length := hf.o
 have m1 : ∀ i, i < p.C.length → (mapsK p D p.C.length ++ p.F).getD i bpZ = (p.C.getD i []).getD (D i).toNat bpZ := fun i hi => by
  rw [List.getD_eq_getElem?_getD, List.getElem?_append_left (by rw [mapsK_len]; exact hi), ← List.getD_eq_getElem?_getD, mapsK_get p D hi]
 have m2 : ∀ j, (mapsK p D p.C.length ++ p.F).getD (p.C.length + j) bpZ = p.F.getD j bpZ := fun j => by
  rw [List.getD_eq_getElem?_getD, List.getElem?_append_right (by rw [mapsK_len]; omega), mapsK_len, Nat.add_sub_cancel_left, ← List.getD_eq_getElem?_getD]
 have g1 : ∀ i, i < p.C.length → (p.O ++ p.T).getD i bgZ = p.O.getD i bgZ := fun i hi => by
  rw [List.getD_eq_getElem?_getD, List.getElem?_append_left (by omega), ← List.getD_eq_getElem?_getD]
 have g2 : ∀ j, (p.O ++ p.T).getD (p.C.length + j) bgZ = p.T.getD j bgZ := fun j => by
  rw [List.getD_eq_getElem?_getD, List.getElem?_append_right (by omega), hO, Nat.add_sub_cancel_left, ← List.getD_eq_getElem?_getD]
 rw [Bool.eq_iff_iff, holds_iff, hTo_iff]
 constructor
 ·rintro ⟨-, h⟩ i hi j hj
  unfold clI
  by_cases hic : i < p.C.length
  ·rw [m1 i hic, m1 j (by omega), g1 i hic, g1 j (by omega)]
   exact (h i hic).2.2 j (by omega)
  ·obtain ⟨u, rfl⟩ : ∃ u, i = p.C.length + u := ⟨i - p.C.length, by omega⟩
   rw [m2 u, m1 j (by omega), g2 u, g1 j (by omega), clash_comm]
   exact (h j (by omega)).2.1 u (by omega)
 ·intro h
  refine ⟨⟨hk, rfl⟩, fun k hkl => ⟨hD k hkl, fun u hu => ?_, fun j hj => ?_⟩⟩
  ·have := h (p.C.length + u) (by omega) k (by omega)
   unfold clI at this
   rw [m2 u, m1 k hkl, g2 u, g1 k hkl, clash_comm] at this
   exact this
  ·have := h k (by omega) j (by omega)
   unfold clI at this
   rw [m1 k hkl, m1 j (by omega), g1 k hkl, g1 j (by omega)] at this
   exact this
theorem pairs_none {p : Pb} {D : Nat → Int} {k n : Nat} (hk : k < n) (h : (p.C.getD k []).length = 0) : holdsV p n D = false := holdsV_no fun hh => by
 have := (stepOk_iff.1 (hh.2 k hk)).1
 omega
theorem chK_bd {p : Pb} {N : Nat} {f : Nat → Int} {k : Nat} (h : 0 < (p.C.getD k []).length) : 0 ≤ chK p N f k ∧ chK p N f k < (p.C.getD k []).length := by
 unfold chK
 rw [if_pos h]
 exact ⟨Int.emod_nonneg _ (by omega), Int.emod_lt_of_pos _ (by omega)⟩
/-- All bitmaps and readers of a small problem can be read. -/
theorem see_ok {r : Rd} {b : Bp} (hr : rdE r = 0) (hb : ∃ d, b = bp65 d) : seeE r b = 0 := by
 obtain ⟨d, rfl⟩ := hb
 unfold seeE
 rw [if_pos hr]
 exact (by decide : chk 6 5 30 = 0)
theorem rc_see {r : Rd} {a b : Bp} {x y : Bg} (ha : seeE r a = 0) (hb : seeE r b = 0) : rcB r a b x y = (cnfV (seeB r a) (seeB r b) x y).2 := by
 unfold rcB
 rw [decide_eq_true ha, decide_eq_true hb]
 rfl
theorem rdL_sm {p : Pb} (h : Sm p) {k : Nat} (hk : k < (rdL p.R).length) : rdE ((rdL p.R).getD k rdZ) = 0 ∧ -1000000 ≤ ((rdL p.R).getD k rdZ).bl ∧ ((rdL p.R).getD k rdZ).bl ≤ 1000000 := by
 have hm := getD_mem28 (z := rdZ) hk
 generalize (rdL p.R).getD k rdZ = r at *
 unfold rdL at hm
 split at hm
 ·simp at hm
  subst hm
  exact ⟨by decide, by decide, by decide⟩
 ·exact h.Rr r hm
theorem maps_sm {p : Pb} (h : Sm p) {D : Nat → Int} (hD : ∀ k, k < p.C.length → 0 ≤ D k ∧ D k < (p.C.getD k []).length) {i : Nat} (hi : i < p.C.length + p.F.length) : ∃ d, (mapsK p D p.C.length ++ p.F).getD i bpZ = bp65 d := by
 by_cases hic : i < p.C.length
 ·rw [List.getD_eq_getElem?_getD, List.getElem?_append_left (by rw [mapsK_len]; exact hic), ← List.getD_eq_getElem?_getD, mapsK_get p D hic]
  have := hD i hic
  exact (h.Cc _ (getD_mem28 hic)).2 _ (getD_mem28 (by omega))
 ·rw [List.getD_eq_getElem?_getD, List.getElem?_append_right (by rw [mapsK_len]; omega), mapsK_len, ← List.getD_eq_getElem?_getD]
  exact h.Ff _ (getD_mem28 (by omega))
end Go.Proofs.Ytjjaehpkccejaaa
end

section
namespace Go.Proofs.Ytjjaehpkccejaaa
open Go.RowKit Go.Flow Go.AV Go.Plain
set_option maxHeartbeats 8000000 in
set_option maxRecDepth 100000 in
theorem AssignPairs_A (ll : List (List Int)) (hll : LlOk ll) (N : Nat) (f : Nat → Int) (hN : N ≤ 4611686018427387904) : ACalls Try.prog 7 [.c (lsL ll), .c (.ls N 1 (iF f))] (.c (bC true)) := by
 have hM := Made28_A ll hll
 obtain ⟨sm, -⟩ := made_sm ll
 have hSan := sanity28_A
 generalize made28 ll = p at *
 have hok := sm.ok
 have hchk := sm.chk
 have hfit := sm.fit
 have lC := sm.C
 have lF0 := sm.F
 have lR0 := sm.R
 have hO : p.O.length = p.C.length := sm.O
 have hT : p.T.length = p.F.length := sm.T
 have hCh := choice_A p hok N f hN
 have hDb := fun k => @chK_bd p N f k
 generalize chK p N f = D at *
 have hHo := Holds28_A p hok p.C.length D (by omega)
 refine acalls_at Try.func7 rfl rfl Try.ntmps7 rfl ?_
 repeat (first
  | refine AWp.seq ?_
  | refine thenA_n ?_
  | refine AWp.block ?_
  | (refine rG 0 ?_
     refine kC ?_
     refine aB ?_)
  | (refine rG 1 ?_
     refine aH rfl rfl rfl rfl Try.func9 rfl (by kernel_rfl) (hSan) ?_
     refine kC ?_
     refine aB ?_)
  | (refine rG 2 ?_
     refine kA ?_
     refine aH rfl rfl rfl rfl Try.func10 rfl (by kernel_rfl) (hM) ?_
     refine qr5 (aM tyOk) ?_
     refine kI ?_
     refine aB ?_)
  | (refine rG 3 ?_
     refine kF ?_
     refine kA ?_
     refine aH rfl rfl rfl rfl Try.func16 rfl (by kernel_rfl) (hCh) ?_
     refine kC ?_
     refine aB ?_)
  | (refine rG 4 ?_
     refine kC ?_
     refine aB ?_)
  | (refine rG 5 ?_
     refine kC ?_
     refine aB ?_)
  | (refine rG 6 ?_
     refine kA ?_
     refine qr5 (aO tyOk) ?_
     refine kA ?_
     refine aB ?_))
 refine AWp.round (fun k : Nat =>
  mkSt 211 [(5, .c (bC true)), (6, .c (.pt 6 5 0 0)), (7, .c (.ls p.C.length 1 (iF D))), (8, .c (.ow 60)), (9, .c (.ow 61)), (34, .c (iC p.C.length)), (35, .c (iC (k : Nat)))] [(6, ⟨false, 1, 5, 32, lF (pbC p)⟩), (60, bpB (mapsK p D (k : Nat))), (61, bgB (p.O.take (k : Nat)))] [6, 60, 61]
  ) (fun k => k ≤ p.C.length ∧ ∀ i, i < k → 0 < (p.C.getD i []).length) (fun k => p.C.length - k) 0 ⟨Nat.zero_le _, fun _ h => absurd h (Nat.not_lt_zero _)⟩ ?_ (fun k hk => ?_)
 ·refine Wk.mk [(6, some 6), (60, none), (61, none)] rfl rfl rfl ?_ ?_
  ·exact allT
  ·exact ⟨hSm, HeapOk.nil rfl rfl, HeapOk.nil rfl (by simp), trivial⟩
 obtain ⟨hk, hpos⟩ := hk
 have hml := mapsK_len p D k
 have hol : (p.O.take k).length = k := by rw [List.length_take]; omega
 by_cases hkl : k < p.C.length
 ·have hkl' : (k : Int) < p.C.length := by omega
  obtain ⟨L, hL⟩ : ∃ L, p.C.getD k [] = L := ⟨_, rfl⟩
  have hcF : chF p.C k 0 = lsB L := by rw [← hL]
  have hnone := pairs_none (p := p) (D := D) hkl
  have hdk := hDb k
  rw [hL] at hnone hdk
  by_cases h0 : L.length = 0
  ·have h0' : (L.length : Int) = 0 := by omega
   rw [hnone h0] at hHo
   repeat (first
    | refine AWp.seq ?_
    | refine thenA_n ?_
    | refine AWp.block ?_
    | refine AWp.skip ?_
    | refine AWp.ret ?_
    | refine thenA_r ?_
    | refine inBlk_r ?_
    | refine AWp.condT rfl cnT ?_
    | (refine rG 7 ?_
       refine qr5t aK ?_
       refine aB ?_)
    | (refine rG 8 ?_
       refine kA ?_
       refine kC ?_
       refine aB ?_)
    | (refine rG 9 ?_
       refine kD ?_
       refine kE ?_
       refine kA ?_
       refine qr8eo2 (aP (k := k) tyOk) ?_
       refine AList.load1lE tyOk (hcF) rfl rfl rfl rfl rfl oM ?_
       refine qr5 (aO tyOk) ?_
       refine qr5t aK ?_
       refine aB ?_)
    | (refine rG 10 ?_
       (iterate 2 refine kA ?_)
       refine kF ?_
       refine kA ?_
       refine aH rfl rfl rfl rfl Try.func14 rfl (by kernel_rfl) (hHo) ?_
       refine qr3 AList.notB ?_
       refine qr4 aS ?_
       refine kC ?_
       refine aB ?_))
   refine ⟨mkSt 211 [(4, .c (bC true))] [] [], [], Wk.mk [] rfl rfl rfl ?_ trivial, rfl, rfl, ARets.one (x := .c _) (ARes.tmp rfl rfl)⟩
   exact allT
  ·have h0' : ¬ (L.length : Int) = 0 := by omega
   obtain ⟨d1, d2⟩ := hdk (by omega)
   obtain ⟨u, hu⟩ := Int.eq_ofNat_of_zero_le d1
   have hnx := mapsK_succ p D k
   rw [hL, hu] at hnx
   have hnx : mapsK p D (k + 1) = mapsK p D k ++ [L.getD u bpZ] := hnx
   have hno := take_snoc28 (z := bgZ) (show k < p.O.length by omega)
   repeat (first
    | refine AWp.seq ?_
    | refine thenA_n ?_
    | refine AWp.block ?_
    | refine AWp.skip ?_
    | refine inBlk_n ?_
    | refine AWp.condT rfl cnT ?_
    | refine AWp.condF rfl cnF ?_
    | (refine rG 7 ?_
       refine qr5t aK ?_
       refine aB ?_)
    | (refine rG 8 ?_
       refine kA ?_
       refine kC ?_
       refine aB ?_)
    | (refine rG 9 ?_
       refine kD ?_
       refine kE ?_
       refine kA ?_
       refine qr8eo2 (aP (k := k) tyOk) ?_
       refine AList.load1lE tyOk (hcF) rfl rfl rfl rfl rfl oM ?_
       refine qr5 (aO tyOk) ?_
       refine qr5f aJ ?_
       refine aB ?_)
    | (refine AWp.draw (id := 11) mixed ?_; refine kA ?_; refine kD ?_; refine kE ?_; refine kA ?_; refine qr8eo2 (aP (k := k) tyOk) ?_; refine AList.load1lE tyOk (hcF) rfl rfl rfl rfl rfl oM ?_; (iterate 2 refine kA ?_); refine qr8eo2 (aP (k := k) tyOk) ?_; refine qr5o (aV tyOk) ?_; refine qr8eo2 (aP (k := u) tyOk) ?_; refine qr5o (aT tyOk) ?_; refine qr11 (AList.litSl tyOk) ?_; refine AList.appL tyOk rfl rfl rfl rfl rfl rfl rfl rfl rfl rfl oM oM ?_; refine kC ?_; refine aB ⟨by kernel_rfl, ?_⟩)
    | (refine rG 12 ?_
       refine kA ?_
       refine kD ?_
       refine kE ?_
       refine kA ?_
       refine qr8eo2 (aP (k := k) tyOk) ?_
       refine qr5o (aT tyOk) ?_
       refine qr11 (AList.litSl tyOk) ?_
       refine AList.appL tyOk rfl rfl rfl rfl rfl rfl rfl rfl rfl rfl oM oM ?_
       refine kC ?_
       refine aB ?_)
    | (refine rG 13 ?_
       refine qr4w2 aL ?_
       refine kA ?_
       refine aB ?_))
   refine ⟨k + 1, ⟨hkl, fun i hi => ?_⟩, ?_, by omega⟩
   ·by_cases e : i = k
    ·rw [e, hL]; omega
    ·exact hpos i (by omega)
   ·rw [hnx, hno]
    refine Wk.mk [(6, some 6), (60, some 65), (61, some 73)] rfl rfl rfl ?_ ?_
    ·exact allT
    ·exact ⟨hSm, HeapOk.row rfl rfl List.length_append (row_snoc _ _ bpC_imm rfl), HeapOk.row rfl rfl List.length_append (row_snoc _ _ bgC_imm28 rfl), trivial⟩
 have hkl' : ¬ (k : Int) < p.C.length := by omega
 obtain rfl : k = p.C.length := by omega
 have htk : p.O.take p.C.length = p.O := by rw [← hO]; exact List.take_length
 have hDb2 : ∀ k, k < p.C.length → 0 ≤ D k ∧ D k < (p.C.getD k []).length := fun k h => hDb k (hpos k h)
 have hpair := pairs_holds hchk hfit hDb2
 have hsm := fun i => maps_sm sm hDb2 (i := i)
 rw [htk] at hol ⊢
 repeat (first
  | refine AWp.seq ?_
  | refine AWp.exit ?_
  | refine AWp.condF rfl cnF ?_
  | (refine rG 7 ?_
     refine qr5f aJ ?_
     refine aB ?_)
  | (refine rG 14 ?_
     refine kA ?_
     refine qr7 (AList.lenOw tyOk) ?_
     refine kC ?_
     refine aB ?_)
  | (refine rG 15 ?_
     refine kA ?_
     refine kD ?_
     refine kE ?_
     refine AList.appL tyOk rfl rfl rfl rfl rfl rfl rfl rfl rfl rfl oM oM ?_
     refine kC ?_
     refine aB ?_)
  | (refine rG 16 ?_
     refine kA ?_
     refine kD ?_
     refine kE ?_
     refine AList.appL tyOk rfl rfl rfl rfl rfl rfl rfl rfl rfl rfl oM oM ?_
     refine kC ?_
     refine aB ?_)
  | (refine rG 17 ?_
     refine kD ?_
     refine kE ?_
     refine kC ?_
     refine aB ?_))
 have hMl : (mapsK p D p.C.length ++ p.F).length = p.C.length + p.F.length := by rw [List.length_append, hml]
 have hGl : (p.O ++ p.T).length = p.C.length + p.F.length := by rw [List.length_append, hO, hT]
 refine AWp.weak (S' := mkSt 211 [(5, .c (bC true)), (6, .c (.pt 6 5 0 0)), (7, .c (.ls p.C.length 1 (iF D))), (8, .c (lsB (mapsK p D p.C.length ++ p.F))), (9, .c (lsG (p.O ++ p.T))), (11, .c (iC p.C.length)), (12, .c (lsR p.R))] [(6, ⟨false, 1, 5, 32, lF (pbC p)⟩)] [6]) (Wk.mk [(6, some 6)] rfl rfl rfl ?_ ?_) ?_
 ·repeat (first | exact trivial | refine ⟨⟨_, rfl, by first | exact (LeA.int (by rw [hml])) | exact LeA.c (LeC.fz rfl rfl List.length_append (rowF_app _ _ _ bpC_imm)) | exact LeA.c (LeC.fz rfl rfl List.length_append (rowF_app _ _ _ bgC_imm28)) | exact leT⟩, ?_⟩)
 ·exact allH
 generalize mapsK p D p.C.length ++ p.F = M at *
 generalize p.O ++ p.T = G at *
 clear hml hol htk hDb
 repeat (first
  | refine thenA_n ?_
  | (refine rG 18 ?_
     refine kA ?_
     refine qr5 (aO tyOk) ?_
     refine qr5 aW ?_
     refine aB ?_))
 refine AWp.cut (mkSt 211 [(5, .c (bC true)), (6, .c (.pt 6 5 0 0)), (7, .c (.ls p.C.length 1 (iF D))), (8, .c (lsB M)), (9, .c (lsG G)), (11, .c (iC p.C.length)), (12, .c (lsR (rdL p.R)))] [(6, ⟨false, 1, 5, 32, lF (pbC p)⟩)] [6]) ?_ (fun S1 hw1 => AWp.weak hw1 ?_)
 ·unfold rdL
  by_cases h : p.R = []
  ·have h0 : ((p.R.length : Nat) : Int) = 0 := by rw [h]; rfl
   rw [if_pos h]
   repeat (first
    | refine AWp.condT rfl cnT ?_
    | (refine rG 19 ?_
       refine qr8 (aX tyOk) ?_
       refine qr11 (AList.litSl tyOk) ?_
       refine kC ?_
       refine aB ?_))
   refine ⟨rfl, Wk.mk [(6, some 6)] rfl rfl rfl ?_ ?_⟩
   ·repeat (first | exact trivial | refine ⟨⟨_, rfl, by first | exact LeA.c (LeC.lz rfl rd1_F) | exact leT⟩, ?_⟩)
   ·exact allH
  ·have h0 : ¬ ((p.R.length : Nat) : Int) = 0 := fun h0 => h (List.eq_nil_of_length_eq_zero (by omega))
   rw [if_neg h]
   repeat (first
    | refine AWp.skip ?_
    | refine AWp.condF rfl cnF ?_)
   refine ⟨rfl, Wk.mk [(6, some 6)] rfl rfl rfl ?_ ?_⟩
   ·exact allT
   ·exact allH
 have hRl : (rdL p.R).length ≤ 4 := by
  unfold rdL
  split
  ·exact (by decide : 1 ≤ 4)
  ·exact lR0
 have hRd := fun k => rdL_sm sm (k := k)
 have hCl := fun a b x y => Clash_A p a b x y hok.lR hok.rd
 have hfc := fun a b x y => fst_clash a b x y p.R
 refine AWp.seq ?_
 repeat (first
  | refine AWp.seq ?_
  | refine thenA_n ?_
  | refine AWp.block ?_
  | (refine rG 20 ?_
     refine kC ?_
     refine aB ?_)
  | (refine rG 21 ?_
     refine kA ?_
     refine qr5 (aO tyOk) ?_
     refine kA ?_
     refine aB ?_))
 refine AWp.round (fun i : Nat =>
  mkSt 211 [(5, .c (bC true)), (6, .c (.pt 6 5 0 0)), (7, .c (.ls p.C.length 1 (iF D))), (8, .c (lsB M)), (9, .c (lsG G)), (11, .c (iC p.C.length)), (12, .c (lsR (rdL p.R))), (93, .c (iC M.length)), (94, .c (iC (i : Nat))), (13, .c (bC (hTo p.R M G p.C.length i)))] [(6, ⟨false, 1, 5, 32, lF (pbC p)⟩)] [6]
  ) (fun i => i ≤ M.length) (fun i => M.length - i) 0 (Nat.zero_le _) ?_ (fun i hi => ?_)
 ·refine Wk.mk [(6, some 6)] rfl rfl rfl ?_ ?_
  ·exact allT
  ·exact allH
 by_cases hil : i < M.length
 ·have hil' : (i : Int) < M.length := by omega
  repeat (first
   | refine AWp.seq ?_
   | refine thenA_n ?_
   | refine AWp.block ?_
   | refine AWp.skip ?_
   | refine AWp.condT rfl cnT ?_
   | (refine rG 22 ?_
      refine qr5t aK ?_
      refine aB ?_)
   | (refine rG 23 ?_
      refine kA ?_
      refine kC ?_
      refine aB ?_)
   | (refine rG 24 ?_
      refine kC ?_
      refine aB ?_))
  refine AWp.round (fun j : Nat =>
   mkSt 211 [(5, .c (bC true)), (6, .c (.pt 6 5 0 0)), (7, .c (.ls p.C.length 1 (iF D))), (8, .c (lsB M)), (9, .c (lsG G)), (11, .c (iC p.C.length)), (12, .c (lsR (rdL p.R))), (93, .c (iC M.length)), (94, .c (iC (i : Nat))), (13, .c (bC (hTo p.R M G p.C.length i && hRow p.R M G i j))), (14, .c (iC i)), (15, .c (iC (j : Nat)))] [(6, ⟨false, 1, 5, 32, lF (pbC p)⟩)] [6]
   ) (fun j => j ≤ min i p.C.length) (fun j => min i p.C.length - j) 0 (Nat.zero_le _) ?_ (fun j hj => ?_)
  ·refine Wk.mk [(6, some 6)] rfl rfl rfl ?_ ?_
   ·repeat (first | exact trivial | refine ⟨⟨_, rfl, by first | exact LeA.c (LeC.eq (by rw [show hRow p.R M G i 0 = true from rfl, Bool.and_true]) rfl) | exact leT⟩, ?_⟩)
   ·exact allH
  by_cases hjl : j < min i p.C.length
  ·have hj1 : (j : Int) < i := by omega
   have hj2 : (j : Int) < p.C.length := by omega
   have hcl := hCl (M.getD i bpZ) (M.getD j bpZ) (G.getD i bgZ) (G.getD j bgZ)
   have hfr := hfc (M.getD i bpZ) (M.getD j bpZ) (G.getD i bgZ) (G.getD j bgZ)
   have hsi := hsm i (by omega)
   have hsj := hsm j (by omega)
   have hrow : hRow p.R M G i (j + 1) = (hRow p.R M G i j && !(clashV p.R (M.getD i bpZ) (M.getD j bpZ) (G.getD i bgZ) (G.getD j bgZ)).2.2) := hRow_succ p.R M G i j
   repeat (first
    | refine AWp.seq ?_
    | refine thenA_n ?_
    | refine AWp.block ?_
    | refine AWp.skip ?_
    | refine AWp.condT rfl cnT ?_
    | (refine rG 25 ?_
       (iterate 2 refine kA ?_)
       refine qr5t aK ?_
       (iterate 3 refine kA ?_)
       refine qr5t aK ?_
       refine qr4 aS ?_
       refine aB ?_)
    | (refine rG 27 ?_
       refine kC ?_
       refine aB ?_)
    | (refine rG 28 ?_
       refine kA ?_
       refine qr5 (aO tyOk) ?_
       refine kA ?_
       refine aB ?_))
   refine AWp.round (fun k : Nat =>
    mkSt 211 [(5, .c (bC true)), (6, .c (.pt 6 5 0 0)), (7, .c (.ls p.C.length 1 (iF D))), (8, .c (lsB M)), (9, .c (lsG G)), (11, .c (iC p.C.length)), (12, .c (lsR (rdL p.R))), (93, .c (iC M.length)), (94, .c (iC (i : Nat))), (13, .c (bC (hTo p.R M G p.C.length i && hRow p.R M G i j))), (14, .c (iC i)), (15, .c (iC j)), (16, .c (iC (fstR (M.getD i bpZ) (M.getD j bpZ) (G.getD i bgZ) (G.getD j bgZ) (rdL p.R) k))), (108, .c (iC (rdL p.R).length)), (109, .c (iC (k : Nat)))] [(6, ⟨false, 1, 5, 32, lF (pbC p)⟩)] [6]
    ) (fun k => k ≤ (rdL p.R).length) (fun k => (rdL p.R).length - k) 0 (Nat.zero_le _) ?_ (fun k hk => ?_)
   ·refine Wk.mk [(6, some 6)] rfl rfl rfl ?_ ?_
    ·exact allT
    ·exact allH
   by_cases hkr : k < (rdL p.R).length
   ·have hkr' : (k : Int) < (rdL p.R).length := by omega
    obtain ⟨r1, r2⟩ := hRd k hkr
    have s1 := See_A ((rdL p.R).getD k rdZ) (M.getD i bpZ) r2
    have s2 := See_A ((rdL p.R).getD k rdZ) (M.getD j bpZ) r2
    have hcf := Confused_A (seeB ((rdL p.R).getD k rdZ) (M.getD i bpZ)) (seeB ((rdL p.R).getD k rdZ) (M.getD j bpZ)) (G.getD i bgZ) (G.getD j bgZ)
    have hrc := rc_see (x := G.getD i bgZ) (y := G.getD j bgZ) (see_ok r1 hsi) (see_ok r1 hsj)
    rw [see_ok r1 hsi] at s1
    rw [see_ok r1 hsj] at s2
    have hfs : fstR (M.getD i bpZ) (M.getD j bpZ) (G.getD i bgZ) (G.getD j bgZ) (rdL p.R) (k + 1) = if fstR (M.getD i bpZ) (M.getD j bpZ) (G.getD i bgZ) (G.getD j bgZ) (rdL p.R) k < 0 ∧ rcB ((rdL p.R).getD k rdZ) (M.getD i bpZ) (M.getD j bpZ) (G.getD i bgZ) (G.getD j bgZ) = true then (k : Int) else fstR (M.getD i bpZ) (M.getD j bpZ) (G.getD i bgZ) (G.getD j bgZ) (rdL p.R) k := rfl
    rw [hrc] at hfs
    generalize seeB ((rdL p.R).getD k rdZ) (M.getD i bpZ) = u1 at *
    generalize seeB ((rdL p.R).getD k rdZ) (M.getD j bpZ) = u2 at *
    generalize cnfV u1 u2 (G.getD i bgZ) (G.getD j bgZ) = o at *
    obtain ⟨oc, ob⟩ := o
    dsimp only at hcf hfs
    cases ob with
    | true =>
      by_cases hneg : fstR (M.getD i bpZ) (M.getD j bpZ) (G.getD i bgZ) (G.getD j bgZ) (rdL p.R) k < 0
      ·rw [if_pos ⟨hneg, rfl⟩] at hfs
       repeat (first
        | refine AWp.seq ?_
        | refine thenA_n ?_
        | refine AWp.block ?_
        | refine AWp.skip ?_
        | refine inBlk_n ?_
        | refine AWp.condT rfl cnT ?_
        | refine AWp.condF rfl cnF ?_
        | (refine rG 29 ?_
           refine qr5t aK ?_
           refine aB ?_)
        | (refine rG 30 ?_
           refine kA ?_
           refine kC ?_
           refine aB ?_)
        | (refine AWp.draw (id := 31) mixed ?_; (iterate 2 refine kA ?_); refine qr8eo2 (aP (k := k) tyOk) ?_; refine qr5o (aT tyOk) ?_; (iterate 2 refine kA ?_); refine qr8eo2 (aP (k := i) tyOk) ?_; refine qr5o (aT tyOk) ?_; refine aH rfl rfl rfl rfl Try.func25 rfl (by kernel_rfl) (s1) ?_; refine kA ?_; (iterate 2 refine qr4 aN ?_); refine qr5 (aM tyOk) ?_; refine kI ?_; refine kC ?_; refine aB ⟨by kernel_rfl, ?_⟩)
        | (refine AWp.draw (id := 32) mixed ?_; (iterate 2 refine kA ?_); refine qr8eo2 (aP (k := k) tyOk) ?_; refine qr5o (aT tyOk) ?_; (iterate 2 refine kA ?_); refine qr8eo2 (aP (k := j) tyOk) ?_; refine qr5o (aT tyOk) ?_; refine aH rfl rfl rfl rfl Try.func25 rfl (by kernel_rfl) (s2) ?_; refine kA ?_; (iterate 2 refine qr4 aN ?_); refine qr5 (aM tyOk) ?_; refine kI ?_; refine kC ?_; refine aB ⟨by kernel_rfl, ?_⟩)
        | (refine AWp.draw (id := 33) mixed ?_; (iterate 2 refine kF ?_); (iterate 2 refine kA ?_); refine qr8eo2 (aP (k := i) tyOk) ?_; refine qr5o (aT tyOk) ?_; (iterate 2 refine kA ?_); refine qr8eo2 (aP (k := j) tyOk) ?_; refine qr5o (aT tyOk) ?_; refine aH rfl rfl rfl rfl Try.func26 rfl (by kernel_rfl) (hcf) ?_; refine kA ?_; (iterate 2 refine qr4 aN ?_); refine qr5 (aM tyOk) ?_; refine kI ?_; refine kC ?_; refine aB ⟨by kernel_rfl, ?_⟩)
        | (refine rG 34 ?_
           refine kA ?_
           refine qr5 aW ?_
           (iterate 2 refine kA ?_)
           refine qr5 aW ?_
           refine qr4 aR ?_
           refine aB ?_)
        | (refine rG 36 ?_
           (iterate 3 refine kA ?_)
           refine qr5t aK ?_
           refine qr4 aS ?_
           refine aB ?_)
        | (refine rG 37 ?_
           refine kA ?_
           refine kC ?_
           refine aB ?_)
        | (refine rG 38 ?_
           refine qr4w2 aL ?_
           refine kA ?_
           refine aB ?_))
       refine ⟨k + 1, hkr, ?_, by omega⟩
       rw [hfs]
       refine Wk.mk [(6, some 6)] rfl rfl rfl ?_ ?_
       ·exact allT
       ·exact allH
      ·rw [if_neg fun h => hneg h.1] at hfs
       repeat (first
        | refine AWp.seq ?_
        | refine thenA_n ?_
        | refine AWp.block ?_
        | refine AWp.skip ?_
        | refine inBlk_n ?_
        | refine AWp.condT rfl cnT ?_
        | refine AWp.condF rfl cnF ?_
        | (refine rG 29 ?_
           refine qr5t aK ?_
           refine aB ?_)
        | (refine rG 30 ?_
           refine kA ?_
           refine kC ?_
           refine aB ?_)
        | (refine AWp.draw (id := 31) mixed ?_; (iterate 2 refine kA ?_); refine qr8eo2 (aP (k := k) tyOk) ?_; refine qr5o (aT tyOk) ?_; (iterate 2 refine kA ?_); refine qr8eo2 (aP (k := i) tyOk) ?_; refine qr5o (aT tyOk) ?_; refine aH rfl rfl rfl rfl Try.func25 rfl (by kernel_rfl) (s1) ?_; refine kA ?_; (iterate 2 refine qr4 aN ?_); refine qr5 (aM tyOk) ?_; refine kI ?_; refine kC ?_; refine aB ⟨by kernel_rfl, ?_⟩)
        | (refine AWp.draw (id := 32) mixed ?_; (iterate 2 refine kA ?_); refine qr8eo2 (aP (k := k) tyOk) ?_; refine qr5o (aT tyOk) ?_; (iterate 2 refine kA ?_); refine qr8eo2 (aP (k := j) tyOk) ?_; refine qr5o (aT tyOk) ?_; refine aH rfl rfl rfl rfl Try.func25 rfl (by kernel_rfl) (s2) ?_; refine kA ?_; (iterate 2 refine qr4 aN ?_); refine qr5 (aM tyOk) ?_; refine kI ?_; refine kC ?_; refine aB ⟨by kernel_rfl, ?_⟩)
        | (refine AWp.draw (id := 33) mixed ?_; (iterate 2 refine kF ?_); (iterate 2 refine kA ?_); refine qr8eo2 (aP (k := i) tyOk) ?_; refine qr5o (aT tyOk) ?_; (iterate 2 refine kA ?_); refine qr8eo2 (aP (k := j) tyOk) ?_; refine qr5o (aT tyOk) ?_; refine aH rfl rfl rfl rfl Try.func26 rfl (by kernel_rfl) (hcf) ?_; refine kA ?_; (iterate 2 refine qr4 aN ?_); refine qr5 (aM tyOk) ?_; refine kI ?_; refine kC ?_; refine aB ⟨by kernel_rfl, ?_⟩)
        | (refine rG 34 ?_
           refine kA ?_
           refine qr5 aW ?_
           (iterate 2 refine kA ?_)
           refine qr5 aW ?_
           refine qr4 aR ?_
           refine aB ?_)
        | (refine rG 36 ?_
           (iterate 3 refine kA ?_)
           refine qr5f aJ ?_
           refine qr4 aS ?_
           refine aB ?_)
        | (refine rG 38 ?_
           refine qr4w2 aL ?_
           refine kA ?_
           refine aB ?_))
       refine ⟨k + 1, hkr, ?_, by omega⟩
       rw [hfs]
       refine Wk.mk [(6, some 6)] rfl rfl rfl ?_ ?_
       ·exact allT
       ·exact allH
    | false =>
      rw [if_neg (by simp)] at hfs
      repeat (first
       | refine AWp.seq ?_
       | refine thenA_n ?_
       | refine AWp.block ?_
       | refine AWp.skip ?_
       | refine inBlk_n ?_
       | refine AWp.condT rfl cnT ?_
       | refine AWp.condF rfl cnF ?_
       | (refine rG 29 ?_
          refine qr5t aK ?_
          refine aB ?_)
       | (refine rG 30 ?_
          refine kA ?_
          refine kC ?_
          refine aB ?_)
       | (refine AWp.draw (id := 31) mixed ?_; (iterate 2 refine kA ?_); refine qr8eo2 (aP (k := k) tyOk) ?_; refine qr5o (aT tyOk) ?_; (iterate 2 refine kA ?_); refine qr8eo2 (aP (k := i) tyOk) ?_; refine qr5o (aT tyOk) ?_; refine aH rfl rfl rfl rfl Try.func25 rfl (by kernel_rfl) (s1) ?_; refine kA ?_; (iterate 2 refine qr4 aN ?_); refine qr5 (aM tyOk) ?_; refine kI ?_; refine kC ?_; refine aB ⟨by kernel_rfl, ?_⟩)
       | (refine AWp.draw (id := 32) mixed ?_; (iterate 2 refine kA ?_); refine qr8eo2 (aP (k := k) tyOk) ?_; refine qr5o (aT tyOk) ?_; (iterate 2 refine kA ?_); refine qr8eo2 (aP (k := j) tyOk) ?_; refine qr5o (aT tyOk) ?_; refine aH rfl rfl rfl rfl Try.func25 rfl (by kernel_rfl) (s2) ?_; refine kA ?_; (iterate 2 refine qr4 aN ?_); refine qr5 (aM tyOk) ?_; refine kI ?_; refine kC ?_; refine aB ⟨by kernel_rfl, ?_⟩)
       | (refine AWp.draw (id := 33) mixed ?_; (iterate 2 refine kF ?_); (iterate 2 refine kA ?_); refine qr8eo2 (aP (k := i) tyOk) ?_; refine qr5o (aT tyOk) ?_; (iterate 2 refine kA ?_); refine qr8eo2 (aP (k := j) tyOk) ?_; refine qr5o (aT tyOk) ?_; refine aH rfl rfl rfl rfl Try.func26 rfl (by kernel_rfl) (hcf) ?_; refine kA ?_; (iterate 2 refine qr4 aN ?_); refine qr5 (aM tyOk) ?_; refine kI ?_; refine kC ?_; refine aB ⟨by kernel_rfl, ?_⟩)
       | (refine rG 34 ?_
          refine kA ?_
          refine qr5 aW ?_
          (iterate 2 refine kA ?_)
          refine qr5 aW ?_
          refine qr4 aR ?_
          refine aB ?_)
       | (refine rG 36 ?_
          (iterate 2 refine kA ?_)
          (iterate 2 refine qr2 aG ?_)
          refine qr4 aR ?_
          refine aB ?_)
       | (refine rG 38 ?_
          refine qr4w2 aL ?_
          refine kA ?_
          refine aB ?_))
      refine ⟨k + 1, hkr, ?_, by omega⟩
      rw [hfs]
      refine Wk.mk [(6, some 6)] rfl rfl rfl ?_ ?_
      ·exact allT
      ·exact allH
   have hkr' : ¬ (k : Int) < (rdL p.R).length := by omega
   obtain rfl : k = (rdL p.R).length := by omega
   generalize fstR (M.getD i bpZ) (M.getD j bpZ) (G.getD i bgZ) (G.getD j bgZ) (rdL p.R) (rdL p.R).length = fs at *
   generalize clashV p.R (M.getD i bpZ) (M.getD j bpZ) (G.getD i bgZ) (G.getD j bgZ) = o at *
   obtain ⟨oi, oc, ob⟩ := o
   dsimp only at hcl hfr hrow
   have hnew : (hTo p.R M G p.C.length i && hRow p.R M G i (j + 1)) = ((hTo p.R M G p.C.length i && hRow p.R M G i j) && !ob) := by rw [hrow, Bool.and_assoc]
   have hmn : j + 1 ≤ min i p.C.length := by omega
   have hms : min i p.C.length - (j + 1) < min i p.C.length - j := by omega
   generalize (hTo p.R M G p.C.length i && hRow p.R M G i j) = hv at *
   rcases hfr with ⟨rfl, hfe⟩ | ⟨rfl, hfe⟩
   all_goals
    cases hv
    all_goals
     repeat (first
      | refine AWp.seq ?_
      | refine thenA_n ?_
      | refine AWp.skip ?_
      | refine AWp.exit ?_
      | refine inBlk_n ?_
      | refine AWp.condF rfl cnF ?_
      | (refine rG 26 ?_
         refine kA ?_
         refine qr4w2 aL ?_
         refine kC ?_
         refine aB ?_)
      | (refine rG 29 ?_
         refine qr5f aJ ?_
         refine aB ?_)
      | (refine AWp.draw (id := 39) mixed ?_; refine kF ?_; (iterate 2 refine kA ?_); refine qr8eo2 (aP (k := i) tyOk) ?_; refine qr5o (aT tyOk) ?_; (iterate 2 refine kA ?_); refine qr8eo2 (aP (k := j) tyOk) ?_; refine qr5o (aT tyOk) ?_; (iterate 2 refine kA ?_); refine qr8eo2 (aP (k := i) tyOk) ?_; refine qr5o (aT tyOk) ?_; (iterate 2 refine kA ?_); refine qr8eo2 (aP (k := j) tyOk) ?_; refine qr5o (aT tyOk) ?_; refine aH rfl rfl rfl rfl Try.func19 rfl (by kernel_rfl) (hcl) ?_; refine kA ?_; (iterate 3 refine qr4 aN ?_); refine qr5 (aM tyOk) ?_; refine kC ?_; refine kI ?_; refine kC ?_; refine aB ⟨by kernel_rfl, ?_⟩)
      | (refine rG 40 ?_
         (iterate 2 refine kA ?_)
         first | refine qr5t aK ?_ | refine qr5f aJ ?_
         refine qr4k AList.neB ?_
         (iterate 3 refine kA ?_)
         first | refine qr2 aG ?_ | refine kA ?_
         first | refine qr2 aG ?_ | refine kA ?_
         first | refine qr2 aG ?_ | refine qr5f aJ ?_
         first | refine qr4 aS ?_ | refine qr4 aR ?_
         refine qr4 aR ?_
         refine aB ?_)
      | (refine rG 42 ?_
         (iterate 2 refine kA ?_)
         first | refine qr2 aG ?_ | refine kA ?_
         first | refine qr2 aG ?_ | refine qr3 AList.notB ?_
         first | refine qr4 aS ?_ | refine qr4 aR ?_
         refine kC ?_
         refine aB ?_))
     refine ⟨j + 1, hmn, ?_, hms⟩
     rw [hnew]
     refine Wk.mk [(6, some 6)] rfl rfl rfl ?_ ?_
     ·exact allT
     ·exact allH
  obtain rfl : j = min i p.C.length := by omega
  have hts := hTo_succ p.R M G p.C.length i
  by_cases hji : min i p.C.length < i
  ·have hj1 : ((min i p.C.length : Nat) : Int) < i := by omega
   have hj2 : ¬ ((min i p.C.length : Nat) : Int) < p.C.length := by omega
   generalize min i p.C.length = j at *
   repeat (first
    | refine AWp.seq ?_
    | refine thenA_n ?_
    | refine AWp.exit ?_
    | refine thenA_e ?_
    | refine inBlk_n ?_
    | refine inBlk_hit ?_
    | refine AWp.condF rfl cnF ?_
    | (refine rG 25 ?_
       (iterate 2 refine kA ?_)
       refine qr5t aK ?_
       (iterate 3 refine kA ?_)
       refine qr5f aJ ?_
       refine qr4 aS ?_
       refine aB ?_)
    | (refine rG 43 ?_
       refine qr4w2 aL ?_
       refine kA ?_
       refine aB ?_))
   refine ⟨i + 1, hil, ?_, by omega⟩
   rw [hts]
   refine Wk.mk [(6, some 6)] rfl rfl rfl ?_ ?_
   ·exact allT
   ·exact allH
  ·have hj1 : ¬ ((min i p.C.length : Nat) : Int) < i := by omega
   generalize min i p.C.length = j at *
   repeat (first
    | refine AWp.seq ?_
    | refine thenA_n ?_
    | refine AWp.exit ?_
    | refine thenA_e ?_
    | refine inBlk_n ?_
    | refine inBlk_hit ?_
    | refine AWp.condF rfl cnF ?_
    | (refine rG 25 ?_
       (iterate 2 refine kA ?_)
       refine qr5f aJ ?_
       refine kA ?_
       (iterate 3 refine qr2 aG ?_)
       refine qr4 aR ?_
       refine aB ?_)
    | (refine rG 43 ?_
       refine qr4w2 aL ?_
       refine kA ?_
       refine aB ?_))
   refine ⟨i + 1, hil, ?_, by omega⟩
   rw [hts]
   refine Wk.mk [(6, some 6)] rfl rfl rfl ?_ ?_
   ·exact allT
   ·exact allH
 have hil' : ¬ (i : Int) < M.length := by omega
 obtain rfl : i = M.length := by omega
 rw [hpair, ← hMl] at hHo
 generalize hTo p.R M G p.C.length M.length = hv at *
 cases hv
 all_goals
  repeat (first
   | refine AWp.seq ?_
   | refine thenA_n ?_
   | refine AWp.exit ?_
   | refine AWp.ret ?_
   | refine AWp.condF rfl cnF ?_
   | (refine rG 22 ?_
      refine qr5f aJ ?_
      refine aB ?_)
   | (refine rG 44 ?_
      (iterate 2 refine kA ?_)
      refine kF ?_
      refine kA ?_
      refine aH rfl rfl rfl rfl Try.func14 rfl (by kernel_rfl) (hHo) ?_
      refine kA ?_
      refine qr4k AList.eqB ?_
      refine qr4 aS ?_
      refine kC ?_
      refine aB ?_))
  refine ⟨mkSt 211 [(4, .c (bC true))] [] [], [], Wk.mk [] rfl rfl rfl ?_ trivial, rfl, rfl, ARets.one (x := .c _) (ARes.tmp rfl rfl)⟩
  exact allT
end Go.Proofs.Ytjjaehpkccejaaa
end

section
namespace Go.Proofs.Ytjjaehpkccejaaa.assignPairs
open Go.ChangeShapes Go.WideShapes Go.ChangeAt Go.RowKit Go.Flow Go.AV
set_option maxRecDepth 100000 in
theorem contract (H : Type) (enc : TypeId × Value → H) (W : World) (base : Nat) (args : Array Value) (ds gs : List (DataW H)) (before : List MemPlace)
 (hval : ∀ (j : Nat) t v, Try.f7.params[j]? = some t → args[j]? = some v → Value.okWide Try.prog W .any base t v)
 (hW : DataW.Whole enc Try.prog Try.f7.params.toList Rows.assignPairsSpec.vars false W args.toList ds gs before)
 (hsz : (DataW.weightsEach Try.prog (Try.f7.params.toList ++ (OpenSpec.ofChange Rows.assignPairsSpec).bare.plain.varTypes Try.prog) (ds ++ gs)).all (· ≤ reachBytes) = true) :
 Calls Try.prog 7 args W fun e W' => ∃ v, e = .returned v ∧ Rows.assignPairsSpec.post enc Try.prog Try.f7 false true false false W args v W' := by
 have hW' := hW
 obtain ⟨p, q, hA0, hV, rfl, hfz, hnd⟩ := hW
 have hA : DataW.TrodAll enc Try.prog W 0 (fun _ => true) true Try.f7.params.toList args.toList ds p := hA0
 have hAk := hA0
 rw [Try.params7] at hA hval hsz
 obtain ⟨rfl, rfl⟩ := trodVars_none hV
 obtain ⟨v0, vs0, d0, ds0, p0, q0, hargs, rfl, rfl, h0, t0⟩ := trodAll_cons hA
 obtain ⟨v1, vs1, d1, ds1, p1, q1, rfl, rfl, rfl, h1, t1⟩ := trodAll_cons t0
 obtain ⟨rfl, rfl, rfl⟩ := trodAll_nil t1
 obtain rfl : args = #[v0, v1] := by rw [← Array.toList_inj]; exact hargs
 have hlt := fun x hx => hW'.lt x hx
 simp only [List.append_nil] at hW'
 rw [List.append_nil] at hsz
 obtain ⟨a0, ok0, r0⟩ := opn_ll.argC (cells_slice Try.underlying22 (hval 0 22 v0 rfl rfl)) h0 (weigh hsz 0 (t := 22) (d := d0) rfl rfl)
 obtain ⟨a1, ok1, r1⟩ := opn_ints.argC (cells_slice Try.underlying25 (hval 1 25 v1 rfl rfl)) h1 (weigh hsz 1 (t := 25) (d := d1) rfl rfl)
 refine ((ECalls.of (AssignPairs_A a0 ok0 a1.length (fun k => a1.getD k 0) ok1.1)) O0 W [_, _] (fun b h => h.elim) ⟨r0, r1, trivial⟩).mono fun e W' ⟨v, r, he, hr, hv, hE⟩ => ?_
 subst hr
 obtain rfl : v = .bool true := hv.2
 subst he
 exact ⟨_, rfl, post_below (pv := []) hW' (fun _ _ _ => trodAll_cons_mk (shut_bool Try.underlying4 _) trodAll_mk0)
  (fun sp hsp => trodAll_below laidOut hE (by rw [Try.params7]; intro t ht; simp only [List.mem_cons, List.not_mem_nil, or_false] at ht; rcases ht with rfl | rfl <;> exact ⟨by kernel_rfl, of_decide_eq_true (by kernel_rfl)⟩) hAk (fun x hx => hlt x (by rw [List.append_nil]; exact hx)) sp (fun x hx => hsp x (by simpa only [List.append_nil] using hx)))
  (fun _ _ => rfl) (by simp) hE (ok_one (by kernel_rfl) rfl (okWide_bool_mk Try.underlying4 _))⟩
theorem own : ownKnob Try.prog.godebug = none := by kernel_rfl
set_option maxRecDepth 100000 in
theorem lifted (os : Os) (started : os.Started) (H : Type) (enc : TypeId × Value → H) :
 ReturnsInHanded {} Try.checked os 7 .any (Rows.assignPairsSpec.pre6 enc Try.prog Try.f7 Rows.assignPairsRow.domain false) (Rows.assignPairsSpec.post enc Try.prog Try.f7 false true false false) := by
 refine returnsInHanded_of_change_sized (C := Try.checked) own started (by kernel_rfl) Try.func7
  (ChangeSpec.witness6 (enc := enc) (C := Try.checked) false ⟨#[], #[.slice none 0 0, .slice none 0 0], []⟩ 8 (by kernel_rfl) (by kernel_rfl) (by kernel_rfl) (by kernel_rfl)) ?_
 intro W base args ds gs before hval hW _ hsz _
 exact contract H enc W base args ds gs before hval hW hsz
theorem said : Rows.AssignPairsSaid :=
 OpenClaim.holds_of_wide 7 Try.f7 rfl rfl rfl rfl rfl rfl rfl ⟨rfl, rfl, rfl, rfl, rfl⟩ rfl rfl rfl rfl rfl (by kernel_rfl) Try.func7 (by kernel_rfl)
  (of_decide_eq_true (by kernel_rfl)) (by unfold Func.isWrapper; first | (rw [if_pos (by decide +kernel)]; kernel_rfl) | (rw [if_neg (by decide +kernel)]; exact ⟨rfl, rfl⟩))
  (fun os started H enc _ => lifted os started H enc)
end Go.Proofs.Ytjjaehpkccejaaa.assignPairs
end
