/- Parts of the proof: A28zc, A28zt. -/
import Derived.Test.YtjjaehpkccejaaaG34
import Derived.Test.YtjjaehpkccejaaaG33
import Derived.Test.YtjjaehpkccejaaaG32
import Derived.Test.YtjjaehpkccejaaaHA28zur06
import Derived.Test.YtjjaehpkccejaaaG20
import Derived.Test.YtjjaehpkccejaaaG27
import Derived.Test.YtjjaehpkccejaaaG26
import Derived.Test.YtjjaehpkccejaaaG06
import Derived.Test.YtjjaehpkccejaaaHA28zur01
import Derived.Laws.Pointers
import Derived.Test.YtjjaehpkccejaaaG25
import Derived.WideKeyMaps
import Derived.MapKept
import Derived.Carry
import Derived.Test.YtjjaehpkccejaaaG05
import Derived.Test.YtjjaehpkccejaaaG21
import Derived.Test.YtjjaehpkccejaaaHA28zur03
import Derived.Test.YtjjaehpkccejaaaG22
import Derived.Test.YtjjaehpkccejaaaHA28zur04
import Derived.Test.YtjjaehpkccejaaaG17
import Derived.Test.YtjjaehpkccejaaaG14
import Derived.Test.YtjjaehpkccejaaaG10
import Derived.Test.YtjjaehpkccejaaaG08
import Derived.Test.YtjjaehpkccejaaaG04
import Derived.Great.BuildSlice
import Derived.Test.YtjjaehpkccejaaaG31
import Derived.Test.YtjjaehpkccejaaaG13
import Derived.Test.YtjjaehpkccejaaaG07
import Derived.Test.YtjjaehpkccejaaaHA28zur02
import Derived.Test.YtjjaehpkccejaaaProg
import Derived.Shelf.Abstract
import Derived.Test.YtjjaehpkccejaaaG29
import Derived.Test.YtjjaehpkccejaaaG09
import Derived.Laws.StructEq
import Derived.WalkKit
import Derived.Test.YtjjaehpkccejaaaG19
import Derived.Laws.Cover3
import Derived.Test.YtjjaehpkccejaaaG30
import Derived.Test.YtjjaehpkccejaaaG01
import Derived.RangeFuncNested
import Derived.Test.YtjjaehpkccejaaaG03
import Derived.Test.YtjjaehpkccejaaaG15
import Derived.Test.YtjjaehpkccejaaaG28
import Derived.Lib.Hide
import Derived.Deep.QuietTactic
import Derived.BigQuiet
import Derived.Deep.DrawnRows
import Derived.Deep.AppendLies
import Derived.Test.YtjjaehpkccejaaaG02
import Derived.RangeFuncLeaves
import Derived.RangeFuncRecord
import Derived.Test.YtjjaehpkccejaaaG18
import Derived.Maps.AppendAt
import Derived.OwnWalk
import Derived.Scope
import Derived.DeepKeys4
import Derived.StillTail
import Derived.Below
import Derived.Deep.Draws
import Derived.KernelRfl
import Derived.OrdersIn
import Derived.TacticsIn
import Derived.RangeFuncCalls
import Derived.Test.YtjjaehpkccejaaaG24
import Derived.Test.YtjjaehpkccejaaaG16
import Derived.Test.YtjjaehpkccejaaaG12
import Derived.Test.YtjjaehpkccejaaaG11
import Derived.Test.YtjjaehpkccejaaaHA28zur08
import Derived.Test.YtjjaehpkccejaaaHA28zur07
import Derived.Test.YtjjaehpkccejaaaG36
import Derived.Test.YtjjaehpkccejaaaG35
set_option linter.unusedSimpArgs false
set_option linter.unusedVariables false
section
namespace Go.Proofs.Ytjjaehpkccejaaa
open Go.RowKit Go.Flow Go.AV Go.Plain
def chX (N : Nat) (f : Nat → Int) (k : Nat) : Int := if k < N then f k else 0
/-- Choice k by its number. -/
def chK (p : Pb) (N : Nat) (f : Nat → Int) (k : Nat) : Int := if 0 < (p.C.getD k []).length then chX N f k % ((p.C.getD k []).length : Int) else chX N f k
set_option maxHeartbeats 1000000 in
set_option maxRecDepth 100000 in
theorem choice_A (p : Pb) (hp : p.ok) (N : Nat) (f : Nat → Int) (hN : N ≤ 4611686018427387904) : ACalls Try.prog 16 [.ag (pbC p), .c (.ls N 1 (iF f))] (.c (.ls p.C.length 1 (iF (chK p N f)))) := by
 have lC := hp.lC
 refine acalls_at Try.func16 rfl rfl Try.ntmps16 rfl ?_
 repeat (first
  | refine AWp.seq ?_
  | refine thenA_n ?_
  | refine AWp.block ?_
  | (refine rG 0 ?_
     refine qr5 aQ ?_
     refine kC ?_
     refine aB ?_)
  | (refine rG 1 ?_
     refine kC ?_
     refine aB ?_)
  | (refine rG 2 ?_
     refine kD ?_
     refine kE ?_
     refine qr5 (aO tyOk) ?_
     refine kA ?_
     refine aB ?_))
 refine AWp.round (fun k : Nat =>
  mkSt 43 [(1, .c (.ls N 1 (iF f))), (2, .c (.pt 2 5 0 0)), (5, .c (.ow 20)), (10, .c (iC p.C.length)), (11, .c (iC (k : Nat))) ] [(2, ⟨false, 1, 5, 32, lF (pbC p)⟩), (20, rowI (k : Nat) (chK p N f))] [2, 20]
  ) (fun k => k ≤ p.C.length) (fun k => p.C.length - k) 0 (Nat.zero_le _) ?_ (fun k hk => ?_)
 ·refine Wk.mk [(2, some 2), (20, none)] rfl rfl rfl ?_ ?_
  ·exact allT
  ·exact ⟨hSm, HeapOk.nil rfl rfl, trivial⟩
 by_cases hkl : k < p.C.length
 ·have hkl' : (k : Int) < p.C.length := by omega
  obtain ⟨L, hL⟩ : ∃ L, p.C.getD k [] = L := ⟨_, rfl⟩
  have hcF : chF p.C k 0 = lsB L := by rw [← hL]
  have hLl : L.length ≤ 1000000 := by rw [← hL]; exact hp.lc _ (getD_mem28 hkl)
  have hkK : chK p N f k = if 0 < L.length then chX N f k % (L.length : Int) else chX N f k := by unfold chK; rw [hL]
  repeat (first
   | refine AWp.seq ?_
   | refine thenA_n ?_
   | refine AWp.block ?_
   | refine AWp.skip ?_
   | refine AWp.condT rfl cnT ?_
   | (refine rG 3 ?_
      refine qr5t aK ?_
      refine aB ?_)
   | (refine rG 4 ?_
      refine kA ?_
      refine kC ?_
      refine aB ?_)
   | (refine rG 5 ?_
      refine kC ?_
      refine aB ?_)
   | (refine rG 6 ?_
      (iterate 2 refine kA ?_)
      refine qr5 (aO tyOk) ?_
      refine qr5 aW ?_
      refine aB ?_))
  refine AWp.cut (
   mkSt 43 [(1, .c (.ls N 1 (iF f))), (2, .c (.pt 2 5 0 0)), (5, .c (.ow 20)), (10, .c (iC p.C.length)), (11, .c (iC (k : Nat))) , (6, .c (iC (k : Nat))), (7, .c (iC (chX N f k)))] [(2, ⟨false, 1, 5, 32, lF (pbC p)⟩), (20, rowI (k : Nat) (chK p N f))] [2, 20]
   ) ?_ (fun S1 hw1 => AWp.weak hw1 ?_)
  ·unfold chX
   by_cases h : k < N
   ·have h' : (k : Int) < N := by omega
    rw [if_pos h]
    repeat (first
     | refine AWp.condT rfl cnT ?_
     | (refine rG 7 ?_
        (iterate 2 refine kA ?_)
        refine qr8eo2 (aP (k := k) tyOk) ?_
        refine qr5o (aV tyOk) ?_
        refine kC ?_
        refine aB ?_))
    refine ⟨rfl, Wk.mk [(2, some 2), (20, some 20)] rfl rfl rfl ?_ ?_⟩
    ·exact allT
    ·exact ⟨hSm, HeapOk.row rfl rfl rfl (fun i _ => cell1 ⟨rfl, rfl⟩), trivial⟩
   ·have h' : ¬ (k : Int) < N := by omega
    rw [if_neg h]
    repeat (first
     | refine AWp.skip ?_
     | refine AWp.condF rfl cnF ?_)
    refine ⟨rfl, Wk.mk [(2, some 2), (20, some 20)] rfl rfl rfl ?_ ?_⟩
    ·exact allT
    ·exact ⟨hSm, HeapOk.row rfl rfl rfl (fun i _ => cell1 ⟨rfl, rfl⟩), trivial⟩
  generalize chX N f k = x at *
  refine AWp.seq ?_
  repeat (first
   | refine AWp.seq ?_
   | refine thenA_n ?_
   | (refine rG 8 ?_
      refine kD ?_
      refine kE ?_
      refine kA ?_
      refine qr8eo2 (aP (k := k) tyOk) ?_
      refine AList.load1lE tyOk (hcF) rfl rfl rfl rfl rfl oM ?_
      refine qr5 (aO tyOk) ?_
      refine qr5 aW ?_
      refine aB ?_))
  refine AWp.cut (
   mkSt 43 [(1, .c (.ls N 1 (iF f))), (2, .c (.pt 2 5 0 0)), (5, .c (.ow 20)), (10, .c (iC p.C.length)), (11, .c (iC (k : Nat))) , (7, .c (iC (chK p N f k)))] [(2, ⟨false, 1, 5, 32, lF (pbC p)⟩), (20, rowI (k : Nat) (chK p N f))] [2, 20]
   ) ?_ (fun S1 hw1 => AWp.weak hw1 ?_)
  ·by_cases h : 0 < L.length
   ·have h' : ((L.length : Nat) : Int) > 0 := by omega
    have hM := Mod_A x L.length (by omega) (by omega)
    rw [if_pos h] at hkK
    rw [hkK]
    repeat (first
     | refine AWp.condT rfl cnT ?_
     | (refine rG 9 ?_
        refine kA ?_
        refine kD ?_
        refine kE ?_
        refine kA ?_
        refine qr8eo2 (aP (k := k) tyOk) ?_
        refine AList.load1lE tyOk (hcF) rfl rfl rfl rfl rfl oM ?_
        refine qr5 (aO tyOk) ?_
        refine aH rfl rfl rfl rfl Try.func18 rfl (by kernel_rfl) (hM) ?_
        refine kC ?_
        refine aB ?_))
    refine ⟨rfl, Wk.mk [(2, some 2), (20, some 20)] rfl rfl rfl ?_ ?_⟩
    ·exact allT
    ·exact ⟨hSm, HeapOk.row rfl rfl rfl (fun i _ => cell1 ⟨rfl, rfl⟩), trivial⟩
   ·have h' : ¬ ((L.length : Nat) : Int) > 0 := by omega
    rw [if_neg h] at hkK
    rw [hkK]
    have hM := Mod_A x 1 (by omega) (by omega)
    repeat (first
     | refine AWp.skip ?_
     | refine AWp.condF rfl cnF ?_)
    refine ⟨rfl, Wk.mk [(2, some 2), (20, some 20)] rfl rfl rfl ?_ ?_⟩
    ·exact allT
    ·exact ⟨hSm, HeapOk.row rfl rfl rfl (fun i _ => cell1 ⟨rfl, rfl⟩), trivial⟩
  repeat (first
   | refine thenA_n ?_
   | refine inBlk_n ?_
   | (refine rG 10 ?_
      (iterate 2 refine kA ?_)
      refine qr11 (AList.litSl tyOk) ?_
      refine AList.appL tyOk rfl rfl rfl rfl rfl rfl rfl rfl rfl rfl oM oM ?_
      refine kC ?_
      refine aB ?_)
   | (refine rG 11 ?_
      refine qr4w2 aL ?_
      refine kA ?_
      refine aB ?_))
  refine ⟨k + 1, hkl, Wk.mk [(2, some 2), (20, some 40)] rfl rfl rfl ?_ ?_, by omega⟩
  ·exact allT
  ·exact ⟨hSm, HeapOk.row rfl rfl rfl (app_F (fun _ _ => cell1 rfl) (cell1 rfl) (fun _ _ => cell1 rfl)), trivial⟩
 ·have hkl' : ¬ (k : Int) < p.C.length := by omega
  obtain rfl : k = p.C.length := by omega
  repeat (first
   | refine AWp.seq ?_
   | refine thenA_n ?_
   | refine AWp.exit ?_
   | refine AWp.ret ?_
   | refine AWp.condF rfl cnF ?_
   | (refine rG 3 ?_
      refine qr5f aJ ?_
      refine aB ?_)
   | (refine rG 12 ?_
      refine kA ?_
      refine kC ?_
      refine aB ?_))
  refine ⟨mkSt 43 [(4, .c (.ls p.C.length 1 (iF (chK p N f))))] [] [], [], Wk.mk [] rfl rfl rfl ?_ trivial, rfl, rfl, ARets.one (x := .c _) (ARes.tmp rfl rfl)⟩
  exact ⟨⟨_, rfl, .c (LeC.fz rfl rfl rfl (fun i _ => cell1 ⟨rfl, rfl⟩))⟩, trivial⟩
end Go.Proofs.Ytjjaehpkccejaaa
end

section
namespace Go.Proofs.Ytjjaehpkccejaaa
open Go.RowKit Go.Flow Go.AV Go.Plain
theorem getD_lo {α : Type} {L M : List α} {z : α} {k : Nat} (h : k < L.length) : (L ++ M).getD k z = L.getD k z := by
 rw [List.getD_eq_getElem?_getD, List.getElem?_append_left h, ← List.getD_eq_getElem?_getD]
theorem getD_take28 {α : Type} {L : List α} {z : α} {k n : Nat} (h : k < n) : (L.take n).getD k z = L.getD k z := by
 rw [List.getD_eq_getElem?_getD, List.getElem?_take, if_pos h, ← List.getD_eq_getElem?_getD]
theorem Less.of {p q : Pb} {m : Nat} {f : Nat → Int} (hC : q.C = p.C) (R : ∀ r ∈ rdL q.R, r ∈ rdL p.R) (F : ∀ k, k < q.F.length → k < p.F.length ∧ q.F.getD k bpZ = p.F.getD k bpZ ∧ Bg.le (q.T.getD k bgZ) (p.T.getD k bgZ)) (O : ∀ k, k < m → Bg.le (q.O.getD k bgZ) (p.O.getD k bgZ)) : Less p q m f :=
 ⟨R, fun k _ _ h => by rw [hC]; exact ⟨h, rfl⟩, F, O⟩
def mzR (p : Pb) (q : Int) : List Rd := if 0 < p.R.length then p.R ++ [⟨1, 1 + q % 9⟩] else p.R
abbrev mz1 (p : Pb) (q : Int) : Pb := ⟨mzR p q, p.C, p.F, p.O, p.T⟩
def mzF (p : Pb) : List Bp := if 0 < p.F.length then p.F ++ [p.F.getD 0 bpZ] else p.F
def mzT (p : Pb) (q r : Int) : List Bg := if 0 < p.F.length then p.T ++ [⟨q % 5, 0, 0, r % 4⟩] else p.T
abbrev mz2 (p : Pb) (q r : Int) : Pb := ⟨p.R, p.C, mzF p, p.O, mzT p q r⟩
def bgInc (a b c : Int) (x : Bg) : Bg := ⟨x.lo + a, x.bl + b, x.sh, x.st + c⟩
abbrev mz3 (p : Pb) (a b c : Int) : Pb := ⟨p.R, p.C, p.F, p.O.map (bgInc a b c), p.T⟩
abbrev mz4 (p : Pb) (n : Nat) : Pb := ⟨p.R, p.C.take n, p.F, p.O.take n, p.T⟩
def mzC (p : Pb) (m : Nat) : List (List Bp) := if 0 < (p.C.getD 0 []).length then p.C.set m (p.C.getD m [] ++ [(p.C.getD 0 []).getD 0 bpZ]) else p.C
abbrev mz5 (p : Pb) (m : Nat) : Pb := ⟨p.R, mzC p m, p.F, p.O, p.T⟩
theorem mz1_less {p : Pb} {q : Int} {m : Nat} {f : Nat → Int} : Less (mz1 p q) p m f := by
 refine Less.of rfl (fun r hr => ?_) (fun k h => ⟨h, rfl, Bg.le_refl _⟩) (fun _ _ => Bg.le_refl _)
 show r ∈ rdL (mzR p q)
 unfold mzR
 by_cases h : 0 < p.R.length
 ·rw [if_pos h]
  have h1 : p.R ≠ [] := fun e => by rw [e] at h; exact absurd h (Nat.lt_irrefl _)
  unfold rdL at hr ⊢
  rw [if_neg h1] at hr
  rw [if_neg (by simp)]
  exact List.mem_append_left _ hr
 ·rw [if_neg h]; exact hr
theorem mz1_ok {p : Pb} (h : Sm p) (q : Int) : (mz1 p q).ok := by
 have ho := h.ok
 have := h.R
 refine ⟨fun r hr => ?_, ?_, ho.lC, ho.lF, ho.lO, ho.lT, ho.lc⟩
 ·replace hr : r ∈ mzR p q := hr
  unfold mzR at hr
  split at hr
  ·rcases mem_snoc hr with hr | rfl
   ·exact ho.rd r hr
   ·exact ⟨(by decide : (-1000000 : Int) ≤ 1), (by decide : (1 : Int) ≤ 1000000)⟩
  ·exact ho.rd r hr
 ·show (mzR p q).length ≤ _
  unfold mzR
  split
  ·simp; omega
  ·omega
theorem mz2_less {p : Pb} (hT : p.T.length = p.F.length) {q r : Int} {m : Nat} {f : Nat → Int} : Less (mz2 p q r) p m f := by
 refine Less.of rfl (fun r hr => hr) (fun k h => ?_) (fun _ _ => Bg.le_refl _)
 show k < (mzF p).length ∧ p.F.getD k bpZ = (mzF p).getD k bpZ ∧ Bg.le (p.T.getD k bgZ) ((mzT p q r).getD k bgZ)
 have h0 : 0 < p.F.length := by have : k < p.F.length := h; omega
 unfold mzF mzT
 rw [if_pos h0, if_pos h0, getD_lo h, getD_lo (by rw [hT]; exact h)]
 exact ⟨by simp; have : k < p.F.length := h; omega, rfl, Bg.le_refl _⟩
theorem mz2_ok {p : Pb} (h : Sm p) (q r : Int) : (mz2 p q r).ok := by
 have ho := h.ok
 have h1 := h.F
 have h2 := h.T
 refine ⟨ho.rd, ho.lR, ho.lC, ?_, ho.lO, ?_, ho.lc⟩
 ·show (mzF p).length ≤ _
  unfold mzF
  split
  ·simp; omega
  ·omega
 ·show (mzT p q r).length ≤ _
  unfold mzT
  split
  ·simp; omega
  ·omega
theorem getD_map28 {α : Type} {g : α → α} {L : List α} {z : α} {k : Nat} (h : k < L.length) : (L.map g).getD k z = g (L.getD k z) := by
 rw [List.getD_eq_getElem?_getD, List.getElem?_map, List.getD_eq_getElem?_getD, List.getElem?_eq_getElem h]
 rfl
theorem mz3_less {p : Pb} (hO : p.O.length = p.C.length) {a b c : Int} (ha : 0 ≤ a) (hb : 0 ≤ b) (hc : 0 ≤ c) {f : Nat → Int} : Less (mz3 p a b c) p p.C.length f := by
 refine Less.of rfl (fun r hr => hr) (fun k h => ⟨h, rfl, Bg.le_refl _⟩) (fun k hk => ?_)
 show Bg.le (p.O.getD k bgZ) ((p.O.map (bgInc a b c)).getD k bgZ)
 rw [getD_map28 (by omega)]
 exact ⟨by show _ ≤ _ + a; omega, by show _ ≤ _ + b; omega, Int.le_refl _, by show _ ≤ _ + c; omega⟩
theorem mz3_ok {p : Pb} (h : p.ok) (a b c : Int) : (mz3 p a b c).ok := ⟨h.rd, h.lR, h.lC, h.lF, by have := h.lO; simpa using this, h.lT, h.lc⟩
theorem mz4_less {p : Pb} {n : Nat} {f : Nat → Int} : Less p (mz4 p n) n f := by
 refine ⟨fun r hr => hr, fun k hk _ h => ?_, fun k h => ⟨h, rfl, Bg.le_refl _⟩, fun k hk => ?_⟩
 ·show f k < ((p.C.take n).getD k []).length ∧ ((p.C.take n).getD k []).getD (f k).toNat bpZ = _
  rw [getD_take28 hk]
  exact ⟨h, rfl⟩
 ·show Bg.le ((p.O.take n).getD k bgZ) _
  rw [getD_take28 hk]
  exact Bg.le_refl _
theorem mz4_sm {p : Pb} (h : Sm p) (n : Nat) : Sm (mz4 p n) := by
 refine ⟨h.R, h.Rr, ?_, fun l hl => h.Cc l (List.mem_of_mem_take hl), h.F, h.Ff, ?_, h.T⟩
 ·have := h.C
  show (p.C.take n).length ≤ 5
  rw [List.length_take]; omega
 ·show (p.O.take n).length = (p.C.take n).length
  rw [List.length_take, List.length_take, h.O]
theorem mzC_len (p : Pb) (m : Nat) : (mzC p m).length = p.C.length := by
 unfold mzC
 split
 ·exact List.length_set
 ·rfl
theorem mz5_less {p : Pb} {m : Nat} (hm : m < p.C.length) {f : Nat → Int} : Less p (mz5 p m) p.C.length f := by
 refine ⟨fun r hr => hr, fun k hk h0 h => ?_, fun k h => ⟨h, rfl, Bg.le_refl _⟩, fun k hk => Bg.le_refl _⟩
 show f k < ((mzC p m).getD k []).length ∧ ((mzC p m).getD k []).getD (f k).toNat bpZ = _
 unfold mzC
 split
 ·by_cases e : k = m
  ·subst e
   rw [List.getD_eq_getElem?_getD (l := p.C.set k _), List.getElem?_set_self hk]
   show f k < ((p.C.getD k [] ++ [(p.C.getD 0 []).getD 0 bpZ]).length : Nat) ∧ (p.C.getD k [] ++ [(p.C.getD 0 []).getD 0 bpZ]).getD (f k).toNat bpZ = _
   rw [getD_lo (by omega)]
   exact ⟨by rw [List.length_append]; have e1 : [(p.C.getD 0 []).getD 0 bpZ].length = 1 := rfl; omega, rfl⟩
  ·rw [List.getD_eq_getElem?_getD (l := p.C.set m _), List.getElem?_set_ne (Ne.symm e), ← List.getD_eq_getElem?_getD]
   exact ⟨h, rfl⟩
 ·exact ⟨h, rfl⟩
theorem mz5_sm {p : Pb} (h : Sm p) (h3 : ∀ l ∈ p.C, l.length ≤ 3) {m : Nat} (hm : m < p.C.length) : Sm (mz5 p m) := by
 refine ⟨h.R, h.Rr, by show (mzC p m).length ≤ 5; rw [mzC_len]; exact h.C, fun l hl => ?_, h.F, h.Ff, by show p.O.length = (mzC p m).length; rw [mzC_len]; exact h.O, h.T⟩
 replace hl : l ∈ mzC p m := hl
 unfold mzC at hl
 split at hl
 ·next h0 =>
  rcases mem_set28 hl with hl | rfl
  ·exact h.Cc l hl
  ·have hmm := getD_mem28 (z := []) hm
   have := h3 _ hmm
   refine ⟨by rw [List.length_append]; have e1 : [(p.C.getD 0 []).getD 0 bpZ].length = 1 := rfl; omega, fun b hb => ?_⟩
   rcases mem_snoc hb with hb | rfl
   ·exact (h.Cc _ hmm).2 b hb
   ·exact (h.Cc _ (getD_mem28 (z := []) (show 0 < p.C.length by omega))).2 _ (getD_mem28 h0)
 ·exact h.Cc l hl
/-- The budgets of a made problem are small. -/
def BgSm (x : Bg) : Prop := (0 ≤ x.lo ∧ x.lo ≤ 5) ∧ (0 ≤ x.bl ∧ x.bl ≤ 5) ∧ 0 ≤ x.st ∧ x.st ≤ 5
theorem bgN_sm (N : Nat) (f : Nat → Int) : BgSm (bgN N f) := by
 have h := bgN_bd N f
 unfold BgSm
 omega
theorem moIter_O (ll : List (List Int)) : ∀ k, ∀ x ∈ (moIter ll k).O, BgSm x
 | 0, _, h => by cases h
 | k + 1, x, h => by
   replace h : x ∈ (moStep ll (decide (k < lsN28 ll)) (moIter ll k)).O := h
   unfold moStep at h
   split at h
   ·rcases mem_snoc h with h | rfl
    ·exact moIter_O ll k x h
    ·exact bgN_sm _ _
   ·exact moIter_O ll k x h
theorem made_O (ll : List (List Int)) : ∀ k, k < (made28 ll).O.length → BgSm ((made28 ll).O.getD k bgZ) := fun k hk => moIter_O ll _ _ (getD_mem28 hk)
/-- k budgets were raised. -/
def gK (O : List Bg) (a b c : Int) (k i : Nat) : Bg := if i < k then bgInc a b c (O.getD i bgZ) else O.getD i bgZ
def gS (g : Nat → Bg) (k : Nat) (x : Bg) (i : Nat) : Bg := if i = k then x else g i
theorem setc {g : Nat → Bg} {n k j0 : Nat} {x : Bg} {v : Int} (h0 : (bgC x).getD j0 .any = iC v) (h : ∀ j, j < 4 → j ≠ j0 → (bgC x).getD j .any = (bgC (g k)).getD j .any) : ∀ i, i < n → ∀ j, j < 4 → setF (rowN bgC g) k j0 1 [iC v] i j = rowN bgC (gS g k x) i j ∧ immC (setF (rowN bgC g) k j0 1 [iC v] i j) = true := fun i hi j hj => by
 have : setF (rowN bgC g) k j0 1 [iC v] i j = rowN bgC (gS g k x) i j := by
  unfold setF rowN gS
  by_cases e : i = k
  ·subst e
   rw [Nat.beq_refl, if_pos rfl]
   by_cases ej : j = j0
   ·subst ej
    rw [show Nat.ble j j = true from Nat.ble_eq.mpr (Nat.le_refl _), show Nat.blt j (j + 1) = true from Nat.blt_eq.mpr (by omega), Nat.sub_self, h0]
    rfl
   ·have hb : (Nat.ble j0 j && Nat.blt j (j0 + 1)) = false := by
     refine Bool.eq_false_iff.2 fun e => ?_
     rw [Bool.and_eq_true] at e
     have h1 := Nat.ble_eq.mp e.1
     have h2 := Nat.blt_eq.mp e.2
     omega
    rw [hb, h j hj ej]
    rfl
  ·rw [show Nat.beq i k = false from Bool.eq_false_iff.2 fun h' => e (Nat.eq_of_beq_eq_true h'), if_neg e]
   rfl
 exact ⟨this, by rw [this]; exact rowN_imm bgC_imm28 _ i j⟩
theorem gS_gS (g : Nat → Bg) (k : Nat) (x y : Bg) : gS (gS g k x) k y = gS g k y := funext fun i => by
 unfold gS
 split <;> rfl
theorem gS_at (g : Nat → Bg) (k : Nat) (x : Bg) : gS g k x k = x := if_pos rfl
theorem gK_at (O : List Bg) (a b c : Int) (k : Nat) : gK O a b c k k = O.getD k bgZ := if_neg (Nat.lt_irrefl _)
theorem gK_next (O : List Bg) (a b c : Int) (k : Nat) : gS (gK O a b c k) k (bgInc a b c (O.getD k bgZ)) = gK O a b c (k + 1) := funext fun i => by
 unfold gS gK
 by_cases e : i = k
 ·subst e
  rw [if_pos rfl, if_pos (by omega)]
 ·rw [if_neg e]
  by_cases h : i < k
  ·rw [if_pos h, if_pos (by omega)]
  ·rw [if_neg h, if_neg (by omega)]
theorem gK_0 (O : List Bg) (a b c : Int) : ∀ i j, rowF bgC bgZ O i j = rowN bgC (gK O a b c 0) i j := fun i j => by
 unfold rowF rowN gK
 rw [if_neg (Nat.not_lt_zero _)]
theorem gK_all (O : List Bg) (a b c : Int) : ∀ i, i < O.length → ∀ j, j < 4 → rowN bgC (gK O a b c O.length) i j = rowF bgC bgZ (O.map (bgInc a b c)) i j ∧ immC (rowN bgC (gK O a b c O.length) i j) = true := fun i hi j _ => ⟨by
 unfold rowF rowN gK
 rw [if_pos hi, getD_map28 hi], rowN_imm bgC_imm28 _ i j⟩
end Go.Proofs.Ytjjaehpkccejaaa
end
