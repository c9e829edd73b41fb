/- Parts of the proof: A24tp, A28zj, A28zk. -/
import Derived.Test.YtjjaehpkccejaaaG19
import Derived.Test.YtjjaehpkccejaaaHA28zor03
import Derived.Test.YtjjaehpkccejaaaG18
import Derived.Test.YtjjaehpkccejaaaG14
import Derived.Test.YtjjaehpkccejaaaG03
import Derived.Scope
import Derived.Test.YtjjaehpkccejaaaG17
import Derived.Test.YtjjaehpkccejaaaG08
import Derived.Test.YtjjaehpkccejaaaG02
import Derived.RangeFuncLeaves
import Derived.RangeFuncRecord
import Derived.Shelf.Abstract
import Derived.Test.YtjjaehpkccejaaaG01
import Derived.Test.YtjjaehpkccejaaaG07
import Derived.Test.YtjjaehpkccejaaaG16
import Derived.Test.YtjjaehpkccejaaaHA28zor01
import Derived.RangeFuncNested
import Derived.Deep.AppendLies
import Derived.OrdersIn
import Derived.TacticsIn
import Derived.RangeFuncCalls
import Derived.Test.YtjjaehpkccejaaaG13
import Derived.Maps.AppendAt
import Derived.OwnWalk
import Derived.Test.YtjjaehpkccejaaaG15
import Derived.Test.YtjjaehpkccejaaaProg
import Derived.Laws.Cover3
import Derived.StillTail
import Derived.Below
import Derived.Deep.Draws
import Derived.WalkKit
import Derived.KernelRfl
import Derived.Test.YtjjaehpkccejaaaG12
import Derived.Test.YtjjaehpkccejaaaG10
import Derived.Test.YtjjaehpkccejaaaHA28zor02
import Derived.Lib.Hide
import Derived.Deep.QuietTactic
import Derived.BigQuiet
import Derived.Deep.DrawnRows
import Derived.Test.YtjjaehpkccejaaaG06
import Derived.Laws.StructEq
import Derived.Test.YtjjaehpkccejaaaG11
import Derived.Test.YtjjaehpkccejaaaG09
import Derived.Test.YtjjaehpkccejaaaG05
import Derived.Test.YtjjaehpkccejaaaG04
import Derived.Great.BuildSlice
import Derived.Test.YtjjaehpkccejaaaG36
import Derived.Test.YtjjaehpkccejaaaG32
import Derived.Test.YtjjaehpkccejaaaHA28zor09
import Derived.Test.YtjjaehpkccejaaaHA28zor10
import Derived.Test.YtjjaehpkccejaaaG27
import Derived.Test.YtjjaehpkccejaaaG31
import Derived.Test.YtjjaehpkccejaaaHA28zor08
import Derived.Test.YtjjaehpkccejaaaG26
import Derived.Laws.Pointers
import Derived.Test.YtjjaehpkccejaaaG21
import Derived.Test.YtjjaehpkccejaaaHA28zor04
import Derived.Test.YtjjaehpkccejaaaG22
import Derived.Test.YtjjaehpkccejaaaHA28zor05
import Derived.Test.YtjjaehpkccejaaaG25
import Derived.WideKeyMaps
import Derived.MapKept
import Derived.Carry
import Derived.Test.YtjjaehpkccejaaaG30
import Derived.Test.YtjjaehpkccejaaaHA28zor07
import Derived.Test.YtjjaehpkccejaaaG20
import Derived.Test.YtjjaehpkccejaaaG29
import Derived.DeepKeys4
import Derived.Test.YtjjaehpkccejaaaG28
import Derived.Test.YtjjaehpkccejaaaG24
import Derived.Test.YtjjaehpkccejaaaG35
import Derived.Test.YtjjaehpkccejaaaG34
import Derived.Test.YtjjaehpkccejaaaG33
set_option linter.unusedSimpArgs false
set_option linter.unusedVariables false
section
namespace Go.Proofs.Ytjjaehpkccejaaa
open Go.RowKit Go.Flow Go.AV Go.Plain
/-- Every component of a budget is at most that of another one. -/
def Bg.le (x y : Bg) : Prop := x.lo ≤ y.lo ∧ x.bl ≤ y.bl ∧ x.sh ≤ y.sh ∧ x.st ≤ y.st
end Go.Proofs.Ytjjaehpkccejaaa
end

section
namespace Go.Proofs.Ytjjaehpkccejaaa
open Go.RowKit Go.Flow Go.AV Go.Plain
theorem Bg.le_refl (x : Bg) : Bg.le x x := ⟨Int.le_refl _, Int.le_refl _, Int.le_refl _, Int.le_refl _⟩
/-- q asks less than p, as far as the first m lists go. -/
structure Less (p q : Pb) (m : Nat) (f : Nat → Int) : Prop where
 R : ∀ r ∈ rdL q.R, r ∈ rdL p.R
 C : ∀ k, k < m → 0 ≤ f k → f k < (p.C.getD k []).length → f k < (q.C.getD k []).length ∧ (q.C.getD k []).getD (f k).toNat bpZ = (p.C.getD k []).getD (f k).toNat bpZ
 F : ∀ k, k < q.F.length → k < p.F.length ∧ q.F.getD k bpZ = p.F.getD k bpZ ∧ Bg.le (q.T.getD k bgZ) (p.T.getD k bgZ)
 O : ∀ k, k < m → Bg.le (q.O.getD k bgZ) (p.O.getD k bgZ)
/-- A small problem, as they are made. -/
structure Sm (p : Pb) : Prop where
 R : p.R.length ≤ 4
 Rr : ∀ r ∈ p.R, rdE r = 0 ∧ -1000000 ≤ r.bl ∧ r.bl ≤ 1000000
 C : p.C.length ≤ 5
 Cc : ∀ l ∈ p.C, l.length ≤ 4 ∧ ∀ b ∈ l, ∃ d, b = bp65 d
 F : p.F.length ≤ 6
 Ff : ∀ b ∈ p.F, ∃ d, b = bp65 d
 O : p.O.length = p.C.length
 T : p.T.length = p.F.length
theorem Sm.ok {p : Pb} (h : Sm p) : p.ok := by
 obtain ⟨hR, hr, hC, hc, hF, hf, hO, hT⟩ := h
 exact ⟨fun r h => (hr r h).2, by omega, by omega, by omega, by omega, by omega, fun l hl => by have := (hc l hl).1; omega⟩
theorem Sm.chk {p : Pb} (h : Sm p) : chkP p = 0 := by
 obtain ⟨hR, hr, hC, hc, hF, hf, hO, hT⟩ := h
 rw [chkP_maps (p := p)]
 ·refine chkA_ok (good65 fun b hb => ?_)
  rcases List.mem_append.1 hb with hb | hb
  ·obtain ⟨l, hl, hb⟩ := List.mem_flatten.1 hb
   exact (hc l hl).2 b hb
  ·exact hf b hb
 ·omega
 ·intro i hi
  have := (hc _ (getD_mem28 (z := []) hi)).1
  omega
 ·intro i hi
  exact (hr _ (getD_mem28 (z := rdZ) hi)).1
 ·exact ⟨hO, hT⟩
theorem Sm.fit {p : Pb} (h : Sm p) : p.fit := chkP_fit h.ok h.chk
theorem made_sm (ll : List (List Int)) : Sm (made28 ll) ∧ ∀ l ∈ (made28 ll).C, l.length ≤ 3 := by
 obtain ⟨b1, b2, b3⟩ := lists_bd ll
 have h := moIter_ok ll (lsN28 ll + fxN28 ll)
 have hR := rdIter_len ll (rdN ll)
 have hC := h.C
 have hF := h.F
 refine ⟨⟨?_, fun r hr => ?_, ?_, fun l hl => ?_, ?_, h.Ff, h.O, h.T⟩, fun l hl => (h.Cc l hl).1⟩
 ·show (rdIter ll (rdN ll)).2.length ≤ 4
  omega
 ·obtain ⟨bl, sh, rfl⟩ := rdIter_md ll _ r hr
  exact rd_md21 bl sh
 ·show (moIter ll (lsN28 ll + fxN28 ll)).C.length ≤ 5
  omega
 ·have := h.Cc l hl
  exact ⟨by omega, this.2⟩
 ·show (moIter ll (lsN28 ll + fxN28 ll)).F.length ≤ 6
  omega
end Go.Proofs.Ytjjaehpkccejaaa
end

section
namespace Go.Proofs.Ytjjaehpkccejaaa
open Go.RowKit Go.Flow Go.AV Go.Plain
def cpF (C : List (List Bp)) (m id : Nat) (k _ : Nat) : CV := if k = m then .ow id else lsB (C.getD k [])
def cpL (C : List (List Bp)) (m k : Nat) : List Bp := if m < k then C.getD m [] else []
/-- k lists of choices, the m-th one an own row. -/
abbrev chM (C : List (List Bp)) (m id k : Nat) : AB := ⟨true, k, 1, 29, cpF C m id⟩
theorem appF_lo {F G : Nat → Nat → CV} {n i j : Nat} (h : i < n) : appF F n G i j = F i j := by
 unfold appF
 rw [show Nat.blt i n = true from Nat.blt_eq.mpr h]
 rfl
theorem appF_hi {F G : Nat → Nat → CV} {n i j : Nat} (h : n ≤ i) : appF F n G i j = G (i - n) j := by
 unfold appF
 rw [show Nat.blt i n = false from Bool.eq_false_iff.2 fun e => by have := Nat.blt_eq.mp e; omega]
 rfl
abbrev cpNw (p : Pb) (m : Nat) : List AB := [rdB p.R, chM p.C m 905 p.C.length, bpB p.F, bgB p.O, bgB p.T, bpB (cpL p.C m p.C.length)]
abbrev cpRes : AV := .ag [.ow 900, .ow 901, .ow 902, .ow 903, .ow 904]
set_option maxHeartbeats 2000000 in
set_option maxRecDepth 100000 in
theorem Copy_G (p : Pb) (hp : p.ok) (m : Nat) : GCalls Try.prog 27 [.ag (pbC p)] [] cpRes [] (cpNw p m) := by
 obtain ⟨hrd, lR, lC, lF', lO, lT, lc⟩ := hp
 refine ge_at Try.func27 rfl rfl Try.ntmps27 rfl ?_
 repeat (first
  | refine AWp.seq ?_
  | refine thenA_n ?_
  | refine AWp.block ?_
  | (refine rG 0 ?_
     refine qr5 aQ ?_
     refine qr5 (aM tyOk) ?_
     refine aB ?_)
  | (refine AWp.draw (id := 1) mixed ?_; refine qr7 (AList.emptySl tyOk) ?_; refine kD ?_; refine kE ?_; refine AList.appL0 tyOk rfl rfl rfl rfl rfl rfl rfl rfl rfl rfl oM oM ?_; refine qr7 (AList.emptySl tyOk) ?_; refine kD ?_; refine kE ?_; refine AList.appL0 tyOk rfl rfl rfl rfl rfl rfl rfl rfl rfl rfl oM oM ?_; refine qr7 (AList.emptySl tyOk) ?_; refine kD ?_; refine kE ?_; refine AList.appL0 tyOk rfl rfl rfl rfl rfl rfl rfl rfl rfl rfl oM oM ?_; refine qr7 (AList.emptySl tyOk) ?_; refine kD ?_; refine kE ?_; refine AList.appL0 tyOk rfl rfl rfl rfl rfl rfl rfl rfl rfl rfl oM oM ?_; refine qr8 (aX tyOk) ?_; refine qr5 (aM tyOk) ?_; refine kI ?_; refine aB ⟨by kernel_rfl, ?_⟩)
  | (refine rG 2 ?_
     refine kC ?_
     refine aB ?_))
 refine AWp.round (fun k : Nat =>
  mkSt 42 [(1, .c (.pt 1 5 0 0)), (2, .c (.pt 2 5 0 0)), (3, .c (.pt 3 5 0 0)), (4, .c (iC (k : Nat)))] [(1, ⟨false, 1, 5, 32, lF (pbC p)⟩), (2, ⟨false, 1, 5, 32, lF [nl8, nl8, nl8, nl8, nl8]⟩), (3, ⟨false, 1, 5, 32, lF [.ow 8, .ow 22, .ow 12, .ow 16, .ow 20]⟩), (8, rdB p.R), (12, bpB p.F), (16, bgB p.O), (20, bgB p.T), (22, chM p.C m 23 (k : Nat)), (23, bpB (cpL p.C m (k : Nat)))] [1, 2, 3, 8, 12, 16, 20, 22, 23]
  ) (fun k => k ≤ p.C.length) (fun k => p.C.length - k) 0 (Nat.zero_le _) ?_ (fun k hk => ?_)
 ·refine Wk.mk [(1, some 1), (2, some 2), (3, some 3), (8, some 8), (12, some 12), (16, some 16), (20, some 20), (22, none), (23, none)] rfl rfl rfl ?_ ?_
  ·exact allT
  ·exact ⟨hSm, hSm, HeapOk.box rfl rfl ⟨LeC.ow _ _ rfl, LeC.nil _ rfl, LeC.ow _ _ rfl, LeC.ow _ _ rfl, LeC.ow _ _ rfl, trivial⟩ rfl,
   hrF rdC_imm, hrF bpC_imm, hrF bgC_imm28, hrF bgC_imm28
   , HeapOk.nil rfl rfl, HeapOk.nil rfl (by unfold cpL; rw [if_neg (Nat.not_lt_zero _)]; rfl), trivial⟩
 by_cases hkl : k < p.C.length
 ·have hkl' : (k : Int) < p.C.length := by omega
  obtain ⟨L, hL⟩ : ∃ L, p.C.getD k [] = L := ⟨_, rfl⟩
  have hcF : chF p.C k 0 = lsB L := by rw [← hL]
  have hLl : L.length ≤ 1000000 := by rw [← hL]; exact lc _ (getD_mem28 hkl)
  repeat (first
   | refine AWp.seq ?_
   | refine thenA_n ?_
   | refine AWp.block ?_
   | refine AWp.skip ?_
   | refine inBlk_n ?_
   | refine AWp.condT rfl cnT ?_
   | (refine rG 3 ?_
      refine kA ?_
      refine kD ?_
      refine kE ?_
      refine qr5 (aO tyOk) ?_
      refine qr5t aK ?_
      refine aB ?_)
   | (refine rG 4 ?_
      refine kA ?_
      refine qr4w2 aL ?_
      refine kC ?_
      refine aB ?_)
   | (refine AWp.draw (id := 5) mixed ?_; refine kD ?_; refine kE ?_; refine qr7 (AList.emptySl tyOk) ?_; refine kD ?_; refine kE ?_; refine kA ?_; refine qr8eo2 (aP (k := k) tyOk) ?_; refine AList.load1lE tyOk (hcF) rfl rfl rfl rfl rfl oM ?_; refine AList.appL0 tyOk rfl rfl rfl rfl rfl rfl rfl rfl rfl rfl oM oM ?_; refine qr11 (AList.litOw tyOk) ?_; refine AList.appO tyOk rfl rfl rfl rfl rfl rfl rfl rfl rfl rfl rfl oM oM ?_; refine kD ?_; refine kI ?_; refine aB ⟨by kernel_rfl, ?_⟩))
  have hrow : ∀ (S : St) (ren : List (Nat × Option Nat)) (x : Nat), S.h 37 = some (bpB L) → (∀ i, i < k → i = m → assoc ren 23 = some (some 23)) → (if k = m then assoc ren 23 = some (some 37) else renNo ren 37 = true) →
   ∀ i, i < k + 1 → ∀ j, j < 1 → LeC S.h ren (appF (cpF p.C m 23) k (sF [.ow 37] 1) i j) (cpF p.C m 23 i j) := fun S ren x hh h1 h2 i hi j hj => by
   obtain rfl : j = 0 := Nat.lt_one_iff.mp hj
   by_cases hik : i < k
   ·rw [appF_lo hik]
    unfold cpF
    by_cases him : i = m
    ·rw [if_pos him]
     exact LeC.ow _ _ (h1 i hik him)
    ·rw [if_neg him]
     exact LeC.refl _ rfl
   ·obtain rfl : i = k := by omega
    rw [appF_hi (Nat.le_refl _), Nat.sub_self]
    unfold cpF
    by_cases him : i = m
    ·rw [if_pos him] at h2 ⊢
     exact LeC.ow _ _ h2
    ·rw [if_neg him] at h2 ⊢
     rw [hL]
     exact LeC.fz hh h2 rfl (fun i _ j _ => ⟨rfl, rowF_imm bpC_imm _ i j⟩)
  by_cases hkm : k = m
  ·have hl1 : cpL p.C m (k + 1) = L := by unfold cpL; rw [if_pos (by omega), ← hkm, hL]
   refine ⟨k + 1, hkl, ?_, by omega⟩
   rw [hl1]
   refine Wk.mk [(1, some 1), (2, some 2), (3, some 3), (8, some 8), (12, some 12), (16, some 16), (20, some 20), (22, some 39), (23, some 37)] rfl rfl rfl ?_ ?_
   ·exact allT
   ·exact ⟨hSm, hSm, HeapOk.box rfl rfl ⟨LeC.ow _ _ rfl, LeC.ow _ _ rfl, LeC.ow _ _ rfl, LeC.ow _ _ rfl, LeC.ow _ _ rfl, trivial⟩ rfl,
    hrF rdC_imm, hrF bpC_imm, hrF bgC_imm28, hrF bgC_imm28
    , .inr ⟨39, k + 1, _, .inl rfl, rfl, rfl, hrow _ _ 0 rfl (fun i h1 h2 => by omega) (by rw [if_pos hkm]; rfl)⟩, hrF bpC_imm, trivial⟩
  ·have hl1 : cpL p.C m (k + 1) = cpL p.C m k := by
    unfold cpL
    by_cases h : m < k
    ·rw [if_pos h, if_pos (by omega)]
    ·rw [if_neg h, if_neg (by omega)]
   refine ⟨k + 1, hkl, ?_, by omega⟩
   rw [hl1]
   refine Wk.mk [(1, some 1), (2, some 2), (3, some 3), (8, some 8), (12, some 12), (16, some 16), (20, some 20), (22, some 39), (23, some 23)] rfl rfl rfl ?_ ?_
   ·exact allT
   ·exact ⟨hSm, hSm, HeapOk.box rfl rfl ⟨LeC.ow _ _ rfl, LeC.ow _ _ rfl, LeC.ow _ _ rfl, LeC.ow _ _ rfl, LeC.ow _ _ rfl, trivial⟩ rfl,
    hrF rdC_imm, hrF bpC_imm, hrF bgC_imm28, hrF bgC_imm28
    , .inr ⟨39, k + 1, _, .inl rfl, rfl, rfl, hrow _ _ 0 rfl (fun i h1 h2 => rfl) (by rw [if_neg hkm]; rfl)⟩, hrF bpC_imm, trivial⟩
 have hkl' : ¬ (k : Int) < p.C.length := by omega
 obtain rfl : k = p.C.length := by omega
 repeat (first
  | refine AWp.seq ?_
  | refine thenA_n ?_
  | refine AWp.exit ?_
  | refine AWp.ret ?_
  | refine AWp.condF rfl cnF ?_
  | (refine rG 3 ?_
     refine kA ?_
     refine kD ?_
     refine kE ?_
     refine qr5 (aO tyOk) ?_
     refine qr5f aJ ?_
     refine aB ?_)
  | (refine rG 6 ?_
     refine kF ?_
     refine kI ?_
     refine aB ?_))
 refine ⟨mkSt 42 [(2, .c (.pt 2 5 0 0))] [(2, ⟨false, 1, 5, 32, lF [.ow 900, .ow 901, .ow 902, .ow 903, .ow 904]⟩), (900, rdB p.R), (901, chM p.C m 905 p.C.length), (902, bpB p.F), (903, bgB p.O), (904, bgB p.T), (905, bpB (cpL p.C m p.C.length))] [2, 900, 901, 902, 903, 904, 905], [(2, ⟨false, 1, 5, 32, lF [.ow 900, .ow 901, .ow 902, .ow 903, .ow 904]⟩)], _, [], cpNw p m, ⟨rfl, rfl, rfl⟩, rfl, Wk.mk [(2, some 2), (900, some 8), (901, some 22), (902, some 12), (903, some 16), (904, some 20), (905, some 23)] rfl rfl rfl ?_ ?_, rfl, rfl, GRets.one (x := .ag _) (GRes.box tyOk rfl rfl rfl rfl rfl rfl)⟩
 ·exact allT
 ·exact ⟨HeapOk.box rfl rfl ⟨LeC.ow _ _ rfl, LeC.ow _ _ rfl, LeC.ow _ _ rfl, LeC.ow _ _ rfl, LeC.ow _ _ rfl, trivial⟩ rfl, hrF rdC_imm, .inr ⟨22, p.C.length, _, .inl rfl, rfl, rfl, fun i hi j hj => by
   show LeC _ _ (cpF p.C m 23 i j) (cpF p.C m 905 i j)
   unfold cpF
   by_cases him : i = m
   ·rw [if_pos him, if_pos him]
    exact LeC.ow _ _ rfl
   ·rw [if_neg him, if_neg him]
    exact LeC.refl _ rfl⟩, hrF bpC_imm, hrF bgC_imm28, hrF bgC_imm28, hrF bpC_imm, trivial⟩
end Go.Proofs.Ytjjaehpkccejaaa
end
