/- Parts of the proof: A24tp, A28zj, A28zk, A28zl. -/
import Derived.Test.YtjjaehpkccejaaaG19
import Derived.Test.YtjjaehpkccejaaaHA28zpr03
import Derived.Test.YtjjaehpkccejaaaG18
import Derived.Test.YtjjaehpkccejaaaG14
import Derived.Test.YtjjaehpkccejaaaG03
import Derived.Scope
import Derived.Test.YtjjaehpkccejaaaG17
import Derived.Test.YtjjaehpkccejaaaG08
import Derived.Test.YtjjaehpkccejaaaG02
import Derived.RangeFuncLeaves
import Derived.RangeFuncRecord
import Derived.Shelf.Abstract
import Derived.Test.YtjjaehpkccejaaaG01
import Derived.Test.YtjjaehpkccejaaaG07
import Derived.Test.YtjjaehpkccejaaaG16
import Derived.Test.YtjjaehpkccejaaaHA28zpr01
import Derived.RangeFuncNested
import Derived.Deep.AppendLies
import Derived.OrdersIn
import Derived.TacticsIn
import Derived.RangeFuncCalls
import Derived.Test.YtjjaehpkccejaaaG13
import Derived.Maps.AppendAt
import Derived.OwnWalk
import Derived.Test.YtjjaehpkccejaaaG15
import Derived.Test.YtjjaehpkccejaaaProg
import Derived.Laws.Cover3
import Derived.StillTail
import Derived.Below
import Derived.Deep.Draws
import Derived.WalkKit
import Derived.KernelRfl
import Derived.Test.YtjjaehpkccejaaaG12
import Derived.Test.YtjjaehpkccejaaaG10
import Derived.Test.YtjjaehpkccejaaaHA28zpr02
import Derived.Lib.Hide
import Derived.Deep.QuietTactic
import Derived.BigQuiet
import Derived.Deep.DrawnRows
import Derived.Test.YtjjaehpkccejaaaG06
import Derived.Laws.StructEq
import Derived.Test.YtjjaehpkccejaaaG11
import Derived.Test.YtjjaehpkccejaaaG09
import Derived.Test.YtjjaehpkccejaaaG05
import Derived.Test.YtjjaehpkccejaaaG04
import Derived.Great.BuildSlice
import Derived.Test.YtjjaehpkccejaaaG36
import Derived.Test.YtjjaehpkccejaaaG32
import Derived.Test.YtjjaehpkccejaaaHA28zpr08
import Derived.Test.YtjjaehpkccejaaaHA28zpr09
import Derived.Test.YtjjaehpkccejaaaG27
import Derived.Test.YtjjaehpkccejaaaG31
import Derived.Test.YtjjaehpkccejaaaHA28zpr07
import Derived.Test.YtjjaehpkccejaaaG26
import Derived.Laws.Pointers
import Derived.Test.YtjjaehpkccejaaaG21
import Derived.Test.YtjjaehpkccejaaaHA28zpr04
import Derived.Test.YtjjaehpkccejaaaG22
import Derived.Test.YtjjaehpkccejaaaHA28zpr05
import Derived.Test.YtjjaehpkccejaaaG25
import Derived.WideKeyMaps
import Derived.MapKept
import Derived.Carry
import Derived.Test.YtjjaehpkccejaaaG30
import Derived.Test.YtjjaehpkccejaaaG20
import Derived.Test.YtjjaehpkccejaaaG29
import Derived.DeepKeys4
import Derived.Test.YtjjaehpkccejaaaG28
import Derived.Test.YtjjaehpkccejaaaG24
import Derived.Test.YtjjaehpkccejaaaG35
import Derived.Test.YtjjaehpkccejaaaG34
import Derived.Test.YtjjaehpkccejaaaG33
set_option linter.unusedSimpArgs false
set_option linter.unusedVariables false
section
namespace Go.Proofs.Ytjjaehpkccejaaa
open Go.RowKit Go.Flow Go.AV Go.Plain
theorem lsN_le {f : Cl → Int} {v : Int} : ∀ {L : List Cl} {z : Int}, lsN f L z ≤ v ↔ z ≤ v ∨ ∃ c, c ∈ L ∧ f c ≤ v
 | [], z => ⟨.inl, fun h => h.elim id fun ⟨_, h, _⟩ => by cases h⟩
 | c :: L, z => by
   show lsN f L (min z (f c)) ≤ v ↔ _
   rw [lsN_le]
   constructor
   ·rintro (h | ⟨d, h1, h2⟩)
    ·by_cases hz : z ≤ v
     ·exact .inl hz
     ·exact .inr ⟨c, by simp, by omega⟩
    ·exact .inr ⟨d, by simp [h1], h2⟩
   ·rintro (h | ⟨d, h1, h2⟩)
    ·exact .inl (by omega)
    ·rcases List.mem_cons.1 h1 with rfl | h1
     ·exact .inl (by omega)
     ·exact .inr ⟨d, h1, h2⟩
theorem lsN_dom {f g : Cl → Int} {L M : List Cl} {z : Int} (h : ∀ c, c ∈ L → ∃ d, d ∈ M ∧ g d ≤ f c) : lsN g M z ≤ lsN f L z := by
 have h1 : lsN f L z ≤ lsN f L z := Int.le_refl _
 rw [lsN_le] at h1
 rw [lsN_le]
 rcases h1 with h1 | ⟨c, hc, h1⟩
 ·exact .inl h1
 ·obtain ⟨d, hd, h2⟩ := h c hc
  exact .inr ⟨d, hd, by omega⟩
theorem cnf_slk (a b : Bp) (x y : Bg) (h : cmpOk a b) : (cnfV a b x y).2 = decide ((slkV a b x y).1 ≤ 0) := by
 unfold cnfV slkV
 rw [if_pos h, if_pos h]
 show (cnfR (hitC a b x y) (alL a.W x y)).2 = decide (lsN (xsV a b x y) (alL a.W x y) ((a.n : Int) + 1) ≤ 0)
 unfold cnfR
 cases hf : (alL a.W x y).find? (hitC a b x y) with
 | some c =>
   have h1 := List.find?_some hf
   have h2 := List.mem_of_find?_eq_some hf
   exact (decide_eq_true (lsN_le.2 (.inr ⟨c, h2, of_decide_eq_true h1⟩))).symm
 | none =>
   rw [List.find?_eq_none] at hf
   refine (decide_eq_false fun h => ?_).symm
   rcases lsN_le.1 h with h | ⟨c, hc, h⟩
   ·omega
   ·exact hf c hc (decide_eq_true h)
def sh5 : Bool := (List.range 5).all fun m => (List.range (2 * m + 1)).all fun i => (List.range (2 * m + 1)).all fun j => decide ((((i : Int) - m, (j : Int) - m) : Int × Int) ∈ shL m)
theorem sh5_ok : sh5 = true := by decide +kernel
theorem sh5_mem {m : Nat} (hm : m ≤ 4) {d : Int × Int} : d ∈ shL m ↔ (-(m : Int) ≤ d.1 ∧ d.1 ≤ m) ∧ -(m : Int) ≤ d.2 ∧ d.2 ≤ m := by
 constructor
 ·intro h
  obtain ⟨j, hj, rfl⟩ := List.getElem_of_mem h
  have := sh_bd hj
  rwa [List.getD_eq_getElem?_getD, List.getElem?_eq_getElem hj] at this
 ·rintro ⟨⟨h1, h2⟩, h3, h4⟩
  have h := sh5_ok
  unfold sh5 at h
  have h := List.all_eq_true.1 (List.all_eq_true.1 (List.all_eq_true.1 h m (List.mem_range.2 (by omega))) (d.1 + m).toNat (List.mem_range.2 (by omega))) (d.2 + m).toNat (List.mem_range.2 (by omega))
  have h := of_decide_eq_true h
  rwa [show (((d.1 + m).toNat : Nat) : Int) - m = d.1 by omega, show (((d.2 + m).toNat : Nat) : Int) - m = d.2 by omega] at h
theorem al_mem2 {w : Int} {x y : Bg} {c : Cl} (hw : 0 ≤ w) : c ∈ alL w x y ↔ ((-(shN x y : Int) ≤ c.dx ∧ c.dx ≤ shN x y) ∧ -(shN x y : Int) ≤ c.dy ∧ c.dy ≤ shN x y) ∧ -4 ≤ c.col ∧ c.col ≤ w + 4 - stN w x y := by
 rw [mem_al, sh5_mem (shN_eq x y).2]
 have ht := stN_bd x y hw
 have hM : ((alM w x y : Nat) : Int) = w + 9 - stN w x y := by unfold alM; omega
 constructor
 ·rintro ⟨h, i, hi, e⟩
  exact ⟨h, by omega, by omega⟩
 ·rintro ⟨h, h1, h2⟩
  exact ⟨h, (c.col + 4).toNat, by omega, by omega⟩
/-- Wider strips leave fewer dots. -/
theorem only_mono {a b : Bp} {dx dy fr ti fr' ti' : Int} (h : ∀ i : Int, 0 ≤ i → i < a.W → fr ≤ i → i < ti → fr' ≤ i ∧ i < ti') : onlyN a b dx dy fr' ti' ≤ onlyN a b dx dy fr ti := by
 unfold onlyN
 refine sumTo_le fun j _ => cnt_mono fun i hi h1 => ?_
 unfold onB at h1 ⊢
 simp only [Bool.and_eq_true, Bool.or_eq_true, decide_eq_true_eq] at h1 ⊢
 refine ⟨⟨h1.1.1, ?_⟩, h1.2⟩
 by_cases g1 : (i : Int) < fr
 ·exact .inl g1
 ·by_cases g2 : ti ≤ (i : Int)
  ·exact .inr g2
  ·have := h i (by omega) (by omega) (by omega) (by omega)
   rcases h1.1.2 with h3 | h3 <;> omega
theorem stN_comm (w : Int) (x y : Bg) : stN w x y = stN w y x := by unfold stN; omega
theorem shN_comm (x y : Bg) : shN x y = shN y x := by
 have h1 := (shN_eq x y).1
 have h2 := (shN_eq y x).1
 omega
/-- One order has nothing that the other one does not have at least as good. -/
theorem slk_turn (a b : Bp) (x y : Bg) (h : cmpOk a b) : (slkV b a y x).1 ≤ (slkV a b x y).1 := by
 have h' : cmpOk b a := ⟨h.2.1, h.1, h.2.2.1.symm, h.2.2.2.symm⟩
 obtain ⟨ha, hb, hW, hH⟩ := h
 obtain ⟨q0, q1, q2, q3, q4⟩ := okB ha
 obtain ⟨-, -, -, -, r4⟩ := okB hb
 have hn : (b.n : Int) = a.n := by rw [q4, r4, hW, hH]
 unfold slkV
 rw [if_pos h', if_pos ⟨ha, hb, hW, hH⟩]
 show lsN (xsV b a y x) (alL b.W y x) ((b.n : Int) + 1) ≤ lsN (xsV a b x y) (alL a.W x y) ((a.n : Int) + 1)
 rw [hn, ← hW]
 refine lsN_dom fun c hc => ?_
 rw [al_mem2 q0] at hc
 have hm := (shN_eq x y).2
 have ht := stN_bd x y q0
 obtain ⟨⟨⟨c1, c2⟩, c3, c4⟩, c5, c6⟩ := hc
 obtain ⟨t, htt⟩ : ∃ t, stN a.W x y = t := ⟨_, rfl⟩
 rw [htt] at c6 ht
 obtain ⟨e, he⟩ : ∃ e, e = max (-4) (min (a.W + 4 - t) (c.col - c.dx)) := ⟨_, rfl⟩
 refine ⟨⟨-c.dx, -c.dy, e⟩, (al_mem2 q0).2 ⟨?_, ?_⟩, ?_⟩
 ·rw [← shN_comm x y]
  dsimp only
  omega
 ·rw [← stN_comm, htt]
  dsimp only
  omega
 ·unfold xsV ovN
  dsimp only
  rw [← hW, ← stN_comm, htt, Int.neg_neg, Int.neg_neg]
  have m1 : onlyN b a (-c.dx) (-c.dy) e (e + t) ≤ onlyN b a (-c.dx) (-c.dy) (c.col - c.dx) (c.col - c.dx + t) := only_mono fun i h1 h2 h3 h4 => by rw [← hW] at h2; omega
  have m2 : onlyN a b c.dx c.dy (e - -c.dx) (e - -c.dx + t) ≤ onlyN a b c.dx c.dy c.col (c.col + t) := only_mono fun i h1 h2 h3 h4 => by omega
  omega
theorem slk_comm (a b : Bp) (x y : Bg) (h : cmpOk a b) : (slkV b a y x).1 = (slkV a b x y).1 :=
 Int.le_antisymm (slk_turn a b x y h) (slk_turn b a y x ⟨h.2.1, h.1, h.2.2.1.symm, h.2.2.2.symm⟩)
/-- Every component of a budget is at most that of another one. -/
def Bg.le (x y : Bg) : Prop := x.lo ≤ y.lo ∧ x.bl ≤ y.bl ∧ x.sh ≤ y.sh ∧ x.st ≤ y.st
end Go.Proofs.Ytjjaehpkccejaaa
end

section
namespace Go.Proofs.Ytjjaehpkccejaaa
open Go.RowKit Go.Flow Go.AV Go.Plain
theorem clash_any (a b : Bp) (x y : Bg) : ∀ (L : List Rd) (k : Nat), (clashL a b x y L k).2.2 = L.any (fun r => rcB r a b x y)
 | [], _ => rfl
 | r :: L, k => by
   unfold clashL
   rw [List.any_cons]
   cases h : rcB r a b x y with
   | true => rw [if_pos rfl]; rfl
   | false => rw [if_neg (by simp), clash_any a b x y L (k + 1)]; rfl
theorem cnf_comm (a b : Bp) (x y : Bg) : (cnfV b a y x).2 = (cnfV a b x y).2 := by
 by_cases h : cmpOk a b
 ·have h' : cmpOk b a := ⟨h.2.1, h.1, h.2.2.1.symm, h.2.2.2.symm⟩
  rw [cnf_slk a b x y h, cnf_slk b a y x h', slk_comm a b x y h]
 ·have h' : ¬ cmpOk b a := fun h' => h ⟨h'.2.1, h'.1, h'.2.2.1.symm, h'.2.2.2.symm⟩
  unfold cnfV
  rw [if_neg h, if_neg h']
theorem rc_comm (r : Rd) (a b : Bp) (x y : Bg) : rcB r b a y x = rcB r a b x y := by
 unfold rcB
 rw [cnf_comm (seeB r a) (seeB r b) x y, ← Bool.and_assoc, ← Bool.and_assoc, Bool.and_comm (decide (seeE r b = 0))]
theorem clash_comm (L : List Rd) (a b : Bp) (x y : Bg) : (clashV L b a y x).2.2 = (clashV L a b x y).2.2 := by
 unfold clashV
 rw [clash_any, clash_any]
 exact congrArg _ (funext fun r => rc_comm r a b x y)
theorem Bg.le_refl (x : Bg) : Bg.le x x := ⟨Int.le_refl _, Int.le_refl _, Int.le_refl _, Int.le_refl _⟩
/-- q asks less than p, as far as the first m lists go. -/
structure Less (p q : Pb) (m : Nat) (f : Nat → Int) : Prop where
 R : ∀ r ∈ rdL q.R, r ∈ rdL p.R
 C : ∀ k, k < m → 0 ≤ f k → f k < (p.C.getD k []).length → f k < (q.C.getD k []).length ∧ (q.C.getD k []).getD (f k).toNat bpZ = (p.C.getD k []).getD (f k).toNat bpZ
 F : ∀ k, k < q.F.length → k < p.F.length ∧ q.F.getD k bpZ = p.F.getD k bpZ ∧ Bg.le (q.T.getD k bgZ) (p.T.getD k bgZ)
 O : ∀ k, k < m → Bg.le (q.O.getD k bgZ) (p.O.getD k bgZ)
/-- A small problem, as they are made. -/
structure Sm (p : Pb) : Prop where
 R : p.R.length ≤ 4
 Rr : ∀ r ∈ p.R, rdE r = 0 ∧ -1000000 ≤ r.bl ∧ r.bl ≤ 1000000
 C : p.C.length ≤ 5
 Cc : ∀ l ∈ p.C, l.length ≤ 4 ∧ ∀ b ∈ l, ∃ d, b = bp65 d
 F : p.F.length ≤ 6
 Ff : ∀ b ∈ p.F, ∃ d, b = bp65 d
 O : p.O.length = p.C.length
 T : p.T.length = p.F.length
theorem Sm.ok {p : Pb} (h : Sm p) : p.ok := by
 obtain ⟨hR, hr, hC, hc, hF, hf, hO, hT⟩ := h
 exact ⟨fun r h => (hr r h).2, by omega, by omega, by omega, by omega, by omega, fun l hl => by have := (hc l hl).1; omega⟩
theorem Sm.chk {p : Pb} (h : Sm p) : chkP p = 0 := by
 obtain ⟨hR, hr, hC, hc, hF, hf, hO, hT⟩ := h
 rw [chkP_maps (p := p)]
 ·refine chkA_ok (good65 fun b hb => ?_)
  rcases List.mem_append.1 hb with hb | hb
  ·obtain ⟨l, hl, hb⟩ := List.mem_flatten.1 hb
   exact (hc l hl).2 b hb
  ·exact hf b hb
 ·omega
 ·intro i hi
  have := (hc _ (getD_mem28 (z := []) hi)).1
  omega
 ·intro i hi
  exact (hr _ (getD_mem28 (z := rdZ) hi)).1
 ·exact ⟨hO, hT⟩
theorem Sm.fit {p : Pb} (h : Sm p) : p.fit := chkP_fit h.ok h.chk
theorem made_sm (ll : List (List Int)) : Sm (made28 ll) ∧ ∀ l ∈ (made28 ll).C, l.length ≤ 3 := by
 obtain ⟨b1, b2, b3⟩ := lists_bd ll
 have h := moIter_ok ll (lsN28 ll + fxN28 ll)
 have hR := rdIter_len ll (rdN ll)
 have hC := h.C
 have hF := h.F
 refine ⟨⟨?_, fun r hr => ?_, ?_, fun l hl => ?_, ?_, h.Ff, h.O, h.T⟩, fun l hl => (h.Cc l hl).1⟩
 ·show (rdIter ll (rdN ll)).2.length ≤ 4
  omega
 ·obtain ⟨bl, sh, rfl⟩ := rdIter_md ll _ r hr
  exact rd_md21 bl sh
 ·show (moIter ll (lsN28 ll + fxN28 ll)).C.length ≤ 5
  omega
 ·have := h.Cc l hl
  exact ⟨by omega, this.2⟩
 ·show (moIter ll (lsN28 ll + fxN28 ll)).F.length ≤ 6
  omega
end Go.Proofs.Ytjjaehpkccejaaa
end

section
namespace Go.Proofs.Ytjjaehpkccejaaa
open Go.RowKit Go.Flow Go.AV Go.Plain
def cpF (C : List (List Bp)) (m id : Nat) (k _ : Nat) : CV := if k = m then .ow id else lsB (C.getD k [])
def cpL (C : List (List Bp)) (m k : Nat) : List Bp := if m < k then C.getD m [] else []
/-- k lists of choices, the m-th one an own row. -/
abbrev chM (C : List (List Bp)) (m id k : Nat) : AB := ⟨true, k, 1, 29, cpF C m id⟩
theorem appF_lo {F G : Nat → Nat → CV} {n i j : Nat} (h : i < n) : appF F n G i j = F i j := by
 unfold appF
 rw [show Nat.blt i n = true from Nat.blt_eq.mpr h]
 rfl
theorem appF_hi {F G : Nat → Nat → CV} {n i j : Nat} (h : n ≤ i) : appF F n G i j = G (i - n) j := by
 unfold appF
 rw [show Nat.blt i n = false from Bool.eq_false_iff.2 fun e => by have := Nat.blt_eq.mp e; omega]
 rfl
abbrev cpNw (p : Pb) (m : Nat) : List AB := [rdB p.R, chM p.C m 905 p.C.length, bpB p.F, bgB p.O, bgB p.T, bpB (cpL p.C m p.C.length)]
abbrev cpRes : AV := .ag [.ow 900, .ow 901, .ow 902, .ow 903, .ow 904]
set_option maxHeartbeats 2000000 in
set_option maxRecDepth 100000 in
theorem Copy_G (p : Pb) (hp : p.ok) (m : Nat) : GCalls Try.prog 27 [.ag (pbC p)] [] cpRes [] (cpNw p m) := by
 obtain ⟨hrd, lR, lC, lF', lO, lT, lc⟩ := hp
 refine ge_at Try.func27 rfl rfl Try.ntmps27 rfl ?_
 repeat (first
  | refine AWp.seq ?_
  | refine thenA_n ?_
  | refine AWp.block ?_
  | (refine rG 0 ?_
     refine qr5 aQ ?_
     refine qr5 (aM tyOk) ?_
     refine aB ?_)
  | (refine AWp.draw (id := 1) mixed ?_; refine qr7 (AList.emptySl tyOk) ?_; refine kD ?_; refine kE ?_; refine AList.appL0 tyOk rfl rfl rfl rfl rfl rfl rfl rfl rfl rfl oM oM ?_; refine qr7 (AList.emptySl tyOk) ?_; refine kD ?_; refine kE ?_; refine AList.appL0 tyOk rfl rfl rfl rfl rfl rfl rfl rfl rfl rfl oM oM ?_; refine qr7 (AList.emptySl tyOk) ?_; refine kD ?_; refine kE ?_; refine AList.appL0 tyOk rfl rfl rfl rfl rfl rfl rfl rfl rfl rfl oM oM ?_; refine qr7 (AList.emptySl tyOk) ?_; refine kD ?_; refine kE ?_; refine AList.appL0 tyOk rfl rfl rfl rfl rfl rfl rfl rfl rfl rfl oM oM ?_; refine qr8 (aX tyOk) ?_; refine qr5 (aM tyOk) ?_; refine kI ?_; refine aB ⟨by kernel_rfl, ?_⟩)
  | (refine rG 2 ?_
     refine kC ?_
     refine aB ?_))
 refine AWp.round (fun k : Nat =>
  mkSt 42 [(1, .c (.pt 1 5 0 0)), (2, .c (.pt 2 5 0 0)), (3, .c (.pt 3 5 0 0)), (4, .c (iC (k : Nat)))] [(1, ⟨false, 1, 5, 32, lF (pbC p)⟩), (2, ⟨false, 1, 5, 32, lF [nl8, nl8, nl8, nl8, nl8]⟩), (3, ⟨false, 1, 5, 32, lF [.ow 8, .ow 22, .ow 12, .ow 16, .ow 20]⟩), (8, rdB p.R), (12, bpB p.F), (16, bgB p.O), (20, bgB p.T), (22, chM p.C m 23 (k : Nat)), (23, bpB (cpL p.C m (k : Nat)))] [1, 2, 3, 8, 12, 16, 20, 22, 23]
  ) (fun k => k ≤ p.C.length) (fun k => p.C.length - k) 0 (Nat.zero_le _) ?_ (fun k hk => ?_)
 ·refine Wk.mk [(1, some 1), (2, some 2), (3, some 3), (8, some 8), (12, some 12), (16, some 16), (20, some 20), (22, none), (23, none)] rfl rfl rfl ?_ ?_
  ·exact allT
  ·exact ⟨hSm, hSm, HeapOk.box rfl rfl ⟨LeC.ow _ _ rfl, LeC.nil _ rfl, LeC.ow _ _ rfl, LeC.ow _ _ rfl, LeC.ow _ _ rfl, trivial⟩ rfl,
   hrF rdC_imm, hrF bpC_imm, hrF bgC_imm28, hrF bgC_imm28
   , HeapOk.nil rfl rfl, HeapOk.nil rfl (by unfold cpL; rw [if_neg (Nat.not_lt_zero _)]; rfl), trivial⟩
 by_cases hkl : k < p.C.length
 ·have hkl' : (k : Int) < p.C.length := by omega
  obtain ⟨L, hL⟩ : ∃ L, p.C.getD k [] = L := ⟨_, rfl⟩
  have hcF : chF p.C k 0 = lsB L := by rw [← hL]
  have hLl : L.length ≤ 1000000 := by rw [← hL]; exact lc _ (getD_mem28 hkl)
  repeat (first
   | refine AWp.seq ?_
   | refine thenA_n ?_
   | refine AWp.block ?_
   | refine AWp.skip ?_
   | refine inBlk_n ?_
   | refine AWp.condT rfl cnT ?_
   | (refine rG 3 ?_
      refine kA ?_
      refine kD ?_
      refine kE ?_
      refine qr5 (aO tyOk) ?_
      refine qr5t aK ?_
      refine aB ?_)
   | (refine rG 4 ?_
      refine kA ?_
      refine qr4w2 aL ?_
      refine kC ?_
      refine aB ?_)
   | (refine AWp.draw (id := 5) mixed ?_; refine kD ?_; refine kE ?_; refine qr7 (AList.emptySl tyOk) ?_; refine kD ?_; refine kE ?_; refine kA ?_; refine qr8eo2 (aP (k := k) tyOk) ?_; refine AList.load1lE tyOk (hcF) rfl rfl rfl rfl rfl oM ?_; refine AList.appL0 tyOk rfl rfl rfl rfl rfl rfl rfl rfl rfl rfl oM oM ?_; refine qr11 (AList.litOw tyOk) ?_; refine AList.appO tyOk rfl rfl rfl rfl rfl rfl rfl rfl rfl rfl rfl oM oM ?_; refine kD ?_; refine kI ?_; refine aB ⟨by kernel_rfl, ?_⟩))
  have hrow : ∀ (S : St) (ren : List (Nat × Option Nat)) (x : Nat), S.h 37 = some (bpB L) → (∀ i, i < k → i = m → assoc ren 23 = some (some 23)) → (if k = m then assoc ren 23 = some (some 37) else renNo ren 37 = true) →
   ∀ i, i < k + 1 → ∀ j, j < 1 → LeC S.h ren (appF (cpF p.C m 23) k (sF [.ow 37] 1) i j) (cpF p.C m 23 i j) := fun S ren x hh h1 h2 i hi j hj => by
   obtain rfl : j = 0 := Nat.lt_one_iff.mp hj
   by_cases hik : i < k
   ·rw [appF_lo hik]
    unfold cpF
    by_cases him : i = m
    ·rw [if_pos him]
     exact LeC.ow _ _ (h1 i hik him)
    ·rw [if_neg him]
     exact LeC.refl _ rfl
   ·obtain rfl : i = k := by omega
    rw [appF_hi (Nat.le_refl _), Nat.sub_self]
    unfold cpF
    by_cases him : i = m
    ·rw [if_pos him] at h2 ⊢
     exact LeC.ow _ _ h2
    ·rw [if_neg him] at h2 ⊢
     rw [hL]
     exact LeC.fz hh h2 rfl (fun i _ j _ => ⟨rfl, rowF_imm bpC_imm _ i j⟩)
  by_cases hkm : k = m
  ·have hl1 : cpL p.C m (k + 1) = L := by unfold cpL; rw [if_pos (by omega), ← hkm, hL]
   refine ⟨k + 1, hkl, ?_, by omega⟩
   rw [hl1]
   refine Wk.mk [(1, some 1), (2, some 2), (3, some 3), (8, some 8), (12, some 12), (16, some 16), (20, some 20), (22, some 39), (23, some 37)] rfl rfl rfl ?_ ?_
   ·exact allT
   ·exact ⟨hSm, hSm, HeapOk.box rfl rfl ⟨LeC.ow _ _ rfl, LeC.ow _ _ rfl, LeC.ow _ _ rfl, LeC.ow _ _ rfl, LeC.ow _ _ rfl, trivial⟩ rfl,
    hrF rdC_imm, hrF bpC_imm, hrF bgC_imm28, hrF bgC_imm28
    , .inr ⟨39, k + 1, _, .inl rfl, rfl, rfl, hrow _ _ 0 rfl (fun i h1 h2 => by omega) (by rw [if_pos hkm]; rfl)⟩, hrF bpC_imm, trivial⟩
  ·have hl1 : cpL p.C m (k + 1) = cpL p.C m k := by
    unfold cpL
    by_cases h : m < k
    ·rw [if_pos h, if_pos (by omega)]
    ·rw [if_neg h, if_neg (by omega)]
   refine ⟨k + 1, hkl, ?_, by omega⟩
   rw [hl1]
   refine Wk.mk [(1, some 1), (2, some 2), (3, some 3), (8, some 8), (12, some 12), (16, some 16), (20, some 20), (22, some 39), (23, some 23)] rfl rfl rfl ?_ ?_
   ·exact allT
   ·exact ⟨hSm, hSm, HeapOk.box rfl rfl ⟨LeC.ow _ _ rfl, LeC.ow _ _ rfl, LeC.ow _ _ rfl, LeC.ow _ _ rfl, LeC.ow _ _ rfl, trivial⟩ rfl,
    hrF rdC_imm, hrF bpC_imm, hrF bgC_imm28, hrF bgC_imm28
    , .inr ⟨39, k + 1, _, .inl rfl, rfl, rfl, hrow _ _ 0 rfl (fun i h1 h2 => rfl) (by rw [if_neg hkm]; rfl)⟩, hrF bpC_imm, trivial⟩
 have hkl' : ¬ (k : Int) < p.C.length := by omega
 obtain rfl : k = p.C.length := by omega
 repeat (first
  | refine AWp.seq ?_
  | refine thenA_n ?_
  | refine AWp.exit ?_
  | refine AWp.ret ?_
  | refine AWp.condF rfl cnF ?_
  | (refine rG 3 ?_
     refine kA ?_
     refine kD ?_
     refine kE ?_
     refine qr5 (aO tyOk) ?_
     refine qr5f aJ ?_
     refine aB ?_)
  | (refine rG 6 ?_
     refine kF ?_
     refine kI ?_
     refine aB ?_))
 refine ⟨mkSt 42 [(2, .c (.pt 2 5 0 0))] [(2, ⟨false, 1, 5, 32, lF [.ow 900, .ow 901, .ow 902, .ow 903, .ow 904]⟩), (900, rdB p.R), (901, chM p.C m 905 p.C.length), (902, bpB p.F), (903, bgB p.O), (904, bgB p.T), (905, bpB (cpL p.C m p.C.length))] [2, 900, 901, 902, 903, 904, 905], [(2, ⟨false, 1, 5, 32, lF [.ow 900, .ow 901, .ow 902, .ow 903, .ow 904]⟩)], _, [], cpNw p m, ⟨rfl, rfl, rfl⟩, rfl, Wk.mk [(2, some 2), (900, some 8), (901, some 22), (902, some 12), (903, some 16), (904, some 20), (905, some 23)] rfl rfl rfl ?_ ?_, rfl, rfl, GRets.one (x := .ag _) (GRes.box tyOk rfl rfl rfl rfl rfl rfl)⟩
 ·exact allT
 ·exact ⟨HeapOk.box rfl rfl ⟨LeC.ow _ _ rfl, LeC.ow _ _ rfl, LeC.ow _ _ rfl, LeC.ow _ _ rfl, LeC.ow _ _ rfl, trivial⟩ rfl, hrF rdC_imm, .inr ⟨22, p.C.length, _, .inl rfl, rfl, rfl, fun i hi j hj => by
   show LeC _ _ (cpF p.C m 23 i j) (cpF p.C m 905 i j)
   unfold cpF
   by_cases him : i = m
   ·rw [if_pos him, if_pos him]
    exact LeC.ow _ _ rfl
   ·rw [if_neg him, if_neg him]
    exact LeC.refl _ rfl⟩, hrF bpC_imm, hrF bgC_imm28, hrF bgC_imm28, hrF bpC_imm, trivial⟩
end Go.Proofs.Ytjjaehpkccejaaa
end

section
namespace Go.Proofs.Ytjjaehpkccejaaa
open Go.RowKit Go.Flow Go.AV Go.Plain
/-- A bitmap cut to another one's size. -/
def pairB (N : Nat) (f : Nat → Int) (M : Nat) (g : Nat → Int) : Bp := crV M g (mdW N f) (mdH N f)
set_option maxRecDepth 100000 in
theorem Pair_A (N : Nat) (f : Nat → Int) (M : Nat) (g : Nat → Int) (hN : N ≤ 4611686018427387904) (hM : M ≤ 4611686018427387904) : ACalls Try.prog 17 [.c (.ls N 1 (iF f)), .c (.ls M 1 (iF g))] (.tu [.ag (bpC (mdV N f)), .ag (bpC (pairB N f M g))]) := by
 have m1 := Made_A N f hN
 have m2 := Made_A M g hM
 have hb := md_bd N f
 have hc := CrV_A M g (mdW N f) (mdH N f) (by omega) (by omega)
 refine acalls_at Try.func17 rfl rfl Try.ntmps17 rfl ?_
 repeat (first
  | refine AWp.seq ?_
  | refine thenA_n ?_
  | refine AWp.ret ?_
  | (refine rG 0 ?_
     (iterate 2 refine qr5 (aM tyOk) ?_)
     refine aB ?_)
  | (refine rG 1 ?_
     refine kA ?_
     refine aH rfl rfl rfl rfl Try.func36 rfl (by kernel_rfl) (m1) ?_
     refine qr5 (aM tyOk) ?_
     refine kI ?_
     refine aB ?_)
  | (refine AWp.draw (id := 2) mixed ?_; refine kA ?_; refine aH rfl rfl rfl rfl Try.func36 rfl (by kernel_rfl) (m2) ?_; refine kD ?_; refine kE ?_; refine kD ?_; refine kE ?_; refine aH rfl rfl rfl rfl Try.func35 rfl (by kernel_rfl) (hc) ?_; refine kA ?_; (iterate 2 refine qr4 aN ?_); refine qr5 (aM tyOk) ?_; refine kI ?_; refine kC ?_; refine aB ⟨by kernel_rfl, ?_⟩)
  | (refine AWp.draw (id := 3) mixed ?_; (iterate 2 refine kF ?_); (iterate 2 refine kI ?_); refine aB ⟨by kernel_rfl, ?_⟩))
 refine ⟨mkSt 23 [(4, .c (.pt 4 3 0 0)), (5, .c (.pt 5 3 0 0))] [(4, ⟨false, 1, 3, 47, lF (bpC (mdV N f))⟩), (5, ⟨false, 1, 3, 47, lF (bpC (pairB N f M g))⟩)] [4, 5], [(4, ⟨false, 1, 3, 47, lF (bpC (mdV N f))⟩), (5, ⟨false, 1, 3, 47, lF (bpC (pairB N f M g))⟩)], Wk.mk [(4, some 4), (5, some 5)] rfl rfl rfl ?_ ?_, rfl, rfl, ARets.two (x := .ag _) (y := .ag _) (ARes.box tyOk rfl rfl rfl rfl rfl rfl rfl) (ARes.box tyOk rfl rfl rfl rfl rfl rfl rfl)⟩
 ·exact allT
 ·exact ⟨hSm, hSm, trivial⟩
end Go.Proofs.Ytjjaehpkccejaaa
end
