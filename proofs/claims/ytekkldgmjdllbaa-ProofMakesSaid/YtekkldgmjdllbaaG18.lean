/- Parts of the proof: ALab, A24q, A24s, A24v, A24y. -/
import Derived.Test.YtekkldgmjdllbaaG03
import Derived.Scope
import Derived.Test.YtekkldgmjdllbaaG17
import Derived.Test.YtekkldgmjdllbaaG15
import Derived.Test.YtekkldgmjdllbaaG08
import Derived.Test.YtekkldgmjdllbaaProg
import Derived.Test.YtekkldgmjdllbaaG13
import Derived.Test.YtekkldgmjdllbaaG06
import Derived.Test.YtekkldgmjdllbaaG14
import Derived.Test.YtekkldgmjdllbaaG10
import Derived.Test.YtekkldgmjdllbaaG07
set_option linter.unusedSimpArgs false
set_option linter.unusedVariables false
section
namespace Go.AV
open Go Go.RowKit Go.Flow
section
variable {F : Fence} {n : Nat} {P : Program} {Q : Exit → Act → World → Prop} {a : Act} {w : World}
theorem stepR_scope' {b : Frame} {k : List Item} {cs : List Frame} {c : Code} : step P (lone (b.atR a (.code (.scope c) :: k)) cs w) = .next (lone (b.atR a (.code c :: .inScope c :: k)) cs w) :=
 step_lone_go (by simp [stepG, stepG.exec, Frame.atR])
theorem stepR_inScope' {b : Frame} {k : List Item} {cs : List Frame} {c : Code} : step P (lone (b.atR a (.inScope c :: k)) cs w) = .next (lone (b.atR a k) cs w) :=
 step_lone_go (by simp [stepG, stepG.exec, Frame.atR])
theorem wpIn_scope' {c : Code} (hg : ∀ l a w, ¬ Q (.goto l) a w) (h : c.wpIn F n P Q a w) : (Code.scope c).wpIn F n P Q a w := by
 intro b k cs hro hb hr
 have h0 : (lone (b.atR a (.code (.scope c) :: k)) cs w).fenced P F := fenced_calm hb hr rfl
 obtain ⟨e, a₁, w₁, hq, harr⟩ := h b (.inScope c :: k) cs hro hb hr
 cases e with
 | normal => exact ⟨.normal, a₁, w₁, hq, .head h0 stepR_scope' (StepsIn.trans harr (.one (fenced_calm hb hr rfl) stepR_inScope'))⟩
 | exit id =>
   have hx : exitTo id (.inScope c :: k) = exitTo id k := by simp [exitTo]
   exact ⟨.exit id, a₁, w₁, hq, .of_steps (.one h0 stepR_scope') (e := .exit id) ⟨fun k' hk => harr.1 k' (by rw [hx]; exact hk), fun hr1 hk => harr.2 hr1 (by rw [hx]; exact hk)⟩⟩
 | goto l => exact (hg l _ _ hq).elim
 | ret => exact ⟨_, a₁, w₁, hq, .of_steps (.one h0 stepR_scope') (e := .ret) harr⟩
 | panic ch => exact ⟨_, a₁, w₁, hq, .of_steps (.one h0 stepR_scope') (e := .panic ch) harr⟩
 | outgrown => exact ⟨_, a₁, w₁, hq, .of_steps (.one h0 stepR_scope') (e := .outgrown) harr⟩
end
section
variable {P : Program} {S : St} {Q : Exit → St → Prop}
theorem AWp.scope {c : Code} (hg : ∀ l S, ¬ Q (.goto l) S) (h : AWp P c Q S) : AWp P (.scope c) Q S := ⟨fun b0 a w hR =>
 wpIn_scope' (fun _ _ _ ⟨_, _, h⟩ => hg _ _ h) (h.get b0 a w hR)⟩
theorem AWp.label {l : Nat} (h : Q .normal S) : AWp P (.label l) Q S := ⟨fun b0 a w hR => wpIn_label ⟨S, hR, h⟩⟩
end
end Go.AV
end
section
namespace Go.Proofs.Ytekkldgmjdllbaa
open Go.RowKit Go.Flow Go.AV Go.Plain
theorem cnfR_hit {p : Cl → Bool} {L : List Cl} {c : Cl} (h : L.find? p = some c) : cnfR p L = (c, true) := by unfold cnfR; rw [h]
theorem cnfR_no {p : Cl → Bool} {L : List Cl} (h : L.find? p = none) : cnfR p L = (clZ, false) := by unfold cnfR; rw [h]
theorem shN_bd {x y : Bg} {k : Nat} (hk : k < (shL (shN x y)).length) : (-4 ≤ ((shL (shN x y)).getD k mvZ).1 ∧ ((shL (shN x y)).getD k mvZ).1 ≤ 4) ∧ -4 ≤ ((shL (shN x y)).getD k mvZ).2 ∧ ((shL (shN x y)).getD k mvZ).2 ≤ 4 := by
 obtain ⟨-, hm⟩ := shN_eq x y
 have := sh_bd hk
 omega
theorem al_mem {w : Int} {x y : Bg} {k : Nat} (hk : k < (alL w x y).length) : ∃ j i, j < (shL (shN x y)).length ∧ i < alM w x y ∧ (alL w x y).getD k clZ = clK (shL (shN x y)) j i := by
 have hm : (alL w x y).getD k clZ ∈ alL w x y := by
  rw [List.getD_eq_getElem?_getD, List.getElem?_eq_getElem hk]
  exact List.getElem_mem hk
 generalize (alL w x y).getD k clZ = c at hm
 unfold alL alK alI at hm
 simp only [List.mem_flatMap, List.mem_map, List.mem_range] at hm
 obtain ⟨d, hd, i, hi, hc⟩ := hm
 obtain ⟨j, hj, rfl⟩ := List.getElem_of_mem hd
 refine ⟨j, i, hj, hi, ?_⟩
 rw [← hc]
 unfold clK
 rw [List.getD_eq_getElem?_getD, List.getElem?_eq_getElem hj]
 rfl
theorem al_bd {w : Int} {x y : Bg} {k : Nat} (hw : 0 ≤ w ∧ w ≤ 96) (hk : k < (alL w x y).length) : ((-4 ≤ ((alL w x y).getD k clZ).dx ∧ ((alL w x y).getD k clZ).dx ≤ 4) ∧ -4 ≤ ((alL w x y).getD k clZ).dy ∧ ((alL w x y).getD k clZ).dy ≤ 4) ∧ -4 ≤ ((alL w x y).getD k clZ).col ∧ ((alL w x y).getD k clZ).col ≤ 105 := by
 obtain ⟨j, i, hj, hi, e⟩ := al_mem hk
 rw [e]
 have h1 := shN_bd hj
 have h2 := stN_bd x y hw.1
 unfold alM at hi
 unfold clK
 refine ⟨h1, ?_⟩
 dsimp only
 omega
theorem al_len {w : Int} {x y : Bg} (hw : 0 ≤ w ∧ w ≤ 96) : 0 < (alL w x y).length ∧ (alL w x y).length ≤ 81 * 105 := by
 have hM : 1 ≤ alM w x y ∧ alM w x y ≤ 105 := by
  have h2 := stN_bd x y hw.1
  unfold alM
  omega
 obtain ⟨-, hm4⟩ := shN_eq x y
 have hl : (alL w x y).length = (shL (shN x y)).length * alM w x y := by
  unfold alL alK
  generalize shL (shN x y) = S
  induction S with
  | nil => simp
  | cons d S ih => rw [List.flatMap_cons, List.length_append, ih, alI_len, List.length_cons, Nat.succ_mul, Nat.add_comm]
 have hs1 : 1 ≤ (2 * shN x y + 1) * (2 * shN x y + 1) := Nat.mul_le_mul (show 1 ≤ 2 * shN x y + 1 by omega) (show 1 ≤ 2 * shN x y + 1 by omega)
 have hs2 : (2 * shN x y + 1) * (2 * shN x y + 1) ≤ 9 * 9 := Nat.mul_le_mul (show 2 * shN x y + 1 ≤ 9 by omega) (show 2 * shN x y + 1 ≤ 9 by omega)
 rw [hl, shL_len hm4]
 exact ⟨Nat.mul_pos hs1 hM.1, Nat.mul_le_mul hs2 hM.2⟩
set_option maxHeartbeats 2000000 in
set_option maxRecDepth 100000 in
theorem rConfused_A (a b : Bp) (x y : Bg) : ACalls Try.prog 39 [.ag (bpC a), .ag (bpC b), .ag (bgC x), .ag (bgC y)] (.tu [.ag (clC (cnfV a b x y).1), .c (bC (cnfV a b x y).2)]) := by
 have hCo := Comparable_A a b
 unfold cnfV
 by_cases hok : cmpOk a b
 ·rw [if_pos hok]
  rw [decide_eq_true hok] at hCo
  obtain ⟨q0, q1, -, -, -⟩ := okB hok.1
  have hAll := All_A a.W x y ⟨q0, q1⟩
  have hlen := al_len (x := x) (y := y) ⟨q0, q1⟩
  have hbd := fun k hk => al_bd (x := x) (y := y) (k := k) ⟨q0, q1⟩ hk
  have hE : ∀ k, k < (alL a.W x y).length → ACalls Try.prog 97 [.ag (bpC a), .ag (bpC b), .ag (bgC x), .ag (bgC y), .ag (clC ((alL a.W x y).getD k clZ))] (.c (iC (xsV a b x y ((alL a.W x y).getD k clZ)))) := fun k hk => by
   have h1 := hbd k hk
   exact rExcess_A a b x y _ hok.1 hok.2.1 (by omega) (by omega) (by omega)
  clear hbd
  generalize alL a.W x y = L at *
  obtain ⟨n, hnl⟩ : ∃ n, L.length = n := ⟨_, rfl⟩
  rw [hnl] at hAll hlen hE
  refine acalls_at Try.func39 rfl rfl Try.ntmps39 rfl ?_
  repeat (first
   | refine uA ?_
   | refine uB ?_
   | refine uC ?_
   | refine uG ?_
   | refine kU ?_
   | (refine rG 0 ?_
      (iterate 4 refine qr5 aQ ?_)
      refine qr5 (aM tyOk) ?_
      refine kC ?_
      refine aB ?_)
   | (refine rG 1 ?_
      (iterate 2 refine kF ?_)
      refine aH rfl rfl rfl rfl Try.func95 rfl (by kernel_rfl) (hCo) ?_
      refine qr3 AList.notB ?_
      refine aB ?_)
   | (refine rG 3 ?_
      refine kD ?_
      refine kE ?_
      (iterate 2 refine kF ?_)
      refine aH rfl rfl rfl rfl Try.func96 rfl (by kernel_rfl) (hAll) ?_
      refine kC ?_
      refine aB ?_)
   | (refine rG 4 ?_
      refine kC ?_
      refine aB ?_))
  refine AWp.round (fun k : Nat => mkSt 43 [(4, .c (.pt 4 3 0 0)), (5, .c (.pt 5 3 0 0)), (6, .c (.pt 6 4 0 0)), (7, .c (.pt 7 4 0 0)), (8, .c (.pt 8 3 0 0)), (10, .c (.ls n 3 (rowF clC clZ L))), (11, .c (iC k))] [(4, ⟨false, 1, 3, 31, lF (bpC a)⟩), (5, ⟨false, 1, 3, 31, lF (bpC b)⟩), (6, ⟨false, 1, 4, 33, lF (bgC x)⟩), (7, ⟨false, 1, 4, 33, lF (bgC y)⟩), (8, ⟨false, 1, 3, 53, lF (clC clZ)⟩)] [4, 5, 6, 7, 8])
   (fun k => k ≤ n ∧ ∀ i, i < k → hitC a b x y (L.getD i clZ) = false) (fun k => n - k) 0 ⟨Nat.zero_le _, fun _ h => absurd h (Nat.not_lt_zero _)⟩ ?_ (fun k hk => ?_)
  ·refine Wk.mk [(4, some 4), (5, some 5), (6, some 6), (7, some 7), (8, some 8)] rfl rfl rfl ?_ ?_
   ·exact allT
   ·exact allH
  ·obtain ⟨hk, hno⟩ := hk
   by_cases hkn : k < n
   ·have hEk := hE k hkn
    by_cases hx : xsV a b x y (L.getD k clZ) ≤ 0
    ·rw [cnfR_hit (find_at (by rw [hnl]; exact hkn) (decide_eq_true hx) hno)]
     repeat (first
      | refine uA ?_
      | refine uB ?_
      | refine uC ?_
      | refine uG ?_
      | refine AWp.ret ?_
      | refine thenA_r ?_
      | refine uE ?_
      | refine kT ?_
      | (refine rG 5 ?_
         (iterate 2 refine kA ?_)
         refine qr5 (aO tyOk) ?_
         refine qr5t aK ?_
         refine aB ?_)
      | (refine AWp.draw (id := 7) mixed ?_; (iterate 4 refine kF ?_); (iterate 2 refine kA ?_); refine qr8eo2 (aP (k := k) tyOk) ?_; refine qr5o (aT tyOk) ?_; refine aH rfl rfl rfl rfl Try.func97 rfl (by kernel_rfl) (hEk) ?_; refine qr5t aK ?_; refine aB ⟨by kernel_rfl, ?_⟩)
      | (refine rG 8 ?_
         (iterate 2 refine kA ?_)
         refine qr8eo2 (aP (k := k) tyOk) ?_
         refine qr5o (aT tyOk) ?_
         refine kI ?_
         refine kC ?_
         refine aB ?_))
     refine ⟨mkSt 43 [(8, .c (.pt 8 3 0 0)), (9, .c (bC true))] [(8, ⟨false, 1, 3, 53, lF (clC (L.getD k clZ))⟩)] [8], [(8, ⟨false, 1, 3, 53, lF (clC (L.getD k clZ))⟩)], Wk.mk [(8, some 8)] rfl rfl rfl ?_ ?_, rfl, rfl, ARets.two (x := .ag _) (y := .c _) (ARes.box tyOk rfl rfl rfl rfl rfl rfl rfl) (ARes.tmp rfl rfl)⟩
     ·exact allT
     ·exact allH
    ·repeat (first
      | refine uA ?_
      | refine uB ?_
      | refine uC ?_
      | refine uG ?_
      | refine uD ?_
      | refine kT ?_
      | refine kU ?_
      | (refine rG 5 ?_
         (iterate 2 refine kA ?_)
         refine qr5 (aO tyOk) ?_
         refine qr5t aK ?_
         refine aB ?_)
      | (refine rG 6 ?_
         refine kA ?_
         refine qr4w2 aL ?_
         refine kC ?_
         refine aB ?_)
      | (refine AWp.draw (id := 7) mixed ?_; (iterate 4 refine kF ?_); (iterate 2 refine kA ?_); refine qr8eo2 (aP (k := k) tyOk) ?_; refine qr5o (aT tyOk) ?_; refine aH rfl rfl rfl rfl Try.func97 rfl (by kernel_rfl) (hEk) ?_; refine qr5f aJ ?_; refine aB ⟨by kernel_rfl, ?_⟩))
     refine ⟨k + 1, ⟨hkn, fun i hi => ?_⟩, Wk.mk [(4, some 4), (5, some 5), (6, some 6), (7, some 7), (8, some 8)] rfl rfl rfl ?_ ?_, by omega⟩
     ·by_cases e : i = k
      ·rw [e]; exact decide_eq_false hx
      ·exact hno i (by omega)
     ·exact allT
     ·exact allH
   ·obtain rfl : k = n := by omega
    rw [cnfR_no (find_no (fun i hi => hno i (by rw [← hnl]; exact hi)))]
    repeat (first
     | refine uA ?_
     | refine uB ?_
     | refine uH ?_
     | refine AWp.ret ?_
     | refine kU ?_
     | (refine rG 5 ?_
        (iterate 2 refine kA ?_)
        refine qr5 (aO tyOk) ?_
        refine qr5f aJ ?_
        refine aB ?_)
     | (refine rG 9 ?_
        refine qr8 (aX tyOk) ?_
        refine kI ?_
        refine kC ?_
        refine aB ?_))
    refine ⟨mkSt 43 [(8, .c (.pt 8 3 0 0)), (9, .c (bC false))] [(8, ⟨false, 1, 3, 53, lF (clC (clZ))⟩)] [8], [(8, ⟨false, 1, 3, 53, lF (clC (clZ))⟩)], Wk.mk [(8, some 8)] rfl rfl rfl ?_ ?_, rfl, rfl, ARets.two (x := .ag _) (y := .c _) (ARes.box tyOk rfl rfl rfl rfl rfl rfl rfl) (ARes.tmp rfl rfl)⟩
    ·exact allT
    ·exact allH
 ·rw [if_neg hok]
  rw [decide_eq_false hok] at hCo
  refine acalls_at Try.func39 rfl rfl Try.ntmps39 rfl ?_
  repeat (first
   | refine uA ?_
   | refine uB ?_
   | refine AWp.ret ?_
   | refine thenA_r ?_
   | refine kT ?_
   | (refine rG 0 ?_
      (iterate 4 refine qr5 aQ ?_)
      refine qr5 (aM tyOk) ?_
      refine kC ?_
      refine aB ?_)
   | (refine rG 1 ?_
      (iterate 2 refine kF ?_)
      refine aH rfl rfl rfl rfl Try.func95 rfl (by kernel_rfl) (hCo) ?_
      refine qr3 AList.notB ?_
      refine aB ?_)
   | (refine rG 2 ?_
      refine qr8 (aX tyOk) ?_
      refine kI ?_
      refine kC ?_
      refine aB ?_))
  refine ⟨mkSt 43 [(8, .c (.pt 8 3 0 0)), (9, .c (bC false))] [(8, ⟨false, 1, 3, 53, lF (clC (clZ))⟩)] [8], [(8, ⟨false, 1, 3, 53, lF (clC (clZ))⟩)], Wk.mk [(8, some 8)] rfl rfl rfl ?_ ?_, rfl, rfl, ARets.two (x := .ag _) (y := .c _) (ARes.box tyOk rfl rfl rfl rfl rfl rfl rfl) (ARes.tmp rfl rfl)⟩
  ·exact allT
  ·exact allH
theorem AWp.cut {P : Program} {x : Code} {Q : Exit → St → Prop} {S : St} (S1 : St) (h : AWp P x (fun e S' => e = .normal ∧ Wk S' S1) S) (hz : ∀ S', Wk S' S1 → Q .normal S') : AWp P x Q S :=
 h.mono fun e S' h => by obtain ⟨rfl, hw⟩ := h; exact hz S' hw
structure Ca where
 nA : Nat
 fA : Nat → Int
 nB : Nat
 fB : Nat → Int
 nX : Nat
 fX : Nat → Int
 nY : Nat
 fY : Nat → Int
 nH : Nat
 fH : Nat → Int
 q : Int
def Ca.ok (c : Ca) : Prop := c.nA ≤ 4611686018427387904 ∧ c.nB ≤ 4611686018427387904 ∧ c.nX ≤ 4611686018427387904 ∧ c.nY ≤ 4611686018427387904 ∧ c.nH ≤ 4611686018427387904 ∧ -9223372036854775808 ≤ c.q ∧ c.q ≤ 9223372036854775807
set_option maxRecDepth 100000 in
theorem Odd24_A (b : Bp) (q : Int) (hW : -1000 ≤ b.W ∧ b.W ≤ 1000) (hH : -1000 ≤ b.H ∧ b.H ≤ 1000) (hn : b.n ≤ 100000) (hq : -9223372036854775808 ≤ q ∧ q ≤ 9223372036854775807) : ∃ r : Bp, ACalls Try.prog 19 [.ag (bpC b), .c (iC q)] (.ag (bpC r)) := by
 have hM := Mod_A q 6 (by omega) (by omega)
 have h0 := Int.emod_nonneg q (show (6 : Int) ≠ 0 by omega)
 have h6 := Int.emod_lt_of_pos q (show (0 : Int) < 6 by omega)
 generalize q % 6 = c at hM h0 h6
 have hc : c = 0 ∨ c = 1 ∨ c = 2 ∨ c = 3 ∨ c = 4 ∨ c = 5 := by omega
 clear h0 h6
 rcases hc with rfl | rfl | rfl | rfl | rfl | rfl
 ·refine ⟨⟨b.W + 1, b.H, b.n, b.d⟩, ?_⟩
  refine acalls_at Try.func19 rfl rfl Try.ntmps19 rfl ?_
  repeat (first
   | refine uA ?_
   | refine uB ?_
   | refine uC ?_
   | refine AWp.ret ?_
   | refine kT ?_
   | (refine rG 0 ?_
      refine qr5 aQ ?_
      refine qr5 (aM tyOk) ?_
      refine aB ?_)
   | (refine AWp.draw (id := 1) mixed ?_; refine kD ?_; refine kE ?_; refine kD ?_; refine kE ?_; refine qr7 (AList.emptySl tyOk) ?_; refine kD ?_; refine kE ?_; refine AList.appL0 tyOk rfl rfl rfl rfl rfl rfl rfl rfl rfl rfl oM oM ?_; refine qr8 (aX tyOk) ?_; refine qr5 (aM tyOk) ?_; refine kI ?_; refine aB ⟨by kernel_rfl, ?_⟩)
   | (refine rG 2 ?_
      refine kA ?_
      refine aH rfl rfl rfl rfl Try.func25 rfl (by kernel_rfl) (hM) ?_
      refine aB ?_)
   | (refine rG 3 ?_
      refine qr5 aW ?_
      refine kC ?_
      refine aB ?_)
   | (refine rG 4 ?_
      refine kD ?_
      refine kE ?_
      refine qr4w2 aL ?_
      refine kD ?_
      refine kI ?_
      refine aB ?_)
   | (refine rG 14 ?_
      refine kF ?_
      refine kI ?_
      refine aB ?_))
  refine ⟨mkSt 55 [(4, .c (.pt 4 3 0 0))] [(4, ⟨false, 1, 3, 31, lF (bpC (⟨b.W + 1, b.H, b.n, b.d⟩))⟩)] [4], [(4, ⟨false, 1, 3, 31, lF (bpC (⟨b.W + 1, b.H, b.n, b.d⟩))⟩)], Wk.mk [(4, some 4)] rfl rfl rfl ?_ ?_, rfl, rfl, ARets.one (x := .ag _) (ARes.box tyOk rfl rfl rfl rfl rfl rfl rfl)⟩
  ·exact allT
  ·exact ⟨HeapOk.box rfl rfl ⟨LeC.int (by first | rfl | (dsimp only; omega)), LeC.int (by first | rfl | (dsimp only; omega)), (LeC.fz rfl rfl (by rfl) (fun _ _ _ _ => ⟨rfl, rfl⟩)), trivial⟩ rfl, trivial⟩
 ·refine ⟨⟨b.W, q, b.n, b.d⟩, ?_⟩
  refine acalls_at Try.func19 rfl rfl Try.ntmps19 rfl ?_
  repeat (first
   | refine uA ?_
   | refine uB ?_
   | refine uC ?_
   | refine AWp.ret ?_
   | refine kT ?_
   | refine kU ?_
   | (refine rG 0 ?_
      refine qr5 aQ ?_
      refine qr5 (aM tyOk) ?_
      refine aB ?_)
   | (refine AWp.draw (id := 1) mixed ?_; refine kD ?_; refine kE ?_; refine kD ?_; refine kE ?_; refine qr7 (AList.emptySl tyOk) ?_; refine kD ?_; refine kE ?_; refine AList.appL0 tyOk rfl rfl rfl rfl rfl rfl rfl rfl rfl rfl oM oM ?_; refine qr8 (aX tyOk) ?_; refine qr5 (aM tyOk) ?_; refine kI ?_; refine aB ⟨by kernel_rfl, ?_⟩)
   | (refine rG 2 ?_
      refine kA ?_
      refine aH rfl rfl rfl rfl Try.func25 rfl (by kernel_rfl) (hM) ?_
      refine aB ?_)
   | (refine rG 3 ?_
      refine qr5f aJ ?_
      refine kC ?_
      refine aB ?_)
   | (refine rG 5 ?_
      refine qr5 aW ?_
      refine kC ?_
      refine aB ?_)
   | (refine rG 6 ?_
      refine kA ?_
      refine kD ?_
      refine kI ?_
      refine aB ?_)
   | (refine rG 14 ?_
      refine kF ?_
      refine kI ?_
      refine aB ?_))
  refine ⟨mkSt 55 [(4, .c (.pt 4 3 0 0))] [(4, ⟨false, 1, 3, 31, lF (bpC (⟨b.W, q, b.n, b.d⟩))⟩)] [4], [(4, ⟨false, 1, 3, 31, lF (bpC (⟨b.W, q, b.n, b.d⟩))⟩)], Wk.mk [(4, some 4)] rfl rfl rfl ?_ ?_, rfl, rfl, ARets.one (x := .ag _) (ARes.box tyOk rfl rfl rfl rfl rfl rfl rfl)⟩
  ·exact allT
  ·exact ⟨HeapOk.box rfl rfl ⟨LeC.int (by first | rfl | (dsimp only; omega)), LeC.int (by first | rfl | (dsimp only; omega)), (LeC.fz rfl rfl (by rfl) (fun _ _ _ _ => ⟨rfl, rfl⟩)), trivial⟩ rfl, trivial⟩
 ·refine ⟨⟨b.W, b.H, b.n + 1, fun k => if k < b.n then b.d k else true⟩, ?_⟩
  refine acalls_at Try.func19 rfl rfl Try.ntmps19 rfl ?_
  repeat (first
   | refine uA ?_
   | refine uB ?_
   | refine uC ?_
   | refine AWp.ret ?_
   | refine kT ?_
   | refine kU ?_
   | (refine rG 0 ?_
      refine qr5 aQ ?_
      refine qr5 (aM tyOk) ?_
      refine aB ?_)
   | (refine AWp.draw (id := 1) mixed ?_; refine kD ?_; refine kE ?_; refine kD ?_; refine kE ?_; refine qr7 (AList.emptySl tyOk) ?_; refine kD ?_; refine kE ?_; refine AList.appL0 tyOk rfl rfl rfl rfl rfl rfl rfl rfl rfl rfl oM oM ?_; refine qr8 (aX tyOk) ?_; refine qr5 (aM tyOk) ?_; refine kI ?_; refine aB ⟨by kernel_rfl, ?_⟩)
   | (refine rG 2 ?_
      refine kA ?_
      refine aH rfl rfl rfl rfl Try.func25 rfl (by kernel_rfl) (hM) ?_
      refine aB ?_)
   | (refine rG 3 ?_
      refine qr5f aJ ?_
      refine kC ?_
      refine aB ?_)
   | (refine rG 5 ?_
      refine qr5f aJ ?_
      refine kC ?_
      refine aB ?_)
   | (refine rG 7 ?_
      refine qr5 aW ?_
      refine kC ?_
      refine aB ?_)
   | (refine rG 8 ?_
      refine kD ?_
      refine kE ?_
      refine qr11 (AList.litSl tyOk) ?_
      refine AList.appL tyOk rfl rfl rfl rfl rfl rfl rfl rfl rfl rfl oM oM ?_
      refine kD ?_
      refine kI ?_
      refine aB ?_)
   | (refine rG 14 ?_
      refine kF ?_
      refine kI ?_
      refine aB ?_))
  refine ⟨mkSt 55 [(4, .c (.pt 4 3 0 0))] [(4, ⟨false, 1, 3, 31, lF (bpC (⟨b.W, b.H, b.n + 1, fun k => if k < b.n then b.d k else true⟩))⟩)] [4], [(4, ⟨false, 1, 3, 31, lF (bpC (⟨b.W, b.H, b.n + 1, fun k => if k < b.n then b.d k else true⟩))⟩)], Wk.mk [(4, some 4)] rfl rfl rfl ?_ ?_, rfl, rfl, ARets.one (x := .ag _) (ARes.box tyOk rfl rfl rfl rfl rfl rfl rfl)⟩
  ·exact allT
  ·exact ⟨HeapOk.box rfl rfl ⟨LeC.int (by first | rfl | (dsimp only; omega)), LeC.int (by first | rfl | (dsimp only; omega)), (LeC.fz rfl rfl (by rfl) (app_F (n := b.n) (G := bF (fun k => if k < b.n then b.d k else true)) (fun i hi => cell1 (congrArg bC (if_pos (show i < b.n by omega)).symm)) (cell1 (congrArg bC (if_neg (by omega)).symm)) (fun _ _ => cell1 rfl))), trivial⟩ rfl, trivial⟩
 ·refine ⟨⟨b.W, b.H, b.n / 2, b.d⟩, ?_⟩
  refine acalls_at Try.func19 rfl rfl Try.ntmps19 rfl ?_
  repeat (first
   | refine uA ?_
   | refine uB ?_
   | refine uC ?_
   | refine kT ?_
   | refine kU ?_
   | (refine rG 0 ?_
      refine qr5 aQ ?_
      refine qr5 (aM tyOk) ?_
      refine aB ?_)
   | (refine AWp.draw (id := 1) mixed ?_; refine kD ?_; refine kE ?_; refine kD ?_; refine kE ?_; refine qr7 (AList.emptySl tyOk) ?_; refine kD ?_; refine kE ?_; refine AList.appL0 tyOk rfl rfl rfl rfl rfl rfl rfl rfl rfl rfl oM oM ?_; refine qr8 (aX tyOk) ?_; refine qr5 (aM tyOk) ?_; refine kI ?_; refine aB ⟨by kernel_rfl, ?_⟩)
   | (refine rG 2 ?_
      refine kA ?_
      refine aH rfl rfl rfl rfl Try.func25 rfl (by kernel_rfl) (hM) ?_
      refine aB ?_)
   | (refine rG 3 ?_
      refine qr5f aJ ?_
      refine kC ?_
      refine aB ?_)
   | (refine rG 5 ?_
      refine qr5f aJ ?_
      refine kC ?_
      refine aB ?_)
   | (refine rG 7 ?_
      refine qr5f aJ ?_
      refine kC ?_
      refine aB ?_)
   | (refine rG 9 ?_
      refine qr5 aW ?_
      refine kC ?_
      refine aB ?_))
  refine AWp.weak (S' := mkSt 55 [(1, .c (iC q)), (4, .c (.pt 4 3 0 0)), (5, .c (.pt 5 3 0 0))] [(4, ⟨false, 1, 3, 31, lF [iC 0, iC 0, .p (.slice none 0 0)]⟩), (5, ⟨false, 1, 3, 31, lF (bpC b)⟩)] [4, 5]) (Wk.mk [(4, some 4), (5, some 5)] rfl rfl rfl ?_ ?_) ?_
  ·exact allT
  ·exact allH
  have e2 : (b.n : Int) / 2 = ((b.n / 2 : Nat) : Int) := by omega
  repeat (first
   | refine uA ?_
   | refine uB ?_
   | refine AWp.ret ?_
   | (refine rG 10 ?_
      refine kD ?_
      refine kE ?_
      refine kD ?_
      refine kE ?_
      refine qr5 (aO tyOk) ?_
      refine qr4w3 AList.quo ?_
      refine AList.cut (l := 0) (h := b.n / 2) tyOk rfl rfl rfl rfl rfl rfl rfl rfl ⟨_, _, rfl, by first | rfl | omega⟩ (by omega) (by omega) ?_
      refine kD ?_
      refine kI ?_
      refine aB ?_)
   | (refine rG 14 ?_
      refine kF ?_
      refine kI ?_
      refine aB ?_))
  refine ⟨mkSt 55 [(4, .c (.pt 4 3 0 0))] [(4, ⟨false, 1, 3, 31, lF (bpC (⟨b.W, b.H, b.n / 2, b.d⟩))⟩)] [4], [(4, ⟨false, 1, 3, 31, lF (bpC (⟨b.W, b.H, b.n / 2, b.d⟩))⟩)], Wk.mk [(4, some 4)] rfl rfl rfl ?_ ?_, rfl, rfl, ARets.one (x := .ag _) (ARes.box tyOk rfl rfl rfl rfl rfl rfl rfl)⟩
  ·exact allT
  ·exact ⟨HeapOk.box rfl rfl ⟨LeC.int (by first | rfl | (dsimp only; omega)), LeC.int (by first | rfl | (dsimp only; omega)), (LeC.lz (by rfl) (fun _ _ _ _ => by rw [Nat.zero_add])), trivial⟩ rfl, trivial⟩
 ·refine ⟨⟨-b.W, -b.H, b.n, b.d⟩, ?_⟩
  refine acalls_at Try.func19 rfl rfl Try.ntmps19 rfl ?_
  repeat (first
   | refine uA ?_
   | refine uB ?_
   | refine uC ?_
   | refine AWp.ret ?_
   | refine kT ?_
   | refine kU ?_
   | (refine rG 0 ?_
      refine qr5 aQ ?_
      refine qr5 (aM tyOk) ?_
      refine aB ?_)
   | (refine AWp.draw (id := 1) mixed ?_; refine kD ?_; refine kE ?_; refine kD ?_; refine kE ?_; refine qr7 (AList.emptySl tyOk) ?_; refine kD ?_; refine kE ?_; refine AList.appL0 tyOk rfl rfl rfl rfl rfl rfl rfl rfl rfl rfl oM oM ?_; refine qr8 (aX tyOk) ?_; refine qr5 (aM tyOk) ?_; refine kI ?_; refine aB ⟨by kernel_rfl, ?_⟩)
   | (refine rG 2 ?_
      refine kA ?_
      refine aH rfl rfl rfl rfl Try.func25 rfl (by kernel_rfl) (hM) ?_
      refine aB ?_)
   | (refine rG 3 ?_
      refine qr5f aJ ?_
      refine kC ?_
      refine aB ?_)
   | (refine rG 5 ?_
      refine qr5f aJ ?_
      refine kC ?_
      refine aB ?_)
   | (refine rG 7 ?_
      refine qr5f aJ ?_
      refine kC ?_
      refine aB ?_)
   | (refine rG 9 ?_
      refine qr5f aJ ?_
      refine kC ?_
      refine aB ?_)
   | (refine rG 11 ?_
      refine qr5 aW ?_
      refine kC ?_
      refine aB ?_)
   | (refine rG 12 ?_
      refine kD ?_
      refine kE ?_
      refine qr3w2 AList.neg ?_
      refine kD ?_
      refine kI ?_
      refine aB ?_)
   | (refine rG 13 ?_
      refine kD ?_
      refine kE ?_
      refine qr3w2 AList.neg ?_
      refine kD ?_
      refine kI ?_
      refine aB ?_)
   | (refine rG 14 ?_
      refine kF ?_
      refine kI ?_
      refine aB ?_))
  refine ⟨mkSt 55 [(4, .c (.pt 4 3 0 0))] [(4, ⟨false, 1, 3, 31, lF (bpC (⟨-b.W, -b.H, b.n, b.d⟩))⟩)] [4], [(4, ⟨false, 1, 3, 31, lF (bpC (⟨-b.W, -b.H, b.n, b.d⟩))⟩)], Wk.mk [(4, some 4)] rfl rfl rfl ?_ ?_, rfl, rfl, ARets.one (x := .ag _) (ARes.box tyOk rfl rfl rfl rfl rfl rfl rfl)⟩
  ·exact allT
  ·exact ⟨HeapOk.box rfl rfl ⟨LeC.int (by first | rfl | (dsimp only; omega)), LeC.int (by first | rfl | (dsimp only; omega)), (LeC.fz rfl rfl (by rfl) (fun _ _ _ _ => ⟨rfl, rfl⟩)), trivial⟩ rfl, trivial⟩
 ·refine ⟨b, ?_⟩
  refine acalls_at Try.func19 rfl rfl Try.ntmps19 rfl ?_
  repeat (first
   | refine uA ?_
   | refine uB ?_
   | refine uC ?_
   | refine uG ?_
   | refine AWp.ret ?_
   | refine kU ?_
   | (refine rG 0 ?_
      refine qr5 aQ ?_
      refine qr5 (aM tyOk) ?_
      refine aB ?_)
   | (refine AWp.draw (id := 1) mixed ?_; refine kD ?_; refine kE ?_; refine kD ?_; refine kE ?_; refine qr7 (AList.emptySl tyOk) ?_; refine kD ?_; refine kE ?_; refine AList.appL0 tyOk rfl rfl rfl rfl rfl rfl rfl rfl rfl rfl oM oM ?_; refine qr8 (aX tyOk) ?_; refine qr5 (aM tyOk) ?_; refine kI ?_; refine aB ⟨by kernel_rfl, ?_⟩)
   | (refine rG 2 ?_
      refine kA ?_
      refine aH rfl rfl rfl rfl Try.func25 rfl (by kernel_rfl) (hM) ?_
      refine aB ?_)
   | (refine rG 3 ?_
      refine qr5f aJ ?_
      refine kC ?_
      refine aB ?_)
   | (refine rG 5 ?_
      refine qr5f aJ ?_
      refine kC ?_
      refine aB ?_)
   | (refine rG 7 ?_
      refine qr5f aJ ?_
      refine kC ?_
      refine aB ?_)
   | (refine rG 9 ?_
      refine qr5f aJ ?_
      refine kC ?_
      refine aB ?_)
   | (refine rG 11 ?_
      refine qr5f aJ ?_
      refine kC ?_
      refine aB ?_)
   | (refine rG 14 ?_
      refine kF ?_
      refine kI ?_
      refine aB ?_))
  refine ⟨mkSt 55 [(4, .c (.pt 4 3 0 0))] [(4, ⟨false, 1, 3, 31, lF (bpC (b))⟩)] [4], [(4, ⟨false, 1, 3, 31, lF (bpC (b))⟩)], Wk.mk [(4, some 4)] rfl rfl rfl ?_ ?_, rfl, rfl, ARets.one (x := .ag _) (ARes.box tyOk rfl rfl rfl rfl rfl rfl rfl)⟩
  ·exact allT
  ·exact ⟨HeapOk.box rfl rfl ⟨LeC.int (by first | rfl | (dsimp only; omega)), LeC.int (by first | rfl | (dsimp only; omega)), (LeC.fz rfl rfl (by rfl) (fun _ _ _ _ => ⟨rfl, rfl⟩)), trivial⟩ rfl, trivial⟩
end Go.Proofs.Ytekkldgmjdllbaa
end
