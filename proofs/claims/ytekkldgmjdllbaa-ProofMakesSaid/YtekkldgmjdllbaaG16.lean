/- Parts of the proof: ACv, A23t, A23v, A24j, A24k. -/
import Derived.Test.YtekkldgmjdllbaaG10
import Derived.Test.YtekkldgmjdllbaaG07
import Derived.Test.YtekkldgmjdllbaaG15
import Derived.Test.YtekkldgmjdllbaaG08
import Derived.Test.YtekkldgmjdllbaaProg
import Derived.Test.YtekkldgmjdllbaaG14
set_option linter.unusedSimpArgs false
set_option linter.unusedVariables false
section
namespace Go.AV
open Go Go.RowKit Go.Flow
section
variable {P : Program}
def Cv (x y : CV) : Prop := ∀ (σ : Nat → Option Value) (O : Nat → Prop) (w : World) (u : Value), RepC σ O w x u → RepC σ O w y u
theorem Cv.refl (x : CV) : Cv x x := fun _ _ _ _ h => h
theorem Cv.nil {sz : Nat} {F : Nat → Nat → CV} : Cv (.p (.slice none 0 0)) (.ls 0 sz F) := fun σ O w u hu => by
 obtain rfl : u = .slice none 0 0 := hu.2
 exact nil_rep
inductive CvV : V1 → V1 → Prop
 | c {x y : CV} (h : Cv x y) : CvV (.c x) (.c y)
 | ag {l m : List CV} (h : LeL Cv l m) : CvV (.ag l) (.ag m)
theorem CvV.rep {x y : V1} (h : CvV x y) {σ : Nat → Option Value} {O : Nat → Prop} {w : World} {u : Value} (hu : RepV σ O w x u) : RepV σ O w y u := by
 cases h with
 | c h => exact h _ _ _ _ hu
 | ag h =>
   obtain ⟨vs, e, hv⟩ := hu
   exact ⟨vs, e, h.get (fun _ _ _ h1 h2 => h1 _ _ _ _ h2) hv⟩
theorem CvL.rep : ∀ {l m : List V1}, LeL CvV l m → ∀ {σ : Nat → Option Value} {O : Nat → Prop} {w : World} {us : List Value}, RepL (RepV σ O w) l us → RepL (RepV σ O w) m us
 | [], [], _, _, _, _, [], _ => trivial
 | x :: l, y :: m, h, _, _, _, u :: us, hu => ⟨h.1.rep hu.1, CvL.rep h.2 hu.2⟩
 | [], _ :: _, h, _, _, _, _, _ => h.elim
 | _ :: _, [], h, _, _, _, _, _ => h.elim
 | [], [], _, _, _, _, _ :: _, hu => hu.elim
 | _ :: _, _ :: _, _, _, _, _, [], hu => hu.elim
end
end Go.AV
end
section
namespace Go.Proofs.Ytekkldgmjdllbaa
open Go.RowKit Go.Flow Go.AV Go.Plain
instance : DecidableEq Mc := fun r s =>
 if h : r.dx = s.dx ∧ r.dy = s.dy ∧ r.lo = s.lo ∧ r.bl = s.bl then isTrue (by cases r; cases s; simp_all) else isFalse fun e => h (by subst e; exact ⟨rfl, rfl, rfl, rfl⟩)
def InvL (n : Nat) (px : Nat → Int) (kind : Int) (k : Nat) (L : List Int) : Prop := mkAll n px (fun i => L.getD i 0) kind L.length = true ∧ ∀ a ∈ L, a < (k : Int)
theorem InvL.nil {n : Nat} {px : Nat → Int} {kind : Int} {k : Nat} : InvL n px kind k [] := ⟨mkAll_iff.2 fun i hi => absurd hi (Nat.not_lt_zero _), fun a h => by simp at h⟩
theorem InvL.up {n : Nat} {px : Nat → Int} {kind : Int} {k : Nat} {L : List Int} (h : InvL n px kind k L) : InvL n px kind (k + 1) L := ⟨h.1, fun a ha => by have := h.2 a ha; omega⟩
def cmpOk (a b : Bp) : Prop := chk a.W a.H a.n = 0 ∧ chk b.W b.H b.n = 0 ∧ a.W = b.W ∧ a.H = b.H
instance (a b : Bp) : Decidable (cmpOk a b) := by unfold cmpOk; infer_instance
set_option maxRecDepth 100000 in
theorem Comparable_A (a b : Bp) : ACalls Try.prog 95 [.ag (bpC a), .ag (bpC b)] (.c (bC (decide (cmpOk a b)))) := by
 have h1 := rbCheck_A a.W a.H a.n a.d
 have h2 := rbCheck_A b.W b.H b.n b.d
 by_cases c1 : chk a.W a.H a.n = 0
 ·by_cases c2 : chk b.W b.H b.n = 0
  ·by_cases c3 : a.W = b.W
   ·by_cases c4 : a.H = b.H
    ·rw [show decide (cmpOk a b) = true from decide_eq_true ⟨c1, c2, c3, c4⟩]
     refine acalls_at Try.func95 rfl rfl Try.ntmps95 rfl ?_
     repeat (first
      | refine uA ?_
      | refine uB ?_
      | refine AWp.ret ?_
      | (refine rG 0 ?_
         (iterate 2 refine qr5 aQ ?_)
         refine kC ?_
         refine aB ?_)
      | (refine rG 1 ?_
         refine kF ?_
         refine aH rfl rfl rfl rfl Try.func94 rfl (by kernel_rfl) (h1) ?_
         refine qr5t aK ?_
         refine kA ?_
         refine kF ?_
         refine aH rfl rfl rfl rfl Try.func94 rfl (by kernel_rfl) (h2) ?_
         refine qr5t aK ?_
         refine qr4 aS ?_
         refine kA ?_
         refine kD ?_
         refine kE ?_
         refine kD ?_
         refine kE ?_
         refine qr5t aK ?_
         refine qr4 aS ?_
         refine kA ?_
         refine kD ?_
         refine kE ?_
         refine kD ?_
         refine kE ?_
         refine qr5t aK ?_
         refine qr4 aS ?_
         refine kC ?_
         refine aB ?_))
     refine ⟨mkSt 27 [(4, .c (bC true))] [] [], [], Wk.mk [] rfl rfl rfl ?_ trivial, rfl, rfl, aR1⟩
     exact allT
    ·rw [show decide (cmpOk a b) = false from decide_eq_false fun h => c4 h.2.2.2]
     refine acalls_at Try.func95 rfl rfl Try.ntmps95 rfl ?_
     repeat (first
      | refine uA ?_
      | refine uB ?_
      | refine AWp.ret ?_
      | (refine rG 0 ?_
         (iterate 2 refine qr5 aQ ?_)
         refine kC ?_
         refine aB ?_)
      | (refine rG 1 ?_
         refine kF ?_
         refine aH rfl rfl rfl rfl Try.func94 rfl (by kernel_rfl) (h1) ?_
         refine qr5t aK ?_
         refine kA ?_
         refine kF ?_
         refine aH rfl rfl rfl rfl Try.func94 rfl (by kernel_rfl) (h2) ?_
         refine qr5t aK ?_
         refine qr4 aS ?_
         refine kA ?_
         refine kD ?_
         refine kE ?_
         refine kD ?_
         refine kE ?_
         refine qr5t aK ?_
         refine qr4 aS ?_
         refine kA ?_
         refine kD ?_
         refine kE ?_
         refine kD ?_
         refine kE ?_
         refine qr5f aJ ?_
         refine qr4 aS ?_
         refine kC ?_
         refine aB ?_))
     refine ⟨mkSt 27 [(4, .c (bC false))] [] [], [], Wk.mk [] rfl rfl rfl ?_ trivial, rfl, rfl, aR1⟩
     exact allT
   ·rw [show decide (cmpOk a b) = false from decide_eq_false fun h => c3 h.2.2.1]
    refine acalls_at Try.func95 rfl rfl Try.ntmps95 rfl ?_
    repeat (first
     | refine uA ?_
     | refine uB ?_
     | refine AWp.ret ?_
     | (refine rG 0 ?_
        (iterate 2 refine qr5 aQ ?_)
        refine kC ?_
        refine aB ?_)
     | (refine rG 1 ?_
        refine kF ?_
        refine aH rfl rfl rfl rfl Try.func94 rfl (by kernel_rfl) (h1) ?_
        refine qr5t aK ?_
        refine kA ?_
        refine kF ?_
        refine aH rfl rfl rfl rfl Try.func94 rfl (by kernel_rfl) (h2) ?_
        refine qr5t aK ?_
        refine qr4 aS ?_
        refine kA ?_
        refine kD ?_
        refine kE ?_
        refine kD ?_
        refine kE ?_
        refine qr5f aJ ?_
        refine qr4 aS ?_
        refine kA ?_
        (iterate 5 refine qr2 aG ?_)
        refine qr4 aR ?_
        refine kC ?_
        refine aB ?_))
    refine ⟨mkSt 27 [(4, .c (bC false))] [] [], [], Wk.mk [] rfl rfl rfl ?_ trivial, rfl, rfl, aR1⟩
    exact allT
  ·rw [show decide (cmpOk a b) = false from decide_eq_false fun h => c2 h.2.1]
   refine acalls_at Try.func95 rfl rfl Try.ntmps95 rfl ?_
   repeat (first
    | refine uA ?_
    | refine uB ?_
    | refine AWp.ret ?_
    | (refine rG 0 ?_
       (iterate 2 refine qr5 aQ ?_)
       refine kC ?_
       refine aB ?_)
    | (refine rG 1 ?_
       refine kF ?_
       refine aH rfl rfl rfl rfl Try.func94 rfl (by kernel_rfl) (h1) ?_
       refine qr5t aK ?_
       refine kA ?_
       refine kF ?_
       refine aH rfl rfl rfl rfl Try.func94 rfl (by kernel_rfl) (h2) ?_
       refine qr5f aJ ?_
       refine qr4 aS ?_
       refine kA ?_
       (iterate 5 refine qr2 aG ?_)
       refine qr4 aR ?_
       refine kA ?_
       (iterate 5 refine qr2 aG ?_)
       refine qr4 aR ?_
       refine kC ?_
       refine aB ?_))
   refine ⟨mkSt 27 [(4, .c (bC false))] [] [], [], Wk.mk [] rfl rfl rfl ?_ trivial, rfl, rfl, aR1⟩
   exact allT
 ·rw [show decide (cmpOk a b) = false from decide_eq_false fun h => c1 h.1]
  refine acalls_at Try.func95 rfl rfl Try.ntmps95 rfl ?_
  repeat (first
   | refine uA ?_
   | refine uB ?_
   | refine AWp.ret ?_
   | (refine rG 0 ?_
      (iterate 2 refine qr5 aQ ?_)
      refine kC ?_
      refine aB ?_)
   | (refine rG 1 ?_
      refine kF ?_
      refine aH rfl rfl rfl rfl Try.func94 rfl (by kernel_rfl) (h1) ?_
      refine qr5f aJ ?_
      refine kA ?_
      (iterate 3 refine qr2 aG ?_)
      refine qr4 aR ?_
      refine kA ?_
      (iterate 5 refine qr2 aG ?_)
      refine qr4 aR ?_
      refine kA ?_
      (iterate 5 refine qr2 aG ?_)
      refine qr4 aR ?_
      refine kC ?_
      refine aB ?_))
  refine ⟨mkSt 27 [(4, .c (bC false))] [] [], [], Wk.mk [] rfl rfl rfl ?_ trivial, rfl, rfl, aR1⟩
  exact allT
def onB (a b : Bp) (dx dy fr ti : Int) (j i : Nat) : Bool := hasB a.W a.H a.d i j && (decide ((i : Int) < fr) || decide (ti ≤ (i : Int))) && !hasB b.W b.H b.d ((i : Int) - dx) ((j : Int) - dy)
def onlyN (a b : Bp) (dx dy fr ti : Int) : Int := sumTo (fun j => cnt (onB a b dx dy fr ti j) a.W.toNat) a.H.toNat
set_option maxHeartbeats 2000000 in
set_option maxRecDepth 100000 in
theorem Only_A (a b : Bp) (dx dy fr ti : Int) (ha : chk a.W a.H a.n = 0) (hb : chk b.W b.H b.n = 0) (hx : -1000 ≤ dx ∧ dx ≤ 1000) (hy : -1000 ≤ dy ∧ dy ≤ 1000) :
 ACalls Try.prog 142 [.ag (bpC a), .ag (bpC b), .c (iC dx), .c (iC dy), .c (iC fr), .c (iC ti)] (.c (iC (onlyN a b dx dy fr ti))) := by
 have hC := rbCheck_A a.W a.H a.n a.d
 rw [ha] at hC
 obtain ⟨hw0, hw1, hh0, hh1, hn⟩ := okB ha
 obtain ⟨Wn, hWn⟩ := Int.eq_ofNat_of_zero_le hw0
 obtain ⟨Hn, hHn⟩ := Int.eq_ofNat_of_zero_le hh0
 have hon : onlyN a b dx dy fr ti = sumTo (fun j => cnt (onB a b dx dy fr ti j) Wn) Hn := by unfold onlyN; rw [hWn, hHn]; rfl
 rw [hon]
 have hsb : ∀ m, m ≤ Hn → 0 ≤ sumTo (fun j => cnt (onB a b dx dy fr ti j) Wn) m ∧ sumTo (fun j => cnt (onB a b dx dy fr ti j) Wn) m ≤ 96 * m := fun m hm => by
  refine ⟨sumTo_nonneg fun k _ => Go.Plain.cnt_nonneg _ _, ?_⟩
  induction m with
  | zero => exact Int.le_refl _
  | succ m ih =>
    have h1 := ih (by omega)
    have h2 := cnt_le (onB a b dx dy fr ti m) Wn
    show sumTo _ m + cnt _ Wn ≤ _
    omega
 rw [show bpC a = bmpV Wn Hn a.n a.d by show bmpV a.W a.H a.n a.d = _; rw [hWn, hHn]]
 have hG : ∀ i j : Int, ACalls Try.prog 100 [.ag (bmpV Wn Hn a.n a.d), .c (iC i), .c (iC j)] (.c (bC (hasB a.W a.H a.d i j))) := fun i j => by
  have := Get_A a.W a.H a.n a.d i j ha
  rw [hWn, hHn] at this ⊢
  exact this
 rw [show bmpV a.W a.H a.n a.d = bmpV Wn Hn a.n a.d by rw [hWn, hHn]] at hC
 have hW : (Wn : Int) ≤ 96 := by omega
 have hH : (Hn : Int) ≤ 96 := by omega
 refine acalls_at Try.func142 rfl rfl Try.ntmps142 rfl ?_
 repeat (first
  | refine uA ?_
  | refine uB ?_
  | refine uC ?_
  | (refine rG 0 ?_
     (iterate 2 refine qr5 aQ ?_)
     refine kC ?_
     refine aB ?_)
  | (refine rG 1 ?_
     refine kC ?_
     refine aB ?_)
  | (refine rG 2 ?_
     refine kC ?_
     refine aB ?_))
 refine AWp.round (fun j : Nat => mkSt 61 [(2, .c (iC dx)), (3, .c (iC dy)), (4, .c (iC fr)), (5, .c (iC ti)), (6, .c (.pt 6 3 0 0)), (7, .c (.pt 7 3 0 0)), (13, .c (iC (sumTo (fun j => cnt (onB a b dx dy fr ti j) Wn) j))), (14, .c (iC j))] [(6, ⟨false, 1, 3, 31, lF (bmpV Wn Hn a.n a.d)⟩), (7, ⟨false, 1, 3, 31, lF (bpC b)⟩)] [6, 7])
  (fun j => j ≤ Hn) (fun j => Hn - j) 0 (Nat.zero_le _) ?_ (fun j hj => ?_)
 ·refine Wk.mk [(6, some 6), (7, some 7)] rfl rfl rfl ?_ ?_
  ·exact allT
  ·exact allH
 ·by_cases hjl : j < Hn
  ·obtain ⟨s, hs⟩ : ∃ s, sumTo (fun j => cnt (onB a b dx dy fr ti j) Wn) j = s := ⟨_, rfl⟩
   have hs1 := hsb j hj
   rw [hs] at hs1
   have hsu : sumTo (fun j => cnt (onB a b dx dy fr ti j) Wn) (j + 1) = s + cnt (onB a b dx dy fr ti j) Wn := by rw [← hs]; rfl
   rw [hs]
   repeat (first
    | refine uA ?_
    | refine uB ?_
    | refine uC ?_
    | refine uG ?_
    | refine kT ?_
    | (refine rG 3 ?_
       refine kF ?_
       refine aH rfl rfl rfl rfl Try.func94 rfl (by kernel_rfl) (hC) ?_
       refine qr5 aW ?_
       (iterate 2 refine kA ?_)
       refine kD ?_
       refine kE ?_
       refine qr5t aK ?_
       refine qr4 aS ?_
       refine aB ?_)
    | (refine rG 5 ?_
       refine kC ?_
       refine aB ?_))
   refine AWp.round (fun i : Nat => mkSt 61 [(2, .c (iC dx)), (3, .c (iC dy)), (4, .c (iC fr)), (5, .c (iC ti)), (6, .c (.pt 6 3 0 0)), (7, .c (.pt 7 3 0 0)), (13, .c (iC (s + cnt (onB a b dx dy fr ti j) i))), (14, .c (iC j)), (15, .c (iC i))] [(6, ⟨false, 1, 3, 31, lF (bmpV Wn Hn a.n a.d)⟩), (7, ⟨false, 1, 3, 31, lF (bpC b)⟩)] [6, 7])
    (fun i => i ≤ Wn) (fun i => Wn - i) 0 (Nat.zero_le _) ?_ (fun i hi => ?_)
   ·refine Wk.mk [(6, some 6), (7, some 7)] rfl rfl rfl ?_ ?_
    ·rw [cnt_zero]
     exact allT
    ·exact allH
   ·obtain ⟨c, hc⟩ : ∃ c, cnt (onB a b dx dy fr ti j) i = c := ⟨_, rfl⟩
    have hcb : 0 ≤ c ∧ c ≤ i := by rw [← hc]; exact ⟨Go.Plain.cnt_nonneg _ _, cnt_le _ _⟩
    have hcs : cnt (onB a b dx dy fr ti j) (i + 1) = c + if onB a b dx dy fr ti j i then 1 else 0 := by rw [← hc]; exact cnt_succ _ _
    rw [hc]
    have hGa := hG i j
    have hGb := Get_A b.W b.H b.n b.d ((i : Int) - dx) ((j : Int) - dy) hb
    by_cases hil : i < Wn
    ·cases g1 : hasB a.W a.H a.d i j with
     | false =>
       rw [g1] at hGa
       rw [show onB a b dx dy fr ti j i = false by unfold onB; rw [g1]; rfl, if_neg (by decide)] at hcs
       repeat (first
        | refine uA ?_
        | refine uB ?_
        | refine uC ?_
        | refine uG ?_
        | refine uD ?_
        | refine kT ?_
        | refine kU ?_
        | (refine rG 6 ?_
           refine kA ?_
           refine kD ?_
           refine kE ?_
           refine qr5t aK ?_
           refine aB ?_)
        | (refine rG 7 ?_
           refine kA ?_
           refine qr4w2 aL ?_
           refine kC ?_
           refine aB ?_)
        | (refine rG 8 ?_
           refine kF ?_
           (iterate 2 refine kA ?_)
           refine aH rfl rfl rfl rfl Try.func100 rfl (by kernel_rfl) (hGa) ?_
           refine kA ?_
           (iterate 8 refine qr2 aG ?_)
           refine qr4 aR ?_
           refine kA ?_
           (iterate 9 refine qr2 aG ?_)
           refine qr4 aR ?_
           refine aB ?_))
       refine ⟨i + 1, hil, Wk.mk [(6, some 6), (7, some 7)] rfl rfl rfl ?_ ?_, by omega⟩
       ·rw [hcs]
        exact allT
       ·exact allH
     | true =>
       rw [g1] at hGa
       by_cases g2 : (i : Int) < fr
       ·cases g4 : hasB b.W b.H b.d ((i : Int) - dx) ((j : Int) - dy) with
        | false =>
          rw [g4] at hGb
          rw [show onB a b dx dy fr ti j i = true by unfold onB; rw [g1, g4, decide_eq_true g2]; rfl, if_pos rfl] at hcs
          repeat (first
           | refine uA ?_
           | refine uB ?_
           | refine uC ?_
           | refine uG ?_
           | refine uD ?_
           | refine kT ?_
           | (refine rG 6 ?_
              refine kA ?_
              refine kD ?_
              refine kE ?_
              refine qr5t aK ?_
              refine aB ?_)
           | (refine rG 7 ?_
              refine kA ?_
              refine qr4w2 aL ?_
              refine kC ?_
              refine aB ?_)
           | (refine rG 8 ?_
              refine kF ?_
              (iterate 2 refine kA ?_)
              refine aH rfl rfl rfl rfl Try.func100 rfl (by kernel_rfl) (hGa) ?_
              (iterate 3 refine kA ?_)
              refine qr5t aK ?_
              refine kA ?_
              (iterate 3 refine qr2 aG ?_)
              (iterate 2 refine qr4 aS ?_)
              refine kA ?_
              refine kF ?_
              (iterate 2 refine kA ?_)
              refine qr4w2 AList.sub ?_
              (iterate 2 refine kA ?_)
              refine qr4w2 AList.sub ?_
              refine aH rfl rfl rfl rfl Try.func100 rfl (by kernel_rfl) (hGb) ?_
              refine qr3 AList.notB ?_
              refine qr4 aS ?_
              refine aB ?_)
           | (refine rG 9 ?_
              refine kA ?_
              refine qr4w2 aL ?_
              refine kC ?_
              refine aB ?_))
          refine ⟨i + 1, hil, Wk.mk [(6, some 6), (7, some 7)] rfl rfl rfl ?_ ?_, by omega⟩
          ·rw [hcs]
           exact allT
          ·exact allH
        | true =>
          rw [g4] at hGb
          rw [show onB a b dx dy fr ti j i = false by unfold onB; rw [g1, g4]; simp, if_neg (by decide)] at hcs
          repeat (first
           | refine uA ?_
           | refine uB ?_
           | refine uC ?_
           | refine uG ?_
           | refine uD ?_
           | refine kT ?_
           | refine kU ?_
           | (refine rG 6 ?_
              refine kA ?_
              refine kD ?_
              refine kE ?_
              refine qr5t aK ?_
              refine aB ?_)
           | (refine rG 7 ?_
              refine kA ?_
              refine qr4w2 aL ?_
              refine kC ?_
              refine aB ?_)
           | (refine rG 8 ?_
              refine kF ?_
              (iterate 2 refine kA ?_)
              refine aH rfl rfl rfl rfl Try.func100 rfl (by kernel_rfl) (hGa) ?_
              (iterate 3 refine kA ?_)
              refine qr5t aK ?_
              refine kA ?_
              (iterate 3 refine qr2 aG ?_)
              (iterate 2 refine qr4 aS ?_)
              refine kA ?_
              refine kF ?_
              (iterate 2 refine kA ?_)
              refine qr4w2 AList.sub ?_
              (iterate 2 refine kA ?_)
              refine qr4w2 AList.sub ?_
              refine aH rfl rfl rfl rfl Try.func100 rfl (by kernel_rfl) (hGb) ?_
              refine qr3 AList.notB ?_
              refine qr4 aS ?_
              refine aB ?_))
          refine ⟨i + 1, hil, Wk.mk [(6, some 6), (7, some 7)] rfl rfl rfl ?_ ?_, by omega⟩
          ·rw [hcs]
           exact allT
          ·exact allH
       ·by_cases g3 : ti ≤ (i : Int)
        ·cases g4 : hasB b.W b.H b.d ((i : Int) - dx) ((j : Int) - dy) with
         | false =>
           rw [g4] at hGb
           rw [show onB a b dx dy fr ti j i = true by unfold onB; rw [g1, g4, decide_eq_true g3, Bool.or_true]; rfl, if_pos rfl] at hcs
           repeat (first
            | refine uA ?_
            | refine uB ?_
            | refine uC ?_
            | refine uG ?_
            | refine uD ?_
            | refine kT ?_
            | (refine rG 6 ?_
               refine kA ?_
               refine kD ?_
               refine kE ?_
               refine qr5t aK ?_
               refine aB ?_)
            | (refine rG 7 ?_
               refine kA ?_
               refine qr4w2 aL ?_
               refine kC ?_
               refine aB ?_)
            | (refine rG 8 ?_
               refine kF ?_
               (iterate 2 refine kA ?_)
               refine aH rfl rfl rfl rfl Try.func100 rfl (by kernel_rfl) (hGa) ?_
               (iterate 3 refine kA ?_)
               refine qr5f aJ ?_
               (iterate 3 refine kA ?_)
               refine qr5t aK ?_
               refine qr4 aR ?_
               refine qr4 aS ?_
               refine kA ?_
               refine kF ?_
               (iterate 2 refine kA ?_)
               refine qr4w2 AList.sub ?_
               (iterate 2 refine kA ?_)
               refine qr4w2 AList.sub ?_
               refine aH rfl rfl rfl rfl Try.func100 rfl (by kernel_rfl) (hGb) ?_
               refine qr3 AList.notB ?_
               refine qr4 aS ?_
               refine aB ?_)
            | (refine rG 9 ?_
               refine kA ?_
               refine qr4w2 aL ?_
               refine kC ?_
               refine aB ?_))
           refine ⟨i + 1, hil, Wk.mk [(6, some 6), (7, some 7)] rfl rfl rfl ?_ ?_, by omega⟩
           ·rw [hcs]
            exact allT
           ·exact allH
         | true =>
           rw [g4] at hGb
           rw [show onB a b dx dy fr ti j i = false by unfold onB; rw [g1, g4]; simp, if_neg (by decide)] at hcs
           repeat (first
            | refine uA ?_
            | refine uB ?_
            | refine uC ?_
            | refine uG ?_
            | refine uD ?_
            | refine kT ?_
            | refine kU ?_
            | (refine rG 6 ?_
               refine kA ?_
               refine kD ?_
               refine kE ?_
               refine qr5t aK ?_
               refine aB ?_)
            | (refine rG 7 ?_
               refine kA ?_
               refine qr4w2 aL ?_
               refine kC ?_
               refine aB ?_)
            | (refine rG 8 ?_
               refine kF ?_
               (iterate 2 refine kA ?_)
               refine aH rfl rfl rfl rfl Try.func100 rfl (by kernel_rfl) (hGa) ?_
               (iterate 3 refine kA ?_)
               refine qr5f aJ ?_
               (iterate 3 refine kA ?_)
               refine qr5t aK ?_
               refine qr4 aR ?_
               refine qr4 aS ?_
               refine kA ?_
               refine kF ?_
               (iterate 2 refine kA ?_)
               refine qr4w2 AList.sub ?_
               (iterate 2 refine kA ?_)
               refine qr4w2 AList.sub ?_
               refine aH rfl rfl rfl rfl Try.func100 rfl (by kernel_rfl) (hGb) ?_
               refine qr3 AList.notB ?_
               refine qr4 aS ?_
               refine aB ?_))
           refine ⟨i + 1, hil, Wk.mk [(6, some 6), (7, some 7)] rfl rfl rfl ?_ ?_, by omega⟩
           ·rw [hcs]
            exact allT
           ·exact allH
        ·rw [show onB a b dx dy fr ti j i = false by unfold onB; rw [g1, decide_eq_false g2, decide_eq_false g3]; rfl, if_neg (by decide)] at hcs
         repeat (first
          | refine uA ?_
          | refine uB ?_
          | refine uC ?_
          | refine uG ?_
          | refine uD ?_
          | refine kT ?_
          | refine kU ?_
          | (refine rG 6 ?_
             refine kA ?_
             refine kD ?_
             refine kE ?_
             refine qr5t aK ?_
             refine aB ?_)
          | (refine rG 7 ?_
             refine kA ?_
             refine qr4w2 aL ?_
             refine kC ?_
             refine aB ?_)
          | (refine rG 8 ?_
             refine kF ?_
             (iterate 2 refine kA ?_)
             refine aH rfl rfl rfl rfl Try.func100 rfl (by kernel_rfl) (hGa) ?_
             (iterate 3 refine kA ?_)
             refine qr5f aJ ?_
             (iterate 3 refine kA ?_)
             refine qr5f aJ ?_
             refine qr4 aR ?_
             refine qr4 aS ?_
             refine kA ?_
             (iterate 9 refine qr2 aG ?_)
             refine qr4 aR ?_
             refine aB ?_))
         refine ⟨i + 1, hil, Wk.mk [(6, some 6), (7, some 7)] rfl rfl rfl ?_ ?_, by omega⟩
         ·rw [hcs]
          exact allT
         ·exact allH
    ·obtain rfl : i = Wn := by omega
     repeat (first
      | refine uA ?_
      | refine uB ?_
      | refine uH ?_
      | refine thenA_e ?_
      | refine uD ?_
      | refine uF ?_
      | refine kU ?_
      | (refine rG 4 ?_
         refine kA ?_
         refine qr4w2 aL ?_
         refine kC ?_
         refine aB ?_)
      | (refine rG 6 ?_
         refine kA ?_
         refine kD ?_
         refine kE ?_
         refine qr5f aJ ?_
         refine aB ?_))
     refine ⟨j + 1, hjl, Wk.mk [(6, some 6), (7, some 7)] rfl rfl rfl ?_ ?_, by omega⟩
     ·rw [hsu, hc]
      exact allT
     ·exact allH
  ·obtain rfl : j = Hn := by omega
   repeat (first
    | refine uA ?_
    | refine uB ?_
    | refine uH ?_
    | refine AWp.ret ?_
    | refine kU ?_
    | (refine rG 3 ?_
       refine kF ?_
       refine aH rfl rfl rfl rfl Try.func94 rfl (by kernel_rfl) (hC) ?_
       refine qr5 aW ?_
       (iterate 2 refine kA ?_)
       refine kD ?_
       refine kE ?_
       refine qr5f aJ ?_
       refine qr4 aS ?_
       refine aB ?_)
    | (refine rG 10 ?_
       refine kA ?_
       refine kC ?_
       refine aB ?_))
   refine ⟨mkSt 61 [(12, .c (iC (sumTo (fun j => cnt (onB a b dx dy fr ti j) Wn) j)))] [] [], [], Wk.mk [] rfl rfl rfl ?_ trivial, rfl, rfl, aR1⟩
   exact allT
structure Cl where
 dx : Int
 dy : Int
 col : Int
 deriving DecidableEq
abbrev clC (c : Cl) : List CV := [iC c.dx, iC c.dy, iC c.col]
abbrev clZ : Cl := ⟨0, 0, 0⟩
theorem clC_imm (c : Cl) : (clC c).all immC = true := rfl
def stN (w : Int) (x y : Bg) : Int := min (w + 8) (max (lim4 x).st (lim4 y).st)
theorem stN_bd {w : Int} (x y : Bg) (h : 0 ≤ w) : 0 ≤ stN w x y ∧ stN w x y ≤ 16 ∧ stN w x y ≤ w + 8 := by
 have h1 := lim_bds x
 have h2 := lim_bds y
 unfold stN
 omega
theorem stN_lim (w : Int) (x y : Bg) : stN w (lim4 x) (lim4 y) = stN w x y := by unfold stN; rw [lim_idem, lim_idem]
def ovN (x y : Bg) (m n : Int) : Int := max (m - (lim4 x).lo - (lim4 y).bl) (n - (lim4 y).lo - (lim4 x).bl)
def xsV (a b : Bp) (x y : Bg) (c : Cl) : Int :=
 ovN x y (onlyN a b c.dx c.dy c.col (c.col + stN a.W x y)) (onlyN b a (-c.dx) (-c.dy) (c.col - c.dx) (c.col - c.dx + stN a.W x y))
theorem onlyN_bd (a b : Bp) (dx dy fr ti : Int) (ha : chk a.W a.H a.n = 0) : 0 ≤ onlyN a b dx dy fr ti ∧ onlyN a b dx dy fr ti ≤ 9216 := by
 obtain ⟨hw0, hw1, hh0, hh1, hn⟩ := okB ha
 unfold onlyN
 have : ∀ m : Nat, m ≤ 96 → 0 ≤ sumTo (fun j => cnt (onB a b dx dy fr ti j) a.W.toNat) m ∧ sumTo (fun j => cnt (onB a b dx dy fr ti j) a.W.toNat) m ≤ 96 * m := fun m hm => by
  refine ⟨sumTo_nonneg fun k _ => Go.Plain.cnt_nonneg _ _, ?_⟩
  induction m with
  | zero => exact Int.le_refl _
  | succ m ih =>
    have h1 := ih (by omega)
    have h2 := cnt_le (onB a b dx dy fr ti m) a.W.toNat
    show sumTo _ m + cnt _ a.W.toNat ≤ _
    omega
 have := this a.H.toNat (by omega)
 omega
set_option maxRecDepth 100000 in
theorem rStrip_A (w : Int) (x y : Bg) (h : 0 ≤ w ∧ w ≤ 96) : ACalls Try.prog 105 [.c (iC w), .ag (bgC x), .ag (bgC y)] (.c (iC (stN w x y))) := by
 have h1 := rlim24_A x
 have h2 := rlim24_A y
 have b1 := lim_bds x
 have b2 := lim_bds y
 refine acalls_at Try.func105 rfl rfl Try.ntmps105 rfl ?_
 repeat (first
  | refine uA ?_
  | refine uB ?_
  | refine AWp.ret ?_
  | (refine rG 0 ?_
     (iterate 2 refine qr5 aQ ?_)
     refine kC ?_
     refine aB ?_)
  | (refine AWp.draw (id := 1) mixed ?_; refine kA ?_; refine qr4w2 aL ?_; refine kF ?_; refine aH rfl rfl rfl rfl Try.func99 rfl (by kernel_rfl) (h1) ?_; refine AList.field1 tyOk rfl rfl rfl Try.underlying33 rfl rfl rfl rfl ?_; refine kF ?_; refine aH rfl rfl rfl rfl Try.func99 rfl (by kernel_rfl) (h2) ?_; refine AList.field1 tyOk rfl rfl rfl Try.underlying33 rfl rfl rfl rfl ?_; refine qr4 AList.maxI ?_; refine qr4 AList.minI ?_; refine kC ?_; refine aB ⟨by kernel_rfl, ?_⟩))
 refine ⟨mkSt 17 [(6, .c (iC (stN w x y)))] [] [], [], Wk.mk [] rfl rfl rfl ?_ trivial, rfl, rfl, aR1⟩
 exact allT
set_option maxRecDepth 100000 in
theorem Alone_A (a b : Bp) (c : Cl) (t : Int) (ha : chk a.W a.H a.n = 0) (hb : chk b.W b.H b.n = 0) (hx : -1000 ≤ c.dx ∧ c.dx ≤ 1000) (hy : -1000 ≤ c.dy ∧ c.dy ≤ 1000) (hc : -1000 ≤ c.col ∧ c.col ≤ 1000) (ht : 0 ≤ t ∧ t ≤ 16) :
 ACalls Try.prog 135 [.ag (bpC a), .ag (bpC b), .ag (clC c), .c (iC t)] (.tu [.c (iC (onlyN a b c.dx c.dy c.col (c.col + t))), .c (iC (onlyN b a (-c.dx) (-c.dy) (c.col - c.dx) (c.col - c.dx + t)))]) := by
 have h1 := Only_A a b c.dx c.dy c.col (c.col + t) ha hb hx hy
 have h2 := Only_A b a (-c.dx) (-c.dy) (c.col - c.dx) (c.col - c.dx + t) hb ha (by omega) (by omega)
 refine acalls_at Try.func135 rfl rfl Try.ntmps135 rfl ?_
 repeat (first
  | refine uA ?_
  | refine uB ?_
  | refine AWp.ret ?_
  | (refine rG 0 ?_
     (iterate 3 refine qr5 aQ ?_)
     (iterate 2 refine kC ?_)
     refine aB ?_)
  | (refine rG 1 ?_
     (iterate 2 refine kF ?_)
     refine kD ?_
     refine kE ?_
     refine kD ?_
     refine kE ?_
     refine kD ?_
     refine kE ?_
     refine kD ?_
     refine kE ?_
     refine kA ?_
     refine qr4w2 aL ?_
     refine aH rfl rfl rfl rfl Try.func142 rfl (by kernel_rfl) (h1) ?_
     refine kC ?_
     refine aB ?_)
  | (refine rG 2 ?_
     (iterate 2 refine kF ?_)
     refine kD ?_
     refine kE ?_
     refine qr3w2 AList.neg ?_
     refine kD ?_
     refine kE ?_
     refine qr3w2 AList.neg ?_
     refine kD ?_
     refine kE ?_
     refine kD ?_
     refine kE ?_
     refine qr4w2 AList.sub ?_
     refine kD ?_
     refine kE ?_
     refine kD ?_
     refine kE ?_
     refine qr4w2 AList.sub ?_
     refine kA ?_
     refine qr4w2 aL ?_
     refine aH rfl rfl rfl rfl Try.func142 rfl (by kernel_rfl) (h2) ?_
     refine kC ?_
     refine aB ?_)
  | (refine rG 3 ?_
     (iterate 2 refine kA ?_)
     (iterate 2 refine kC ?_)
     refine aB ?_))
 refine ⟨mkSt 48 [(8, .c (iC (onlyN a b c.dx c.dy c.col (c.col + t)))), (9, .c (iC (onlyN b a (-c.dx) (-c.dy) (c.col - c.dx) (c.col - c.dx + t))))] [] [], [], Wk.mk [] rfl rfl rfl ?_ trivial, rfl, rfl, ARets.two (x := .c _) (y := .c _) (ARes.tmp rfl rfl) (ARes.tmp rfl rfl)⟩
 exact allT
set_option maxHeartbeats 1000000 in
set_option maxRecDepth 100000 in
theorem rExcess_A (a b : Bp) (x y : Bg) (c : Cl) (ha : chk a.W a.H a.n = 0) (hb : chk b.W b.H b.n = 0) (hx : -1000 ≤ c.dx ∧ c.dx ≤ 1000) (hy : -1000 ≤ c.dy ∧ c.dy ≤ 1000) (hc : -1000 ≤ c.col ∧ c.col ≤ 1000) :
 ACalls Try.prog 97 [.ag (bpC a), .ag (bpC b), .ag (bgC x), .ag (bgC y), .ag (clC c)] (.c (iC (xsV a b x y c))) := by
 have h1 := rlim24_A x
 have h2 := rlim24_A y
 have b1 := lim_bds x
 have b2 := lim_bds y
 have hw := okB ha
 have hS := rStrip_A a.W (lim4 x) (lim4 y) ⟨hw.1, hw.2.1⟩
 rw [stN_lim] at hS
 have ht := stN_bd x y hw.1
 have hA := Alone_A a b c (stN a.W x y) ha hb hx hy hc (by omega)
 have e1 := onlyN_bd a b c.dx c.dy c.col (c.col + stN a.W x y) ha
 have e2 := onlyN_bd b a (-c.dx) (-c.dy) (c.col - c.dx) (c.col - c.dx + stN a.W x y) hb
 unfold xsV
 obtain ⟨m, hm⟩ : ∃ m, onlyN a b c.dx c.dy c.col (c.col + stN a.W x y) = m := ⟨_, rfl⟩
 obtain ⟨n, hn⟩ : ∃ n, onlyN b a (-c.dx) (-c.dy) (c.col - c.dx) (c.col - c.dx + stN a.W x y) = n := ⟨_, rfl⟩
 rw [hm, hn] at hA ⊢
 rw [hm] at e1
 rw [hn] at e2
 refine acalls_at Try.func97 rfl rfl Try.ntmps97 rfl ?_
 repeat (first
  | refine uA ?_
  | refine uB ?_
  | refine AWp.ret ?_
  | (refine rG 0 ?_
     (iterate 5 refine qr5 aQ ?_)
     refine kC ?_
     refine aB ?_)
  | (refine rG 1 ?_
     refine kF ?_
     refine aH rfl rfl rfl rfl Try.func99 rfl (by kernel_rfl) (h1) ?_
     refine kI ?_
     refine aB ?_)
  | (refine rG 2 ?_
     refine kF ?_
     refine aH rfl rfl rfl rfl Try.func99 rfl (by kernel_rfl) (h2) ?_
     refine kI ?_
     refine aB ?_)
  | (refine AWp.draw (id := 3) mixed ?_; (iterate 3 refine kF ?_); refine kD ?_; refine kE ?_; (iterate 2 refine kF ?_); refine aH rfl rfl rfl rfl Try.func105 rfl (by kernel_rfl) (hS) ?_; refine aH rfl rfl rfl rfl Try.func135 rfl (by kernel_rfl) (hA) ?_; refine kA ?_; (iterate 2 refine qr4 aN ?_); (iterate 2 refine kC ?_); refine aB ⟨by kernel_rfl, ?_⟩)
  | (refine rG 4 ?_
     refine kA ?_
     refine kD ?_
     refine kE ?_
     refine qr4w2 AList.sub ?_
     refine kD ?_
     refine kE ?_
     refine qr4w2 AList.sub ?_
     refine kA ?_
     refine kD ?_
     refine kE ?_
     refine qr4w2 AList.sub ?_
     refine kD ?_
     refine kE ?_
     refine qr4w2 AList.sub ?_
     refine qr4 AList.maxI ?_
     refine kC ?_
     refine aB ?_))
 refine ⟨mkSt 44 [(10, .c (iC (ovN x y m n)))] [] [], [], Wk.mk [] rfl rfl rfl ?_ trivial, rfl, rfl, aR1⟩
 exact allT
def alI (m : Nat) (d : Int × Int) (k : Nat) : List Cl := (List.range k).map fun (i : Nat) => ⟨d.1, d.2, (i : Int) - 4⟩
def alM (w : Int) (x y : Bg) : Nat := (w + 9 - stN w x y).toNat
def alK (w : Int) (x y : Bg) (L : List (Int × Int)) : List Cl := L.flatMap fun d => alI 0 d (alM w x y)
def alL (w : Int) (x y : Bg) : List Cl := alK w x y (shL (shN x y))
theorem alI_succ (m : Nat) (d : Int × Int) (k : Nat) : alI m d (k + 1) = alI m d k ++ [⟨d.1, d.2, (k : Int) - 4⟩] := by
 unfold alI
 rw [List.range_succ, List.map_append]
 rfl
theorem alK_take (w : Int) (x y : Bg) (L : List (Int × Int)) (k : Nat) (hk : k < L.length) : alK w x y (L.take (k + 1)) = alK w x y (L.take k) ++ alI 0 (L.getD k mvZ) (alM w x y) := by
 unfold alK
 rw [List.take_add_one, List.flatMap_append, List.getElem?_eq_getElem hk, List.getD_eq_getElem?_getD, List.getElem?_eq_getElem hk]
 simp
theorem sh_bd {m : Nat} {k : Nat} (hk : k < (shL m).length) : (-(m : Int) ≤ ((shL m).getD k mvZ).1 ∧ ((shL m).getD k mvZ).1 ≤ m) ∧ -(m : Int) ≤ ((shL m).getD k mvZ).2 ∧ ((shL m).getD k mvZ).2 ≤ m := by
 have : (shL m).getD k mvZ ∈ shL m := by
  rw [List.getD_eq_getElem?_getD, List.getElem?_eq_getElem hk]
  exact List.getElem_mem hk
 generalize (shL m).getD k mvZ = p at this
 unfold shL shS shM shJ at this
 simp only [List.mem_flatMap, List.mem_range] at this
 obtain ⟨s, hs, i, hi, j, hj, hp⟩ := this
 split at hp
 ·obtain rfl : p = _ := by simpa using hp
  dsimp only
  omega
 ·simp at hp
set_option maxHeartbeats 2000000 in
set_option maxRecDepth 100000 in
theorem All_A (w : Int) (x y : Bg) (hw : 0 ≤ w ∧ w ≤ 96) : ACalls Try.prog 96 [.c (iC w), .ag (bgC x), .ag (bgC y)] (.c (.ls (alL w x y).length 3 (rowF clC clZ (alL w x y)))) := by
 have hSh := rShifts_A x y
 have hSt := rStrip_A w x y hw
 have ht := stN_bd x y hw.1
 obtain ⟨-, hm4⟩ := shN_eq x y
 have hM : ((alM w x y : Nat) : Int) = w + 9 - stN w x y := by unfold alM; omega
 have hbd : ∀ k, k < (shL (shN x y)).length → _ := fun k hk => sh_bd hk
 have hSl : (shL (shN x y)).length ≤ 81 := by
  rw [shL_len hm4]
  have := Nat.mul_le_mul (show 2 * shN x y + 1 ≤ 9 by omega) (show 2 * shN x y + 1 ≤ 9 by omega)
  omega
 have htake : ∀ k, k < (shL (shN x y)).length → alK w x y ((shL (shN x y)).take (k + 1)) = alK w x y ((shL (shN x y)).take k) ++ alI 0 ((shL (shN x y)).getD k mvZ) (alM w x y) := fun k hk => alK_take w x y _ k hk
 have hall : alL w x y = alK w x y ((shL (shN x y)).take (shL (shN x y)).length) := by unfold alL; rw [List.take_length]
 rw [hall]
 generalize shL (shN x y) = S at *
 generalize stN w x y = t at *
 generalize alM w x y = M at *
 generalize hAK : alK w x y = AK at htake hall ⊢
 generalize hnl : S.length = n at hSh hbd hSl htake hall ⊢
 refine acalls_at Try.func96 rfl rfl Try.ntmps96 rfl ?_
 repeat (first
  | refine uA ?_
  | refine uB ?_
  | refine uC ?_
  | (refine rG 0 ?_
     (iterate 2 refine qr5 aQ ?_)
     refine kC ?_
     refine aB ?_)
  | (refine rG 1 ?_
     refine kC ?_
     refine aB ?_)
  | (refine rG 2 ?_
     (iterate 2 refine kF ?_)
     refine aH rfl rfl rfl rfl Try.func40 rfl (by kernel_rfl) (hSh) ?_
     refine kC ?_
     refine aB ?_)
  | (refine rG 3 ?_
     refine kA ?_
     refine qr4w2 aL ?_
     refine kA ?_
     (iterate 2 refine kF ?_)
     refine aH rfl rfl rfl rfl Try.func105 rfl (by kernel_rfl) (hSt) ?_
     refine qr4w2 AList.sub ?_
     refine kC ?_
     refine aB ?_)
  | (refine rG 4 ?_
     refine kC ?_
     refine aB ?_))
 refine AWp.round (fun s : Nat × List Cl => mkSt 49 [(7, .c (.ow 20)), (8, .c (.ls n 2 (rowF mvC mvZ S))), (9, .c (iC (w + 4 - t))), (10, .c (iC s.1))] [(20, ⟨true, s.2.length, 3, 53, rowF clC clZ s.2⟩)] [20])
  (fun s => s.1 ≤ n ∧ s.2 = AK (S.take s.1) ∧ s.2.length = M * s.1) (fun s => n - s.1) (0, []) ⟨Nat.zero_le _, by rw [List.take_zero, ← hAK]; rfl, by simp⟩ ?_ (fun s hs => ?_)
 ·refine Wk.mk [(20, none)] rfl rfl rfl ?_ ?_
  ·exact allT
  ·exact allH
 ·obtain ⟨k, L⟩ := s
  obtain ⟨hk, hL, hl⟩ := hs
  dsimp only at hk hL hl
  dsimp only
  by_cases hkn : k < n
  ·have hb := hbd k hkn
   have hMk : M * k ≤ 105 * 81 := Nat.mul_le_mul (by omega) (by omega)
   obtain ⟨d, hd⟩ : ∃ d, S.getD k mvZ = d := ⟨_, rfl⟩
   have htk := htake k hkn
   rw [hd] at htk
   repeat (first
    | refine uA ?_
    | refine uB ?_
    | refine uC ?_
    | refine uG ?_
    | refine kT ?_
    | (refine rG 5 ?_
       (iterate 2 refine kA ?_)
       refine qr5 (aO tyOk) ?_
       refine qr5t aK ?_
       refine aB ?_)
    | (refine rG 7 ?_
       refine kC ?_
       refine aB ?_))
   refine AWp.round (fun s : Nat × List Cl => mkSt 49 [(7, .c (.ow 20)), (8, .c (.ls n 2 (rowF mvC mvZ S))), (9, .c (iC (w + 4 - t))), (10, .c (iC k)), (11, .c (iC ((s.1 : Int) - 4)))] [(20, ⟨true, s.2.length, 3, 53, rowF clC clZ s.2⟩)] [20])
    (fun s => s.1 ≤ M ∧ s.2 = AK (S.take k) ++ alI 0 d s.1 ∧ s.2.length = M * k + s.1) (fun s => M - s.1) (0, L) ⟨Nat.zero_le _, by rw [hL]; exact (List.append_nil _).symm, hl⟩ ?_ (fun s hs => ?_)
   ·refine Wk.mk [(20, some 20)] rfl rfl rfl ?_ ?_
    ·exact allT
    ·exact allH
   ·obtain ⟨i, L2⟩ := s
    obtain ⟨hi, hL2, hl2⟩ := hs
    dsimp only at hi hL2 hl2
    dsimp only
    by_cases hiM : i < M
    ·have hlen : (L2 ++ [(⟨d.1, d.2, (i : Int) - 4⟩ : Cl)]).length = L2.length + 1 := by simp
     repeat (first
      | refine uA ?_
      | refine uB ?_
      | refine uC ?_
      | refine uG ?_
      | refine uD ?_
      | refine kT ?_
      | (refine rG 8 ?_
         (iterate 2 refine kA ?_)
         refine qr5t aK ?_
         refine aB ?_)
      | (refine rG 9 ?_
         refine kA ?_
         refine qr4w2 aL ?_
         refine kC ?_
         refine aB ?_)
      | (refine AWp.draw (id := 10) mixed ?_; (iterate 3 refine kA ?_); refine qr8eo2 (aP (k := k) tyOk) ?_; refine qr7 (AList.fieldPl tyOk) ?_; refine qr5o (aV tyOk) ?_; (iterate 2 refine kA ?_); refine qr8eo2 (aP (k := k) tyOk) ?_; refine qr7 (AList.fieldPl tyOk) ?_; refine qr5o (aV tyOk) ?_; refine kA ?_; refine qr8 (aX tyOk) ?_; refine qr11 (AList.litSl tyOk) ?_; refine AList.appL tyOk rfl rfl rfl rfl rfl rfl rfl rfl rfl rfl oM oM ?_; refine kC ?_; refine aB ⟨by kernel_rfl, ?_⟩))
     refine ⟨(i + 1, L2 ++ [⟨d.1, d.2, (i : Int) - 4⟩]), ⟨by dsimp only; omega, by rw [hL2, alI_succ, List.append_assoc], by rw [hlen]; dsimp only; omega⟩, Wk.mk [(20, some 47)] rfl rfl rfl ?_ ?_, by dsimp only; omega⟩
     ·exact allT
     ·rw [← hd]
      exact ⟨HeapOk.row rfl rfl (by simp) (row_snoc L2 (⟨(S.getD k mvZ).1, (S.getD k mvZ).2, (i : Int) - 4⟩ : Cl) clC_imm rfl), trivial⟩
    ·obtain rfl : i = M := by omega
     repeat (first
      | refine uA ?_
      | refine uB ?_
      | refine uH ?_
      | refine thenA_e ?_
      | refine uD ?_
      | refine uF ?_
      | refine kU ?_
      | (refine rG 6 ?_
         refine kA ?_
         refine qr4w2 aL ?_
         refine kC ?_
         refine aB ?_)
      | (refine rG 8 ?_
         (iterate 2 refine kA ?_)
         refine qr5f aJ ?_
         refine aB ?_))
     refine ⟨(k + 1, L2), ⟨by dsimp only; omega, by rw [hL2, htk], by dsimp only; rw [hl2, Nat.mul_succ]⟩, Wk.mk [(20, some 20)] rfl rfl rfl ?_ ?_, by dsimp only; omega⟩
     ·exact allT
     ·exact allH
  ·obtain rfl : k = n := by omega
   subst hL
   repeat (first
    | refine uA ?_
    | refine uB ?_
    | refine uH ?_
    | refine AWp.ret ?_
    | refine kU ?_
    | (refine rG 5 ?_
       (iterate 2 refine kA ?_)
       refine qr5 (aO tyOk) ?_
       refine qr5f aJ ?_
       refine aB ?_)
    | (refine rG 11 ?_
       refine kA ?_
       refine kC ?_
       refine aB ?_))
   refine ⟨mkSt 49 [(6, .c (.ls (AK (S.take k)).length 3 (rowF clC clZ (AK (S.take k)))))] [] [], [], Wk.mk [] rfl rfl rfl ?_ trivial, rfl, rfl, aR1⟩
   exact allT
end Go.Proofs.Ytekkldgmjdllbaa
end
