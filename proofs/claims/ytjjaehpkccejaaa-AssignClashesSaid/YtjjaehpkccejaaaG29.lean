/- Parts of the proof: ACut, A28f, A28g, A28h. -/
import Derived.Test.YtjjaehpkccejaaaG07
import Derived.Test.YtjjaehpkccejaaaG28
import Derived.Test.YtjjaehpkccejaaaG19
set_option linter.unusedSimpArgs false
set_option linter.unusedVariables false
section
namespace Go.AV
open Go Go.RowKit Go.Flow
theorem AWp.cut {P : Program} {x : Code} {Q : Exit → St → Prop} {S : St} (S1 : St) (h : AWp P x (fun e S' => e = .normal ∧ Wk S' S1) S) (hz : ∀ S', Wk S' S1 → Q .normal S') : AWp P x Q S :=
 h.mono fun e S' h => by obtain ⟨rfl, hw⟩ := h; exact hz S' hw
end Go.AV
end

section
namespace Go.Proofs.Ytjjaehpkccejaaa
open Go.RowKit Go.Flow Go.AV Go.Plain
structure Pb where
 R : List Rd
 C : List (List Bp)
 F : List Bp
 O : List Bg
 T : List Bg
theorem bpC_imm (b : Bp) : (bpC b).all immC = true := rfl
theorem bgC_imm28 (b : Bg) : (bgC b).all immC = true := rfl
abbrev lsR (L : List Rd) : CV := .ls L.length 2 (rowF rdC rdZ L)
abbrev lsB (L : List Bp) : CV := .ls L.length 3 (rowF bpC bpZ L)
abbrev lsG (L : List Bg) : CV := .ls L.length 4 (rowF bgC bgZ L)
abbrev chF (C : List (List Bp)) (k _ : Nat) : CV := lsB (C.getD k [])
abbrev lsC (C : List (List Bp)) : CV := .ls C.length 1 (chF C)
abbrev pbC (p : Pb) : List CV := [lsR p.R, lsC p.C, lsB p.F, lsG p.O, lsG p.T]
def rdL (L : List Rd) : List Rd := if L = [] then [⟨0, 1⟩] else L
/-- A reader's confusion. -/
def rcB (r : Rd) (a b : Bp) (x y : Bg) : Bool := decide (seeE r a = 0) && (decide (seeE r b = 0) && (cnfV (seeB r a) (seeB r b) x y).2)
def rcC (r : Rd) (a b : Bp) (x y : Bg) : Cl := (cnfV (seeB r a) (seeB r b) x y).1
def clashL (a b : Bp) (x y : Bg) : List Rd → Nat → Nat × Cl × Bool
 | [], _ => (0, clZ, false)
 | r :: L, k => if rcB r a b x y = true then (k, rcC r a b x y, true) else clashL a b x y L (k + 1)
def clashV (L : List Rd) (a b : Bp) (x y : Bg) : Nat × Cl × Bool := clashL a b x y (rdL L) 0
theorem clashL_hit {a b : Bp} {x y : Bg} : ∀ {L : List Rd} {k m : Nat}, m < L.length → (∀ i, i < m → rcB (L.getD i rdZ) a b x y = false) → rcB (L.getD m rdZ) a b x y = true → clashL a b x y L k = (k + m, rcC (L.getD m rdZ) a b x y, true)
 | r :: L, k, 0, _, _, h => by
   unfold clashL
   rw [if_pos (show rcB r a b x y = true from h)]
   rfl
 | r :: L, k, m + 1, hm, h0, h => by
   unfold clashL
   rw [if_neg (by rw [show rcB r a b x y = false from h0 0 (by omega)]; simp), clashL_hit (m := m) (by simpa using hm) (fun i hi => h0 (i + 1) (by omega)) h, Nat.add_assoc, Nat.add_comm 1]
   rfl
theorem clashL_no {a b : Bp} {x y : Bg} : ∀ {L : List Rd} {k : Nat}, (∀ i, i < L.length → rcB (L.getD i rdZ) a b x y = false) → clashL a b x y L k = (0, clZ, false)
 | [], _, _ => rfl
 | r :: L, k, h => by
   unfold clashL
   rw [if_neg (by rw [show rcB r a b x y = false from h 0 (by simp)]; simp), clashL_no fun i hi => h (i + 1) (by simpa using hi)]
def RdOk (L : List Rd) : Prop := ∀ r ∈ L, -1000000 ≤ r.bl ∧ r.bl ≤ 1000000
theorem rdL_ok {L : List Rd} (h : RdOk L) : RdOk (rdL L) := fun r hr => by
 unfold rdL at hr
 split at hr
 ·simp at hr; subst hr; exact ⟨by decide, by decide⟩
 ·exact h r hr
theorem getD_mem28 {α : Type} {L : List α} {k : Nat} {z : α} (h : k < L.length) : L.getD k z ∈ L := by
 rw [List.getD_eq_getElem?_getD, List.getElem?_eq_getElem h]
 exact List.getElem_mem h
theorem rd1_F : ∀ k, k < 1 → ∀ j, j < 2 → sF [iC 0, iC 1] 2 k j = rowF rdC rdZ [⟨0, 1⟩] k j := fun k hk j hj => by
 obtain rfl : k = 0 := by omega
 obtain rfl | rfl : j = 0 ∨ j = 1 := by omega
 ·rfl
 ·rfl
set_option maxRecDepth 100000 in
theorem readers_A (p : Pb) (hl : p.R.length ≤ 1000000) : ACalls Try.prog 47 [.ag (pbC p)] (.c (lsR (rdL p.R))) := by
 unfold rdL
 by_cases h : p.R = []
 ·have h0 : ((p.R.length : Nat) : Int) = 0 := by rw [h]; rfl
  rw [if_pos h]
  refine acalls_at Try.func47 rfl rfl Try.ntmps47 rfl ?_
  repeat (first
   | refine AWp.seq ?_
   | refine thenA_n ?_
   | refine AWp.ret ?_
   | refine thenA_r ?_
   | refine AWp.condT rfl cnT ?_
   | (refine rG 0 ?_
      refine qr5 aQ ?_
      refine kC ?_
      refine aB ?_)
   | (refine rG 1 ?_
      refine kD ?_
      refine kE ?_
      refine qr5 (aO tyOk) ?_
      refine qr5t aK ?_
      refine aB ?_)
   | (refine rG 2 ?_
      refine qr8 (aX tyOk) ?_
      refine qr11 (AList.litSl tyOk) ?_
      refine kC ?_
      refine aB ?_))
  refine ⟨mkSt 11 [(2, .c (lsR [⟨0, 1⟩]))] [] [], [], Wk.mk [] rfl rfl rfl ?_ trivial, rfl, rfl, ARets.one (x := .c _) (ARes.tmp rfl rfl)⟩
  exact ⟨⟨_, rfl, .c (LeC.lz rfl rd1_F)⟩, trivial⟩
 ·have h0 : ¬ ((p.R.length : Nat) : Int) = 0 := fun h0 => h (List.eq_nil_of_length_eq_zero (by omega))
  rw [if_neg h]
  refine acalls_at Try.func47 rfl rfl Try.ntmps47 rfl ?_
  repeat (first
   | refine AWp.seq ?_
   | refine thenA_n ?_
   | refine AWp.skip ?_
   | refine AWp.ret ?_
   | refine AWp.condF rfl cnF ?_
   | (refine rG 0 ?_
      refine qr5 aQ ?_
      refine kC ?_
      refine aB ?_)
   | (refine rG 1 ?_
      refine kD ?_
      refine kE ?_
      refine qr5 (aO tyOk) ?_
      refine qr5f aJ ?_
      refine aB ?_)
   | (refine rG 3 ?_
      refine kD ?_
      refine kE ?_
      refine kC ?_
      refine aB ?_))
  refine ⟨mkSt 11 [(2, .c (lsR p.R))] [] [], [], Wk.mk [] rfl rfl rfl ?_ trivial, rfl, rfl, ARets.one (x := .c _) (ARes.tmp rfl rfl)⟩
  exact allT
set_option maxHeartbeats 4000000 in
set_option maxRecDepth 100000 in
theorem Clash_A (p : Pb) (a b : Bp) (x y : Bg) (hl : p.R.length ≤ 1000000) (hR : RdOk p.R) : ACalls Try.prog 19 [.ag (pbC p), .ag (bpC a), .ag (bpC b), .ag (bgC x), .ag (bgC y)]
 (.tu [.c (iC (clashV p.R a b x y).1), .ag (clC (clashV p.R a b x y).2.1), .c (bC (clashV p.R a b x y).2.2)]) := by
 unfold clashV
 have hRd := readers_A p hl
 have hRo := rdL_ok hR
 obtain ⟨L, hL⟩ : ∃ L, rdL p.R = L := ⟨_, rfl⟩
 have hLl : L.length ≤ 1000000 := by
  rw [← hL]; unfold rdL; split
  ·simp
  ·exact hl
 have hR0 : p.R.length = 0 → L = [⟨0, 1⟩] := fun h => by rw [← hL]; exact if_pos (List.eq_nil_of_length_eq_zero h)
 have hR1 : ¬ p.R.length = 0 → L = p.R := fun h => by rw [← hL]; exact if_neg fun e => h (by rw [e]; rfl)
 rw [hL] at hRd hRo ⊢
 obtain ⟨n, hn⟩ : ∃ n, L.length = n := ⟨_, rfl⟩
 rw [hn] at hLl
 refine acalls_at Try.func19 rfl rfl Try.ntmps19 rfl ?_
 repeat (first
  | refine AWp.seq ?_
  | refine thenA_n ?_
  | refine AWp.block ?_
  | (refine rG 0 ?_
     (iterate 5 refine qr5 aQ ?_)
     refine kC ?_
     refine qr5 (aM tyOk) ?_
     refine kC ?_
     refine aB ?_)
  | (refine rG 1 ?_
     refine kF ?_
     refine aH rfl rfl rfl rfl Try.func47 rfl (by kernel_rfl) (hRd) ?_
     refine qr5 (aO tyOk) ?_
     refine kA ?_
     refine aB ?_))
 refine AWp.round (fun k : Nat =>
  mkSt 60 [(5, .c (.pt 5 5 0 0)), (6, .c (.pt 6 3 0 0)), (7, .c (.pt 7 3 0 0)), (8, .c (.pt 8 4 0 0)), (9, .c (.pt 9 4 0 0)), (11, .c (.pt 11 3 0 0)), (22, .c (lsR L)), (23, .c (iC n)), (24, .c (iC (k : Nat)))] [(5, ⟨false, 1, 5, 32, lF (pbC p)⟩), (6, ⟨false, 1, 3, 47, lF (bpC a)⟩), (7, ⟨false, 1, 3, 47, lF (bpC b)⟩), (8, ⟨false, 1, 4, 42, lF (bgC x)⟩), (9, ⟨false, 1, 4, 42, lF (bgC y)⟩), (11, ⟨false, 1, 3, 54, lF (clC clZ)⟩)] [5, 6, 7, 8, 9, 11]
  ) (fun k => k ≤ n ∧ ∀ i, i < k → rcB (L.getD i rdZ) a b x y = false) (fun k => n - k) 0 ⟨Nat.zero_le _, fun i hi => absurd hi (Nat.not_lt_zero _)⟩ ?_ (fun k hk => ?_)
 ·refine Wk.mk [(5, some 5), (6, some 6), (7, some 7), (8, some 8), (9, some 9), (11, some 11)] rfl rfl rfl ?_ ?_
  ·exact allT
  ·exact allH
 ·obtain ⟨hk, hno⟩ := hk
  by_cases hkn : k < n
  ·have hkn' : (k : Int) < n := by omega
   have hb := hRo _ (getD_mem28 (L := L) (k := k) (z := rdZ) (by omega))
   have s1 := See_A (L.getD k rdZ) a hb
   have s2 := See_A (L.getD k rdZ) b hb
   have hC := Confused_A (seeB (L.getD k rdZ) a) (seeB (L.getD k rdZ) b) x y
   have hrB : rcB (L.getD k rdZ) a b x y = (decide (seeE (L.getD k rdZ) a = 0) && (decide (seeE (L.getD k rdZ) b = 0) && (cnfV (seeB (L.getD k rdZ) a) (seeB (L.getD k rdZ) b) x y).2)) := rfl
   have hrC : rcC (L.getD k rdZ) a b x y = (cnfV (seeB (L.getD k rdZ) a) (seeB (L.getD k rdZ) b) x y).1 := rfl
   have go : rcB (L.getD k rdZ) a b x y = false → k + 1 ≤ n ∧ ∀ i, i < k + 1 → rcB (L.getD i rdZ) a b x y = false := fun h => ⟨hkn, fun i hi => by
    by_cases e : i = k
    ·rw [e]; exact h
    ·exact hno i (by omega)⟩
   have hit : rcB (L.getD k rdZ) a b x y = true → clashL a b x y L 0 = (k, rcC (L.getD k rdZ) a b x y, true) := fun h => by
    rw [clashL_hit (by omega) hno h, Nat.zero_add]
   generalize seeB (L.getD k rdZ) a = u at *
   generalize seeB (L.getD k rdZ) b = v at *
   generalize seeE (L.getD k rdZ) a = e1 at *
   generalize seeE (L.getD k rdZ) b = e2 at *
   by_cases c1 : e1 = 0
   ·by_cases c2 : e2 = 0
    ·rw [decide_eq_true c1, decide_eq_true c2, Bool.true_and, Bool.true_and] at hrB
     subst c1 c2
     rw [← hrB, ← hrC] at hC
     cases hc : rcB (L.getD k rdZ) a b x y with
     | true =>
       rw [hc] at hC
       rw [hit hc]
       repeat (first
        | refine AWp.seq ?_
        | refine thenA_n ?_
        | refine AWp.block ?_
        | refine AWp.skip ?_
        | refine AWp.ret ?_
        | refine thenA_r ?_
        | refine inBlk_r ?_
        | refine AWp.condT rfl cnT ?_
        | refine AWp.condF rfl cnF ?_
        | (refine rG 2 ?_
           refine qr5t aK ?_
           refine aB ?_)
        | (refine rG 3 ?_
           refine kA ?_
           refine qr8eo2 (aP (k := k) tyOk) ?_
           refine qr5o (aT tyOk) ?_
           refine qr5 (aM tyOk) ?_
           refine kC ?_
           refine kI ?_
           refine aB ?_)
        | (refine rG 4 ?_
           (iterate 2 refine kF ?_)
           refine aH rfl rfl rfl rfl Try.func25 rfl (by kernel_rfl) (s1) ?_
           refine kA ?_
           (iterate 2 refine qr4 aN ?_)
           refine qr5 (aM tyOk) ?_
           refine kI ?_
           refine kC ?_
           refine aB ?_)
        | (refine rG 5 ?_
           (iterate 2 refine kF ?_)
           refine aH rfl rfl rfl rfl Try.func25 rfl (by kernel_rfl) (s2) ?_
           refine kA ?_
           (iterate 2 refine qr4 aN ?_)
           refine qr5 (aM tyOk) ?_
           refine kI ?_
           refine kC ?_
           refine aB ?_)
        | (refine rG 6 ?_
           refine kA ?_
           refine qr5 aW ?_
           (iterate 2 refine kA ?_)
           refine qr5 aW ?_
           refine qr4 aR ?_
           refine aB ?_)
        | (refine rG 7 ?_
           (iterate 4 refine kF ?_)
           refine aH rfl rfl rfl rfl Try.func26 rfl (by kernel_rfl) (hC) ?_
           refine kA ?_
           (iterate 2 refine qr4 aN ?_)
           refine qr5 (aM tyOk) ?_
           refine kI ?_
           refine kC ?_
           refine aB ?_)
        | (refine rG 8 ?_
           refine kA ?_
           refine aB ?_)
        | (refine AWp.draw (id := 9) mixed ?_; refine kA ?_; refine kF ?_; refine kC ?_; refine kI ?_; refine kC ?_; refine aB ⟨by kernel_rfl, ?_⟩))
       refine ⟨mkSt 60 [(10, .c (iC (k))), (11, .c (.pt 11 3 0 0)), (12, .c (bC true))] [(11, ⟨false, 1, 3, 54, lF (clC (rcC (L.getD k rdZ) a b x y))⟩)] [11], [(11, ⟨false, 1, 3, 54, lF (clC (rcC (L.getD k rdZ) a b x y))⟩)], Wk.mk [(11, some 11)] rfl rfl rfl ?_ ?_, rfl, rfl, ARets.three (x := .c _) (y := .ag _) (z := .c _) (ARes.tmp rfl rfl) (ARes.box tyOk rfl rfl rfl rfl rfl rfl rfl) (ARes.tmp rfl rfl)⟩
       ·exact allT
       ·exact allH
     | false =>
       rw [hc] at hC
       repeat (first
        | refine AWp.seq ?_
        | refine thenA_n ?_
        | refine AWp.block ?_
        | refine AWp.skip ?_
        | refine inBlk_n ?_
        | refine AWp.condT rfl cnT ?_
        | refine AWp.condF rfl cnF ?_
        | (refine rG 2 ?_
           refine qr5t aK ?_
           refine aB ?_)
        | (refine rG 3 ?_
           refine kA ?_
           refine qr8eo2 (aP (k := k) tyOk) ?_
           refine qr5o (aT tyOk) ?_
           refine qr5 (aM tyOk) ?_
           refine kC ?_
           refine kI ?_
           refine aB ?_)
        | (refine rG 4 ?_
           (iterate 2 refine kF ?_)
           refine aH rfl rfl rfl rfl Try.func25 rfl (by kernel_rfl) (s1) ?_
           refine kA ?_
           (iterate 2 refine qr4 aN ?_)
           refine qr5 (aM tyOk) ?_
           refine kI ?_
           refine kC ?_
           refine aB ?_)
        | (refine rG 5 ?_
           (iterate 2 refine kF ?_)
           refine aH rfl rfl rfl rfl Try.func25 rfl (by kernel_rfl) (s2) ?_
           refine kA ?_
           (iterate 2 refine qr4 aN ?_)
           refine qr5 (aM tyOk) ?_
           refine kI ?_
           refine kC ?_
           refine aB ?_)
        | (refine rG 6 ?_
           refine kA ?_
           refine qr5 aW ?_
           (iterate 2 refine kA ?_)
           refine qr5 aW ?_
           refine qr4 aR ?_
           refine aB ?_)
        | (refine rG 7 ?_
           (iterate 4 refine kF ?_)
           refine aH rfl rfl rfl rfl Try.func26 rfl (by kernel_rfl) (hC) ?_
           refine kA ?_
           (iterate 2 refine qr4 aN ?_)
           refine qr5 (aM tyOk) ?_
           refine kI ?_
           refine kC ?_
           refine aB ?_)
        | (refine rG 8 ?_
           refine kA ?_
           refine aB ?_)
        | (refine rG 10 ?_
           refine qr4w2 aL ?_
           refine kA ?_
           refine aB ?_))
       refine ⟨k + 1, go hc, Wk.mk [(5, some 5), (6, some 6), (7, some 7), (8, some 8), (9, some 9), (11, some 11)] rfl rfl rfl ?_ ?_, by omega⟩
       ·exact allT
       ·exact allH
    ·have hc : rcB (L.getD k rdZ) a b x y = false := by rw [hrB, decide_eq_false c2, Bool.false_and, Bool.and_false]
     repeat (first
      | refine AWp.seq ?_
      | refine thenA_n ?_
      | refine AWp.block ?_
      | refine AWp.skip ?_
      | refine AWp.exit ?_
      | refine thenA_e ?_
      | refine inBlk_hit ?_
      | refine AWp.condT rfl cnT ?_
      | (refine rG 2 ?_
         refine qr5t aK ?_
         refine aB ?_)
      | (refine rG 3 ?_
         refine kA ?_
         refine qr8eo2 (aP (k := k) tyOk) ?_
         refine qr5o (aT tyOk) ?_
         refine qr5 (aM tyOk) ?_
         refine kC ?_
         refine kI ?_
         refine aB ?_)
      | (refine rG 4 ?_
         (iterate 2 refine kF ?_)
         refine aH rfl rfl rfl rfl Try.func25 rfl (by kernel_rfl) (s1) ?_
         refine kA ?_
         (iterate 2 refine qr4 aN ?_)
         refine qr5 (aM tyOk) ?_
         refine kI ?_
         refine kC ?_
         refine aB ?_)
      | (refine rG 5 ?_
         (iterate 2 refine kF ?_)
         refine aH rfl rfl rfl rfl Try.func25 rfl (by kernel_rfl) (s2) ?_
         refine kA ?_
         (iterate 2 refine qr4 aN ?_)
         refine qr5 (aM tyOk) ?_
         refine kI ?_
         refine kC ?_
         refine aB ?_)
      | (refine rG 6 ?_
         refine kA ?_
         refine qr5f aJ ?_
         (iterate 2 refine kA ?_)
         refine qr5t aK ?_
         refine qr4 aR ?_
         refine aB ?_)
      | (refine rG 10 ?_
         refine qr4w2 aL ?_
         refine kA ?_
         refine aB ?_))
     refine ⟨k + 1, go hc, Wk.mk [(5, some 5), (6, some 6), (7, some 7), (8, some 8), (9, some 9), (11, some 11)] rfl rfl rfl ?_ ?_, by omega⟩
     ·exact allT
     ·exact allH
   ·have hc : rcB (L.getD k rdZ) a b x y = false := by rw [hrB, decide_eq_false c1, Bool.false_and]
    repeat (first
     | refine AWp.seq ?_
     | refine thenA_n ?_
     | refine AWp.block ?_
     | refine AWp.skip ?_
     | refine AWp.exit ?_
     | refine thenA_e ?_
     | refine inBlk_hit ?_
     | refine AWp.condT rfl cnT ?_
     | (refine rG 2 ?_
        refine qr5t aK ?_
        refine aB ?_)
     | (refine rG 3 ?_
        refine kA ?_
        refine qr8eo2 (aP (k := k) tyOk) ?_
        refine qr5o (aT tyOk) ?_
        refine qr5 (aM tyOk) ?_
        refine kC ?_
        refine kI ?_
        refine aB ?_)
     | (refine rG 4 ?_
        (iterate 2 refine kF ?_)
        refine aH rfl rfl rfl rfl Try.func25 rfl (by kernel_rfl) (s1) ?_
        refine kA ?_
        (iterate 2 refine qr4 aN ?_)
        refine qr5 (aM tyOk) ?_
        refine kI ?_
        refine kC ?_
        refine aB ?_)
     | (refine rG 5 ?_
        (iterate 2 refine kF ?_)
        refine aH rfl rfl rfl rfl Try.func25 rfl (by kernel_rfl) (s2) ?_
        refine kA ?_
        (iterate 2 refine qr4 aN ?_)
        refine qr5 (aM tyOk) ?_
        refine kI ?_
        refine kC ?_
        refine aB ?_)
     | (refine rG 6 ?_
        refine kA ?_
        refine qr5t aK ?_
        refine kA ?_
        (iterate 2 refine qr2 aG ?_)
        refine qr4 aS ?_
        refine aB ?_)
     | (refine rG 10 ?_
        refine qr4w2 aL ?_
        refine kA ?_
        refine aB ?_))
    refine ⟨k + 1, go hc, Wk.mk [(5, some 5), (6, some 6), (7, some 7), (8, some 8), (9, some 9), (11, some 11)] rfl rfl rfl ?_ ?_, by omega⟩
    ·exact allT
    ·exact allH
  ·have hkn' : ¬ (k : Int) < n := by omega
   obtain rfl : k = n := by omega
   rw [clashL_no (by rw [hn]; exact hno)]
   repeat (first
    | refine AWp.seq ?_
    | refine thenA_n ?_
    | refine AWp.exit ?_
    | refine AWp.ret ?_
    | refine AWp.condF rfl cnF ?_
    | (refine rG 2 ?_
       refine qr5f aJ ?_
       refine aB ?_)
    | (refine rG 11 ?_
       refine qr8 (aX tyOk) ?_
       refine kC ?_
       refine kI ?_
       refine kC ?_
       refine aB ?_))
   refine ⟨mkSt 60 [(10, .c (iC (0))), (11, .c (.pt 11 3 0 0)), (12, .c (bC false))] [(11, ⟨false, 1, 3, 54, lF (clC (clZ))⟩)] [11], [(11, ⟨false, 1, 3, 54, lF (clC (clZ))⟩)], Wk.mk [(11, some 11)] rfl rfl rfl ?_ ?_, rfl, rfl, ARets.three (x := .c _) (y := .ag _) (z := .c _) (ARes.tmp rfl rfl) (ARes.box tyOk rfl rfl rfl rfl rfl rfl rfl) (ARes.tmp rfl rfl)⟩
   ·exact allT
   ·exact allH
end Go.Proofs.Ytjjaehpkccejaaa
end

section
namespace Go.Proofs.Ytjjaehpkccejaaa
open Go.RowKit Go.Flow Go.AV Go.Plain
def rdsE : List Rd → Int
 | [] => 0
 | r :: L => if rdE r = 0 then rdsE L else rdE r
def bmE (W H : Int) : List Bp → Int
 | [] => 0
 | b :: L => if chk b.W b.H b.n = 0 then (if b.W = W ∧ b.H = H then bmE W H L else 13) else chk b.W b.H b.n
abbrev allB (p : Pb) : List Bp := p.C.flatten ++ p.F
def chkA (L : List Bp) : Int := bmE (L.getD 0 bpZ).W (L.getD 0 bpZ).H L
def chkP (p : Pb) : Int :=
 if 4 < p.R.length ∨ 200 < p.C.length ∨ 200 < p.F.length then 2
 else if p.C.any (fun l => decide (32 < l.length)) = true then 2
 else if rdsE p.R = 0 then (if p.O.length = p.C.length ∧ p.T.length = p.F.length then chkA (allB p) else 1)
 else rdsE p.R
theorem rdsE_at : ∀ {L : List Rd} {k : Nat}, k < L.length → (∀ i, i < k → rdE (L.getD i rdZ) = 0) → rdE (L.getD k rdZ) ≠ 0 → rdsE L = rdE (L.getD k rdZ)
 | r :: L, 0, _, _, h => if_neg h
 | r :: L, k + 1, hk, h0, h => by
   unfold rdsE
   rw [if_pos (show rdE r = 0 from h0 0 (by omega)), rdsE_at (k := k) (by simpa using hk) (fun i hi => h0 (i + 1) (by omega)) h]
   rfl
theorem rdsE_no : ∀ {L : List Rd}, (∀ i, i < L.length → rdE (L.getD i rdZ) = 0) → rdsE L = 0
 | [], _ => rfl
 | r :: L, h => by
   unfold rdsE
   rw [if_pos (show rdE r = 0 from h 0 (by simp)), rdsE_no fun i hi => h (i + 1) (by simpa using hi)]
theorem bmE_at {W H : Int} : ∀ {L : List Bp} {k : Nat}, k < L.length → (∀ i, i < k → chk (L.getD i bpZ).W (L.getD i bpZ).H (L.getD i bpZ).n = 0 ∧ (L.getD i bpZ).W = W ∧ (L.getD i bpZ).H = H) →
 bmE W H L = if chk (L.getD k bpZ).W (L.getD k bpZ).H (L.getD k bpZ).n = 0 then (if (L.getD k bpZ).W = W ∧ (L.getD k bpZ).H = H then bmE W H (L.drop (k + 1)) else 13) else chk (L.getD k bpZ).W (L.getD k bpZ).H (L.getD k bpZ).n
 | b :: L, 0, _, _ => rfl
 | b :: L, k + 1, hk, h => by
   have h0 := h 0 (by omega)
   have e : bmE W H (b :: L) = if chk b.W b.H b.n = 0 then (if b.W = W ∧ b.H = H then bmE W H L else 13) else chk b.W b.H b.n := rfl
   rw [e, if_pos (show chk b.W b.H b.n = 0 from h0.1), if_pos (show b.W = W ∧ b.H = H from h0.2), bmE_at (k := k) (by simpa using hk) fun i hi => h (i + 1) (by omega)]
   rfl
theorem bmE_no {W H : Int} : ∀ {L : List Bp}, (∀ i, i < L.length → chk (L.getD i bpZ).W (L.getD i bpZ).H (L.getD i bpZ).n = 0 ∧ (L.getD i bpZ).W = W ∧ (L.getD i bpZ).H = H) → bmE W H L = 0
 | [], _ => rfl
 | b :: L, h => by
   have h0 := h 0 (by simp)
   unfold bmE
   rw [if_pos (show chk b.W b.H b.n = 0 from h0.1), if_pos (show b.W = W ∧ b.H = H from h0.2), bmE_no fun i hi => h (i + 1) (by simpa using hi)]
/-- A list read so far: its bitmaps are good, and as the first one. -/
def GoodL (L : List Bp) (k : Nat) : Prop := ∀ i, i < k → chk (L.getD i bpZ).W (L.getD i bpZ).H (L.getD i bpZ).n = 0 ∧ (L.getD i bpZ).W = (L.getD 0 bpZ).W ∧ (L.getD i bpZ).H = (L.getD 0 bpZ).H
theorem chkA_bad {L : List Bp} {k : Nat} (hk : k < L.length) (h : GoodL L k) (hb : chk (L.getD k bpZ).W (L.getD k bpZ).H (L.getD k bpZ).n ≠ 0) : chkA L = chk (L.getD k bpZ).W (L.getD k bpZ).H (L.getD k bpZ).n := by
 unfold chkA
 rw [bmE_at hk h, if_neg hb]
theorem chkA_size {L : List Bp} {k : Nat} (hk : k < L.length) (h : GoodL L k) (hb : chk (L.getD k bpZ).W (L.getD k bpZ).H (L.getD k bpZ).n = 0) (hs : ¬ ((L.getD k bpZ).W = (L.getD 0 bpZ).W ∧ (L.getD k bpZ).H = (L.getD 0 bpZ).H)) : chkA L = 13 := by
 unfold chkA
 rw [bmE_at hk h, if_pos hb, if_neg hs]
theorem chkA_ok {L : List Bp} (h : GoodL L L.length) : chkA L = 0 := bmE_no h
theorem GoodL.succ {L : List Bp} {k : Nat} (h : GoodL L k) (h1 : chk (L.getD k bpZ).W (L.getD k bpZ).H (L.getD k bpZ).n = 0) (h2 : (L.getD k bpZ).W = (L.getD 0 bpZ).W ∧ (L.getD k bpZ).H = (L.getD 0 bpZ).H) : GoodL L (k + 1) := fun i hi => by
 by_cases e : i = k
 ·rw [e]; exact ⟨h1, h2⟩
 ·exact h i (by omega)
theorem any_no {C : List (List Bp)} (h : ∀ i, i < C.length → ¬ 32 < (C.getD i []).length) : C.any (fun l => decide (32 < l.length)) = false := by
 rw [List.any_eq_false]
 intro l hl
 obtain ⟨i, hi, rfl⟩ := List.getElem_of_mem hl
 have := h i hi
 rw [List.getD_eq_getElem?_getD, List.getElem?_eq_getElem hi] at this
 simpa using this
theorem any_yes {C : List (List Bp)} {i : Nat} (hi : i < C.length) (h : 32 < (C.getD i []).length) : C.any (fun l => decide (32 < l.length)) = true := by
 rw [List.any_eq_true]
 exact ⟨_, getD_mem28 hi, decide_eq_true h⟩
/-- The bitmaps of the first lists. -/
def preB (C : List (List Bp)) (i : Nat) : List Bp := (C.take i).flatten
theorem preB_succ {C : List (List Bp)} {i : Nat} (hi : i < C.length) : preB C (i + 1) = preB C i ++ C.getD i [] := by
 unfold preB
 rw [List.take_add_one, List.getElem?_eq_getElem hi, List.flatten_append, List.getD_eq_getElem?_getD, List.getElem?_eq_getElem hi]
 simp
theorem preB_all (C : List (List Bp)) : preB C C.length = C.flatten := by unfold preB; rw [List.take_length]
theorem preB_get {C : List (List Bp)} {i k : Nat} (hi : i < C.length) (hk : k < (C.getD i []).length) : C.flatten.getD ((preB C i).length + k) bpZ = (C.getD i []).getD k bpZ ∧ (preB C i).length + k < C.flatten.length := by
 have e : C.flatten = preB C (i + 1) ++ (C.drop (i + 1)).flatten := by
  unfold preB
  rw [← List.flatten_append, List.take_append_drop]
 rw [e, preB_succ hi]
 constructor
 ·rw [List.getD_eq_getElem?_getD, List.append_assoc, List.getElem?_append_right (by omega), Nat.add_sub_cancel_left, List.getElem?_append_left hk, ← List.getD_eq_getElem?_getD]
 ·simp only [List.length_append]
  omega
structure Pb.ok (p : Pb) : Prop where
 rd : RdOk p.R
 lR : p.R.length ≤ 1000000
 lC : p.C.length ≤ 1000000
 lF : p.F.length ≤ 1000000
 lO : p.O.length ≤ 1000000
 lT : p.T.length ≤ 1000000
 lc : ∀ l ∈ p.C, l.length ≤ 1000000
theorem chkP_many {p : Pb} (h : 4 < p.R.length ∨ 200 < p.C.length ∨ 200 < p.F.length) : chkP p = 2 := if_pos h
theorem chkP_long {p : Pb} {i : Nat} (h : ¬ (4 < p.R.length ∨ 200 < p.C.length ∨ 200 < p.F.length)) (hi : i < p.C.length) (hl : 32 < (p.C.getD i []).length) : chkP p = 2 := by
 unfold chkP
 rw [if_neg h, if_pos (any_yes hi hl)]
theorem chkP_rd {p : Pb} {k : Nat} (h : ¬ (4 < p.R.length ∨ 200 < p.C.length ∨ 200 < p.F.length)) (hl : ∀ i, i < p.C.length → ¬ 32 < (p.C.getD i []).length) (hk : k < p.R.length) (h0 : ∀ i, i < k → rdE (p.R.getD i rdZ) = 0) (hr : rdE (p.R.getD k rdZ) ≠ 0) : chkP p = rdE (p.R.getD k rdZ) := by
 have e := rdsE_at hk h0 hr
 unfold chkP
 rw [if_neg h, if_neg (by rw [any_no hl]; simp), e, if_neg hr]
theorem chkP_len {p : Pb} (h : ¬ (4 < p.R.length ∨ 200 < p.C.length ∨ 200 < p.F.length)) (hl : ∀ i, i < p.C.length → ¬ 32 < (p.C.getD i []).length) (h0 : ∀ i, i < p.R.length → rdE (p.R.getD i rdZ) = 0) (hc : ¬ (p.O.length = p.C.length ∧ p.T.length = p.F.length)) : chkP p = 1 := by
 unfold chkP
 rw [if_neg h, if_neg (by rw [any_no hl]; simp), rdsE_no h0, if_pos rfl, if_neg hc]
theorem chkP_maps {p : Pb} (h : ¬ (4 < p.R.length ∨ 200 < p.C.length ∨ 200 < p.F.length)) (hl : ∀ i, i < p.C.length → ¬ 32 < (p.C.getD i []).length) (h0 : ∀ i, i < p.R.length → rdE (p.R.getD i rdZ) = 0) (hc : p.O.length = p.C.length ∧ p.T.length = p.F.length) : chkP p = chkA (allB p) := by
 unfold chkP
 rw [if_neg h, if_neg (by rw [any_no hl]; simp), rdsE_no h0, if_pos rfl, if_pos hc]
theorem chF_snoc (C : List (List Bp)) (F : List Bp) : ∀ i, i < C.length + 1 → ∀ j, j < 1 → appF (chF C) C.length (sF [lsB F] 1) i j = chF (C ++ [F]) i j ∧ immC (appF (chF C) C.length (sF [lsB F] 1) i j) = true :=
 app_F (G := chF (C ++ [F])) (fun i hi => cell1 (by
  show lsB (C.getD i []) = lsB ((C ++ [F]).getD i [])
  rw [List.getD_eq_getElem?_getD, List.getD_eq_getElem?_getD, List.getElem?_append_left hi])) (cell1 (by
  show lsB F = lsB ((C ++ [F]).getD C.length [])
  rw [List.getD_eq_getElem?_getD, List.getElem?_append_right (Nat.le_refl _), Nat.sub_self]
  rfl)) (fun _ _ => cell1 rfl)
theorem allB_rows (p : Pb) : (p.C ++ [p.F]).flatten = allB p := by
 rw [List.flatten_append]
 simp
end Go.Proofs.Ytjjaehpkccejaaa
end

section
namespace Go.Proofs.Ytjjaehpkccejaaa
open Go.RowKit Go.Flow Go.AV Go.Plain
/-- The pointer to the first bitmap. -/
def fpC : Option (List Bp) → CV
 | none => .p (.pointer none)
 | some L => .pl L.length 3 (rowF bpC bpZ L) 0 0
theorem fpC_imm (o : Option (List Bp)) : immC (fpC o) = true := by cases o <;> rfl
def FpOk (T : List Bp) (n : Nat) : Option (List Bp) → Prop
 | none => n = 0
 | some L => 0 < L.length ∧ L.getD 0 bpZ = T.getD 0 bpZ
set_option maxHeartbeats 4000000 in
set_option maxRecDepth 100000 in
theorem Check28_A (p : Pb) (hp : p.ok) : ACalls Try.prog 12 [.ag (pbC p)] (.c (iC (chkP p))) := by
 obtain ⟨hrd, lR, lC, lF', lO, lT, lc⟩ := hp
 by_cases c1 : 4 < p.R.length
 ·rw [chkP_many (.inl c1)]
  have c1' : ((p.R.length : Nat) : Int) > 4 := by omega
  refine acalls_at Try.func12 rfl rfl Try.ntmps12 rfl ?_
  repeat (first
   | refine AWp.seq ?_
   | refine thenA_n ?_
   | refine AWp.ret ?_
   | refine thenA_r ?_
   | refine AWp.condT rfl cnT ?_
   | (refine rG 0 ?_
      refine qr5 aQ ?_
      refine kC ?_
      refine aB ?_)
   | (refine rG 1 ?_
      refine kD ?_
      refine kE ?_
      refine qr5 (aO tyOk) ?_
      refine qr5t aK ?_
      refine kA ?_
      (iterate 8 refine qr2 aG ?_)
      refine qr4 aS ?_
      refine aB ?_)
   | (refine rG 2 ?_
      refine kC ?_
      refine aB ?_))
  refine ⟨mkSt 127 [(2, .c (iC 2))] [] [], [], Wk.mk [] rfl rfl rfl ?_ trivial, rfl, rfl, ARets.one (x := .c _) (ARes.tmp rfl rfl)⟩
  exact allT
 have c1' : ¬ ((p.R.length : Nat) : Int) > 4 := by omega
 by_cases c2 : 200 < p.C.length ∨ 200 < p.F.length
 ·rw [chkP_many (.inr c2)]
  have c2' : max ((p.C.length : Nat) : Int) ((p.F.length : Nat) : Int) > 200 := by omega
  refine acalls_at Try.func12 rfl rfl Try.ntmps12 rfl ?_
  repeat (first
   | refine AWp.seq ?_
   | refine thenA_n ?_
   | refine AWp.ret ?_
   | refine thenA_r ?_
   | refine AWp.condT rfl cnT ?_
   | (refine rG 0 ?_
      refine qr5 aQ ?_
      refine kC ?_
      refine aB ?_)
   | (refine rG 1 ?_
      refine kD ?_
      refine kE ?_
      refine qr5 (aO tyOk) ?_
      refine qr5f aJ ?_
      refine kA ?_
      refine kD ?_
      refine kE ?_
      refine qr5 (aO tyOk) ?_
      refine kD ?_
      refine kE ?_
      refine qr5 (aO tyOk) ?_
      refine qr4 AList.maxI ?_
      refine qr5t aK ?_
      refine qr4 aR ?_
      refine aB ?_)
   | (refine rG 2 ?_
      refine kC ?_
      refine aB ?_))
  refine ⟨mkSt 127 [(2, .c (iC 2))] [] [], [], Wk.mk [] rfl rfl rfl ?_ trivial, rfl, rfl, ARets.one (x := .c _) (ARes.tmp rfl rfl)⟩
  exact allT
 have c2' : ¬ max ((p.C.length : Nat) : Int) ((p.F.length : Nat) : Int) > 200 := by omega
 have hM : ¬ (4 < p.R.length ∨ 200 < p.C.length ∨ 200 < p.F.length) := by omega
 have hlong := @chkP_long p
 obtain ⟨e, he⟩ : ∃ e, chkP p = e := ⟨_, rfl⟩
 rw [he]
 refine acalls_at Try.func12 rfl rfl Try.ntmps12 rfl ?_
 repeat (first
  | refine AWp.seq ?_
  | refine thenA_n ?_
  | refine AWp.block ?_
  | refine AWp.skip ?_
  | refine AWp.condF rfl cnF ?_
  | (refine rG 0 ?_
     refine qr5 aQ ?_
     refine kC ?_
     refine aB ?_)
  | (refine rG 1 ?_
     refine kD ?_
     refine kE ?_
     refine qr5 (aO tyOk) ?_
     refine qr5f aJ ?_
     refine kA ?_
     refine kD ?_
     refine kE ?_
     refine qr5 (aO tyOk) ?_
     refine kD ?_
     refine kE ?_
     refine qr5 (aO tyOk) ?_
     refine qr4 AList.maxI ?_
     refine qr5f aJ ?_
     refine qr4 aR ?_
     refine aB ?_)
  | (refine rG 3 ?_
     refine kD ?_
     refine kE ?_
     refine qr5 (aO tyOk) ?_
     refine kA ?_
     refine aB ?_))
 refine AWp.round (fun i : Nat =>
  mkSt 127 [(1, .c (.pt 1 5 0 0)), (28, .c (lsC p.C)), (29, .c (iC p.C.length)), (30, .c (iC (i : Nat)))] [(1, ⟨false, 1, 5, 32, lF (pbC p)⟩)] [1]
  ) (fun i => i ≤ p.C.length ∧ ∀ i', i' < i → ¬ 32 < (p.C.getD i' []).length) (fun i => p.C.length - i) 0 ⟨Nat.zero_le _, fun _ h => absurd h (Nat.not_lt_zero _)⟩ ?_ (fun i hi => ?_)
 ·refine Wk.mk [(1, some 1)] rfl rfl rfl ?_ ?_
  ·exact allT
  ·exact allH
 obtain ⟨hi, hno⟩ := hi
 by_cases hil : i < p.C.length
 ·have hil' : (i : Int) < p.C.length := by omega
  by_cases h32 : 32 < (p.C.getD i []).length
  ·have h32' : (((p.C.getD i []).length : Nat) : Int) > 32 := by omega
   rw [hlong hM hil h32] at he
   subst he
   repeat (first
    | refine AWp.seq ?_
    | refine thenA_n ?_
    | refine AWp.block ?_
    | refine AWp.skip ?_
    | refine AWp.ret ?_
    | refine thenA_r ?_
    | refine inBlk_r ?_
    | refine AWp.condT rfl cnT ?_
    | (refine rG 4 ?_
       refine qr5t aK ?_
       refine aB ?_)
    | (refine rG 5 ?_
       refine qr8eo2 (aP (k := i) tyOk) ?_
       refine qr5o (aV tyOk) ?_
       refine kC ?_
       refine aB ?_)
    | (refine rG 6 ?_
       refine kA ?_
       refine qr5 (aO tyOk) ?_
       refine qr5t aK ?_
       refine aB ?_)
    | (refine rG 7 ?_
       refine kC ?_
       refine aB ?_))
   refine ⟨mkSt 127 [(2, .c (iC 2))] [] [], [], Wk.mk [] rfl rfl rfl ?_ trivial, rfl, rfl, ARets.one (x := .c _) (ARes.tmp rfl rfl)⟩
   exact allT
  ·have h32' : ¬ (((p.C.getD i []).length : Nat) : Int) > 32 := by omega
   repeat (first
    | refine AWp.seq ?_
    | refine thenA_n ?_
    | refine AWp.block ?_
    | refine AWp.skip ?_
    | refine inBlk_n ?_
    | refine AWp.condT rfl cnT ?_
    | refine AWp.condF rfl cnF ?_
    | (refine rG 4 ?_
       refine qr5t aK ?_
       refine aB ?_)
    | (refine rG 5 ?_
       refine qr8eo2 (aP (k := i) tyOk) ?_
       refine qr5o (aV tyOk) ?_
       refine kC ?_
       refine aB ?_)
    | (refine rG 6 ?_
       refine kA ?_
       refine qr5 (aO tyOk) ?_
       refine qr5f aJ ?_
       refine aB ?_)
    | (refine rG 8 ?_
       refine qr4w2 aL ?_
       refine kA ?_
       refine aB ?_))
   refine ⟨i + 1, ⟨hil, fun i' hi' => ?_⟩, Wk.mk [(1, some 1)] rfl rfl rfl ?_ ?_, by omega⟩
   ·by_cases e : i' = i
    ·rw [e]; exact h32
    ·exact hno i' (by omega)
   ·exact allT
   ·exact allH
 have hil' : ¬ (i : Int) < p.C.length := by omega
 obtain rfl : i = p.C.length := by omega
 have hrdk := @chkP_rd p
 repeat (first
  | refine AWp.seq ?_
  | refine thenA_n ?_
  | refine AWp.block ?_
  | refine AWp.exit ?_
  | refine AWp.condF rfl cnF ?_
  | (refine rG 4 ?_
     refine qr5f aJ ?_
     refine aB ?_)
  | (refine rG 9 ?_
     refine kD ?_
     refine kE ?_
     refine qr5 (aO tyOk) ?_
     refine kA ?_
     refine aB ?_))
 refine AWp.round (fun k : Nat =>
  mkSt 127 [(1, .c (.pt 1 5 0 0)), (39, .c (lsR p.R)), (40, .c (iC p.R.length)), (41, .c (iC (k : Nat)))] [(1, ⟨false, 1, 5, 32, lF (pbC p)⟩)] [1]
  ) (fun k => k ≤ p.R.length ∧ ∀ i, i < k → rdE (p.R.getD i rdZ) = 0) (fun k => p.R.length - k) 0 ⟨Nat.zero_le _, fun _ h => absurd h (Nat.not_lt_zero _)⟩ ?_ (fun k hk => ?_)
 ·refine Wk.mk [(1, some 1)] rfl rfl rfl ?_ ?_
  ·exact allT
  ·exact allH
 obtain ⟨hk, hok⟩ := hk
 by_cases hkl : k < p.R.length
 ·have hkl' : (k : Int) < p.R.length := by omega
  have hc := RdCheck_A (p.R.getD k rdZ) (hrd _ (getD_mem28 hkl))
  have hrdk' := fun h => hrdk hM hno hkl hok h
  generalize hg : rdE (p.R.getD k rdZ) = v at *
  by_cases hv : v = 0
  ·subst hv
   repeat (first
    | refine AWp.seq ?_
    | refine thenA_n ?_
    | refine AWp.block ?_
    | refine AWp.skip ?_
    | refine inBlk_n ?_
    | refine AWp.condT rfl cnT ?_
    | refine AWp.condF rfl cnF ?_
    | (refine rG 10 ?_
       refine qr5t aK ?_
       refine aB ?_)
    | (refine rG 11 ?_
       refine qr8eo2 (aP (k := k) tyOk) ?_
       refine qr5o (aT tyOk) ?_
       refine qr5 (aM tyOk) ?_
       refine kI ?_
       refine aB ?_)
    | (refine rG 12 ?_
       refine kF ?_
       refine aH rfl rfl rfl rfl Try.func40 rfl (by kernel_rfl) (hc) ?_
       refine kC ?_
       refine aB ?_)
    | (refine rG 13 ?_
       refine kA ?_
       refine qr5 aW ?_
       refine aB ?_)
    | (refine rG 15 ?_
       refine qr4w2 aL ?_
       refine kA ?_
       refine aB ?_))
   refine ⟨k + 1, ⟨hkl, fun i hi => ?_⟩, Wk.mk [(1, some 1)] rfl rfl rfl ?_ ?_, by omega⟩
   ·by_cases e : i = k
    ·rw [e]; exact hg
    ·exact hok i (by omega)
   ·exact allT
   ·exact allH
  ·rw [hrdk' hv] at he
   subst he
   repeat (first
    | refine AWp.seq ?_
    | refine thenA_n ?_
    | refine AWp.block ?_
    | refine AWp.skip ?_
    | refine AWp.ret ?_
    | refine thenA_r ?_
    | refine inBlk_r ?_
    | refine AWp.condT rfl cnT ?_
    | (refine rG 10 ?_
       refine qr5t aK ?_
       refine aB ?_)
    | (refine rG 11 ?_
       refine qr8eo2 (aP (k := k) tyOk) ?_
       refine qr5o (aT tyOk) ?_
       refine qr5 (aM tyOk) ?_
       refine kI ?_
       refine aB ?_)
    | (refine rG 12 ?_
       refine kF ?_
       refine aH rfl rfl rfl rfl Try.func40 rfl (by kernel_rfl) (hc) ?_
       refine kC ?_
       refine aB ?_)
    | (refine rG 13 ?_
       refine kA ?_
       refine qr5t aK ?_
       refine aB ?_)
    | (refine rG 14 ?_
       refine kA ?_
       refine kC ?_
       refine aB ?_))
   refine ⟨mkSt 127 [(2, .c (iC v))] [] [], [], Wk.mk [] rfl rfl rfl ?_ trivial, rfl, rfl, ARets.one (x := .c _) (ARes.tmp rfl rfl)⟩
   exact allT
 have hkl' : ¬ (k : Int) < p.R.length := by omega
 obtain rfl : k = p.R.length := by omega
 by_cases c3 : p.O.length = p.C.length ∧ p.T.length = p.F.length
 ·have c3a : ((p.O.length : Nat) : Int) = p.C.length := by omega
  have c3b : ((p.T.length : Nat) : Int) = p.F.length := by omega
  rw [chkP_maps hM hno hok c3] at he
  repeat (first
   | refine AWp.seq ?_
   | refine thenA_n ?_
   | refine AWp.skip ?_
   | refine AWp.exit ?_
   | refine AWp.condF rfl cnF ?_
   | (refine rG 10 ?_
      refine qr5f aJ ?_
      refine aB ?_)
   | (refine rG 16 ?_
      refine kD ?_
      refine kE ?_
      refine qr5 (aO tyOk) ?_
      refine kD ?_
      refine kE ?_
      refine qr5 (aO tyOk) ?_
      refine qr5f aJ ?_
      refine kA ?_
      refine kD ?_
      refine kE ?_
      refine qr5 (aO tyOk) ?_
      refine kD ?_
      refine kE ?_
      refine qr5 (aO tyOk) ?_
      refine qr5f aJ ?_
      refine qr4 aR ?_
      refine aB ?_)
   | (refine rG 18 ?_
      refine kC ?_
      refine aB ?_))
  refine AWp.draw mixed ?_
  refine kD ?_
  refine kE ?_
  refine kD ?_
  refine kE ?_
  refine qr5 (aO tyOk) ?_
  refine kD ?_
  refine kE ?_
  refine qr5 (aO tyOk) ?_
  refine qr9e2 (AList.cut3 tyOk) ?_
  refine kD ?_
  refine kE ?_
  refine qr11 (AList.litSl tyOk) ?_
  refine AList.appFl tyOk rfl rfl rfl rfl rfl rfl rfl rfl rfl oM oM ?_
  refine qr7 (AList.lenOw tyOk) ?_
  refine kA ?_
  refine aB ⟨by kernel_rfl, ?_⟩
  obtain ⟨M, hMd⟩ : ∃ M, p.C ++ [p.F] = M := ⟨_, rfl⟩
  have hMl : M.length = p.C.length + 1 := by rw [← hMd]; simp
  have hfl : M.flatten = allB p := by rw [← hMd]; exact allB_rows p
  have hrow : ∀ i, i < M.length → (M.getD i []).length ≤ 200 := fun i hi => by
   rw [← hMd, List.getD_eq_getElem?_getD]
   by_cases h : i < p.C.length
   ·rw [List.getElem?_append_left h, ← List.getD_eq_getElem?_getD]
    have := hno i h
    omega
   ·rw [List.getElem?_append_right (by omega), show i - p.C.length = 0 by omega]
    show p.F.length ≤ 200
    omega
  refine AWp.weak (S' :=
   mkSt 127 [(8, .c (fpC none)), (79, .c (lsC M)), (80, .c (iC M.length)), (81, .c (iC 0))] [] []
   ) (Wk.mk [] rfl rfl rfl ?_ trivial) ?_
  ·subst hMd
   refine ⟨⟨_, rfl, .c (LeC.refl _ rfl)⟩, ⟨_, rfl, .c (LeC.fz rfl rfl hMl (chF_snoc p.C p.F))⟩, ⟨_, rfl, LeA.int ?_⟩, ⟨_, rfl, LeA.int rfl⟩, trivial⟩
   rw [hMl]
  rw [← hfl] at he
  have hbad := @chkA_bad M.flatten
  have hsize := @chkA_size M.flatten
  repeat (first
   | refine AWp.block ?_)
  refine AWp.round (fun s : Nat × Option (List Bp) =>
   mkSt 127 [(8, .c (fpC s.2)), (79, .c (lsC M)), (80, .c (iC M.length)), (81, .c (iC s.1))] [] []
   ) (fun s => s.1 ≤ M.length ∧ GoodL M.flatten (preB M s.1).length ∧ FpOk M.flatten (preB M s.1).length s.2) (fun s => M.length - s.1) (0, none) ⟨Nat.zero_le _, fun _ h => absurd h (Nat.not_lt_zero _), rfl⟩ ?_ (fun s hs => ?_)
  ·refine Wk.mk [] rfl rfl rfl ?_ trivial
   exact allT
  obtain ⟨i, o⟩ := s
  obtain ⟨hi, hg, hfp⟩ := hs
  dsimp only at hi hg hfp ⊢
  by_cases hil : i < M.length
  ·have hil' : (i : Int) < M.length := by omega
   obtain ⟨L, hL⟩ : ∃ L, M.getD i [] = L := ⟨_, rfl⟩
   have hL2 := hrow i hil
   rw [hL] at hL2
   have hsu := preB_succ hil
   rw [hL] at hsu
   have hget := fun k hk => preB_get (k := k) hil (by rw [hL]; exact hk)
   rw [hL] at hget
   have hcF : chF M i 0 = lsB L := by rw [← hL]
   repeat (first
    | refine AWp.seq ?_
    | refine thenA_n ?_
    | refine AWp.block ?_
    | refine AWp.skip ?_
    | refine AWp.condT rfl cnT ?_
    | (refine rG 20 ?_
       refine qr5t aK ?_
       refine aB ?_)
    | (refine rG 21 ?_
       refine qr8eo2 (aP (k := i) tyOk) ?_
       refine AList.load1lE tyOk (hcF) rfl rfl rfl rfl rfl oM ?_
       refine kC ?_
       refine aB ?_)
    | (refine rG 22 ?_
       refine kA ?_
       refine qr5 (aO tyOk) ?_
       refine kA ?_
       refine aB ?_))
   refine AWp.round (fun s : Nat × Option (List Bp) =>
    mkSt 127 [(8, .c (fpC s.2)), (10, .c (lsB L)), (79, .c (lsC M)), (80, .c (iC M.length)), (81, .c (iC i)), (85, .c (lsB L)), (86, .c (iC L.length)), (87, .c (iC s.1))] [] []
    ) (fun s => s.1 ≤ L.length ∧ GoodL M.flatten ((preB M i).length + s.1) ∧ FpOk M.flatten ((preB M i).length + s.1) s.2) (fun s => L.length - s.1) (0, o) ⟨Nat.zero_le _, hg, hfp⟩ ?_ (fun s hs => ?_)
   ·refine Wk.mk [] rfl rfl rfl ?_ trivial
    repeat (first | exact trivial | refine ⟨⟨_, rfl, by first | exact LeA.c (LeC.refl _ (fpC_imm _)) | exact leT⟩, ?_⟩)
   obtain ⟨k, o⟩ := s
   obtain ⟨hk, hg, hfp⟩ := hs
   dsimp only at hk hg hfp ⊢
   by_cases hkl : k < L.length
   ·have hkl' : (k : Int) < L.length := by omega
    obtain ⟨hq, hqlt⟩ := hget k hkl
    have hb := fun h => hbad hqlt hg h
    have hsz := fun h1 h2 => hsize hqlt hg h1 h2
    have hgs := fun h1 h2 => GoodL.succ hg h1 h2
    rw [hq] at hb hsz hgs
    obtain ⟨L0, h0a, h0b, hcase⟩ : ∃ L0 : List Bp, 0 < L0.length ∧ L0.getD 0 bpZ = M.flatten.getD 0 bpZ ∧ ((o = none ∧ k = 0 ∧ L0 = L) ∨ o = some L0) := by
     cases o with
     | none =>
       have h1 : (preB M i).length + k = 0 := hfp
       have h2 : k = 0 := by omega
       rw [h1, h2] at hq
       exact ⟨L, by omega, hq.symm, .inl ⟨rfl, h2, rfl⟩⟩
     | some L1 => exact ⟨L1, hfp.1, hfp.2, .inr rfl⟩
    rw [← h0b] at hsz hgs
    repeat (first
     | refine AWp.seq ?_
     | refine AWp.block ?_
     | refine AWp.skip ?_
     | refine AWp.condT rfl cnT ?_
     | (refine rG 23 ?_
        refine qr5t aK ?_
        refine aB ?_)
     | (refine rG 24 ?_
        refine kA ?_
        refine kC ?_
        refine aB ?_))
    refine AWp.join3 (
     mkSt 127 [(8, .c (fpC (some L0))), (10, .c (lsB L)), (11, .c (iC k)), (79, .c (lsC M)), (80, .c (iC M.length)), (81, .c (iC i)), (85, .c (lsB L)), (86, .c (iC L.length)), (87, .c (iC k))] [] []
     ) ?_ (fun S1 hw1 => AWp.weak hw1 ?_)
    ·rcases hcase with ⟨rfl, rfl, rfl⟩ | rfl
     ·repeat (first
       | refine thenA_n ?_
       | refine AWp.condT rfl cnT ?_
       | (refine rG 25 ?_
          refine kA ?_
          refine AList.ptNilT rfl rfl rfl (ptr_under Try.underlying90) ?_
          refine aB ?_)
       | (refine rG 26 ?_
          (iterate 2 refine kA ?_)
          refine qr8eo2 (aP (k := 0) tyOk) ?_
          refine kC ?_
          refine aB ?_))
      refine ⟨rfl, Wk.mk [] rfl rfl rfl ?_ trivial⟩
      exact allT
     ·repeat (first
       | refine thenA_n ?_
       | refine AWp.skip ?_
       | refine AWp.condF rfl cnF ?_
       | (refine rG 25 ?_
          refine kA ?_
          refine AList.ptNilF rfl rfl rfl rfl (ptr_under Try.underlying90) ?_
          refine aB ?_))
      refine ⟨rfl, Wk.mk [] rfl rfl rfl ?_ trivial⟩
      exact allT
    have hC := bCheck_A (L.getD k bpZ).W (L.getD k bpZ).H (L.getD k bpZ).n (L.getD k bpZ).d
    by_cases e1 : chk (L.getD k bpZ).W (L.getD k bpZ).H (L.getD k bpZ).n = 0
    ·rw [e1] at hC
     by_cases e2 : (L.getD k bpZ).W = (L0.getD 0 bpZ).W ∧ (L.getD k bpZ).H = (L0.getD 0 bpZ).H
     ·repeat (first
       | refine AWp.seq ?_
       | refine thenA_n ?_
       | refine AWp.skip ?_
       | refine AWp.condF rfl cnF ?_
       | (refine rG 27 ?_
          (iterate 2 refine kA ?_)
          refine qr8eo2 (aP (k := k) tyOk) ?_
          refine qr5o (aT tyOk) ?_
          refine aH rfl rfl rfl rfl Try.func41 rfl (by kernel_rfl) (hC) ?_
          refine kC ?_
          refine aB ?_)
       | (refine rG 28 ?_
          refine kA ?_
          refine qr5 aW ?_
          refine aB ?_))
      obtain ⟨e2a, e2b⟩ := e2
      repeat (first
       | refine thenA_n ?_
       | refine AWp.skip ?_
       | refine inBlk_n ?_
       | refine AWp.condF rfl cnF ?_
       | (refine AWp.draw (id := 30) mixed ?_; (iterate 2 refine kA ?_); refine qr8eo2 (aP (k := k) tyOk) ?_; refine qr7 (AList.fieldPl tyOk) ?_; refine qr5o (aV tyOk) ?_; refine kA ?_; refine AList.nilPt rfl rfl rfl rfl ?_; refine qr7 (AList.fieldPl tyOk) ?_; refine qr5o (aV tyOk) ?_; refine qr5f aJ ?_; (iterate 3 refine kA ?_); refine qr8eo2 (aP (k := k) tyOk) ?_; refine qr7 (AList.fieldPl tyOk) ?_; refine qr5o (aV tyOk) ?_; refine kA ?_; refine AList.nilPt rfl rfl rfl rfl ?_; refine qr7 (AList.fieldPl tyOk) ?_; refine qr5o (aV tyOk) ?_; refine qr5f aJ ?_; refine qr4 aR ?_; refine aB ⟨by kernel_rfl, ?_⟩)
       | (refine rG 32 ?_
          refine qr4w2 aL ?_
          refine kA ?_
          refine aB ?_))
      refine ⟨(k + 1, some L0), ⟨hkl, hgs e1 ⟨e2a, e2b⟩, h0a, h0b⟩, Wk.mk [] rfl rfl rfl ?_ trivial, by dsimp only; omega⟩
      exact allT
     ·rw [hsz e1 e2] at he
      subst he
      by_cases e2a : (L.getD k bpZ).W = (L0.getD 0 bpZ).W
      ·have e2b : ¬ (L.getD k bpZ).H = (L0.getD 0 bpZ).H := fun h => e2 ⟨e2a, h⟩
       repeat (first
        | refine AWp.seq ?_
        | refine thenA_n ?_
        | refine AWp.skip ?_
        | refine AWp.ret ?_
        | refine thenA_r ?_
        | refine inBlk_r ?_
        | refine AWp.condT rfl cnT ?_
        | refine AWp.condF rfl cnF ?_
        | (refine rG 27 ?_
           (iterate 2 refine kA ?_)
           refine qr8eo2 (aP (k := k) tyOk) ?_
           refine qr5o (aT tyOk) ?_
           refine aH rfl rfl rfl rfl Try.func41 rfl (by kernel_rfl) (hC) ?_
           refine kC ?_
           refine aB ?_)
        | (refine rG 28 ?_
           refine kA ?_
           refine qr5 aW ?_
           refine aB ?_)
        | (refine AWp.draw (id := 30) mixed ?_; (iterate 2 refine kA ?_); refine qr8eo2 (aP (k := k) tyOk) ?_; refine qr7 (AList.fieldPl tyOk) ?_; refine qr5o (aV tyOk) ?_; refine kA ?_; refine AList.nilPt rfl rfl rfl rfl ?_; refine qr7 (AList.fieldPl tyOk) ?_; refine qr5o (aV tyOk) ?_; refine qr5f aJ ?_; (iterate 3 refine kA ?_); refine qr8eo2 (aP (k := k) tyOk) ?_; refine qr7 (AList.fieldPl tyOk) ?_; refine qr5o (aV tyOk) ?_; refine kA ?_; refine AList.nilPt rfl rfl rfl rfl ?_; refine qr7 (AList.fieldPl tyOk) ?_; refine qr5o (aV tyOk) ?_; refine qr5t aK ?_; refine qr4 aR ?_; refine aB ⟨by kernel_rfl, ?_⟩)
        | (refine rG 31 ?_
           refine kC ?_
           refine aB ?_))
       refine ⟨mkSt 127 [(2, .c (iC 13))] [] [], [], Wk.mk [] rfl rfl rfl ?_ trivial, rfl, rfl, ARets.one (x := .c _) (ARes.tmp rfl rfl)⟩
       exact allT
      ·repeat (first
        | refine AWp.seq ?_
        | refine thenA_n ?_
        | refine AWp.skip ?_
        | refine AWp.ret ?_
        | refine thenA_r ?_
        | refine inBlk_r ?_
        | refine AWp.condT rfl cnT ?_
        | refine AWp.condF rfl cnF ?_
        | (refine rG 27 ?_
           (iterate 2 refine kA ?_)
           refine qr8eo2 (aP (k := k) tyOk) ?_
           refine qr5o (aT tyOk) ?_
           refine aH rfl rfl rfl rfl Try.func41 rfl (by kernel_rfl) (hC) ?_
           refine kC ?_
           refine aB ?_)
        | (refine rG 28 ?_
           refine kA ?_
           refine qr5 aW ?_
           refine aB ?_)
        | (refine AWp.draw (id := 30) mixed ?_; (iterate 2 refine kA ?_); refine qr8eo2 (aP (k := k) tyOk) ?_; refine qr7 (AList.fieldPl tyOk) ?_; refine qr5o (aV tyOk) ?_; refine kA ?_; refine AList.nilPt rfl rfl rfl rfl ?_; refine qr7 (AList.fieldPl tyOk) ?_; refine qr5o (aV tyOk) ?_; refine qr5t aK ?_; refine kA ?_; (iterate 10 refine qr2 aG ?_); refine qr4 aS ?_; refine aB ⟨by kernel_rfl, ?_⟩)
        | (refine rG 31 ?_
           refine kC ?_
           refine aB ?_))
       refine ⟨mkSt 127 [(2, .c (iC 13))] [] [], [], Wk.mk [] rfl rfl rfl ?_ trivial, rfl, rfl, ARets.one (x := .c _) (ARes.tmp rfl rfl)⟩
       exact allT
    ·rw [hb e1] at he
     rw [he] at hC e1
     repeat (first
      | refine AWp.seq ?_
      | refine thenA_n ?_
      | refine AWp.ret ?_
      | refine thenA_r ?_
      | refine inBlk_r ?_
      | refine AWp.condT rfl cnT ?_
      | (refine rG 27 ?_
         (iterate 2 refine kA ?_)
         refine qr8eo2 (aP (k := k) tyOk) ?_
         refine qr5o (aT tyOk) ?_
         refine aH rfl rfl rfl rfl Try.func41 rfl (by kernel_rfl) (hC) ?_
         refine kC ?_
         refine aB ?_)
      | (refine rG 28 ?_
         refine kA ?_
         refine qr5t aK ?_
         refine aB ?_)
      | (refine rG 29 ?_
         refine kA ?_
         refine kC ?_
         refine aB ?_))
     refine ⟨mkSt 127 [(2, .c (iC e))] [] [], [], Wk.mk [] rfl rfl rfl ?_ trivial, rfl, rfl, ARets.one (x := .c _) (ARes.tmp rfl rfl)⟩
     exact allT
   ·have hkl' : ¬ (k : Int) < L.length := by omega
    obtain rfl : k = L.length := by omega
    have hlen : (preB M i).length + L.length = (preB M (i + 1)).length := by rw [hsu, List.length_append]
    rw [hlen] at hg hfp
    repeat (first
     | refine AWp.seq ?_
     | refine thenA_n ?_
     | refine AWp.exit ?_
     | refine thenA_e ?_
     | refine inBlk_n ?_
     | refine inBlk_hit ?_
     | refine AWp.condF rfl cnF ?_
     | (refine rG 23 ?_
        refine qr5f aJ ?_
        refine aB ?_)
     | (refine rG 33 ?_
        refine qr4w2 aL ?_
        refine kA ?_
        refine aB ?_))
    refine ⟨(i + 1, o), ⟨hil, hg, hfp⟩, Wk.mk [] rfl rfl rfl ?_ trivial, by dsimp only; omega⟩
    repeat (first | exact trivial | refine ⟨⟨_, rfl, by first | exact LeA.c (LeC.refl _ (fpC_imm _)) | exact leT⟩, ?_⟩)
  ·have hil' : ¬ (i : Int) < M.length := by omega
   obtain rfl : i = M.length := by omega
   rw [preB_all] at hg
   rw [chkA_ok hg] at he
   subst he
   repeat (first
    | refine AWp.seq ?_
    | refine thenA_n ?_
    | refine AWp.exit ?_
    | refine AWp.ret ?_
    | refine AWp.condF rfl cnF ?_
    | (refine rG 20 ?_
       refine qr5f aJ ?_
       refine aB ?_)
    | (refine rG 34 ?_
       refine kC ?_
       refine aB ?_))
   refine ⟨mkSt 127 [(2, .c (iC 0))] [] [], [], Wk.mk [] rfl rfl rfl ?_ trivial, rfl, rfl, ARets.one (x := .c _) (ARes.tmp rfl rfl)⟩
   exact allT
 ·rw [chkP_len hM hno hok c3] at he
  subst he
  by_cases c3a : p.O.length = p.C.length
  ·have c3a' : ((p.O.length : Nat) : Int) = p.C.length := by omega
   have c3b : ¬ ((p.T.length : Nat) : Int) = p.F.length := by omega
   repeat (first
    | refine AWp.seq ?_
    | refine thenA_n ?_
    | refine AWp.exit ?_
    | refine AWp.ret ?_
    | refine thenA_r ?_
    | refine AWp.condT rfl cnT ?_
    | refine AWp.condF rfl cnF ?_
    | (refine rG 10 ?_
       refine qr5f aJ ?_
       refine aB ?_)
    | (refine rG 16 ?_
       refine kD ?_
       refine kE ?_
       refine qr5 (aO tyOk) ?_
       refine kD ?_
       refine kE ?_
       refine qr5 (aO tyOk) ?_
       refine qr5f aJ ?_
       refine kA ?_
       refine kD ?_
       refine kE ?_
       refine qr5 (aO tyOk) ?_
       refine kD ?_
       refine kE ?_
       refine qr5 (aO tyOk) ?_
       refine qr5t aK ?_
       refine qr4 aR ?_
       refine aB ?_)
    | (refine rG 17 ?_
       refine kC ?_
       refine aB ?_))
   refine ⟨mkSt 127 [(2, .c (iC 1))] [] [], [], Wk.mk [] rfl rfl rfl ?_ trivial, rfl, rfl, ARets.one (x := .c _) (ARes.tmp rfl rfl)⟩
   exact allT
  ·have c3a' : ¬ ((p.O.length : Nat) : Int) = p.C.length := by omega
   repeat (first
    | refine AWp.seq ?_
    | refine thenA_n ?_
    | refine AWp.exit ?_
    | refine AWp.ret ?_
    | refine thenA_r ?_
    | refine AWp.condT rfl cnT ?_
    | refine AWp.condF rfl cnF ?_
    | (refine rG 10 ?_
       refine qr5f aJ ?_
       refine aB ?_)
    | (refine rG 16 ?_
       refine kD ?_
       refine kE ?_
       refine qr5 (aO tyOk) ?_
       refine kD ?_
       refine kE ?_
       refine qr5 (aO tyOk) ?_
       refine qr5t aK ?_
       refine kA ?_
       (iterate 7 refine qr2 aG ?_)
       refine qr4 aS ?_
       refine aB ?_)
    | (refine rG 17 ?_
       refine kC ?_
       refine aB ?_))
   refine ⟨mkSt 127 [(2, .c (iC 1))] [] [], [], Wk.mk [] rfl rfl rfl ?_ trivial, rfl, rfl, ARets.one (x := .c _) (ARes.tmp rfl rfl)⟩
   exact allT
end Go.Proofs.Ytjjaehpkccejaaa
end
