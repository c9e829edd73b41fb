/- Parts of the proof: A25p, A25a. -/
import Derived.Test.YtekkldgmjdllbaaG21
import Derived.Test.YtekkldgmjdllbaaG22
set_option linter.unusedSimpArgs false
set_option linter.unusedVariables false
section
namespace Go.Proofs.Ytekkldgmjdllbaa
open Go.RowKit Go.Flow Go.AV
structure Sd where
 o : Bp
 p : Bp
 dx : Int
 dy : Int
 mv : Int
 mo : Int
abbrev sdC (s : Sd) : List CV := [iC s.o.W, iC s.o.H, .ls s.o.n 1 (bF s.o.d), iC s.p.W, iC s.p.H, .ls s.p.n 1 (bF s.p.d), iC s.dx, iC s.dy, iC s.mv, iC s.mo]
def sd1 (a b : Bp) (x y : Bg) (d : Int × Int) : Sd := ⟨a, b, d.1, d.2, 0, (lim4 x).lo + (lim4 y).bl⟩
def sd2 (a b : Bp) (x y : Bg) (d : Int × Int) : Sd := ⟨b, a, -d.1, -d.2, d.1, (lim4 y).lo + (lim4 x).bl⟩
def aloB (s : Sd) (k : Int) : Bool := decide (0 ≤ k) && (decide (k < s.o.n) && (s.o.d k.toNat && !hasB s.p.W s.p.H s.p.d (k % s.o.W - s.dx) (k / s.o.W - s.dy)))
def aloN (s : Sd) (n : Nat) : List Int := ((List.range n).filter fun (k : Nat) => aloB s k).map fun (k : Nat) => (k : Int)
def aloL (s : Sd) : List Int := aloN s s.o.n
theorem aloN_succ (s : Sd) (n : Nat) : aloN s (n + 1) = aloN s n ++ (if aloB s n then [(n : Int)] else []) := by
 unfold aloN
 rw [List.range_succ, List.filter_append, List.map_append]
 congr 1
 by_cases h : aloB s n = true <;> simp [h]
theorem aloN_len (s : Sd) (n : Nat) : (aloN s n).length ≤ n := by
 unfold aloN
 rw [List.length_map]
 have := List.length_filter_le (fun (k : Nat) => aloB s k) (List.range n)
 rwa [List.length_range] at this
def okAt (s : Sd) (l : List Int) (k : Nat) : Bool := aloB s (l.getD k 0) && (decide (k = 0) || decide (l.getD (k - 1) 0 < l.getD k 0))
def okL (s : Sd) (l : List Int) : Bool := (List.range l.length).all fun k => okAt s l k
def colV (s : Sd) (k : Int) : Nat := (k % s.o.W + s.mv + 4).toNat
def colC (s : Sd) (l : List Int) (i : Nat) : Int := ((l.filter fun k => decide (colV s k = i)).length : Nat)
def outC (s : Sd) (t f : Nat) (l : List Int) : Int := ((l.filter fun k => decide (colV s k < f ∨ f + t ≤ colV s k)).length : Nat)
def wnF (c : Nat → Int) (f : Nat) : Nat → Int
 | 0 => 0
 | m + 1 => wnF c f m + c (f + m)
abbrev winC (s : Sd) (l : List Int) (f m : Nat) : Int := wnF (colC s l) f m
theorem wnF_bd {c : Nat → Int} {B : Int} (h : ∀ i, 0 ≤ c i ∧ c i ≤ B) (f : Nat) : ∀ m : Nat, 0 ≤ wnF c f m ∧ wnF c f m ≤ m * B
 | 0 => by unfold wnF; omega
 | m + 1 => by
   have h1 := wnF_bd h f m
   have h2 := h (f + m)
   have e : ((m + 1 : Nat) : Int) * B = m * B + B := by rw [Int.natCast_succ, Int.add_mul, Int.one_mul]
   unfold wnF
   omega
def openB (s t : Sd) (n : Nat) (lA lB : List Int) (f : Nat) : Bool := decide (outC s n f lA ≤ s.mo) && decide (outC t n f lB ≤ t.mo)
def decB (s t : Sd) (n M : Nat) (lA lB : List Int) : Bool := (List.range M).all fun f => !openB s t n lA lB f
abbrev Wt := List Int × List Int
abbrev wtZ : Wt := ([], [])
abbrev liV (l : List Int) : CV := .ls l.length 1 (iF fun k => l.getD k 0)
abbrev wtC (w : Wt) : List CV := [liV w.1, liV w.2]
theorem wtC_imm (w : Wt) : (wtC w).all immC = true := rfl
def szV (a b : Bp) : Int := if chk a.W a.H a.n = 0 then if chk b.W b.H b.n = 0 then if a.W = b.W ∧ a.H = b.H then 0 else 13 else chk b.W b.H b.n else chk a.W a.H a.n
theorem szV_ok (a b : Bp) : szV a b = 0 ↔ cmpOk a b := by
 unfold szV cmpOk
 by_cases h1 : chk a.W a.H a.n = 0
 ·rw [if_pos h1]
  by_cases h2 : chk b.W b.H b.n = 0
  ·rw [if_pos h2]
   by_cases h3 : a.W = b.W ∧ a.H = b.H
   ·rw [if_pos h3]
    exact ⟨fun _ => ⟨h1, h2, h3⟩, fun _ => rfl⟩
   ·rw [if_neg h3]
    exact ⟨fun h => absurd h (by decide), fun h => absurd h.2.2 h3⟩
  ·rw [if_neg h2]
   exact ⟨fun h => absurd h h2, fun h => absurd h.2.1 h2⟩
 ·rw [if_neg h1]
  exact ⟨fun h => absurd h h1, fun h => absurd h.1 h1⟩
def wtOk (a b : Bp) (x y : Bg) (d : Int × Int) (w : Wt) : Bool := okL (sd1 a b x y d) w.1 && (okL (sd2 a b x y d) w.2 && decB (sd1 a b x y d) (sd2 a b x y d) (stN a.W x y).toNat (alM a.W x y) w.1 w.2)
def prfB (a b : Bp) (x y : Bg) (p : List Wt) : Bool := (List.range (shL (shN x y)).length).all fun k => wtOk a b x y ((shL (shN x y)).getD k mvZ) (p.getD k wtZ)
def chkV (a b : Bp) (x y : Bg) (p : List Wt) : Int := if szV a b = 0 then if (shL (shN x y)).length = p.length ∧ prfB a b x y p = true then 0 else 62 else szV a b
def mkL25 (a b : Bp) (x y : Bg) (L : List (Int × Int)) : List Wt := L.map fun d => (aloL (sd1 a b x y d), aloL (sd2 a b x y d))
def mkV (a b : Bp) (x y : Bg) : List Wt × Int := if szV a b = 0 then if (cnfV a b x y).2 = true then ([], 60) else (mkL25 a b x y (shL (shN x y)), 0) else ([], szV a b)
def shrI (dec : List Int → Bool) (l : List Int) : Nat → List Int → List Int
 | 0, kept => kept
 | i + 1, kept => if dec (l.take i ++ kept) = true then shrI dec l i kept else shrI dec l i (l.getD i 0 :: kept)
def shrA (s t : Sd) (n M : Nat) (w : Wt) : List Int := shrI (fun l => decB s t n M l w.2) w.1 w.1.length []
def shrW (s t : Sd) (n M : Nat) (w : Wt) : Wt := (shrA s t n M w, shrI (fun l => decB s t n M (shrA s t n M w) l) w.2 w.2.length [])
def shrP (a b : Bp) (x y : Bg) (L : List (Int × Int)) (p : List Wt) : List Wt := (List.range L.length).map fun k => shrW (sd1 a b x y (L.getD k mvZ)) (sd2 a b x y (L.getD k mvZ)) (stN a.W x y).toNat (alM a.W x y) (p.getD k wtZ)
def shkV (a b : Bp) (x y : Bg) (p : List Wt) : List Wt × Int := if chkV a b x y p = 0 then (shrP a b x y (shL (shN x y)) p, 0) else ([], chkV a b x y p)
theorem filter_split {α : Type} (p q : α → Bool) : ∀ l : List α, (l.filter fun x => p x || q x).length + (l.filter fun x => p x && q x).length = (l.filter p).length + (l.filter q).length
 | [] => rfl
 | x :: l => by
   have := filter_split p q l
   cases hp : p x <;> cases hq : q x <;> simp [hp, hq] <;> omega
theorem win_cnt (s : Sd) (l : List Int) (f : Nat) : ∀ m, winC s l f m = ((l.filter fun k => decide (f ≤ colV s k ∧ colV s k < f + m)).length : Nat)
 | 0 => by
   have : (l.filter fun k => decide (f ≤ colV s k ∧ colV s k < f + 0)) = [] := List.filter_eq_nil_iff.2 fun k _ => by simp <;> omega
   rw [this]
   rfl
 | m + 1 => by
   show wnF (colC s l) f m + colC s l (f + m) = _
   rw [show wnF (colC s l) f m = _ from win_cnt s l f m]
   unfold colC
   rw [← Int.natCast_add]
   congr 1
   have := filter_split (fun k => decide (f ≤ colV s k ∧ colV s k < f + m)) (fun k => decide (colV s k = f + m)) l
   have h0 : (l.filter fun x => decide (f ≤ colV s x ∧ colV s x < f + m) && decide (colV s x = f + m)) = [] := List.filter_eq_nil_iff.2 fun k _ => by simp <;> omega
   rw [h0, List.length_nil, Nat.add_zero] at this
   rw [← this]
   congr 1
   apply List.filter_congr
   intro k _
   rw [← Bool.decide_or]
   exact decide_eq_decide.2 (by omega)
theorem filter_not {α : Type} (p : α → Bool) : ∀ l : List α, (l.filter p).length + (l.filter fun x => !p x).length = l.length
 | [] => rfl
 | x :: l => by
   have := filter_not p l
   cases hp : p x <;> simp [hp] <;> omega
theorem out_win (s : Sd) (l : List Int) (t f : Nat) : outC s t f l = (l.length : Int) - winC s l f t := by
 rw [win_cnt]
 unfold outC
 have h := filter_not (fun k => decide (f ≤ colV s k ∧ colV s k < f + t)) l
 have h2 : (l.filter fun x => !decide (f ≤ colV s x ∧ colV s x < f + t)) = l.filter fun k => decide (colV s k < f ∨ f + t ≤ colV s k) := by
  apply List.filter_congr
  intro k _
  rw [← decide_not]
  exact decide_eq_decide.2 (by omega)
 rw [h2] at h
 omega
theorem colC_snoc (s : Sd) (l : List Int) (k : Int) (i : Nat) : colC s (l ++ [k]) i = colC s l i + if colV s k = i then 1 else 0 := by
 unfold colC
 rw [List.filter_append, List.length_append]
 by_cases h : colV s k = i <;> simp [h]
theorem colC_nn (s : Sd) (l : List Int) (i : Nat) : 0 ≤ colC s l i ∧ colC s l i ≤ l.length := by
 unfold colC
 have := List.length_filter_le (fun k => decide (colV s k = i)) l
 omega
theorem colC_app (s : Sd) (l m : List Int) (i : Nat) : colC s (l ++ m) i = colC s l i + colC s m i := by
 unfold colC
 rw [List.filter_append, List.length_append]
 omega
theorem colC_cons (s : Sd) (k : Int) (l : List Int) (i : Nat) : colC s (k :: l) i = (if colV s k = i then 1 else 0) + colC s l i := by
 rw [show k :: l = [k] ++ l from rfl, colC_app, show [k] = [] ++ [k] from rfl, colC_snoc]
 simp [colC]
end Go.Proofs.Ytekkldgmjdllbaa
end
section
namespace Go.Proofs.Ytekkldgmjdllbaa
open Go.RowKit Go.Flow Go.AV Go.Plain
theorem prlim_A (n m : Int) : ACalls Try.prog 101 [.c (iC n), .c (iC m)] (.c (iC (lim1 n m))) := by
 rw [show lim1 n m = max 0 (min n m) by unfold lim1; omega]
 refine acalls_at Try.func101 rfl rfl Try.ntmps101 rfl ?_
 repeat (first
  | refine uA ?_
  | refine uB ?_
  | refine AWp.ret ?_
  | (refine rG 0 ?_
     refine kC ?_
     refine aB ?_)
  | (refine rG 1 ?_
     (iterate 2 refine kA ?_)
     refine qr4 AList.minI ?_
     refine qr4 AList.maxI ?_
     refine kC ?_
     refine aB ?_))
 refine ⟨mkSt 9 [(4, .c (iC (max 0 (min n m))))] [] [], [], Wk.mk [] rfl rfl rfl ?_ trivial, rfl, rfl, aR1⟩
 exact allT
set_option maxHeartbeats 1000000 in
set_option maxRecDepth 100000 in
theorem psides_A (a b : Bp) (x y : Bg) (d : Int × Int) (hd : (-4 ≤ d.1 ∧ d.1 ≤ 4) ∧ -4 ≤ d.2 ∧ d.2 ≤ 4) : ACalls Try.prog 45 [.ag (bpC a), .ag (bpC b), .ag (bgC x), .ag (bgC y), .ag (mvC d)] (.tu [.ag (sdC (sd1 a b x y d)), .ag (sdC (sd2 a b x y d))]) := by
 have b1 := lim_bds x
 have b2 := lim_bds y
 have c1 := prlim_A x.lo 200
 have c2 := prlim_A x.bl 200
 have c3 := prlim_A y.lo 200
 have c4 := prlim_A y.bl 200
 rw [show lim1 x.lo 200 = (lim4 x).lo from rfl] at c1
 rw [show lim1 x.bl 200 = (lim4 x).bl from rfl] at c2
 rw [show lim1 y.lo 200 = (lim4 y).lo from rfl] at c3
 rw [show lim1 y.bl 200 = (lim4 y).bl from rfl] at c4
 refine acalls_at Try.func45 rfl rfl Try.ntmps45 rfl ?_
 repeat (first
  | refine uA ?_
  | refine uB ?_
  | refine AWp.ret ?_
  | (refine rG 0 ?_
     (iterate 5 refine qr5 aQ ?_)
     (iterate 2 refine qr5 (aM tyOk) ?_)
     refine aB ?_)
  | (refine AWp.draw (id := 1) mixed ?_; refine kD ?_; refine kE ?_; refine aH rfl rfl rfl rfl Try.func101 rfl (by kernel_rfl) (c1) ?_; refine kD ?_; refine kE ?_; refine aH rfl rfl rfl rfl Try.func101 rfl (by kernel_rfl) (c4) ?_; refine qr4w2 aL ?_; refine kC ?_; refine aB ⟨by kernel_rfl, ?_⟩)
  | (refine AWp.draw (id := 2) mixed ?_; refine kD ?_; refine kE ?_; refine aH rfl rfl rfl rfl Try.func101 rfl (by kernel_rfl) (c3) ?_; refine kD ?_; refine kE ?_; refine aH rfl rfl rfl rfl Try.func101 rfl (by kernel_rfl) (c2) ?_; refine qr4w2 aL ?_; refine kC ?_; refine aB ⟨by kernel_rfl, ?_⟩)
  | (refine AWp.draw (id := 3) mixed ?_; (iterate 2 refine kF ?_); refine kD ?_; refine kE ?_; refine kD ?_; refine kE ?_; refine kA ?_; refine qr8 (aX tyOk) ?_; (iterate 2 refine kF ?_); refine kD ?_; refine kE ?_; refine qr3w2 AList.neg ?_; refine kD ?_; refine kE ?_; refine qr3w2 AList.neg ?_; refine kD ?_; refine kE ?_; refine kA ?_; refine qr8 (aX tyOk) ?_; (iterate 2 refine kI ?_); refine aB ⟨by kernel_rfl, ?_⟩))
 refine ⟨mkSt 48 [(10, .c (.pt 10 10 0 0)), (11, .c (.pt 11 10 0 0))] [(10, ⟨false, 1, 10, 97, lF (sdC (sd1 a b x y d))⟩), (11, ⟨false, 1, 10, 97, lF (sdC (sd2 a b x y d))⟩)] [10, 11], [(10, ⟨false, 1, 10, 97, lF (sdC (sd1 a b x y d))⟩), (11, ⟨false, 1, 10, 97, lF (sdC (sd2 a b x y d))⟩)], Wk.mk [(10, some 10), (11, some 11)] rfl rfl rfl ?_ ?_, rfl, rfl, ARets.two (x := .ag _) (y := .ag _) (ARes.box tyOk rfl rfl rfl rfl rfl rfl rfl) (ARes.box tyOk rfl rfl rfl rfl rfl rfl rfl)⟩
 ·exact allT
 ·exact allH
theorem side_div {W H : Int} {n k : Nat} (h : chk W H n = 0) (hk : k < n) : (0 < W ∧ W ≤ 96) ∧ (0 ≤ (k : Int) % W ∧ (k : Int) % W < W) ∧ 0 ≤ (k : Int) / W ∧ (k : Int) / W < H := by
 obtain ⟨h1, h2, h3, h4, h5⟩ := okB h
 have hW : 0 < W := by
  rcases Int.lt_or_eq_of_le h1 with h | h
  ·exact h
  ·subst h
   rw [Int.zero_mul] at h5
   omega
 refine ⟨⟨hW, h2⟩, ⟨Int.emod_nonneg _ (by omega), Int.emod_lt_of_pos _ hW⟩, Int.ediv_nonneg (by omega) (by omega), ?_⟩
 refine Int.ediv_lt_of_lt_mul hW ?_
 rw [Int.mul_comm]
 omega
set_option maxHeartbeats 2000000 in
set_option maxRecDepth 100000 in
theorem palone_A (s : Sd) (k : Int) (ho : chk s.o.W s.o.H s.o.n = 0) (hp : chk s.p.W s.p.H s.p.n = 0) (hx : -4 ≤ s.dx ∧ s.dx ≤ 4) (hy : -4 ≤ s.dy ∧ s.dy ≤ 4) : ACalls Try.prog 46 [.ag (sdC s), .c (iC k)] (.c (bC (aloB s k))) := by
 unfold aloB
 have b9 : (s.o.n : Int) ≤ 9216 := by
  obtain ⟨h1, h2, h3, h4, h5⟩ := okB ho
  rw [h5]
  exact Int.le_trans (Int.mul_le_mul_of_nonneg_right h2 h3) (by omega)
 by_cases h0 : 0 ≤ k
 ·obtain ⟨m, rfl⟩ := Int.eq_ofNat_of_zero_le h0
  by_cases h1 : m < s.o.n
  ·have h1' : (m : Int) < s.o.n := by omega
   obtain ⟨q1, q2, q3⟩ := side_div ho h1
   have hH : s.o.H ≤ 96 := (okB ho).2.2.2.1
   rw [decide_eq_true h0, decide_eq_true h1', Bool.true_and, Bool.true_and, show ((m : Int)).toNat = m from Int.toNat_natCast m]
   have hdc : ∀ v, s.o.d m = v → bF s.o.d m 0 = bC v := fun v h => congrArg (fun b => CV.p (.bool b)) h
   cases hd : s.o.d m with
   | false =>
     rw [Bool.false_and]
     refine acalls_at Try.func46 rfl rfl Try.ntmps46 rfl ?_
     repeat (first
      | refine uA ?_
      | refine uB ?_
      | refine AWp.ret ?_
      | (refine rG 0 ?_
         refine qr5 aQ ?_
         refine kC ?_
         refine aB ?_)
      | (refine AWp.draw (id := 1) mixed ?_; refine kA ?_; refine qr5t aK ?_; (iterate 2 refine kA ?_); (iterate 2 refine kD ?_); refine kE ?_; refine qr5 (aO tyOk) ?_; refine qr5t aK ?_; refine qr4 aS ?_; refine kA ?_; (iterate 2 refine kD ?_); refine kE ?_; refine kA ?_; refine qr8eo2 (aP (k := m) tyOk) ?_; refine AList.load1lE tyOk (hdc _ hd) rfl rfl rfl rfl rfl oM ?_; refine qr4 aS ?_; refine kA ?_; (iterate 20 refine qr2 aG ?_); refine qr4 aR ?_; refine kC ?_; refine aB ⟨by kernel_rfl, ?_⟩))
     refine ⟨mkSt 45 [(4, .c (bC false))] [] [], [], Wk.mk [] rfl rfl rfl ?_ trivial, rfl, rfl, aR1⟩
     exact allT
   | true =>
     have hg := bGet_A s.p.W s.p.H s.p.n s.p.d ((m : Int) % s.o.W - s.dx) ((m : Int) / s.o.W - s.dy) hp
     rw [Bool.true_and]
     refine acalls_at Try.func46 rfl rfl Try.ntmps46 rfl ?_
     repeat (first
      | refine uA ?_
      | refine uB ?_
      | refine AWp.ret ?_
      | (refine rG 0 ?_
         refine qr5 aQ ?_
         refine kC ?_
         refine aB ?_)
      | (refine AWp.draw (id := 1) mixed ?_; refine kA ?_; refine qr5t aK ?_; (iterate 2 refine kA ?_); (iterate 2 refine kD ?_); refine kE ?_; refine qr5 (aO tyOk) ?_; refine qr5t aK ?_; refine qr4 aS ?_; refine kA ?_; (iterate 2 refine kD ?_); refine kE ?_; refine kA ?_; refine qr8eo2 (aP (k := m) tyOk) ?_; refine AList.load1lE tyOk (hdc _ hd) rfl rfl rfl rfl rfl oM ?_; refine qr4 aS ?_; refine kA ?_; refine kD ?_; refine kF ?_; refine kA ?_; (iterate 2 refine kD ?_); refine kE ?_; refine qr4w2 AList.rem ?_; refine kD ?_; refine kE ?_; refine qr4w2 AList.sub ?_; refine kA ?_; (iterate 2 refine kD ?_); refine kE ?_; refine qr4w3 AList.quo ?_; refine kD ?_; refine kE ?_; refine qr4w2 AList.sub ?_; refine aH rfl rfl rfl rfl Try.func23 rfl (by kernel_rfl) (hg) ?_; refine qr3 AList.notB ?_; refine qr4 aS ?_; refine kC ?_; refine aB ⟨by kernel_rfl, ?_⟩))
     refine ⟨mkSt 45 [(4, .c (bC (!hasB s.p.W s.p.H s.p.d ((m : Int) % s.o.W - s.dx) ((m : Int) / s.o.W - s.dy))))] [] [], [], Wk.mk [] rfl rfl rfl ?_ trivial, rfl, rfl, aR1⟩
     exact allT
  ·have h1' : ¬ (m : Int) < s.o.n := by omega
   rw [decide_eq_false h1', Bool.false_and, Bool.and_false]
   refine acalls_at Try.func46 rfl rfl Try.ntmps46 rfl ?_
   repeat (first
    | refine uA ?_
    | refine uB ?_
    | refine AWp.ret ?_
    | (refine rG 0 ?_
       refine qr5 aQ ?_
       refine kC ?_
       refine aB ?_)
    | (refine AWp.draw (id := 1) mixed ?_; refine kA ?_; refine qr5t aK ?_; (iterate 2 refine kA ?_); (iterate 2 refine kD ?_); refine kE ?_; refine qr5 (aO tyOk) ?_; refine qr5f aJ ?_; refine qr4 aS ?_; refine kA ?_; (iterate 6 refine qr2 aG ?_); refine qr4 aR ?_; refine kA ?_; (iterate 20 refine qr2 aG ?_); refine qr4 aR ?_; refine kC ?_; refine aB ⟨by kernel_rfl, ?_⟩))
   refine ⟨mkSt 45 [(4, .c (bC false))] [] [], [], Wk.mk [] rfl rfl rfl ?_ trivial, rfl, rfl, aR1⟩
   exact allT
 ·rw [decide_eq_false h0, Bool.false_and]
  refine acalls_at Try.func46 rfl rfl Try.ntmps46 rfl ?_
  repeat (first
   | refine uA ?_
   | refine uB ?_
   | refine AWp.ret ?_
   | (refine rG 0 ?_
      refine qr5 aQ ?_
      refine kC ?_
      refine aB ?_)
   | (refine AWp.draw (id := 1) mixed ?_; refine kA ?_; refine qr5f aJ ?_; refine kA ?_; (iterate 6 refine qr2 aG ?_); refine qr4 aR ?_; refine kA ?_; (iterate 6 refine qr2 aG ?_); refine qr4 aR ?_; refine kA ?_; (iterate 20 refine qr2 aG ?_); refine qr4 aR ?_; refine kC ?_; refine aB ⟨by kernel_rfl, ?_⟩))
  refine ⟨mkSt 45 [(4, .c (bC false))] [] [], [], Wk.mk [] rfl rfl rfl ?_ trivial, rfl, rfl, aR1⟩
  exact allT
set_option maxRecDepth 100000 in
theorem pcol_A (W : Int) (C : Nat → CV) (mv : Int) (m : Nat) (hW : 0 < W ∧ W ≤ 96) (hm : -4 ≤ mv ∧ mv ≤ 4) : ACalls Try.prog 55 [.ag [iC W, C 1, C 2, C 3, C 4, C 5, C 6, C 7, iC mv, C 9], .c (iC m)] (.c (iC (((m : Int) % W + mv + 4).toNat))) := by
 have q1 := Int.emod_nonneg (m : Int) (show W ≠ 0 by omega)
 have q2 := Int.emod_lt_of_pos (m : Int) hW.1
 rw [Int.toNat_of_nonneg (by omega)]
 refine acalls_at Try.func55 rfl rfl Try.ntmps55 rfl ?_
 repeat (first
  | refine uA ?_
  | refine uB ?_
  | refine AWp.ret ?_
  | (refine rG 0 ?_
     refine qr5 aQ ?_
     refine kC ?_
     refine aB ?_)
  | (refine AWp.draw (id := 1) mixed ?_; refine kA ?_; (iterate 2 refine kD ?_); refine kE ?_; refine qr4w2 AList.rem ?_; refine kD ?_; refine kE ?_; (iterate 2 refine qr4w2 aL ?_); refine kC ?_; refine aB ⟨by kernel_rfl, ?_⟩))
 refine ⟨mkSt 14 [(4, .c (iC ((m : Int) % W + mv + 4)))] [] [], [], Wk.mk [] rfl rfl rfl ?_ trivial, rfl, rfl, aR1⟩
 exact allT
abbrev rwI (L : List Int) : AB := ⟨true, L.length, 1, 3, iF fun k => L.getD k 0⟩
theorem rwI_snoc (L : List Int) (c : Int) : ∀ i, i < L.length + 1 → ∀ j, j < 1 → appF (iF fun k => L.getD k 0) L.length (sF [iC c] 1) i j = iF (fun k => (L ++ [c]).getD k 0) i j ∧ immC (appF (iF fun k => L.getD k 0) L.length (sF [iC c] 1) i j) = true :=
 app_F (G := iF fun k => (L ++ [c]).getD k 0) (fun i hi j _ => by
  show CV.p (.int .i64 (L.getD i 0)) = CV.p (.int .i64 ((L ++ [c]).getD i 0))
  rw [show (L ++ [c]).getD i 0 = L.getD i 0 by rw [List.getD_eq_getElem?_getD, List.getElem?_append_left hi, ← List.getD_eq_getElem?_getD]]) (cell1 (by
  show iC c = CV.p (.int .i64 ((L ++ [c]).getD L.length 0))
  rw [show (L ++ [c]).getD L.length 0 = c by simp])) (fun _ _ _ _ => rfl)
theorem setI_eq {c : Nat → Int} {k : Nat} {v : Int} : setF (iF c) k 0 1 [iC v] k 0 = iC v := by
 unfold setF
 rw [Nat.beq_refl]
 rfl
theorem setI_ne {c : Nat → Int} {i k : Nat} {v : Int} (h : i ≠ k) : setF (iF c) k 0 1 [iC v] i 0 = iC (c i) := by
 unfold setF
 rw [show Nat.beq i k = false from Bool.eq_false_iff.2 fun e => h (Nat.eq_of_beq_eq_true e)]
 rfl
theorem iF_set {c c' : Nat → Int} {k n : Nat} {v : Int} (h1 : c' k = v) (h2 : ∀ i, i ≠ k → c' i = c i) : ∀ i, i < n → ∀ j, j < 1 → setF (iF c) k 0 1 [iC v] i j = iF c' i j ∧ immC (setF (iF c) k 0 1 [iC v] i j) = true := fun i _ j hj => by
 obtain rfl : j = 0 := Nat.lt_one_iff.mp hj
 by_cases h : i = k
 ·subst h
  rw [setI_eq]
  refine ⟨?_, rfl⟩
  show iC _ = iC _
  rw [h1]
 ·rw [setI_ne h]
  refine ⟨?_, rfl⟩
  show iC _ = iC _
  rw [h2 i h]
theorem n_bd {W H : Int} {n : Nat} (h : chk W H n = 0) : n ≤ 9216 := by
 obtain ⟨h1, h2, h3, h4, h5⟩ := okB h
 have : (n : Int) ≤ 9216 := by
  rw [h5]
  exact Int.le_trans (Int.mul_le_mul_of_nonneg_right h2 h3) (by omega)
 omega
set_option maxHeartbeats 2000000 in
set_option maxRecDepth 100000 in
theorem pall_A (s : Sd) (ho : chk s.o.W s.o.H s.o.n = 0) (hp : chk s.p.W s.p.H s.p.n = 0) (hx : -4 ≤ s.dx ∧ s.dx ≤ 4) (hy : -4 ≤ s.dy ∧ s.dy ≤ 4) : ACalls Try.prog 56 [.ag (sdC s)] (.c (liV (aloL s))) := by
 have b9 := n_bd ho
 refine acalls_at Try.func56 rfl rfl Try.ntmps56 rfl ?_
 repeat (first
  | refine uA ?_
  | refine uB ?_
  | refine uC ?_
  | (refine rG 0 ?_
     refine qr5 aQ ?_
     refine kC ?_
     refine aB ?_)
  | (refine rG 1 ?_
     refine kC ?_
     refine aB ?_)
  | (refine rG 2 ?_
     (iterate 2 refine kD ?_)
     refine kE ?_
     refine qr5 (aO tyOk) ?_
     refine kA ?_
     refine aB ?_))
 refine AWp.round (fun k : Nat => mkSt 21 [(1, .c (.pt 1 10 0 0)), (3, .c (.ow 30)), (8, .c (iC s.o.n)), (9, .c (iC k))] [(1, ⟨false, 1, 10, 97, lF (sdC s)⟩), (30, rwI (aloN s k))] [1, 30])
  (fun k => k ≤ s.o.n) (fun k => s.o.n - k) 0 (Nat.zero_le _) ?_ (fun k hk => ?_)
 ·refine Wk.mk [(1, some 1), (30, none)] rfl rfl rfl ?_ ?_
  ·exact allT
  ·exact allH
 by_cases hkl : k < s.o.n
 ·have hkl' : (k : Int) < s.o.n := by omega
  have hA := palone_A s k ho hp hx hy
  have hsu := aloN_succ s k
  have hln := aloN_len s k
  cases hv : aloB s k with
  | true =>
    rw [hv] at hA hsu
    rw [if_pos rfl] at hsu
    have hlen : (aloN s (k + 1)).length = (aloN s k).length + 1 := by rw [hsu, List.length_append]; rfl
    repeat (first
     | refine uA ?_
     | refine uB ?_
     | refine uC ?_
     | refine uG ?_
     | refine uD ?_
     | refine kT ?_
     | (refine rG 3 ?_
        refine qr5t aK ?_
        refine aB ?_)
     | (refine rG 4 ?_
        refine kA ?_
        refine kC ?_
        refine aB ?_)
     | (refine rG 5 ?_
        refine kF ?_
        refine kA ?_
        refine aH rfl rfl rfl rfl Try.func46 rfl (by kernel_rfl) (hA) ?_
        refine aB ?_)
     | (refine rG 6 ?_
        (iterate 2 refine kA ?_)
        refine qr11 (AList.litSl tyOk) ?_
        refine AList.appL tyOk rfl rfl rfl rfl rfl rfl rfl rfl rfl rfl oM oM ?_
        refine kC ?_
        refine aB ?_)
     | (refine rG 7 ?_
        refine qr4w2 aL ?_
        refine kA ?_
        refine aB ?_))
    refine ⟨k + 1, hkl, Wk.mk [(1, some 1), (30, some 18)] rfl rfl rfl ?_ ?_, by omega⟩
    ·exact allT
    ·refine ⟨hSm, HeapOk.row rfl rfl hlen ?_, trivial⟩
     rw [hsu]
     exact rwI_snoc _ _
  | false =>
    rw [hv] at hA hsu
    rw [if_neg (by simp), List.append_nil] at hsu
    repeat (first
     | refine uA ?_
     | refine uB ?_
     | refine uC ?_
     | refine uG ?_
     | refine uD ?_
     | refine kT ?_
     | refine kU ?_
     | (refine rG 3 ?_
        refine qr5t aK ?_
        refine aB ?_)
     | (refine rG 4 ?_
        refine kA ?_
        refine kC ?_
        refine aB ?_)
     | (refine rG 5 ?_
        refine kF ?_
        refine kA ?_
        refine aH rfl rfl rfl rfl Try.func46 rfl (by kernel_rfl) (hA) ?_
        refine aB ?_)
     | (refine rG 7 ?_
        refine qr4w2 aL ?_
        refine kA ?_
        refine aB ?_))
    refine ⟨k + 1, hkl, Wk.mk [(1, some 1), (30, some 30)] rfl rfl rfl ?_ ?_, by omega⟩
    ·exact allT
    ·rw [hsu]
     exact allH
 have hkl' : ¬ (k : Int) < s.o.n := by omega
 obtain rfl : k = s.o.n := by omega
 repeat (first
  | refine uA ?_
  | refine uB ?_
  | refine uH ?_
  | refine AWp.ret ?_
  | refine kU ?_
  | (refine rG 3 ?_
     refine qr5f aJ ?_
     refine aB ?_)
  | (refine rG 8 ?_
     refine kA ?_
     refine kC ?_
     refine aB ?_))
 refine ⟨mkSt 21 [(2, .c (liV (aloL s)))] [] [], [], Wk.mk [] rfl rfl rfl ?_ trivial, rfl, rfl, aR1⟩
 exact ⟨⟨_, rfl, .c (LeC.fz rfl rfl rfl (fun _ _ _ _ => ⟨rfl, rfl⟩))⟩, trivial⟩
theorem stN_max (w : Int) (x y : Bg) : stN w x y = min (w + 8) (lim1 (max x.st y.st) 16) := by
 unfold stN lim4 lim1
 dsimp only
 omega
set_option maxRecDepth 100000 in
theorem pwidth_A (a : Bp) (x y : Bg) (h : 0 ≤ a.W ∧ a.W ≤ 96) : ACalls Try.prog 44 [.ag (bpC a), .ag (bgC x), .ag (bgC y)] (.c (iC (stN a.W x y))) := by
 rw [stN_max]
 have h1 := prlim_A (max x.st y.st) 16
 have h2 : 0 ≤ lim1 (max x.st y.st) 16 ∧ lim1 (max x.st y.st) 16 ≤ 16 := by unfold lim1; omega
 refine acalls_at Try.func44 rfl rfl Try.ntmps44 rfl ?_
 repeat (first
  | refine uA ?_
  | refine uB ?_
  | refine AWp.ret ?_
  | (refine rG 0 ?_
     (iterate 3 refine qr5 aQ ?_)
     refine kC ?_
     refine aB ?_)
  | (refine AWp.draw (id := 1) mixed ?_; refine kD ?_; refine kE ?_; refine qr4w2 aL ?_; refine kD ?_; refine kE ?_; refine kD ?_; refine kE ?_; refine qr4 AList.maxI ?_; refine aH rfl rfl rfl rfl Try.func101 rfl (by kernel_rfl) (h1) ?_; refine qr4 AList.minI ?_; refine kC ?_; refine aB ⟨by kernel_rfl, ?_⟩))
 refine ⟨mkSt 17 [(6, .c (iC (min (a.W + 8) (lim1 (max x.st y.st) 16))))] [] [], [], Wk.mk [] rfl rfl rfl ?_ trivial, rfl, rfl, aR1⟩
 exact allT
set_option maxHeartbeats 2000000 in
set_option maxRecDepth 100000 in
theorem psizes_A (a b : Bp) : ACalls Try.prog 43 [.ag (bpC a), .ag (bpC b)] (.c (iC (szV a b))) := by
 have h1 := bCheck_A a.W a.H a.n a.d
 have h2 := bCheck_A b.W b.H b.n b.d
 refine acalls_at Try.func43 rfl rfl Try.ntmps43 rfl ?_
 repeat (first
  | refine uA ?_
  | refine uB ?_
  | refine uC ?_
  | (refine rG 0 ?_
     (iterate 2 refine qr5 aQ ?_)
     refine kC ?_
     refine aB ?_)
  | (refine rG 1 ?_
     (iterate 2 refine kF ?_)
     refine qr11 (AList.litSl tyOk) ?_
     refine qr5 (aO tyOk) ?_
     refine kA ?_
     refine aB ?_))
 refine AWp.round (fun k : Nat => mkSt 34 [(2, .c (.pt 2 3 0 0)), (3, .c (.pt 3 3 0 0)), (10, .c (.ls 2 3 (sF (bpC a ++ bpC b) 3))), (11, .c (iC 2)), (12, .c (iC k))] [(2, ⟨false, 1, 3, 31, lF (bpC a)⟩), (3, ⟨false, 1, 3, 31, lF (bpC b)⟩)] [2, 3])
  (fun k => k ≤ 2 ∧ (1 ≤ k → chk a.W a.H a.n = 0) ∧ (2 ≤ k → chk b.W b.H b.n = 0)) (fun k => 2 - k) 0 ⟨by omega, fun h => absurd h (by omega), fun h => absurd h (by omega)⟩ ?_ (fun k hk => ?_)
 ·refine Wk.mk [(2, some 2), (3, some 3)] rfl rfl rfl ?_ ?_
  ·exact allT
  ·exact allH
 obtain ⟨hk2, k1, k2⟩ := hk
 rcases (show k = 0 ∨ k = 1 ∨ k = 2 by omega) with rfl | rfl | rfl
 ·by_cases c1 : chk a.W a.H a.n = 0
  ·rw [c1] at h1
   repeat (first
    | refine uA ?_
    | refine uB ?_
    | refine uC ?_
    | refine uG ?_
    | refine uD ?_
    | refine kT ?_
    | refine kU ?_
    | (refine rG 2 ?_
       refine qr5t aK ?_
       refine aB ?_)
    | (refine rG 3 ?_
       refine qr8eo2 (aP (k := 0) tyOk) ?_
       refine qr5o (aT tyOk) ?_
       refine qr5 (aM tyOk) ?_
       refine kI ?_
       refine aB ?_)
    | (refine rG 4 ?_
       refine kF ?_
       refine aH rfl rfl rfl rfl Try.func64 rfl (by kernel_rfl) (h1) ?_
       refine kC ?_
       refine aB ?_)
    | (refine rG 5 ?_
       refine kA ?_
       refine qr5 aW ?_
       refine aB ?_)
    | (refine rG 7 ?_
       refine qr4w2 aL ?_
       refine kA ?_
       refine aB ?_))
   refine ⟨1, ⟨by omega, fun _ => c1, fun h => absurd h (by omega)⟩, Wk.mk [(2, some 2), (3, some 3)] rfl rfl rfl ?_ ?_, by omega⟩
   ·exact allT
   ·exact allH
  ·rw [show szV a b = chk a.W a.H a.n from if_neg c1]
   repeat (first
    | refine uA ?_
    | refine uB ?_
    | refine uC ?_
    | refine uG ?_
    | refine AWp.ret ?_
    | refine thenA_r ?_
    | refine uE ?_
    | refine kT ?_
    | (refine rG 2 ?_
       refine qr5t aK ?_
       refine aB ?_)
    | (refine rG 3 ?_
       refine qr8eo2 (aP (k := 0) tyOk) ?_
       refine qr5o (aT tyOk) ?_
       refine qr5 (aM tyOk) ?_
       refine kI ?_
       refine aB ?_)
    | (refine rG 4 ?_
       refine kF ?_
       refine aH rfl rfl rfl rfl Try.func64 rfl (by kernel_rfl) (h1) ?_
       refine kC ?_
       refine aB ?_)
    | (refine rG 5 ?_
       refine kA ?_
       refine qr5t aK ?_
       refine aB ?_)
    | (refine rG 6 ?_
       refine kA ?_
       refine kC ?_
       refine aB ?_))
   refine ⟨mkSt 34 [(4, .c (iC (chk a.W a.H a.n)))] [] [], [], Wk.mk [] rfl rfl rfl ?_ trivial, rfl, rfl, aR1⟩
   exact allT
 ·have c1 := k1 (by omega)
  by_cases c2 : chk b.W b.H b.n = 0
  ·rw [c2] at h2
   repeat (first
    | refine uA ?_
    | refine uB ?_
    | refine uC ?_
    | refine uG ?_
    | refine uD ?_
    | refine kT ?_
    | refine kU ?_
    | (refine rG 2 ?_
       refine qr5t aK ?_
       refine aB ?_)
    | (refine rG 3 ?_
       refine qr8eo2 (aP (k := 1) tyOk) ?_
       refine qr5o (aT tyOk) ?_
       refine qr5 (aM tyOk) ?_
       refine kI ?_
       refine aB ?_)
    | (refine rG 4 ?_
       refine kF ?_
       refine aH rfl rfl rfl rfl Try.func64 rfl (by kernel_rfl) (h2) ?_
       refine kC ?_
       refine aB ?_)
    | (refine rG 5 ?_
       refine kA ?_
       refine qr5 aW ?_
       refine aB ?_)
    | (refine rG 7 ?_
       refine qr4w2 aL ?_
       refine kA ?_
       refine aB ?_))
   refine ⟨2, ⟨by omega, fun _ => c1, fun _ => c2⟩, Wk.mk [(2, some 2), (3, some 3)] rfl rfl rfl ?_ ?_, by omega⟩
   ·exact allT
   ·exact allH
  ·rw [show szV a b = chk b.W b.H b.n from (if_pos c1).trans (if_neg c2)]
   repeat (first
    | refine uA ?_
    | refine uB ?_
    | refine uC ?_
    | refine uG ?_
    | refine AWp.ret ?_
    | refine thenA_r ?_
    | refine uE ?_
    | refine kT ?_
    | (refine rG 2 ?_
       refine qr5t aK ?_
       refine aB ?_)
    | (refine rG 3 ?_
       refine qr8eo2 (aP (k := 1) tyOk) ?_
       refine qr5o (aT tyOk) ?_
       refine qr5 (aM tyOk) ?_
       refine kI ?_
       refine aB ?_)
    | (refine rG 4 ?_
       refine kF ?_
       refine aH rfl rfl rfl rfl Try.func64 rfl (by kernel_rfl) (h2) ?_
       refine kC ?_
       refine aB ?_)
    | (refine rG 5 ?_
       refine kA ?_
       refine qr5t aK ?_
       refine aB ?_)
    | (refine rG 6 ?_
       refine kA ?_
       refine kC ?_
       refine aB ?_))
   refine ⟨mkSt 34 [(4, .c (iC (chk b.W b.H b.n)))] [] [], [], Wk.mk [] rfl rfl rfl ?_ trivial, rfl, rfl, aR1⟩
   exact allT
 ·have c1 := k1 (by omega)
  have c2 := k2 (by omega)
  by_cases c3 : a.W = b.W
  ·by_cases c4 : a.H = b.H
   ·rw [show szV a b = 0 from (szV_ok a b).2 ⟨c1, c2, c3, c4⟩]
    repeat (first
     | refine uA ?_
     | refine uB ?_
     | refine uG ?_
     | refine uH ?_
     | refine AWp.ret ?_
     | refine kU ?_
     | (refine rG 2 ?_
        refine qr5f aJ ?_
        refine aB ?_)
     | (refine rG 8 ?_
        refine kD ?_
        refine kE ?_
        refine kD ?_
        refine kE ?_
        refine qr5f aJ ?_
        refine kA ?_
        refine kD ?_
        refine kE ?_
        refine kD ?_
        refine kE ?_
        refine qr5f aJ ?_
        refine qr4 aR ?_
        refine aB ?_)
     | (refine rG 10 ?_
        refine kC ?_
        refine aB ?_))
    refine ⟨mkSt 34 [(4, .c (iC (0)))] [] [], [], Wk.mk [] rfl rfl rfl ?_ trivial, rfl, rfl, aR1⟩
    exact allT
   ·rw [show szV a b = 13 from (if_pos c1).trans ((if_pos c2).trans (if_neg fun h => c4 h.2))]
    repeat (first
     | refine uA ?_
     | refine uB ?_
     | refine uH ?_
     | refine AWp.ret ?_
     | refine thenA_r ?_
     | refine kT ?_
     | refine kU ?_
     | (refine rG 2 ?_
        refine qr5f aJ ?_
        refine aB ?_)
     | (refine rG 8 ?_
        refine kD ?_
        refine kE ?_
        refine kD ?_
        refine kE ?_
        refine qr5f aJ ?_
        refine kA ?_
        refine kD ?_
        refine kE ?_
        refine kD ?_
        refine kE ?_
        refine qr5t aK ?_
        refine qr4 aR ?_
        refine aB ?_)
     | (refine rG 9 ?_
        refine kC ?_
        refine aB ?_))
    refine ⟨mkSt 34 [(4, .c (iC (13)))] [] [], [], Wk.mk [] rfl rfl rfl ?_ trivial, rfl, rfl, aR1⟩
    exact allT
  ·rw [show szV a b = 13 from (if_pos c1).trans ((if_pos c2).trans (if_neg fun h => c3 h.1))]
   repeat (first
    | refine uA ?_
    | refine uB ?_
    | refine uH ?_
    | refine AWp.ret ?_
    | refine thenA_r ?_
    | refine kT ?_
    | refine kU ?_
    | (refine rG 2 ?_
       refine qr5f aJ ?_
       refine aB ?_)
    | (refine rG 8 ?_
       refine kD ?_
       refine kE ?_
       refine kD ?_
       refine kE ?_
       refine qr5t aK ?_
       refine kA ?_
       (iterate 5 refine qr2 aG ?_)
       refine qr4 aS ?_
       refine aB ?_)
    | (refine rG 9 ?_
       refine kC ?_
       refine aB ?_))
   refine ⟨mkSt 34 [(4, .c (iC (13)))] [] [], [], Wk.mk [] rfl rfl rfl ?_ trivial, rfl, rfl, aR1⟩
   exact allT
end Go.Proofs.Ytekkldgmjdllbaa
end
