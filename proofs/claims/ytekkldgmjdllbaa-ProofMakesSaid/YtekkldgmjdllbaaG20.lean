/- Parts of the proof: A25p, A25a. -/
import Derived.Test.YtekkldgmjdllbaaG17
import Derived.Test.YtekkldgmjdllbaaG18
set_option linter.unusedSimpArgs false
set_option linter.unusedVariables false
section
namespace Go.Proofs.Ytekkldgmjdllbaa
open Go.RowKit Go.Flow Go.AV
structure Sd where
 o : Bp
 p : Bp
 dx : Int
 dy : Int
 mv : Int
 mo : Int
def sd1 (a b : Bp) (x y : Bg) (d : Int × Int) : Sd := ⟨a, b, d.1, d.2, 0, (lim4 x).lo + (lim4 y).bl⟩
def sd2 (a b : Bp) (x y : Bg) (d : Int × Int) : Sd := ⟨b, a, -d.1, -d.2, d.1, (lim4 y).lo + (lim4 x).bl⟩
def aloB (s : Sd) (k : Int) : Bool := decide (0 ≤ k) && (decide (k < s.o.n) && (s.o.d k.toNat && !hasB s.p.W s.p.H s.p.d (k % s.o.W - s.dx) (k / s.o.W - s.dy)))
def aloN (s : Sd) (n : Nat) : List Int := ((List.range n).filter fun (k : Nat) => aloB s k).map fun (k : Nat) => (k : Int)
def aloL (s : Sd) : List Int := aloN s s.o.n
theorem aloN_succ (s : Sd) (n : Nat) : aloN s (n + 1) = aloN s n ++ (if aloB s n then [(n : Int)] else []) := by
 unfold aloN
 rw [List.range_succ, List.filter_append, List.map_append]
 congr 1
 by_cases h : aloB s n = true <;> simp [h]
theorem aloN_len (s : Sd) (n : Nat) : (aloN s n).length ≤ n := by
 unfold aloN
 rw [List.length_map]
 have := List.length_filter_le (fun (k : Nat) => aloB s k) (List.range n)
 rwa [List.length_range] at this
def okAt (s : Sd) (l : List Int) (k : Nat) : Bool := aloB s (l.getD k 0) && (decide (k = 0) || decide (l.getD (k - 1) 0 < l.getD k 0))
def okL (s : Sd) (l : List Int) : Bool := (List.range l.length).all fun k => okAt s l k
def colV (s : Sd) (k : Int) : Nat := (k % s.o.W + s.mv + 4).toNat
def colC (s : Sd) (l : List Int) (i : Nat) : Int := ((l.filter fun k => decide (colV s k = i)).length : Nat)
def outC (s : Sd) (t f : Nat) (l : List Int) : Int := ((l.filter fun k => decide (colV s k < f ∨ f + t ≤ colV s k)).length : Nat)
def wnF (c : Nat → Int) (f : Nat) : Nat → Int
 | 0 => 0
 | m + 1 => wnF c f m + c (f + m)
abbrev winC (s : Sd) (l : List Int) (f m : Nat) : Int := wnF (colC s l) f m
def openB (s t : Sd) (n : Nat) (lA lB : List Int) (f : Nat) : Bool := decide (outC s n f lA ≤ s.mo) && decide (outC t n f lB ≤ t.mo)
def decB (s t : Sd) (n M : Nat) (lA lB : List Int) : Bool := (List.range M).all fun f => !openB s t n lA lB f
abbrev Wt := List Int × List Int
abbrev wtZ : Wt := ([], [])
abbrev liV (l : List Int) : CV := .ls l.length 1 (iF fun k => l.getD k 0)
abbrev wtC (w : Wt) : List CV := [liV w.1, liV w.2]
theorem wtC_imm (w : Wt) : (wtC w).all immC = true := rfl
def szV (a b : Bp) : Int := if chk a.W a.H a.n = 0 then if chk b.W b.H b.n = 0 then if a.W = b.W ∧ a.H = b.H then 0 else 13 else chk b.W b.H b.n else chk a.W a.H a.n
theorem szV_ok (a b : Bp) : szV a b = 0 ↔ cmpOk a b := by
 unfold szV cmpOk
 by_cases h1 : chk a.W a.H a.n = 0
 ·rw [if_pos h1]
  by_cases h2 : chk b.W b.H b.n = 0
  ·rw [if_pos h2]
   by_cases h3 : a.W = b.W ∧ a.H = b.H
   ·rw [if_pos h3]
    exact ⟨fun _ => ⟨h1, h2, h3⟩, fun _ => rfl⟩
   ·rw [if_neg h3]
    exact ⟨fun h => absurd h (by decide), fun h => absurd h.2.2 h3⟩
  ·rw [if_neg h2]
   exact ⟨fun h => absurd h h2, fun h => absurd h.2.1 h2⟩
 ·rw [if_neg h1]
  exact ⟨fun h => absurd h h1, fun h => absurd h.1 h1⟩
def wtOk (a b : Bp) (x y : Bg) (d : Int × Int) (w : Wt) : Bool := okL (sd1 a b x y d) w.1 && (okL (sd2 a b x y d) w.2 && decB (sd1 a b x y d) (sd2 a b x y d) (stN a.W x y).toNat (alM a.W x y) w.1 w.2)
def prfB (a b : Bp) (x y : Bg) (p : List Wt) : Bool := (List.range (shL (shN x y)).length).all fun k => wtOk a b x y ((shL (shN x y)).getD k mvZ) (p.getD k wtZ)
def chkV (a b : Bp) (x y : Bg) (p : List Wt) : Int := if szV a b = 0 then if (shL (shN x y)).length = p.length ∧ prfB a b x y p = true then 0 else 62 else szV a b
def mkL25 (a b : Bp) (x y : Bg) (L : List (Int × Int)) : List Wt := L.map fun d => (aloL (sd1 a b x y d), aloL (sd2 a b x y d))
def mkV (a b : Bp) (x y : Bg) : List Wt × Int := if szV a b = 0 then if (cnfV a b x y).2 = true then ([], 60) else (mkL25 a b x y (shL (shN x y)), 0) else ([], szV a b)
def shrI (dec : List Int → Bool) (l : List Int) : Nat → List Int → List Int
 | 0, kept => kept
 | i + 1, kept => if dec (l.take i ++ kept) = true then shrI dec l i kept else shrI dec l i (l.getD i 0 :: kept)
def shrA (s t : Sd) (n M : Nat) (w : Wt) : List Int := shrI (fun l => decB s t n M l w.2) w.1 w.1.length []
def shrW (s t : Sd) (n M : Nat) (w : Wt) : Wt := (shrA s t n M w, shrI (fun l => decB s t n M (shrA s t n M w) l) w.2 w.2.length [])
def shrP (a b : Bp) (x y : Bg) (L : List (Int × Int)) (p : List Wt) : List Wt := (List.range L.length).map fun k => shrW (sd1 a b x y (L.getD k mvZ)) (sd2 a b x y (L.getD k mvZ)) (stN a.W x y).toNat (alM a.W x y) (p.getD k wtZ)
def shkV (a b : Bp) (x y : Bg) (p : List Wt) : List Wt × Int := if chkV a b x y p = 0 then (shrP a b x y (shL (shN x y)) p, 0) else ([], chkV a b x y p)
theorem filter_split {α : Type} (p q : α → Bool) : ∀ l : List α, (l.filter fun x => p x || q x).length + (l.filter fun x => p x && q x).length = (l.filter p).length + (l.filter q).length
 | [] => rfl
 | x :: l => by
   have := filter_split p q l
   cases hp : p x <;> cases hq : q x <;> simp [hp, hq] <;> omega
theorem win_cnt (s : Sd) (l : List Int) (f : Nat) : ∀ m, winC s l f m = ((l.filter fun k => decide (f ≤ colV s k ∧ colV s k < f + m)).length : Nat)
 | 0 => by
   have : (l.filter fun k => decide (f ≤ colV s k ∧ colV s k < f + 0)) = [] := List.filter_eq_nil_iff.2 fun k _ => by simp <;> omega
   rw [this]
   rfl
 | m + 1 => by
   show wnF (colC s l) f m + colC s l (f + m) = _
   rw [show wnF (colC s l) f m = _ from win_cnt s l f m]
   unfold colC
   rw [← Int.natCast_add]
   congr 1
   have := filter_split (fun k => decide (f ≤ colV s k ∧ colV s k < f + m)) (fun k => decide (colV s k = f + m)) l
   have h0 : (l.filter fun x => decide (f ≤ colV s x ∧ colV s x < f + m) && decide (colV s x = f + m)) = [] := List.filter_eq_nil_iff.2 fun k _ => by simp <;> omega
   rw [h0, List.length_nil, Nat.add_zero] at this
   rw [← this]
   congr 1
   apply List.filter_congr
   intro k _
   rw [← Bool.decide_or]
   exact decide_eq_decide.2 (by omega)
theorem filter_not {α : Type} (p : α → Bool) : ∀ l : List α, (l.filter p).length + (l.filter fun x => !p x).length = l.length
 | [] => rfl
 | x :: l => by
   have := filter_not p l
   cases hp : p x <;> simp [hp] <;> omega
theorem out_win (s : Sd) (l : List Int) (t f : Nat) : outC s t f l = (l.length : Int) - winC s l f t := by
 rw [win_cnt]
 unfold outC
 have h := filter_not (fun k => decide (f ≤ colV s k ∧ colV s k < f + t)) l
 have h2 : (l.filter fun x => !decide (f ≤ colV s x ∧ colV s x < f + t)) = l.filter fun k => decide (colV s k < f ∨ f + t ≤ colV s k) := by
  apply List.filter_congr
  intro k _
  rw [← decide_not]
  exact decide_eq_decide.2 (by omega)
 rw [h2] at h
 omega
theorem colC_snoc (s : Sd) (l : List Int) (k : Int) (i : Nat) : colC s (l ++ [k]) i = colC s l i + if colV s k = i then 1 else 0 := by
 unfold colC
 rw [List.filter_append, List.length_append]
 by_cases h : colV s k = i <;> simp [h]
theorem colC_nn (s : Sd) (l : List Int) (i : Nat) : 0 ≤ colC s l i ∧ colC s l i ≤ l.length := by
 unfold colC
 have := List.length_filter_le (fun k => decide (colV s k = i)) l
 omega
end Go.Proofs.Ytekkldgmjdllbaa
end
section
namespace Go.Proofs.Ytekkldgmjdllbaa
open Go.RowKit Go.Flow Go.AV Go.Plain
theorem side_div {W H : Int} {n k : Nat} (h : chk W H n = 0) (hk : k < n) : (0 < W ∧ W ≤ 96) ∧ (0 ≤ (k : Int) % W ∧ (k : Int) % W < W) ∧ 0 ≤ (k : Int) / W ∧ (k : Int) / W < H := by
 obtain ⟨h1, h2, h3, h4, h5⟩ := okB h
 have hW : 0 < W := by
  rcases Int.lt_or_eq_of_le h1 with h | h
  ·exact h
  ·subst h
   rw [Int.zero_mul] at h5
   omega
 refine ⟨⟨hW, h2⟩, ⟨Int.emod_nonneg _ (by omega), Int.emod_lt_of_pos _ hW⟩, Int.ediv_nonneg (by omega) (by omega), ?_⟩
 refine Int.ediv_lt_of_lt_mul hW ?_
 rw [Int.mul_comm]
 omega
abbrev rwI (L : List Int) : AB := ⟨true, L.length, 1, 3, iF fun k => L.getD k 0⟩
theorem rwI_snoc (L : List Int) (c : Int) : ∀ i, i < L.length + 1 → ∀ j, j < 1 → appF (iF fun k => L.getD k 0) L.length (sF [iC c] 1) i j = iF (fun k => (L ++ [c]).getD k 0) i j ∧ immC (appF (iF fun k => L.getD k 0) L.length (sF [iC c] 1) i j) = true :=
 app_F (G := iF fun k => (L ++ [c]).getD k 0) (fun i hi j _ => by
  show CV.p (.int .i64 (L.getD i 0)) = CV.p (.int .i64 ((L ++ [c]).getD i 0))
  rw [show (L ++ [c]).getD i 0 = L.getD i 0 by rw [List.getD_eq_getElem?_getD, List.getElem?_append_left hi, ← List.getD_eq_getElem?_getD]]) (cell1 (by
  show iC c = CV.p (.int .i64 ((L ++ [c]).getD L.length 0))
  rw [show (L ++ [c]).getD L.length 0 = c by simp])) (fun _ _ _ _ => rfl)
theorem setI_eq {c : Nat → Int} {k : Nat} {v : Int} : setF (iF c) k 0 1 [iC v] k 0 = iC v := by
 unfold setF
 rw [Nat.beq_refl]
 rfl
theorem setI_ne {c : Nat → Int} {i k : Nat} {v : Int} (h : i ≠ k) : setF (iF c) k 0 1 [iC v] i 0 = iC (c i) := by
 unfold setF
 rw [show Nat.beq i k = false from Bool.eq_false_iff.2 fun e => h (Nat.eq_of_beq_eq_true e)]
 rfl
theorem iF_set {c c' : Nat → Int} {k n : Nat} {v : Int} (h1 : c' k = v) (h2 : ∀ i, i ≠ k → c' i = c i) : ∀ i, i < n → ∀ j, j < 1 → setF (iF c) k 0 1 [iC v] i j = iF c' i j ∧ immC (setF (iF c) k 0 1 [iC v] i j) = true := fun i _ j hj => by
 obtain rfl : j = 0 := Nat.lt_one_iff.mp hj
 by_cases h : i = k
 ·subst h
  rw [setI_eq]
  refine ⟨?_, rfl⟩
  show iC _ = iC _
  rw [h1]
 ·rw [setI_ne h]
  refine ⟨?_, rfl⟩
  show iC _ = iC _
  rw [h2 i h]
theorem n_bd {W H : Int} {n : Nat} (h : chk W H n = 0) : n ≤ 9216 := by
 obtain ⟨h1, h2, h3, h4, h5⟩ := okB h
 have : (n : Int) ≤ 9216 := by
  rw [h5]
  exact Int.le_trans (Int.mul_le_mul_of_nonneg_right h2 h3) (by omega)
 omega
end Go.Proofs.Ytekkldgmjdllbaa
end
