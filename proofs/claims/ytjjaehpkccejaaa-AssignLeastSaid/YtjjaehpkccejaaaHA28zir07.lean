/- AssignLeast: the statement. No condition. -/
import Derived.Test.YtjjaehpkccejaaaG31
import Derived.Test.YtjjaehpkccejaaaG30
import Derived.Test.YtjjaehpkccejaaaG27
import Derived.Test.YtjjaehpkccejaaaG15
import Derived.Test.YtjjaehpkccejaaaG25
import Derived.Test.YtjjaehpkccejaaaG10
import Derived.Test.YtjjaehpkccejaaaHA28zir01
import Derived.Test.YtjjaehpkccejaaaG07
import Derived.Test.YtjjaehpkccejaaaG17
import Derived.Test.YtjjaehpkccejaaaG09
import Derived.Test.YtjjaehpkccejaaaG08
import Derived.Test.YtjjaehpkccejaaaG29
import Derived.Test.YtjjaehpkccejaaaG26
import Derived.DeepKeys4
import Derived.Test.YtjjaehpkccejaaaProg
import Derived.Test.YtjjaehpkccejaaaG01
import Derived.Test.YtjjaehpkccejaaaG06
import Derived.Laws.StructEq
import Derived.Shelf.Abstract
import Derived.WideKeyMaps
import Derived.MapKept
import Derived.Carry
import Derived.Lib.Hide
import Derived.Deep.QuietTactic
import Derived.BigQuiet
import Derived.Deep.DrawnRows
import Derived.Deep.AppendLies
import Derived.Laws.Cover3
import Derived.Test.YtjjaehpkccejaaaHA28zir05
import Derived.Maps.AppendAt
import Derived.OwnWalk
import Derived.RangeFuncNested
import Derived.Test.YtjjaehpkccejaaaG28
import Derived.Test.YtjjaehpkccejaaaG19
import Derived.Test.YtjjaehpkccejaaaG18
import Derived.Test.YtjjaehpkccejaaaG14
import Derived.StillTail
import Derived.Below
import Derived.Deep.Draws
import Derived.WalkKit
import Derived.KernelRfl
import Derived.Test.YtjjaehpkccejaaaG05
import Derived.Test.YtjjaehpkccejaaaG03
import Derived.Scope
import Derived.Test.YtjjaehpkccejaaaG21
import Derived.Test.YtjjaehpkccejaaaHA28zir02
import Derived.Test.YtjjaehpkccejaaaG02
import Derived.RangeFuncLeaves
import Derived.RangeFuncRecord
import Derived.Test.YtjjaehpkccejaaaG04
import Derived.Great.BuildSlice
import Derived.Test.YtjjaehpkccejaaaG24
import Derived.Test.YtjjaehpkccejaaaG13
import Derived.Laws.Pointers
import Derived.Test.YtjjaehpkccejaaaG16
import Derived.OrdersIn
import Derived.TacticsIn
import Derived.RangeFuncCalls
import Derived.Test.YtjjaehpkccejaaaG12
import Derived.Test.YtjjaehpkccejaaaG11
import Derived.Test.YtjjaehpkccejaaaG36
import Derived.Test.YtjjaehpkccejaaaG32
import Derived.Test.YtjjaehpkccejaaaHA28zir06
import Derived.Test.YtjjaehpkccejaaaG22
import Derived.Test.YtjjaehpkccejaaaHA28zir03
import Derived.Test.YtjjaehpkccejaaaG20
import Derived.Test.YtjjaehpkccejaaaG35
import Derived.Test.YtjjaehpkccejaaaG34
import Derived.Test.YtjjaehpkccejaaaG33
import Derived.Test.YtjjaehpkccejaaaRows
import Derived.Test.YtjjaehpkccejaaaG23
import Derived.Test.YtjjaehpkccejaaaHA28zir04
import Derived.ProofKit
import Derived.OpenShut
import Derived.Deep.DeepHandedRow
import Derived.SizedLaws
import Derived.ChangeSlices
import Derived.ChangeSame
set_option linter.unusedSimpArgs false
set_option linter.unusedVariables false
section
namespace Go.Proofs.Ytjjaehpkccejaaa
open Go.RowKit Go.Flow Go.AV Go.Plain
theorem freeV_congr2 {p : Pb} {n : Nat} {f g : Nat → Int} {c : Int} (h : ∀ k, k < n → f k = g k) : freeV p n f c = freeV p n g c := by
 unfold freeV
 congr 1
 rw [Bool.eq_iff_iff, List.all_eq_true, List.all_eq_true]
 constructor
 ·intro h1 k hk
  rw [← h k (List.mem_range.1 hk)]; exact h1 k hk
 ·intro h1 k hk
  rw [h k (List.mem_range.1 hk)]; exact h1 k hk
def prodL : List Nat → Nat
 | [] => 1
 | L :: Ls => L * prodL Ls
/-- The number of choices e of lists of these lengths. -/
def numI : List Nat → List Int → Int
 | L :: Ls, d :: ds => d * (prodL Ls : Int) + numI Ls ds
 | _, _ => 0
def GoodC (p : Pb) (ch : List Int) : Prop := ∀ k, k < ch.length → stepOk p (fI ch) k = true
abbrev lensF (p : Pb) (k : Nat) : List Nat := (p.C.drop k).map List.length
def InR : List Nat → List Int → Prop
 | L :: Ls, d :: ds => (0 ≤ d ∧ d < L) ∧ InR Ls ds
 | [], [] => True
 | _, _ => False
theorem numI_bd : ∀ {Ls : List Nat} {e : List Int}, InR Ls e → 0 ≤ numI Ls e ∧ numI Ls e < prodL Ls
 | [], [], _ => ⟨Int.le_refl _, by decide⟩
 | L :: Ls, d :: ds, h => by
   obtain ⟨⟨h1, h2⟩, h3⟩ := h
   obtain ⟨i1, i2⟩ := numI_bd h3
   have e1 := Int.mul_nonneg h1 (Int.natCast_nonneg (prodL Ls))
   have e2 : (d + 1) * (prodL Ls : Int) ≤ (L : Int) * (prodL Ls : Int) := Int.mul_le_mul_of_nonneg_right (by omega) (Int.natCast_nonneg _)
   rw [Int.add_mul, Int.one_mul] at e2
   have e3 : ((prodL (L :: Ls) : Nat) : Int) = (L : Int) * (prodL Ls : Int) := by simp [prodL]
   show 0 ≤ d * (prodL Ls : Int) + numI Ls ds ∧ d * (prodL Ls : Int) + numI Ls ds < _
   rw [e3]
   omega
 | [], _ :: _, h => h.elim
 | _ :: _, [], h => h.elim
theorem numI_lt {L : Nat} {Ls : List Nat} {c d : Int} {e f : List Int} (h : c < d) (he : InR Ls e) (hf : InR Ls f) : numI (L :: Ls) (c :: e) < numI (L :: Ls) (d :: f) := by
 have h1 := (numI_bd he).2
 have h2 := (numI_bd hf).1
 have e2 : (c + 1) * (prodL Ls : Int) ≤ d * (prodL Ls : Int) := Int.mul_le_mul_of_nonneg_right (by omega) (Int.natCast_nonneg _)
 rw [Int.add_mul, Int.one_mul] at e2
 show c * (prodL Ls : Int) + numI Ls e < d * (prodL Ls : Int) + numI Ls f
 omega
theorem lens_cons {p : Pb} {k : Nat} (h : k < p.C.length) : lensF p k = (p.C.getD k []).length :: lensF p (k + 1) := by
 unfold lensF
 rw [List.drop_eq_getElem_cons h, List.map_cons, List.getD_eq_getElem?_getD, List.getElem?_eq_getElem h]
 rfl
theorem fI_app_lt (ch e : List Int) : ∀ k, k < ch.length → fI (ch ++ e) k = fI ch k := fun k hk => by
 show (ch ++ e).getD k 0 = ch.getD k 0
 rw [List.getD_eq_getElem?_getD, List.getElem?_append_left hk, ← List.getD_eq_getElem?_getD]
theorem fI_app_at (ch e : List Int) (c : Int) : fI (ch ++ c :: e) ch.length = c := by
 show (ch ++ c :: e).getD ch.length 0 = c
 simp
theorem GoodC.head {p : Pb} {ch e : List Int} {c : Int} (h : GoodC p (ch ++ c :: e)) : (0 ≤ c ∧ c < (p.C.getD ch.length []).length) ∧ freeV p ch.length (fI ch) c = true := by
 have := stepOk_iff.1 (h ch.length (by simp))
 rw [fI_app_at, freeV_congr2 (fI_app_lt ch (c :: e))] at this
 exact this
theorem GoodC.inR {p : Pb} : ∀ {e ch : List Int}, ch.length + e.length = p.C.length → GoodC p (ch ++ e) → InR (lensF p ch.length) e
 | [], ch, hl, _ => by
   have : lensF p ch.length = [] := by
    unfold lensF
    rw [List.drop_eq_nil_of_le (by simp at hl; omega)]
    rfl
   rw [this]
   trivial
 | c :: e, ch, hl, h => by
   rw [List.length_cons] at hl
   rw [lens_cons (by omega)]
   refine ⟨h.head.1, ?_⟩
   have := GoodC.inR (p := p) (e := e) (ch := ch ++ [c]) (by rw [List.length_append, List.length_singleton]; omega) (by rw [List.append_assoc]; exact h)
   rwa [List.length_append, List.length_singleton] at this
def SpecV (p : Pb) (m : Nat) (ch : List Int) (o : FR) : Prop :=
 (o.2.1 = 0 ∧ ∃ e0, o.1 = ch ++ e0 ∧ e0.length = m ∧ GoodC p (ch ++ e0) ∧ ∀ e, e.length = m → GoodC p (ch ++ e) → numI (lensF p ch.length) e0 ≤ numI (lensF p ch.length) e) ∨
 (o.2.1 = 60 ∧ o.1 = [] ∧ ∀ e, e.length = m → ¬ GoodC p (ch ++ e))
def stT : Nat → Int
 | 0 => 0
 | m + 1 => 4 * (1 + stT m)
theorem stT_nn : ∀ m, 0 ≤ stT m
 | 0 => Int.le_refl _
 | m + 1 => by have := stT_nn m; show 0 ≤ 4 * (1 + stT m); omega
theorem tryV_spec {p : Pb} {ch : List Int} {m : Nat} {rec : List Int → Int → FR} {L : Nat} (hm : ch.length + (m + 1) = p.C.length) (hL : (p.C.getD ch.length []).length = L) (T : Int) (hT : 0 ≤ T)
 (hr : ∀ (c : Nat) st, 0 ≤ st → st + T ≤ 20000 → c < L → freeV p ch.length (fI ch) c = true → SpecV p m (ch ++ [(c : Int)]) (rec (ch ++ [(c : Int)]) st) ∧ st ≤ (rec (ch ++ [(c : Int)]) st).2.2 ∧ (rec (ch ++ [(c : Int)]) st).2.2 ≤ st + T) :
 ∀ (r c : Nat) (st : Int), c + r = L → 0 ≤ st → st + r * (1 + T) ≤ 20000 → (∀ (d : Int) e, d < c → e.length = m → ¬ GoodC p (ch ++ d :: e)) → SpecV p (m + 1) ch (tryV rec p ch r c st) ∧ st ≤ (tryV rec p ch r c st).2.2 ∧ (tryV rec p ch r c st).2.2 ≤ st + r * (1 + T)
 | 0, c, st, hc, h0, hst, hno => by
   refine ⟨.inr ⟨rfl, rfl, fun e he hg => ?_⟩, Int.le_refl _, by simp [tryV]⟩
   obtain ⟨d, e, rfl⟩ : ∃ d e', e = d :: e' := by cases e with | nil => cases he | cons d e => exact ⟨d, e, rfl⟩
   have := hg.head.1
   rw [hL] at this
   exact hno d e (by omega) (by simpa using he) hg
 | r + 1, c, st, hc, h0, hst, hno => by
   have hrT : 0 ≤ (r : Int) * (1 + T) := Int.mul_nonneg (Int.natCast_nonneg r) (by omega)
   have hsp : ((r + 1 : Nat) : Int) * (1 + T) = (r : Int) * (1 + T) + (1 + T) := by rw [Int.natCast_add, Int.add_mul]; simp
   rw [hsp] at hst ⊢
   have hov : ¬ 20000 < st + 1 := by omega
   cases hf : freeV p ch.length (fI ch) c with
   | false =>
     rw [tryV_skip hov hf]
     have hno' : ∀ (d : Int) e, d < ((c + 1 : Nat) : Int) → e.length = m → ¬ GoodC p (ch ++ d :: e) := fun d e hd he hg => by
      by_cases hdc : d = c
      ·have := hg.head.2
       rw [hdc, hf] at this
       cases this
      ·exact hno d e (by omega) he hg
     obtain ⟨i1, i2, i3⟩ := tryV_spec hm hL T hT hr r (c + 1) (st + 1) (by omega) (by omega) (by omega) hno'
     exact ⟨i1, by omega, by omega⟩
   | true =>
     obtain ⟨g1, g2, g3⟩ := hr c (st + 1) (by omega) (by omega) (by omega) hf
     rcases g1 with ⟨k1, e0, k2, k3, k4, k5⟩ | ⟨k1, k2, k3⟩
     ·rw [tryV_out hov hf (by rw [k1]; decide)]
      refine ⟨.inl ⟨k1, (c : Int) :: e0, by rw [k2, List.append_assoc]; rfl, by simp [k3], by rw [List.append_assoc] at k4; exact k4, fun e he hg => ?_⟩, by omega, by omega⟩
      obtain ⟨d, e, rfl⟩ : ∃ d e', e = d :: e' := by cases e with | nil => cases he | cons d e => exact ⟨d, e, rfl⟩
      have he' : e.length = m := by simpa using he
      have hdc : ¬ d < c := fun h => hno d e h he' hg
      have l1 : (ch ++ [(c : Int)]).length = ch.length + 1 := by simp
      rw [lens_cons (by omega)]
      by_cases hd : d = c
      ·subst hd
       have := k5 e he' (by rw [List.append_assoc]; exact hg)
       rw [l1] at this
       show (c : Int) * _ + _ ≤ (c : Int) * _ + _
       omega
      ·have r1 := GoodC.inR (p := p) (e := e0) (by rw [l1]; omega) k4
       have r2 := GoodC.inR (p := p) (e := e) (ch := ch ++ [d]) (by simp; omega) (by rw [List.append_assoc]; exact hg)
       rw [l1] at r1
       rw [show (ch ++ [d]).length = ch.length + 1 by simp] at r2
       exact Int.le_of_lt (numI_lt (by omega) r1 r2)
     ·rw [tryV_go hov hf k1]
      have hno' : ∀ (d : Int) e, d < ((c + 1 : Nat) : Int) → e.length = m → ¬ GoodC p (ch ++ d :: e) := fun d e hd he hg => by
       by_cases hdc : d = c
       ·exact k3 e he (by rw [List.append_assoc, ← hdc]; exact hg)
       ·exact hno d e (by omega) he hg
      obtain ⟨i1, i2, i3⟩ := tryV_spec hm hL T hT hr r (c + 1) (rec (ch ++ [(c : Int)]) (st + 1)).2.2 (by omega) (by omega) (by omega) hno'
      exact ⟨i1, by omega, by omega⟩
theorem fromV_spec {p : Pb} (hl : ∀ l ∈ p.C, l.length ≤ 4) : ∀ (m : Nat) (ch : List Int) (st : Int), ch.length + m = p.C.length → GoodC p ch → 0 ≤ st → st + stT m ≤ 20000 → SpecV p m ch (fromV p m ch st) ∧ st ≤ (fromV p m ch st).2.2 ∧ (fromV p m ch st).2.2 ≤ st + stT m
 | 0, ch, st, hm, hg, h0, hst => ⟨.inl ⟨rfl, [], by simp [fromV], rfl, by simpa using hg, fun e he _ => by
    obtain rfl := List.eq_nil_of_length_eq_zero he
    exact Int.le_refl _⟩, Int.le_refl _, by simp [fromV, stT]⟩
 | m + 1, ch, st, hm, hg, h0, hst => by
   have hlt : ch.length < p.C.length := by omega
   have hL3 := hl _ (getD_mem28 (z := []) hlt)
   have hT := stT_nn m
   have hst' : stT (m + 1) = 4 * (1 + stT m) := rfl
   have hle : ((p.C.getD ch.length []).length : Int) * (1 + stT m) ≤ 4 * (1 + stT m) := Int.mul_le_mul_of_nonneg_right (by omega) (by omega)
   have hrec : ∀ (c : Nat) (st : Int), 0 ≤ st → st + stT m ≤ 20000 → c < (p.C.getD ch.length []).length → freeV p ch.length (fI ch) c = true → SpecV p m (ch ++ [(c : Int)]) (fromV p m (ch ++ [(c : Int)]) st) ∧ st ≤ (fromV p m (ch ++ [(c : Int)]) st).2.2 ∧ (fromV p m (ch ++ [(c : Int)]) st).2.2 ≤ st + stT m := fun c st h0 hst hc hf => by
    refine fromV_spec hl m (ch ++ [(c : Int)]) st (by simp; omega) (fun k hk => ?_) h0 hst
    rw [List.length_append, List.length_singleton] at hk
    by_cases e : k = ch.length
    ·subst e
     rw [stepOk_iff, fI_last, freeV_congr2 (fI_snoc ch c)]
     exact ⟨⟨by omega, by omega⟩, hf⟩
    ·have := stepOk_iff.1 (hg k (by omega))
     rw [stepOk_iff, fI_snoc ch c k (by omega), freeV_congr2 fun j hj => fI_snoc ch c j (by omega)]
     exact this
   obtain ⟨i1, i2, i3⟩ := tryV_spec (rec := fromV p m) (m := m) (L := (p.C.getD ch.length []).length) hm rfl (stT m) hT hrec (p.C.getD ch.length []).length 0 st (by omega) h0 (by omega) (fun d e hd _ h => by have := h.head.1.1; omega)
   exact ⟨i1, i2, by show _ ≤ st + stT (m + 1); unfold fromV; omega⟩
end Go.Proofs.Ytjjaehpkccejaaa
end

section
namespace Go.Proofs.Ytjjaehpkccejaaa
open Go.RowKit Go.Flow Go.AV Go.Plain
def digsI : List Nat → Nat → List Int
 | [], _ => []
 | L :: Ls, n => ((n / prodL Ls % L : Nat) : Int) :: digsI Ls n
theorem digs_len : ∀ (Ls : List Nat) (n : Nat), (digsI Ls n).length = Ls.length
 | [], _ => rfl
 | _ :: Ls, n => congrArg (· + 1) (digs_len Ls n)
theorem digs_mod : ∀ (Ls : List Nat) (n : Nat), digsI Ls (n % prodL Ls) = digsI Ls n
 | [], _ => rfl
 | L :: Ls, n => by
   have h1 : n % (L * prodL Ls) / prodL Ls % L = n / prodL Ls % L := by
    rw [Nat.mul_comm L, Nat.mod_mul_right_div_self, Nat.mod_mod]
   have h2 : digsI Ls (n % (L * prodL Ls)) = digsI Ls n := by
    rw [← digs_mod Ls (n % (L * prodL Ls)), Nat.mod_mul_left_mod, digs_mod Ls n]
   show ((n % (L * prodL Ls) / prodL Ls % L : Nat) : Int) :: digsI Ls (n % (L * prodL Ls)) = _
   rw [h1, h2]
   rfl
theorem digs_in : ∀ {Ls : List Nat} {n : Nat}, 0 < prodL Ls → InR Ls (digsI Ls n)
 | [], _, _ => trivial
 | L :: Ls, n, h => by
   have h : 0 < L * prodL Ls := h
   have hL : 0 < L := Nat.pos_of_mul_pos_right h
   have hP : 0 < prodL Ls := Nat.pos_of_mul_pos_left h
   have := Nat.mod_lt (n / prodL Ls) hL
   exact ⟨⟨by omega, by omega⟩, digs_in hP⟩
theorem num_digs : ∀ {Ls : List Nat} {n : Nat}, n < prodL Ls → numI Ls (digsI Ls n) = n
 | [], n, h => by
   have h : n < 1 := h
   obtain rfl : n = 0 := by omega
   rfl
 | L :: Ls, n, h => by
   have h : n < L * prodL Ls := h
   have h0 : 0 < L * prodL Ls := by omega
   have hP : 0 < prodL Ls := Nat.pos_of_mul_pos_left h0
   have h1 : n / prodL Ls < L := (Nat.div_lt_iff_lt_mul hP).2 h
   have ih := num_digs (Ls := Ls) (n := n % prodL Ls) (Nat.mod_lt _ hP)
   rw [digs_mod] at ih
   show ((n / prodL Ls % L : Nat) : Int) * (prodL Ls : Int) + numI Ls (digsI Ls n) = n
   rw [ih, Nat.mod_eq_of_lt h1, ← Int.natCast_mul, ← Int.natCast_add, Nat.div_add_mod']
theorem numI_inj : ∀ {Ls : List Nat} {e f : List Int}, InR Ls e → InR Ls f → numI Ls e = numI Ls f → e = f
 | [], [], [], _, _, _ => rfl
 | L :: Ls, c :: e, d :: f, he, hf, h => by
   by_cases h1 : c < d
   ·have := numI_lt (L := L) h1 he.2 hf.2
    omega
   ·by_cases h2 : d < c
    ·have := numI_lt (L := L) h2 hf.2 he.2
     omega
    ·obtain rfl : c = d := by omega
     have h : c * (prodL Ls : Int) + numI Ls e = c * (prodL Ls : Int) + numI Ls f := h
     rw [numI_inj he.2 hf.2 (by omega)]
 | [], _ :: _, _, he, _, _ => he.elim
 | [], [], _ :: _, _, hf, _ => hf.elim
 | _ :: _, [], _, he, _, _ => he.elim
 | _ :: _, _ :: _, [], _, hf, _ => hf.elim
/-- The search's answer, told by numbers. -/
theorem solve_num {p : Pb} (hf : p.fit) (hk : chkP p = 0) (hs : ∀ l ∈ p.C, l.length ≤ 4) (hc : p.C.length ≤ 5) :
 ((solveV p).2 = 0 ∧ ∃ N : Nat, N < prodL (lensF p 0) ∧ (solveV p).1 = digsI (lensF p 0) N ∧ GoodC p (digsI (lensF p 0) N) ∧ ∀ n, n < N → ¬ GoodC p (digsI (lensF p 0) n)) ∨
 ((solveV p).2 = 60 ∧ (solveV p).1 = [] ∧ ∀ n, ¬ GoodC p (digsI (lensF p 0) n)) := by
 have hT : stT p.C.length ≤ 20000 := by
  have : p.C.length = 0 ∨ p.C.length = 1 ∨ p.C.length = 2 ∨ p.C.length = 3 ∨ p.C.length = 4 ∨ p.C.length = 5 := by omega
  rcases this with h | h | h | h | h | h <;> rw [h] <;> decide
 obtain ⟨hS, -, -⟩ := fromV_spec hs p.C.length [] 0 (by simp) (fun k hk => absurd hk (Nat.not_lt_zero _)) (Int.le_refl _) (by omega)
 have hlen : (lensF p 0).length = p.C.length := by simp [lensF]
 unfold solveV
 rw [if_pos hk]
 generalize fromV p p.C.length [] 0 = o at *
 rcases hS with ⟨k1, e0, k2, k3, k4, k5⟩ | ⟨k1, k2, k3⟩
 ·left
  refine ⟨k1, ?_⟩
  have r0 : InR (lensF p 0) e0 := GoodC.inR (p := p) (ch := []) (by simpa using k3) k4
  obtain ⟨b1, b2⟩ := numI_bd r0
  obtain ⟨N, hN⟩ := Int.eq_ofNat_of_zero_le b1
  have hlt : N < prodL (lensF p 0) := by omega
  have hd : digsI (lensF p 0) N = e0 := numI_inj (digs_in (by omega)) r0 (by rw [num_digs hlt, hN])
  refine ⟨N, hlt, by rw [hd]; exact k2, by rw [hd]; exact k4, fun n hn hg => ?_⟩
  have := k5 (digsI (lensF p 0) n) (by rw [digs_len, hlen]) hg
  change numI (lensF p 0) e0 ≤ numI (lensF p 0) (digsI (lensF p 0) n) at this
  rw [num_digs (by omega), hN] at this
  omega
 ·right
  exact ⟨k1, k2, fun n hg => k3 _ (by rw [digs_len, hlen]) hg⟩
end Go.Proofs.Ytjjaehpkccejaaa
end

section
namespace Go.Proofs.Ytjjaehpkccejaaa
open Go.RowKit Go.Flow Go.AV Go.Plain
theorem prod_drop : ∀ {Ls : List Nat} {k : Nat}, k < Ls.length → prodL (Ls.drop k) = Ls.getD k 0 * prodL (Ls.drop (k + 1))
 | L :: Ls, 0, _ => rfl
 | L :: Ls, k + 1, h => prod_drop (Ls := Ls) (k := k) (by simpa using h)
theorem dig_at : ∀ {Ls : List Nat} {n k : Nat}, k < Ls.length → fI (digsI Ls n) k = ((n / prodL (Ls.drop (k + 1)) % Ls.getD k 0 : Nat) : Int)
 | L :: Ls, n, 0, _ => rfl
 | L :: Ls, n, k + 1, h => dig_at (Ls := Ls) (n := n) (k := k) (by simpa using h)
theorem prod_take : ∀ {Ls : List Nat} {k : Nat}, k < Ls.length → prodL (Ls.take (k + 1)) = prodL (Ls.take k) * Ls.getD k 0
 | L :: Ls, 0, _ => by show L * 1 = 1 * L; rw [Nat.mul_comm]
 | L :: Ls, k + 1, h => by
   have := prod_take (Ls := Ls) (k := k) (by simpa using h)
   show L * prodL (Ls.take (k + 1)) = L * prodL (Ls.take k) * Ls.getD k 0
   rw [this, Nat.mul_assoc]
theorem prod_le : ∀ {Ls : List Nat}, (∀ L ∈ Ls, L ≤ 3) → prodL Ls ≤ 3 ^ Ls.length
 | [], _ => Nat.le_refl _
 | L :: Ls, h => by
   have h1 := h L (by simp)
   have h2 := prod_le (Ls := Ls) fun x hx => h x (by simp [hx])
   have := Nat.mul_le_mul h1 h2
   show L * prodL Ls ≤ 3 ^ (Ls.length + 1)
   rw [Nat.pow_succ, Nat.mul_comm (3 ^ _)]
   exact this
theorem prod_small {Ls : List Nat} (h : ∀ L ∈ Ls, L ≤ 3) (hl : Ls.length ≤ 5) : prodL Ls ≤ 243 := by
 have h1 := prod_le h
 have h2 : 3 ^ Ls.length ≤ 3 ^ 5 := Nat.pow_le_pow_right (by decide) hl
 have h3 : (3 : Nat) ^ 5 = 243 := by decide
 omega
theorem lens_get {p : Pb} {k : Nat} (h : k < p.C.length) : (lensF p 0).getD k 0 = (p.C.getD k []).length := by
 unfold lensF
 rw [List.drop_zero, List.getD_eq_getElem?_getD, List.getElem?_map, List.getD_eq_getElem?_getD, List.getElem?_eq_getElem h]
 rfl
theorem lens_len (p : Pb) : (lensF p 0).length = p.C.length := by simp [lensF]
/-- The digits from k on; zeros before. -/
def digK (Ls : List Nat) (n k j : Nat) : Int := if k ≤ j then fI (digsI Ls n) j else 0
theorem digK_new {Ls : List Nat} {n k : Nat} (h : k < Ls.length) : digK Ls n k k = ((n / prodL (Ls.drop (k + 1)) % Ls.getD k 0 : Nat) : Int) := by
 unfold digK
 rw [if_pos (Nat.le_refl _), dig_at h]
theorem digK_old {Ls : List Nat} {n k j : Nat} (h : ¬ j = k) : digK Ls n k j = digK Ls n (k + 1) j := by
 unfold digK
 by_cases h1 : k ≤ j
 ·rw [if_pos h1, if_pos (by omega)]
 ·rw [if_neg h1, if_neg (by omega)]
theorem holds_digs {p : Pb} (hk : chkP p = 0) (n : Nat) : holdsV p p.C.length (digK (lensF p 0) n 0) = true ↔ GoodC p (digsI (lensF p 0) n) := by
 have e : digK (lensF p 0) n 0 = fI (digsI (lensF p 0) n) := funext fun j => if_pos (Nat.zero_le j)
 rw [e, holdsV_iff]
 constructor
 ·intro h k hk'
  rw [digs_len, lens_len] at hk'
  exact h.2 k hk'
 ·intro h
  exact ⟨⟨hk, rfl⟩, fun k hk' => h k (by rw [digs_len, lens_len]; exact hk')⟩
end Go.Proofs.Ytjjaehpkccejaaa
end

section
namespace Go.Proofs.Ytjjaehpkccejaaa
open Go.RowKit Go.Flow Go.AV Go.Plain
theorem prod_pos : ∀ {Ls : List Nat} {k : Nat}, k < Ls.length → 0 < prodL Ls → 0 < Ls.getD k 0
 | L :: Ls, 0, _, h => Nat.pos_of_mul_pos_right (show 0 < L * prodL Ls from h)
 | L :: Ls, k + 1, hk, h => prod_pos (Ls := Ls) (k := k) (by simpa using hk) (Nat.pos_of_mul_pos_left (show 0 < L * prodL Ls from h))
set_option maxHeartbeats 4000000 in
set_option maxRecDepth 100000 in
theorem AssignLeast_A (ll : List (List Int)) (hll : LlOk ll) : ACalls Try.prog 6 [.c (lsL ll)] (.c (bC true)) := by
 have hM := Made28_A ll hll
 have hok := made_ok ll
 have hchk := made_chk ll
 have hfit := made_fit ll
 obtain ⟨hc5, hl3⟩ := made_small ll
 have hSan := sanity28_A
 generalize made28 ll = p at *
 have hS := Solve28_A p hok
 have hnum := solve_num hfit hchk (fun l h => Nat.le_succ_of_le (hl3 l h)) hc5
 have hgl := solveV_len p
 have hlen := lens_len p
 have hget := fun k h => lens_get (p := p) (k := k) h
 have hlens3 : ∀ L ∈ lensF p 0, L ≤ 3 := fun L h => by
  obtain ⟨l, hl, rfl⟩ := List.mem_map.1 h
  exact hl3 l (by simpa using hl)
 have hhd := fun n => holds_digs hchk n
 have hHo := fun f => Holds28_A p hok p.C.length f (by omega)
 generalize solveV p = o at *
 obtain ⟨got, e⟩ := o
 dsimp only at hS hnum hgl
 generalize hLs : lensF p 0 = Ls at *
 have hP := prod_small hlens3 (by omega)
 have he : e = 0 ∨ e = 60 := hnum.imp (fun h => h.1) (fun h => h.1)
 have hSI := fun n => SameInts_A (digsI Ls n) got (by rw [digs_len]; omega)
 refine acalls_at Try.func6 rfl rfl Try.ntmps6 rfl ?_
 repeat (first
  | refine AWp.seq ?_
  | (refine aY (id := 0) ?_
     refine qr3 aC ?_
     refine aB ?_)
  | (refine aY (id := 1) ?_
     refine aH rfl rfl rfl rfl Try.func9 rfl (by kernel_rfl) (hSan) ?_
     refine qr3 aC ?_
     refine aB ?_)
  | (refine aY (id := 2) ?_
     refine qr3 aA ?_
     refine aH rfl rfl rfl rfl Try.func10 rfl (by kernel_rfl) (hM) ?_
     refine qr5 (aM tyOk) ?_
     refine qr8o2 (aI tyOk) ?_
     refine aB ?_)
  | (refine aY (id := 3) ?_
     refine qr7o2 (aF tyOk) ?_
     refine aH rfl rfl rfl rfl Try.func21 rfl (by kernel_rfl) (hS) ?_
     refine qr3 aA ?_
     (iterate 2 refine qr4 aN ?_)
     (iterate 2 refine qr3 aC ?_)
     refine aB ?_))
 have hyes : ∀ n, n < prodL Ls → GoodC p (digsI Ls n) → (∀ j, j < n → ¬ GoodC p (digsI Ls j)) → e = 0 ∧ digsI Ls n = got := fun n hn hg hno => by
  rcases hnum with ⟨k1, N, k2, k3, k4, k5⟩ | ⟨_, _, k3⟩
  ·have h1 : ¬ n < N := fun h => k5 n h hg
   have h2 : ¬ N < n := fun h => hno N h k4
   obtain rfl : n = N := by omega
   exact ⟨k1, k3.symm⟩
  ·exact absurd hg (k3 n)
 have hnone : (∀ n, n < prodL Ls → ¬ GoodC p (digsI Ls n)) → e = 60 ∧ got = [] := fun h => by
  rcases hnum with ⟨_, N, k2, _, k4, _⟩ | ⟨k1, k2, _⟩
  ·exact absurd k4 (h N k2)
  ·exact ⟨k1, k2⟩
 clear hnum
 rcases he with he | he
 all_goals
  repeat (first
   | refine AWp.seq ?_
   | refine thenA_n ?_
   | refine AWp.block ?_
   | refine AWp.skip ?_
   | refine AWp.condF rfl cnF ?_
   | (refine aY (id := 4) ?_
      refine qr3 aA ?_
      first | refine qr5t aK ?_ | refine qr5f aJ ?_
      refine qr3 aA ?_
      first | refine qr2 aG ?_ | refine qr3 aA ?_
      first | refine qr2 aG ?_ | refine qr5f aJ ?_
      first | refine qr4 aS ?_ | refine qr4 aR ?_
      refine aB ?_)
   | (refine aY (id := 6) ?_
      refine qr3 aC ?_
      refine aB ?_)
   | (refine aY (id := 7) ?_
      refine qr7 (aD tyOk) ?_
      refine qr7o2 (aE tyOk) ?_
      refine qr5 (aO tyOk) ?_
      refine qr3 aA ?_
      refine aB ?_))
  refine AWp.round (fun k : Nat =>
   mkSt 101 [(3, .c (bC true)), (4, .c (.pt 4 5 0 0)), (5, .c (lsI got)), (6, .c (iC e)), (7, .c (iC (prodL (Ls.take k)))), (29, .c (iC p.C.length)), (30, .c (iC (k : Nat)))] [(4, ⟨false, 1, 5, 32, lF (pbC p)⟩) ] [4 ]
   ) (fun k => k ≤ p.C.length) (fun k => p.C.length - k) 0 (Nat.zero_le _) ?_ (fun k hk => ?_)
  ·refine Wk.mk [(4, some 4)] rfl rfl rfl ?_ ?_
   ·exact allT
   ·exact allH
  by_cases hkl : k < p.C.length
  ·have hkl' : (k : Int) < p.C.length := by omega
   have hpt := prod_take (Ls := Ls) (k := k) (by omega)
   have hps := prod_small (Ls := Ls.take (k + 1)) (fun L h => hlens3 L (List.mem_of_mem_take h)) (by simp; omega)
   rw [hget k hkl] at hpt
   rw [hpt] at hps
   obtain ⟨L, hL⟩ : ∃ L, p.C.getD k [] = L := ⟨_, rfl⟩
   have hcF : chF p.C k 0 = lsB L := by rw [← hL]
   rw [hL] at hpt hps
   have hmul : ((prodL (Ls.take k) : Nat) : Int) * (L.length : Int) = ((prodL (Ls.take k) * L.length : Nat) : Int) := by simp
   repeat (first
    | refine AWp.seq ?_
    | refine thenA_n ?_
    | refine AWp.block ?_
    | refine AWp.skip ?_
    | refine inBlk_n ?_
    | refine AWp.condT rfl cnT ?_
    | (refine aY (id := 8) ?_
       refine qr5t aK ?_
       refine aB ?_)
    | (refine aY (id := 9) ?_
       refine qr3 aA ?_
       refine qr3 aC ?_
       refine aB ?_)
    | (refine aY (id := 10) ?_
       refine qr3 aA ?_
       refine qr7 (aD tyOk) ?_
       refine qr7o2 (aE tyOk) ?_
       refine qr3 aA ?_
       refine qr8eo2 (aP (k := k) tyOk) ?_
       refine AList.load1lE tyOk (hcF) rfl rfl rfl rfl rfl oM ?_
       refine qr5 (aO tyOk) ?_
       refine qr4w2 AList.mul ?_
       refine qr3 aC ?_
       refine aB ?_)
    | (refine aY (id := 11) ?_
       refine qr4w2 aL ?_
       refine qr3 aA ?_
       refine aB ?_))
   refine ⟨k + 1, hkl, ?_, by omega⟩
   rw [hpt]
   refine Wk.mk [(4, some 4)] rfl rfl rfl ?_ ?_
   ·exact allT
   ·exact allH
  have hkl' : ¬ (k : Int) < p.C.length := by omega
  obtain rfl : k = p.C.length := by omega
  have htk : Ls.take p.C.length = Ls := by rw [← hlen]; exact List.take_length
  rw [htk]
  have hcn : ((p.C.length : Nat) : Int) ≤ 5 := by omega
  repeat (first
   | refine AWp.seq ?_
   | refine thenA_n ?_
   | refine AWp.block ?_
   | refine AWp.exit ?_
   | refine AWp.condF rfl cnF ?_
   | (refine aY (id := 8) ?_
      refine qr5f aJ ?_
      refine aB ?_)
   | (refine aY (id := 12) ?_
      refine qr3 aC ?_
      refine aB ?_))
  refine AWp.round (fun n : Nat =>
   mkSt 101 [(3, .c (bC true)), (4, .c (.pt 4 5 0 0)), (5, .c (lsI got)), (6, .c (iC e)), (7, .c (iC (prodL Ls))), (9, .c (iC (n : Nat)))] [(4, ⟨false, 1, 5, 32, lF (pbC p)⟩) ] [4 ]
   ) (fun n => n ≤ prodL Ls ∧ ∀ j, j < n → ¬ GoodC p (digsI Ls j)) (fun n => prodL Ls - n) 0 ⟨Nat.zero_le _, fun _ h => absurd h (Nat.not_lt_zero _)⟩ ?_ (fun n hn => ?_)
  ·refine Wk.mk [(4, some 4)] rfl rfl rfl ?_ ?_
   ·exact allT
   ·exact allH
  obtain ⟨hn, hno⟩ := hn
  by_cases hnl : n < prodL Ls
  ·have hnl' : (n : Int) < prodL Ls := by omega
   have hpos := fun k h => prod_pos (Ls := Ls) (k := k) h (by omega)
   repeat (first
    | refine AWp.seq ?_
    | refine thenA_n ?_
    | refine AWp.block ?_
    | refine AWp.skip ?_
    | refine AWp.condT rfl cnT ?_
    | (refine aY (id := 13) ?_
       (iterate 2 refine qr3 aA ?_)
       refine qr5t aK ?_
       refine aB ?_)
    | (refine aY (id := 15) ?_
       refine qr7 (aD tyOk) ?_
       refine qr7o2 (aE tyOk) ?_
       refine qr5 (aO tyOk) ?_
       refine qr9e2o2 (AList.makeSl (n := p.C.length) tyOk) ?_
       refine qr3 aC ?_
       refine aB ?_)
    | (refine aY (id := 16) ?_
       refine qr3 aA ?_
       refine qr3 aC ?_
       refine aB ?_))
   refine AWp.weak (S' :=
    mkSt 101 [(3, .c (bC true)), (4, .c (.pt 4 5 0 0)), (5, .c (lsI got)), (6, .c (iC e)), (7, .c (iC (prodL Ls))), (9, .c (iC n)), (10, .c (.ow 60)), (11, .c (iC n))] [(4, ⟨false, 1, 5, 32, lF (pbC p)⟩) , (60, rowI p.C.length (digK Ls n p.C.length))] [4 , 60]
    ) (Wk.mk [(4, some 4), (60, some 50)] rfl rfl rfl ?_ ?_) ?_
   ·exact allT
   ·exact ⟨HeapOk.same rfl rfl rfl rfl, HeapOk.row rfl rfl rfl (fun i hi => cell1 ⟨by show iC 0 = iC _; unfold digK; rw [if_neg (Nat.not_le.2 hi)], rfl⟩), trivial⟩
   have h60 : ((((60, rowI p.C.length (digK Ls n p.C.length)) : Nat × AB).snd.n : Nat) : Int) ≤ 5 := by show ((p.C.length : Nat) : Int) ≤ 5; omega
   skip
   refine aY ?_
   refine qr3 aA ?_
   refine qr7 (AList.lenOw tyOk) ?_
   refine qr4w2 AList.sub ?_
   refine qr3 aC ?_
   refine aB ?_
   repeat (first
    | refine thenA_n ?_
    | refine AWp.block ?_)
   refine AWp.round (fun k : Nat =>
    mkSt 101 [(3, .c (bC true)), (4, .c (.pt 4 5 0 0)), (5, .c (lsI got)), (6, .c (iC e)), (7, .c (iC (prodL Ls))), (9, .c (iC n)), (10, .c (.ow 60)), (11, .c (iC ((n / prodL (Ls.drop k) : Nat) : Int))), (12, .c (iC ((k : Int) - 1)))] [(4, ⟨false, 1, 5, 32, lF (pbC p)⟩) , (60, rowI p.C.length (digK Ls n k))] [4 , 60]
    ) (fun k => k ≤ p.C.length) (fun k => k) p.C.length (Nat.le_refl _) ?_ (fun k hk => ?_)
   ·have h0 : n / prodL (Ls.drop p.C.length) = n := by rw [← hlen, List.drop_length]; exact Nat.div_one n
    rw [h0]
    refine Wk.mk [(4, some 4), (60, some 60)] rfl rfl rfl ?_ ?_
    ·exact allT
    ·exact ⟨HeapOk.same rfl rfl rfl rfl, HeapOk.row rfl rfl rfl (fun i hi => cell1 ⟨rfl, rfl⟩), trivial⟩
   rcases Nat.eq_zero_or_pos k with rfl | hk0
   ·have e0 : digK Ls n 0 = fI (digsI Ls n) := funext fun j => if_pos (Nat.zero_le j)
    have hHn := hHo (fI (digsI Ls n))
    have hg := hhd n
    rw [e0] at hg
    repeat (first
     | refine AWp.seq ?_
     | refine thenA_n ?_
     | refine AWp.exit ?_
     | refine AWp.condF rfl cnF ?_
     | (refine aY (id := 18) ?_
        refine qr3 aA ?_
        refine qr5f aJ ?_
        refine aB ?_))
    refine AWp.weak (S' :=
     mkSt 101 [(3, .c (bC true)), (4, .c (.pt 4 5 0 0)), (5, .c (lsI got)), (6, .c (iC e)), (7, .c (iC (prodL Ls))), (9, .c (iC n)), (10, .c (.ls p.C.length 1 (iF (fI (digsI Ls n)))))] [(4, ⟨false, 1, 5, 32, lF (pbC p)⟩) ] [4 ]
     ) (Wk.mk [(4, some 4)] rfl rfl rfl ?_ ?_) ?_
    ·repeat (first | exact trivial | refine ⟨⟨_, rfl, by first | exact LeA.c (LeC.fz rfl rfl rfl (fun i _ => cell1 ⟨by show iC (digK Ls n 0 i) = iC (fI (digsI Ls n) i); rw [e0], rfl⟩)) | exact leT⟩, ?_⟩)
    ·exact allH
    cases hv : holdsV p p.C.length (fI (digsI Ls n)) with
    | true =>
      rw [hv] at hHn hg
      obtain ⟨h1, h2⟩ := hyes n hnl (hg.1 rfl) hno
      have hsi : ACalls Try.prog 23 [.c (.ls p.C.length 1 (iF (fI (digsI Ls n)))), .c (lsI got)] (.c (bC true)) := by
       have h3 := hSI n
       rw [decide_eq_true h2] at h3
       have h4 : (digsI Ls n).length = p.C.length := by rw [digs_len, hlen]
       rw [← h4]
       exact h3
      try (exfalso; omega)
      all_goals
       repeat (first
        | refine AWp.seq ?_
        | refine thenA_n ?_
        | refine AWp.ret ?_
        | refine thenA_r ?_
        | refine inBlk_r ?_
        | refine AWp.condT rfl cnT ?_
        | (refine aY (id := 22) ?_
           refine qr7o2 (aF tyOk) ?_
           refine qr3 aA ?_
           refine aH rfl rfl rfl rfl Try.func14 rfl (by kernel_rfl) (hHn) ?_
           refine aB ?_)
        | (refine aY (id := 23) ?_
           (iterate 3 refine qr3 aA ?_)
           refine qr5t aK ?_
           refine qr4 aS ?_
           (iterate 3 refine qr3 aA ?_)
           refine aH rfl rfl rfl rfl Try.func23 rfl (by kernel_rfl) (hsi) ?_
           refine qr4 aS ?_
           refine qr3 aC ?_
           refine aB ?_))
       refine ⟨mkSt 101 [(2, .c (bC true))] [] [], [], Wk.mk [] rfl rfl rfl ?_ trivial, rfl, rfl, ARets.one (x := .c _) (ARes.tmp rfl rfl)⟩
       exact allT
    | false =>
      rw [hv] at hHn hg
      repeat (first
       | refine thenA_n ?_
       | refine AWp.skip ?_
       | refine inBlk_n ?_
       | refine AWp.condF rfl cnF ?_
       | (refine aY (id := 14) ?_
          refine qr3 aA ?_
          refine qr4w2 aL ?_
          refine qr3 aC ?_
          refine aB ?_)
       | (refine aY (id := 22) ?_
          refine qr7o2 (aF tyOk) ?_
          refine qr3 aA ?_
          refine aH rfl rfl rfl rfl Try.func14 rfl (by kernel_rfl) (hHn) ?_
          refine aB ?_))
      refine ⟨n + 1, ⟨hnl, fun j hj => ?_⟩, ?_, by omega⟩
      ·by_cases hjn : j = n
       ·rw [hjn]
        exact fun h => by have := hg.2 h; cases this
       ·exact hno j (by omega)
      ·refine Wk.mk [(4, some 4)] rfl rfl rfl ?_ ?_
       ·exact allT
       ·exact allH
   ·obtain ⟨j, rfl⟩ : ∃ j, k = j + 1 := ⟨k - 1, by omega⟩
    have hjl : j < p.C.length := by omega
    have hLg := hget j hjl
    have hLp := hpos j (by omega)
    have hdr := prod_drop (Ls := Ls) (k := j) (by omega)
    have hnew := digK_new (Ls := Ls) (n := n) (k := j) (by omega)
    rw [hLg] at hLp hdr hnew
    obtain ⟨L, hL⟩ : ∃ L, p.C.getD j [] = L := ⟨_, rfl⟩
    have hcF : chF p.C j 0 = lsB L := by rw [← hL]
    rw [hL] at hLp hdr hnew
    have hdv : n / prodL (Ls.drop j) = n / prodL (Ls.drop (j + 1)) / L.length := by rw [hdr, Nat.mul_comm, Nat.div_div_eq_div_mul]
    have hRle : n / prodL (Ls.drop (j + 1)) ≤ n := Nat.div_le_self _ _
    have hL3 : L.length ≤ 3 := by rw [← hL]; exact hl3 _ (getD_mem28 hjl)
    generalize n / prodL (Ls.drop (j + 1)) = R at *
    have e1 : ((R % L.length : Nat) : Int) = (R : Int) % (L.length : Int) := by simp
    have e2 : ((R / L.length : Nat) : Int) = (R : Int) / (L.length : Int) := by simp
    repeat (first
     | refine AWp.seq ?_
     | refine thenA_n ?_
     | refine AWp.block ?_
     | refine AWp.skip ?_
     | refine inBlk_n ?_
     | refine AWp.condT rfl cnT ?_
     | (refine aY (id := 18) ?_
        refine qr3 aA ?_
        refine qr5t aK ?_
        refine aB ?_)
     | (refine aY (id := 19) ?_
        refine qr3 aA ?_
        refine qr4w2 AList.sub ?_
        refine qr3 aC ?_
        refine aB ?_)
     | (refine aY (id := 20) ?_
        (iterate 3 refine qr3 aA ?_)
        refine qr7 (aD tyOk) ?_
        refine qr7o2 (aE tyOk) ?_
        refine qr3 aA ?_
        refine qr8eo2 (aP (k := j) tyOk) ?_
        refine AList.load1lE tyOk (hcF) rfl rfl rfl rfl rfl oM ?_
        refine qr5 (aO tyOk) ?_
        refine qr4w2 AList.rem ?_
        refine qr10eo (AList.idxOw (k := j) tyOk) ?_
        refine qr8o2 (aI tyOk) ?_
        refine aB ?_)
     | (refine aY (id := 21) ?_
        refine qr3 aA ?_
        refine qr7 (aD tyOk) ?_
        refine qr7o2 (aE tyOk) ?_
        refine qr3 aA ?_
        refine qr8eo2 (aP (k := j) tyOk) ?_
        refine AList.load1lE tyOk (hcF) rfl rfl rfl rfl rfl oM ?_
        refine qr5 (aO tyOk) ?_
        refine qr4w3 AList.quo ?_
        refine qr3 aC ?_
        refine aB ?_))
    refine ⟨j, by omega, ?_, by omega⟩
    rw [hdv]
    refine Wk.mk [(4, some 4), (60, some 60)] rfl rfl rfl ?_ ?_
    ·repeat (first | exact trivial | refine ⟨⟨_, rfl, by first | exact LeA.int e2.symm | exact leT⟩, ?_⟩)
    ·exact ⟨HeapOk.same rfl rfl rfl rfl, HeapOk.row rfl rfl rfl (set_one (e := (R : Int) % (L.length : Int)) (digK Ls n j) (by rw [hnew, e1]) (fun i hi => digK_old hi)), trivial⟩
  ·have hnl' : ¬ (n : Int) < prodL Ls := by omega
   obtain rfl : n = prodL Ls := by omega
   obtain ⟨h1, h2⟩ := hnone hno
   subst h2
   try (exfalso; omega)
   all_goals
    repeat (first
     | refine AWp.seq ?_
     | refine thenA_n ?_
     | refine AWp.exit ?_
     | refine AWp.ret ?_
     | refine AWp.condF rfl cnF ?_
     | (refine aY (id := 13) ?_
        (iterate 2 refine qr3 aA ?_)
        refine qr5f aJ ?_
        refine aB ?_)
     | (refine aY (id := 24) ?_
        (iterate 3 refine qr3 aA ?_)
        refine qr5t aK ?_
        refine qr4 aS ?_
        (iterate 2 refine qr3 aA ?_)
        refine qr5 (aO tyOk) ?_
        refine qr5 aW ?_
        refine qr4 aS ?_
        refine qr3 aC ?_
        refine aB ?_))
    refine ⟨mkSt 101 [(2, .c (bC true))] [] [], [], Wk.mk [] rfl rfl rfl ?_ trivial, rfl, rfl, ARets.one (x := .c _) (ARes.tmp rfl rfl)⟩
    exact allT
end Go.Proofs.Ytjjaehpkccejaaa
end

section
namespace Go.Proofs.Ytjjaehpkccejaaa.assignLeast
open Go.ChangeShapes Go.WideShapes Go.ChangeAt Go.RowKit Go.Flow Go.AV
set_option maxRecDepth 100000 in
theorem contract (H : Type) (enc : TypeId × Value → H) (W : World) (base : Nat) (args : Array Value) (ds gs : List (DataW H)) (before : List MemPlace)
 (hval : ∀ (j : Nat) t v, Try.f6.params[j]? = some t → args[j]? = some v → Value.okWide Try.prog W .any base t v)
 (hW : DataW.Whole enc Try.prog Try.f6.params.toList Rows.assignLeastSpec.vars false W args.toList ds gs before)
 (hsz : (DataW.weightsEach Try.prog (Try.f6.params.toList ++ (OpenSpec.ofChange Rows.assignLeastSpec).bare.plain.varTypes Try.prog) (ds ++ gs)).all (· ≤ reachBytes) = true) :
 Calls Try.prog 6 args W fun e W' => ∃ v, e = .returned v ∧ Rows.assignLeastSpec.post enc Try.prog Try.f6 false true false false W args v W' := by
 have hW' := hW
 obtain ⟨p, q, hA0, hV, rfl, hfz, hnd⟩ := hW
 have hA : DataW.TrodAll enc Try.prog W 0 (fun _ => true) true Try.f6.params.toList args.toList ds p := hA0
 have hAk := hA0
 rw [Try.params6] at hA hval hsz
 obtain ⟨rfl, rfl⟩ := trodVars_none hV
 obtain ⟨v0, vs0, d0, ds0, p0, q0, hargs, rfl, rfl, h0, t0⟩ := trodAll_cons hA
 obtain ⟨rfl, rfl, rfl⟩ := trodAll_nil t0
 obtain rfl : args = #[v0] := by rw [← Array.toList_inj]; exact hargs
 have hlt := fun x hx => hW'.lt x hx
 simp only [List.append_nil] at hW'
 rw [List.append_nil] at hsz
 obtain ⟨a0, ok0, r0⟩ := opn_ll.argC (cells_slice Try.underlying22 (hval 0 22 v0 rfl rfl)) h0 (weigh hsz 0 (t := 22) (d := d0) rfl rfl)
 refine ((ECalls.of (AssignLeast_A a0 ok0)) O0 W [_] (fun b h => h.elim) ⟨r0, trivial⟩).mono fun e W' ⟨v, r, he, hr, hv, hE⟩ => ?_
 subst hr
 obtain rfl : v = .bool true := hv.2
 subst he
 exact ⟨_, rfl, post_below (pv := []) hW' (fun _ _ _ => trodAll_cons_mk (shut_bool Try.underlying4 _) trodAll_mk0)
  (fun sp hsp => trodAll_below laidOut hE (by rw [Try.params6]; intro t ht; simp only [List.mem_cons, List.not_mem_nil, or_false] at ht; rcases ht with rfl <;> exact ⟨by kernel_rfl, of_decide_eq_true (by kernel_rfl)⟩) hAk (fun x hx => hlt x (by rw [List.append_nil]; exact hx)) sp (fun x hx => hsp x (by simpa only [List.append_nil] using hx)))
  (fun _ _ => rfl) (by simp) hE (ok_one (by kernel_rfl) rfl (okWide_bool_mk Try.underlying4 _))⟩
theorem own : ownKnob Try.prog.godebug = none := by kernel_rfl
set_option maxRecDepth 100000 in
theorem lifted (os : Os) (started : os.Started) (H : Type) (enc : TypeId × Value → H) :
 ReturnsInHanded {} Try.checked os 6 .any (Rows.assignLeastSpec.pre6 enc Try.prog Try.f6 Rows.assignLeastRow.domain false) (Rows.assignLeastSpec.post enc Try.prog Try.f6 false true false false) := by
 refine returnsInHanded_of_change_sized (C := Try.checked) own started (by kernel_rfl) Try.func6
  (ChangeSpec.witness6 (enc := enc) (C := Try.checked) false ⟨#[], #[.slice none 0 0], []⟩ 8 (by kernel_rfl) (by kernel_rfl) (by kernel_rfl) (by kernel_rfl)) ?_
 intro W base args ds gs before hval hW _ hsz _
 exact contract H enc W base args ds gs before hval hW hsz
theorem said : Rows.AssignLeastSaid :=
 OpenClaim.holds_of_wide 6 Try.f6 rfl rfl rfl rfl rfl rfl rfl ⟨rfl, rfl, rfl, rfl, rfl⟩ rfl rfl rfl rfl rfl (by kernel_rfl) Try.func6 (by kernel_rfl)
  (of_decide_eq_true (by kernel_rfl)) (by unfold Func.isWrapper; first | (rw [if_pos (by decide +kernel)]; kernel_rfl) | (rw [if_neg (by decide +kernel)]; exact ⟨rfl, rfl⟩))
  (fun os started H enc _ => lifted os started H enc)
end Go.Proofs.Ytjjaehpkccejaaa.assignLeast
end
