/- Parts of the proof: AU64, A25v, A25bp, A25bq, A25bd. -/
import Derived.Test.YtekkldgmjdllbaaG36
import Derived.Test.YtekkldgmjdllbaaG31
import Derived.Test.YtekkldgmjdllbaaG23
import Derived.Lib.Builder
import Derived.Lib.UnsafeStr
import Derived.Laws.Externs
import Derived.Lib.BufferRead
import Derived.Test.YtekkldgmjdllbaaG30
import Derived.Test.YtekkldgmjdllbaaG07
import Derived.Test.YtekkldgmjdllbaaHA25byr01
import Derived.Laws.Pointers
import Derived.Test.YtekkldgmjdllbaaG06
import Derived.Test.YtekkldgmjdllbaaG29
import Derived.Test.YtekkldgmjdllbaaG09
import Derived.Test.YtekkldgmjdllbaaG28
import Derived.WideKeyMaps
import Derived.MapKept
import Derived.Carry
import Derived.Shelf.Abstract
import Derived.Test.YtekkldgmjdllbaaG20
import Derived.Test.YtekkldgmjdllbaaG05
import Derived.Great.BuildSlice
import Derived.Test.YtekkldgmjdllbaaG08
import Derived.RangeFuncNested
import Derived.Laws.Cover3
import Derived.Test.YtekkldgmjdllbaaG04
import Derived.Test.YtekkldgmjdllbaaG03
import Derived.RangeFuncLeaves
import Derived.RangeFuncRecord
import Derived.Laws.StructEq
import Derived.Test.YtekkldgmjdllbaaG02
import Derived.Test.YtekkldgmjdllbaaG01
import Derived.Deep.AppendLies
import Derived.OrdersIn
import Derived.TacticsIn
import Derived.RangeFuncCalls
import Derived.Maps.AppendAt
import Derived.OwnWalk
import Derived.StillTail
import Derived.Below
import Derived.Deep.Draws
import Derived.WalkKit
import Derived.KernelRfl
import Derived.Test.YtekkldgmjdllbaaG39
import Derived.Test.YtekkldgmjdllbaaG37
import Derived.Test.YtekkldgmjdllbaaG25
import Derived.Test.YtekkldgmjdllbaaG38
import Derived.Test.YtekkldgmjdllbaaG17
import Derived.Test.YtekkldgmjdllbaaG18
import Derived.Test.YtekkldgmjdllbaaG24
import Derived.Test.YtekkldgmjdllbaaProg
import Derived.Test.YtekkldgmjdllbaaG15
import Derived.Test.YtekkldgmjdllbaaG11
import Derived.Test.YtekkldgmjdllbaaG35
import Derived.Test.YtekkldgmjdllbaaG22
import Derived.Test.YtekkldgmjdllbaaG10
import Derived.Test.YtekkldgmjdllbaaG33
import Derived.Test.YtekkldgmjdllbaaG16
import Derived.Lib.Hide
import Derived.Deep.QuietTactic
import Derived.BigQuiet
import Derived.Deep.DrawnRows
import Derived.Test.YtekkldgmjdllbaaG32
import Derived.Test.YtekkldgmjdllbaaG34
import Derived.Test.YtekkldgmjdllbaaG21
import Derived.Test.YtekkldgmjdllbaaG27
import Derived.Scope
import Derived.Test.YtekkldgmjdllbaaG19
import Derived.Test.YtekkldgmjdllbaaG13
import Derived.Test.YtekkldgmjdllbaaG14
import Derived.Test.YtekkldgmjdllbaaG12
set_option linter.unusedSimpArgs false
set_option linter.unusedVariables false
section
namespace Go.AV
open Go Go.RowKit Go.Flow
section
variable {P : Program} {t : TypeId}
theorem or_run64 {a b c : Nat} (ha : a < 18446744073709551616) (hb : b < 18446744073709551616) (h : a ||| b = c) (w : World) : (Go.binOp .or t (.int .u64 (a : Int)) (.int .u64 (b : Int))).run P w = .ok (.int .u64 (c : Int)) w := by
 have h1 : (BitVec.ofInt 64 (a : Int) ||| BitVec.ofInt 64 (b : Int)).toNat = c := by rw [BitVec.toNat_or, bv_nat (by simpa using ha), bv_nat (by simpa using hb), h]
 have h2 : c < 2 ^ 64 := by rw [← h]; exact Nat.or_lt_two_pow (by simpa using ha) (by simpa using hb)
 have h3 := wrap_u64n (a := c) (by simpa using h2)
 show Result.ok _ _ = _
 rw [show IntKind.bits .u64 = 64 from rfl, h1, h3]
theorem and_run8 {a b c : Nat} (ha : a < 256) (hb : b < 256) (h : a &&& b = c) (w : World) : (Go.binOp .and t (.int .u8 (a : Int)) (.int .u8 (b : Int))).run P w = .ok (.int .u8 (c : Int)) w := by
 have h1 : (BitVec.ofInt 8 (a : Int) &&& BitVec.ofInt 8 (b : Int)).toNat = c := by rw [BitVec.toNat_and, bv_nat (by simpa using ha), bv_nat (by simpa using hb), h]
 have h2 : c ≤ a := by rw [← h]; exact Nat.and_le_left
 have h3 := wrap_u8n (a := c) (by omega)
 show Result.ok _ _ = _
 rw [show IntKind.bits .u8 = 8 from rfl, h1, h3]
theorem not_runI {x : Int} (h0 : -9223372036854775808 ≤ x ∧ x ≤ 9223372036854775807) (w : World) : (Op.unary .xor (.int .i64 x)).run P w = .ok (.int .i64 (-x - 1)) w := by
 have h1 : IntKind.i64.wrap ((BitVec.ofInt 64 (-1) ^^^ BitVec.ofInt 64 x).toNat : Int) = -x - 1 := by
  have : BitVec.ofInt 64 (-1) = BitVec.allOnes 64 := by decide
  rw [this, BitVec.allOnes_xor, BitVec.toNat_not, BitVec.toNat_ofInt, IntKind.wrap_i64]
  omega
 show Result.ok _ _ = _
 rw [show IntKind.bits .i64 = 64 from rfl, show (if IntKind.i64.signed = true then (-1 : Int) else IntKind.i64.max) = -1 from rfl, h1]
theorem insB_pos (l : List Int) : 0 < (insB l).length := by
 unfold insB
 rw [List.length_append]
 have := inB_pos (l.length : Int)
 omega
end
end Go.AV
end
section
namespace Go.Proofs.Ytekkldgmjdllbaa
open Go.RowKit Go.Flow Go.AV Go.Plain
def few1 (w : Wt) : Wt := (w.1.take 60, w.2.take 60)
def fewV (p : List Wt) : List Wt := (p.take 90).map few1
abbrev cut60 (l : List Int) : CV := .ls (min l.length 60 - 0) 1 (fun k j => iF (fun i => l.getD i 0) (0 + k) j)
abbrev fwC (w : Wt) : List CV := [cut60 w.1, cut60 w.2]
theorem fwC_imm (w : Wt) : (fwC w).all immC = true := rfl
theorem cut60_cv (l : List Int) : Cv (cut60 l) (liV (l.take 60)) := fun σ O w u hu => by
 refine ⟨hu.1, ?_⟩
 have hn : (l.take 60).length = min l.length 60 - 0 := by rw [List.length_take]; omega
 show RepI O w (.ls (l.take 60).length 1 _) u
 rw [hn]
 refine RepI.ls_congr (fun k hk j hj => ?_) hu.2
 show CV.p (.int .i64 (l.getD (0 + k) 0)) = CV.p (.int .i64 ((l.take 60).getD k 0))
 rw [Nat.zero_add, List.getD_eq_getElem?_getD, List.getD_eq_getElem?_getD, List.getElem?_take_of_lt (by omega)]
theorem fewV_get (p : List Wt) {k : Nat} (hk : k < (p.take 90).length) : (fewV p).getD k wtZ = few1 ((p.take 90).getD k wtZ) := by
 unfold fewV
 rw [List.getD_eq_getElem?_getD, List.getD_eq_getElem?_getD, List.getElem?_map, List.getElem?_eq_getElem hk]
 rfl
theorem fewV_len (p : List Wt) : (fewV p).length = (p.take 90).length := List.length_map ..
set_option maxHeartbeats 2000000 in
set_option maxRecDepth 100000 in
theorem few_A (p : List Wt) (hp : p.length ≤ 4611686018427387904) (hl : ∀ k, k < p.length → (p.getD k wtZ).1.length ≤ 4611686018427387904 ∧ (p.getD k wtZ).2.length ≤ 4611686018427387904) : ACalls Try.prog 11 [.c (wpC p)] (.c (wpL (fewV p))) := by
 refine acalls_at Try.func11 rfl rfl Try.ntmps11 rfl ?_
 repeat (first
  | refine uA ?_
  | refine uB ?_
  | refine uC ?_
  | (refine rG 0 ?_
     refine kC ?_
     refine aB ?_)
  | (refine rG 1 ?_
     refine kC ?_
     refine aB ?_)
  | (refine rG 2 ?_
     refine kC ?_
     refine aB ?_))
 refine AWp.round (fun i : Nat => mkSt 46 [(0, .c (wpC p)), (3, .c (.ow 50)), (4, .c (iC i))] [(50, ⟨true, i, 2, 62, rowF fwC wtZ (p.take i)⟩)] [50])
  (fun i => i ≤ p.length ∧ i ≤ 90) (fun i => p.length - i) 0 ⟨Nat.zero_le _, Nat.zero_le _⟩ ?_ (fun i hi => ?_)
 ·refine Wk.mk [(50, none)] rfl rfl rfl ?_ ?_
  ·exact allT
  ·exact allH
 by_cases h1 : i < p.length ∧ i < 90
 ·obtain ⟨h1, h2⟩ := h1
  obtain ⟨l1, l2⟩ := hl i h1
  have h1' : (i : Int) < p.length := by omega
  have q1 : rowF wtC wtZ p i 0 = liV (p.getD i wtZ).1 := rfl
  have q2 : rowF wtC wtZ p i 1 = liV (p.getD i wtZ).2 := rfl
  have ht : p.take (i + 1) = p.take i ++ [p.getD i wtZ] := take_snocG h1 wtZ
  have hli : (p.take i).length = i := by rw [List.length_take]; omega
  generalize p.getD i wtZ = w at *
  have m1 : min (w.1.length : Int) 60 = ((min w.1.length 60 : Nat) : Int) := by omega
  have m2 : min (w.2.length : Int) 60 = ((min w.2.length 60 : Nat) : Int) := by omega
  have m3 : min w.1.length 60 ≤ w.1.length := by omega
  have m4 : min w.2.length 60 ≤ w.2.length := by omega
  repeat (first
   | refine uA ?_
   | refine uB ?_
   | refine uC ?_
   | refine uG ?_
   | refine uD ?_
   | refine kT ?_
   | (refine rG 3 ?_
      (iterate 2 refine kA ?_)
      refine qr5 (aO tyOk) ?_
      refine qr5t aK ?_
      (iterate 2 refine kA ?_)
      refine qr5t aK ?_
      refine qr4 aS ?_
      refine aB ?_)
   | (refine rG 4 ?_
      refine kA ?_
      refine qr4w2 aL ?_
      refine kC ?_
      refine aB ?_)
   | (refine AWp.draw (id := 5) mixed ?_; (iterate 3 refine kA ?_); refine qr8eo2 (aP (k := i) tyOk) ?_; refine qr7 (AList.fieldPl tyOk) ?_; refine AList.load1lE tyOk (q1) rfl rfl rfl rfl rfl oM ?_; (iterate 2 refine kA ?_); refine qr8eo2 (aP (k := i) tyOk) ?_; refine qr7 (AList.fieldPl tyOk) ?_; refine AList.load1lE tyOk (q1) rfl rfl rfl rfl rfl oM ?_; refine qr5 (aO tyOk) ?_; refine qr4 AList.minI ?_; refine AList.cut (l := 0) (h := min w.1.length 60) tyOk rfl rfl rfl rfl rfl rfl rfl rfl ⟨_, _, rfl, by first | rfl | omega⟩ (by omega) (by omega) ?_; (iterate 2 refine kA ?_); refine qr8eo2 (aP (k := i) tyOk) ?_; refine qr7 (AList.fieldPl tyOk) ?_; refine AList.load1lE tyOk (q2) rfl rfl rfl rfl rfl oM ?_; (iterate 2 refine kA ?_); refine qr8eo2 (aP (k := i) tyOk) ?_; refine qr7 (AList.fieldPl tyOk) ?_; refine AList.load1lE tyOk (q2) rfl rfl rfl rfl rfl oM ?_; refine qr5 (aO tyOk) ?_; refine qr4 AList.minI ?_; refine AList.cut (l := 0) (h := min w.2.length 60) tyOk rfl rfl rfl rfl rfl rfl rfl rfl ⟨_, _, rfl, by first | rfl | omega⟩ (by omega) (by omega) ?_; refine qr8 (aX tyOk) ?_; refine qr11 (AList.litSl tyOk) ?_; refine AList.appL tyOk rfl rfl rfl rfl rfl rfl rfl rfl rfl rfl oM oM ?_; refine kC ?_; refine aB ⟨by kernel_rfl, ?_⟩))
  refine ⟨i + 1, ⟨h1, h2⟩, Wk.mk [(50, some 44)] rfl rfl rfl ?_ ?_, by omega⟩
  ·exact allT
  ·refine ⟨HeapOk.row rfl rfl rfl ?_, trivial⟩
   have := row_snoc (c := fwC) (z := wtZ) (sz := 2) (p.take i) w fwC_imm rfl
   rw [hli] at this
   rw [ht]
   exact this
 ·have hcv : ∀ k, k < i → ∀ j, j < 2 → Cv (rowF fwC wtZ (p.take i) k j) (rowF wtC wtZ (fewV p) k j) := fun k hk j hj => by
   have hti : p.take i = p.take 90 := by
    rcases Nat.lt_or_ge i 90 with h | h
    ·have : p.length ≤ i := by omega
     rw [List.take_of_length_le this, List.take_of_length_le (by omega)]
    ·rw [show i = 90 by omega]
   have hli : (p.take i).length = i := by rw [List.length_take]; omega
   have hg := fewV_get p (k := k) (by rw [← hti, hli]; exact hk)
   rw [hti]
   unfold rowF
   rw [hg]
   match j, hj with
   | 0, _ => exact cut60_cv _
   | 1, _ => exact cut60_cv _
  have hlen : i = (fewV p).length := by rw [fewV_len, List.length_take]; omega
  by_cases h2 : (i : Int) < p.length
  ·have h3 : ¬ (i : Int) < 90 := by omega
   repeat (first
    | refine uA ?_
    | refine uB ?_
    | refine uH ?_
    | refine kU ?_
    | (refine rG 3 ?_
       (iterate 2 refine kA ?_)
       refine qr5 (aO tyOk) ?_
       refine qr5t aK ?_
       (iterate 2 refine kA ?_)
       refine qr5f aJ ?_
       refine qr4 aS ?_
       refine aB ?_))
   refine AWp.cvBox (id := 50) (rowF wtC wtZ (fewV p)) rfl rfl hcv ?_
   repeat (first
    | refine uB ?_
    | refine AWp.ret ?_
    | (refine rG 6 ?_
       refine kA ?_
       refine kC ?_
       refine aB ?_))
   refine ⟨mkSt 46 [(2, .c (wpL (fewV p)))] [] [], [], Wk.mk [] rfl rfl rfl ?_ trivial, rfl, rfl, aR1⟩
   exact ⟨⟨_, rfl, .c (LeC.fz rfl rfl hlen.symm (fun i _ j _ => ⟨rfl, rowF_imm wtC_imm _ i j⟩))⟩, trivial⟩
  ·repeat (first
    | refine uA ?_
    | refine uB ?_
    | refine uH ?_
    | refine kU ?_
    | (refine rG 3 ?_
       (iterate 2 refine kA ?_)
       refine qr5 (aO tyOk) ?_
       refine qr5f aJ ?_
       refine kA ?_
       (iterate 2 refine qr2 aG ?_)
       refine qr4 aR ?_
       refine aB ?_))
   refine AWp.cvBox (id := 50) (rowF wtC wtZ (fewV p)) rfl rfl hcv ?_
   repeat (first
    | refine uB ?_
    | refine AWp.ret ?_
    | (refine rG 6 ?_
       refine kA ?_
       refine kC ?_
       refine aB ?_))
   refine ⟨mkSt 46 [(2, .c (wpL (fewV p)))] [] [], [], Wk.mk [] rfl rfl rfl ?_ trivial, rfl, rfl, aR1⟩
   exact ⟨⟨_, rfl, .c (LeC.fz rfl rfl hlen.symm (fun i _ j _ => ⟨rfl, rowF_imm wtC_imm _ i j⟩))⟩, trivial⟩
theorem few_ok (p : List Wt) (hr : ∀ k, k < p.length → (∀ i, i < (p.getD k wtZ).1.length → iOk ((p.getD k wtZ).1.getD i 0)) ∧ ∀ i, i < (p.getD k wtZ).2.length → iOk ((p.getD k wtZ).2.getD i 0)) : PrR (fewV p) ∧ (fewV p).length ≤ 90 := by
 have hl := fewV_len p
 rw [List.length_take] at hl
 have tk : ∀ l : List Int, (∀ i, i < l.length → iOk (l.getD i 0)) → lOk (l.take 60) := fun l hl => by
  refine ⟨by rw [List.length_take]; omega, fun k hk => ?_⟩
  rw [List.length_take] at hk
  rw [List.getD_eq_getElem?_getD, List.getElem?_take_of_lt (by omega), ← List.getD_eq_getElem?_getD]
  exact hl k (by omega)
 refine ⟨⟨by omega, fun k hk => ?_⟩, by omega⟩
 have hk9 : k < (p.take 90).length := by rw [← fewV_len]; exact hk
 rw [fewV_get p hk9]
 rw [List.length_take] at hk9
 obtain ⟨h1, h2⟩ := hr k (by omega)
 rw [List.getD_eq_getElem?_getD, List.getElem?_take_of_lt (by omega), ← List.getD_eq_getElem?_getD]
 exact ⟨tk _ h1, tk _ h2⟩
def unz (c : Nat) : Int := if c % 2 = 1 then -((c / 2 : Nat) : Int) - 1 else ((c / 2 : Nat) : Int)
theorem unz_zz (n : Int) : unz (zz n) = n := by
 unfold unz zz
 by_cases h : n < 0
 ·rw [if_pos h, if_pos (by omega)]
  omega
 ·rw [if_neg h, if_neg (by omega)]
  omega
theorem zz_unz (c : Nat) : zz (unz c) = c := by
 unfold unz zz
 by_cases h : c % 2 = 1
 ·rw [if_pos h, if_pos (by omega)]
  omega
 ·rw [if_neg h, if_neg (by omega)]
  omega
theorem unz_ok {c : Nat} (h : c < 18446744073709551616) : iOk (unz c) := by
 unfold unz iOk
 split <;> omega
def decF (k code : Nat) : List UInt8 → Int × Nat
 | [] => (0, 0)
 | b :: s =>
   if 10 ≤ k then (0, 0)
   else if 128 ≤ b.toNat then decF (k + 1) (code + b.toNat % 128 * 128 ^ k) s
   else if (0 < k ∧ b.toNat = 0) ∨ (k = 9 ∧ 1 < b.toNat) then (0, 0)
   else (unz (code + b.toNat * 128 ^ k), k + 1)
def decV (s : List UInt8) : Int × Nat := decF 0 0 s
theorem p128 (k : Nat) : 128 ^ (k + 1) = 128 ^ k * 128 := Nat.pow_succ ..
theorem p_le {k : Nat} (h : 128 ^ (k + 1) < 18446744073709551616) : k + 1 ≤ 9 := by
 refine Decidable.byContradiction fun hk => ?_
 have : 128 ^ 10 ≤ 128 ^ (k + 1) := Nat.pow_le_pow_right (by decide) (by omega)
 have e : 128 ^ 10 = 1180591620717411303424 := by decide
 omega
theorem u8_lt (b : UInt8) : b.toNat < 256 := b.toNat_lt
theorem decF_enc (r : List UInt8) : ∀ (f k code c : Nat), c < 128 ^ (f + 1) → c * 128 ^ k < 18446744073709551616 → k ≤ 9 → (k = 0 ∨ 0 < c) → decF k code (vzF f c ++ r) = (unz (code + c * 128 ^ k), k + (vzF f c).length) := fun f => by
 have last : ∀ (k code c : Nat), c < 128 → c * 128 ^ k < 18446744073709551616 → k ≤ 9 → (k = 0 ∨ 0 < c) → decF k code ([UInt8.ofNat (c % 256)] ++ r) = (unz (code + c * 128 ^ k), k + 1) := fun k code c hc hm hk h0 => by
  have hb : (UInt8.ofNat (c % 256)).toNat = c := by rw [u8_of (by omega)]; omega
  show (if 10 ≤ k then _ else _) = _
  rw [if_neg (by omega), hb, if_neg (by omega), if_neg]
  rintro (⟨h1, h2⟩ | ⟨rfl, h2⟩)
  ·omega
  ·have e : 128 ^ 9 = 9223372036854775808 := by decide
   rw [e] at hm
   omega
 induction f with
 | zero =>
   intro k code c hc hm hk h0
   exact last k code c (by simpa using hc) hm hk h0
 | succ f ih =>
   intro k code c hc hm hk h0
   by_cases hc1 : c < 128
   ·have : vzF (f + 1) c = [UInt8.ofNat (c % 256)] := if_pos hc1
    rw [this]
    exact last k code c hc1 hm hk h0
   ·have e : vzF (f + 1) c = UInt8.ofNat (c % 128 + 128) :: vzF f (c / 128) := if_neg hc1
    have hb : (UInt8.ofNat (c % 128 + 128)).toNat = c % 128 + 128 := u8_of (by omega)
    have hk9 : k + 1 ≤ 9 := p_le (by
     rw [p128, Nat.mul_comm]
     exact Nat.lt_of_le_of_lt (Nat.mul_le_mul_right _ (by omega)) hm)
    have hdm : c / 128 * 128 ^ (k + 1) + c % 128 * 128 ^ k = c * 128 ^ k := by
     rw [p128, ← Nat.mul_assoc, Nat.mul_right_comm, ← Nat.add_mul]
     congr 1
     omega
    rw [e, List.cons_append]
    show (if 10 ≤ k then _ else _) = _
    rw [if_neg (by omega), hb, if_pos (by omega), show (c % 128 + 128) % 128 = c % 128 by omega, ih (k + 1) _ (c / 128) (by rw [p128] at hc; exact Nat.div_lt_of_lt_mul (by omega)) (by omega) hk9 (.inr (by omega)), List.length_cons]
    congr 1
    ·congr 1
     omega
    ·omega
theorem decV_enc (n : Int) (hn : iOk n) (r : List UInt8) : decV (inB n ++ r) = (n, (inB n).length) := by
 have hz := zz_lt hn
 have := decF_enc r 10 0 0 (zz n) (Nat.lt_of_lt_of_le hz (by decide)) (by omega) (by omega) (.inl rfl)
 rw [Nat.pow_zero, Nat.mul_one, Nat.zero_add, Nat.zero_add, unz_zz] at this
 exact this
theorem decF_can : ∀ (s : List UInt8) (f k code : Nat) (n : Int) (u : Nat), k + f = 10 → decF k code s = (n, u) → 0 < u → ∃ c, n = unz (code + c * 128 ^ k) ∧ c * 128 ^ k < 18446744073709551616 ∧ s = vzF f c ++ s.drop (u - k) ∧ u = k + (vzF f c).length ∧ (k = 0 ∨ 0 < c)
 | [], f, k, code, n, u, hk, h, hu => by
   cases h
   omega
 | b :: s, f, k, code, n, u, hk, h, hu => by
   have hb := u8_lt b
   have h' : (if 10 ≤ k then ((0 : Int), 0) else if 128 ≤ b.toNat then decF (k + 1) (code + b.toNat % 128 * 128 ^ k) s else if (0 < k ∧ b.toNat = 0) ∨ (k = 9 ∧ 1 < b.toNat) then (0, 0) else (unz (code + b.toNat * 128 ^ k), k + 1)) = (n, u) := h
   by_cases hk10 : 10 ≤ k
   ·rw [if_pos hk10] at h'
    cases h'
    omega
   rw [if_neg hk10] at h'
   obtain ⟨f, rfl⟩ : ∃ g, f = g + 1 := ⟨f - 1, by omega⟩
   by_cases h128 : 128 ≤ b.toNat
   ·rw [if_pos h128] at h'
    obtain ⟨c, e1, e2, e3, e4, e5⟩ := decF_can s f (k + 1) _ n u (by omega) h' hu
    have hc0 : 0 < c := e5.resolve_left (by omega)
    have hcc : (b.toNat % 128 + 128 * c) * 128 ^ k = b.toNat % 128 * 128 ^ k + c * 128 ^ (k + 1) := by
     rw [p128, Nat.add_mul, Nat.mul_right_comm, Nat.mul_comm (128 * 128 ^ k) c, Nat.mul_comm 128]
    have e : vzF (f + 1) (b.toNat % 128 + 128 * c) = b :: vzF f c := by
     show (if _ then _ else _) = _
     rw [if_neg (by omega), show (b.toNat % 128 + 128 * c) % 128 + 128 = b.toNat by omega, show (b.toNat % 128 + 128 * c) / 128 = c by omega]
     congr 1
     exact UInt8.toNat_inj.mp (by rw [u8_of hb])
    refine ⟨b.toNat % 128 + 128 * c, ?_, ?_, ?_, ?_, .inr (by omega)⟩
    ·rw [e1, hcc, Nat.add_assoc]
    ·have hk9 : k + 1 ≤ 9 := by
      refine Decidable.byContradiction fun hh => ?_
      obtain rfl : f = 0 := by omega
      have hs : decF (k + 1) (code + b.toNat % 128 * 128 ^ k) s = (0, 0) := by
       cases s with
       | nil => rfl
       | cons d s => show (if 10 ≤ k + 1 then _ else _) = _; rw [if_pos (by omega)]
      rw [hs] at h'
      cases h'
      omega
     rw [hcc]
     have h1 : b.toNat % 128 * 128 ^ k < 128 ^ (k + 1) := by rw [p128, Nat.mul_comm (128 ^ k)]; exact Nat.mul_lt_mul_of_pos_right (by omega) (Nat.pow_pos (by decide))
     obtain ⟨m, hm⟩ : ∃ m, 128 ^ (k + 1) * m = 18446744073709551616 := ⟨2 ^ (64 - 7 * (k + 1)), by rw [show (128 : Nat) = 2 ^ 7 from rfl, ← Nat.pow_mul, ← Nat.pow_add, show 7 * (k + 1) + (64 - 7 * (k + 1)) = 64 by omega]⟩
     have h2 : c + 1 ≤ m := by
      refine Nat.lt_of_mul_lt_mul_left (a := 128 ^ (k + 1)) ?_
      rw [hm, Nat.mul_comm]
      exact e2
     have h3 : (c + 1) * 128 ^ (k + 1) ≤ 18446744073709551616 := by rw [← hm, Nat.mul_comm]; exact Nat.mul_le_mul_left _ h2
     rw [Nat.add_mul, Nat.one_mul] at h3
     omega
    ·have hu1 : 0 < u - (k + 1) := by have := vzF_pos f c; omega
     rw [e, show u - k = (u - (k + 1)) + 1 by omega, List.drop_succ_cons, List.cons_append, ← e3]
    ·rw [e, List.length_cons]; omega
   ·rw [if_neg h128] at h'
    by_cases hz : (0 < k ∧ b.toNat = 0) ∨ (k = 9 ∧ 1 < b.toNat)
    ·rw [if_pos hz] at h'
     cases h'
     omega
    ·rw [if_neg hz] at h'
     obtain ⟨rfl, rfl⟩ := Prod.mk.inj h'
     have e : vzF (f + 1) b.toNat = [b] := by
      show (if _ then _ else _) = _
      rw [if_pos (by omega)]
      congr 1
      exact UInt8.toNat_inj.mp (by rw [u8_of (by omega)]; omega)
     refine ⟨b.toNat, rfl, ?_, ?_, ?_, ?_⟩
     ·rcases Nat.lt_or_ge k 9 with h9 | h9
      ·have h1 : b.toNat * 128 ^ k < 128 * 128 ^ k := Nat.mul_lt_mul_of_pos_right (by omega) (Nat.pow_pos (by decide))
       have h2 : 128 ^ k ≤ 128 ^ 8 := Nat.pow_le_pow_right (by decide) (by omega)
       have e8 : 128 ^ 8 = 72057594037927936 := by decide
       omega
      ·obtain rfl : k = 9 := by omega
       have e9 : 128 ^ 9 = 9223372036854775808 := by decide
       rw [e9]
       omega
     ·rw [e, show k + 1 - k = 1 by omega]
      rfl
     ·rw [e]; rfl
     ·omega
theorem decV_can {s : List UInt8} {n : Int} {u : Nat} (h : decV s = (n, u)) (hu : 0 < u) : s = inB n ++ s.drop u ∧ iOk n ∧ u = (inB n).length ∧ u ≤ s.length := by
 obtain ⟨c, e1, e2, e3, e4, -⟩ := decF_can s 10 0 0 n u rfl h hu
 rw [Nat.pow_zero, Nat.mul_one] at e1 e2
 rw [Nat.zero_add] at e1 e4
 rw [Nat.sub_zero] at e3
 have hz : zz n = c := by rw [e1, zz_unz]
 have hi : inB n = vzF 10 c := by unfold inB vz; rw [hz]
 refine ⟨by rw [hi]; exact e3, by rw [e1]; exact unz_ok e2, by rw [hi]; exact e4, ?_⟩
 have := congrArg List.length e3
 rw [List.length_append, List.length_drop] at this
 omega
abbrev Rst := Option (List UInt8)
def rI : Rst → Int × Rst
 | none => (0, none)
 | some s => if (decV s).2 = 0 then (0, none) else ((decV s).1, some (s.drop (decV s).2))
def rN : Nat → Rst → List Int × Rst
 | 0, r => ([], r)
 | m + 1, r => ((rI r).1 :: (rN m (rI r).2).1, (rN m (rI r).2).2)
def rE (x : List Int × Rst) : List Int × Rst := match x.2 with
 | none => ([], none)
 | some s => (x.1, some s)
def rL (r : Rst) : List Int × Rst := match (rI r).2 with
 | none => ([], none)
 | some s => if (rI r).1 < 0 ∨ (s.length : Int) < (rI r).1 then ([], none) else rE (rN (rI r).1.toNat (some s))
def rWs : Nat → Rst → List Wt × Rst
 | 0, r => ([], r)
 | _ + 1, none => ([], none)
 | m + 1, some s => (((rL (some s)).1, (rL (rL (some s)).2).1) :: (rWs m (rL (rL (some s)).2).2).1, (rWs m (rL (rL (some s)).2).2).2)
def parV (s : List UInt8) : List Wt × Bool := match (rWs (rI (some s)).1.toNat (rI (some s)).2).2 with
 | some [] => if (rI (some s)).1 < 0 then ([], false) else ((rWs (rI (some s)).1.toNat (rI (some s)).2).1, true)
 | _ => ([], false)
theorem rI_enc {n : Int} (hn : iOk n) (r : List UInt8) : rI (some (inB n ++ r)) = (n, some r) := by
 have h := decV_enc n hn r
 have hp := inB_pos n
 show (if _ then _ else _) = _
 rw [h, if_neg (by dsimp only; omega), List.drop_left]
theorem rI_can {s s' : List UInt8} {n : Int} (h : rI (some s) = (n, some s')) : s = inB n ++ s' ∧ iOk n := by
 have h' : (if (decV s).2 = 0 then ((0 : Int), (none : Rst)) else ((decV s).1, some (s.drop (decV s).2))) = (n, some s') := h
 by_cases h0 : (decV s).2 = 0
 ·rw [if_pos h0] at h'
  cases h'
 ·rw [if_neg h0] at h'
  obtain ⟨e1, e2⟩ := Prod.mk.inj h'
  obtain ⟨g1, g2, -⟩ := decV_can (s := s) (n := (decV s).1) (u := (decV s).2) rfl (by omega)
  rw [Option.some.inj e2, e1] at g1
  rw [e1] at g2
  exact ⟨g1, g2⟩
theorem rI_iok : ∀ r, iOk (rI r).1
 | none => by unfold iOk; exact ⟨by decide, by decide⟩
 | some s => by
   cases h : rI (some s) with
   | mk n r =>
     cases r with
     | some s' => exact (rI_can h).2
     | none =>
       have h' : (if (decV s).2 = 0 then ((0 : Int), (none : Rst)) else ((decV s).1, some (s.drop (decV s).2))) = (n, none) := h
       split at h'
       ·obtain ⟨rfl, -⟩ := Prod.mk.inj h'
        unfold iOk
        exact ⟨by decide, by decide⟩
       ·cases h'
theorem rN_none : ∀ m, (rN m none).2 = none
 | 0 => rfl
 | m + 1 => rN_none m
theorem rN_len : ∀ m r, (rN m r).1.length = m
 | 0, _ => rfl
 | m + 1, r => congrArg (· + 1) (rN_len m _)
theorem rN_iok : ∀ m r, ∀ v ∈ (rN m r).1, iOk v
 | 0, _, v, hv => by cases hv
 | m + 1, r, v, hv => by
   rcases List.mem_cons.1 (show v ∈ (rI r).1 :: (rN m (rI r).2).1 from hv) with rfl | hv
   ·exact rI_iok r
   ·exact rN_iok m _ v hv
theorem rN_enc (r : List UInt8) : ∀ l : List Int, (∀ v ∈ l, iOk v) → rN l.length (some (l.flatMap inB ++ r)) = (l, some r)
 | [], _ => rfl
 | v :: l, h => by
   have e : rI (some ((v :: l).flatMap inB ++ r)) = (v, some (l.flatMap inB ++ r)) := by
    rw [List.flatMap_cons, List.append_assoc]
    exact rI_enc (h v (by simp)) _
   show ((rI _).1 :: (rN l.length (rI _).2).1, (rN l.length (rI _).2).2) = _
   rw [e, rN_enc r l fun v hv => h v (by simp [hv])]
theorem rN_can : ∀ (m : Nat) {s s' : List UInt8} {l : List Int}, rN m (some s) = (l, some s') → s = l.flatMap inB ++ s'
 | 0, s, s', l, h => by
   obtain ⟨rfl, h2⟩ := Prod.mk.inj (show (([] : List Int), (some s : Rst)) = (l, some s') from h)
   cases h2
   rfl
 | m + 1, s, s', l, h => by
   obtain ⟨rfl, h2⟩ := Prod.mk.inj (show ((rI (some s)).1 :: (rN m (rI (some s)).2).1, (rN m (rI (some s)).2).2) = (l, some s') from h)
   cases hr : rI (some s) with
   | mk n r =>
     rw [hr] at h2
     cases r with
     | none => dsimp only at h2; rw [rN_none] at h2; cases h2
     | some s1 =>
       obtain ⟨e1, -⟩ := rI_can hr
       have e2 := rN_can m (s := s1) (s' := s') (l := (rN m (some s1)).1) (Prod.ext rfl h2)
       dsimp only
       rw [List.flatMap_cons, List.append_assoc, ← e2]
       exact e1
theorem flat_ge (l : List Int) : l.length ≤ (l.flatMap inB).length := by
 induction l with
 | nil => exact Nat.le_refl _
 | cons v l ih =>
   rw [List.flatMap_cons, List.length_append, List.length_cons]
   have := inB_pos v
   omega
theorem lOk_mem {l : List Int} (h : lOk l) : ∀ v ∈ l, iOk v := fun v hv => by
 obtain ⟨k, hk, rfl⟩ := List.getElem_of_mem hv
 have := h.2 k hk
 rwa [List.getD_eq_getElem?_getD, List.getElem?_eq_getElem hk] at this
theorem rL_enc {l : List Int} (h : lOk l) (r : List UInt8) : rL (some (insB l ++ r)) = (l, some r) := by
 have hl := h.1
 have e : rI (some (insB l ++ r)) = ((l.length : Int), some (l.flatMap inB ++ r)) := by
  unfold insB
  rw [List.append_assoc]
  exact rI_enc ⟨by omega, by omega⟩ _
 have hg := flat_ge l
 unfold rL
 rw [e]
 dsimp only
 rw [if_neg (by rw [List.length_append]; omega), show ((l.length : Nat) : Int).toNat = l.length from rfl, rN_enc r l (lOk_mem h)]
 rfl
theorem rL_can {s s' : List UInt8} {l : List Int} (h : rL (some s) = (l, some s')) : s = insB l ++ s' ∧ ∀ v ∈ l, iOk v := by
 unfold rL at h
 cases hr : rI (some s) with
 | mk n r =>
   rw [hr] at h
   cases r with
   | none => cases h
   | some s1 =>
     dsimp only at h
     obtain ⟨e1, -⟩ := rI_can hr
     by_cases hn : n < 0 ∨ (s1.length : Int) < n
     ·rw [if_pos hn] at h
      cases h
     ·rw [if_neg hn] at h
      cases hN : rN n.toNat (some s1) with
      | mk l1 r1 =>
        rw [hN] at h
        cases r1 with
        | none => cases h
        | some s2 =>
          obtain ⟨rfl, h2⟩ := Prod.mk.inj (show (l1, (some s2 : Rst)) = (l, some s') from h)
          cases h2
          have e2 := rN_can _ hN
          have hl : l1.length = n.toNat := by have := rN_len n.toNat (some s1); rw [hN] at this; exact this
          refine ⟨?_, fun v hv => rN_iok n.toNat (some s1) v (by rw [hN]; exact hv)⟩
          unfold insB
          rw [show ((l1.length : Nat) : Int) = n by omega, List.append_assoc, ← e2]
          exact e1
theorem rL_none : rL none = ([], none) := rfl
theorem rWs_none : ∀ m, rWs m none = ([], none)
 | 0 => rfl
 | _ + 1 => rfl
theorem rWs_enc (r : List UInt8) : ∀ p : List Wt, (∀ w ∈ p, lOk w.1 ∧ lOk w.2) → rWs p.length (some (p.flatMap wtY ++ r)) = (p, some r)
 | [], _ => rfl
 | w :: p, h => by
   obtain ⟨h1, h2⟩ := h w (by simp)
   have e1 : rL (some ((w :: p).flatMap wtY ++ r)) = (w.1, some (insB w.2 ++ (p.flatMap wtY ++ r))) := by
    rw [List.flatMap_cons, List.append_assoc, List.append_assoc]
    exact rL_enc h1 _
   have e2 := rL_enc h2 (p.flatMap wtY ++ r)
   show (((rL _).1, (rL (rL _).2).1) :: (rWs p.length (rL (rL _).2).2).1, (rWs p.length (rL (rL _).2).2).2) = _
   rw [e1]
   dsimp only
   rw [e2]
   dsimp only
   rw [rWs_enc r p fun w hw => h w (by simp [hw])]
theorem rWs_can : ∀ (m : Nat) {s s' : List UInt8} {p : List Wt}, rWs m (some s) = (p, some s') → s = p.flatMap wtY ++ s' ∧ p.length = m ∧ ∀ w ∈ p, (∀ v ∈ w.1, iOk v) ∧ ∀ v ∈ w.2, iOk v
 | 0, s, s', p, h => by
   obtain ⟨rfl, h2⟩ := Prod.mk.inj (show (([] : List Wt), (some s : Rst)) = (p, some s') from h)
   cases h2
   exact ⟨rfl, rfl, fun w hw => by cases hw⟩
 | m + 1, s, s', p, h => by
   obtain ⟨rfl, h2⟩ := Prod.mk.inj (show (((rL (some s)).1, (rL (rL (some s)).2).1) :: (rWs m (rL (rL (some s)).2).2).1, (rWs m (rL (rL (some s)).2).2).2) = (p, some s') from h)
   cases h1 : rL (some s) with
   | mk a r1 =>
     rw [h1] at h2
     dsimp only at h2 ⊢
     cases r1 with
     | none => rw [rL_none, rWs_none] at h2; cases h2
     | some s1 =>
       cases h3 : rL (some s1) with
       | mk b r2 =>
         rw [h3] at h2
         dsimp only at h2 ⊢
         cases r2 with
         | none => rw [rWs_none] at h2; cases h2
         | some s2 =>
           obtain ⟨e1, g1⟩ := rL_can h1
           obtain ⟨e2, g2⟩ := rL_can h3
           obtain ⟨e3, e4, e5⟩ := rWs_can m (s := s2) (s' := s') (p := (rWs m (some s2)).1) (Prod.ext rfl h2)
           refine ⟨?_, by rw [List.length_cons, e4], fun w hw => ?_⟩
           ·rw [List.flatMap_cons, List.append_assoc, List.append_assoc, ← e3, ← e2]
            exact e1
           ·rcases List.mem_cons.1 hw with rfl | hw
            ·exact ⟨g1, g2⟩
            ·exact e5 w hw
theorem parV_enc {p : List Wt} (h : PrR p) : parV (prY p) = (p, true) := by
 have h1 := h.1
 have hm : ∀ w ∈ p, lOk w.1 ∧ lOk w.2 := fun w hw => by
  obtain ⟨k, hk, rfl⟩ := List.getElem_of_mem hw
  have := h.2 k hk
  rwa [List.getD_eq_getElem?_getD, List.getElem?_eq_getElem hk] at this
 have e : rI (some (prY p)) = ((p.length : Int), some (p.flatMap wtY ++ [])) := by
  unfold prY
  rw [List.append_nil]
  exact rI_enc ⟨by omega, by omega⟩ _
 unfold parV
 rw [e]
 dsimp only
 rw [show ((p.length : Nat) : Int).toNat = p.length from rfl, rWs_enc [] p hm]
 dsimp only
 rw [if_neg (by omega)]
theorem wtY_pos (w : Wt) : 2 ≤ (wtY w).length := by
 rw [List.length_append]
 have := insB_pos w.1
 have := insB_pos w.2
 omega
theorem insB_ge (l : List Int) : l.length ≤ (insB l).length := by
 unfold insB
 rw [List.length_append]
 have := flat_ge l
 omega
theorem flatW_ge : ∀ q : List Wt, q.length ≤ (q.flatMap wtY).length
 | [] => Nat.le_refl _
 | w :: q => by
   have h1 := wtY_pos w
   have h2 := flatW_ge q
   simp only [List.flatMap_cons, List.length_append, List.length_cons] at h1 ⊢
   omega
theorem parV_can {s : List UInt8} {p : List Wt} (h : parV s = (p, true)) (hs : s.length ≤ 1000000) : s = prY p ∧ PrR p := by
 unfold parV at h
 cases hr : rI (some s) with
 | mk n r =>
   rw [hr] at h
   dsimp only at h
   cases r with
   | none => rw [rWs_none] at h; cases h
   | some s1 =>
     cases hw : rWs n.toNat (some s1) with
     | mk q r2 =>
       rw [hw] at h
       dsimp only at h
       match r2, h with
       | some [], h =>
         dsimp only at h
         by_cases hn : n < 0
         ·rw [if_pos hn] at h
          cases h
         rw [if_neg hn] at h
         obtain ⟨rfl, -⟩ := Prod.mk.inj h
         obtain ⟨e1, -⟩ := rI_can hr
         obtain ⟨e2, e3, e4⟩ := rWs_can _ hw
         rw [List.append_nil] at e2
         have es : s = prY q := by
          unfold prY
          rw [show ((q.length : Nat) : Int) = n by omega, ← e2]
          exact e1
         refine ⟨es, ?_⟩
         have hsub : ∀ w ∈ q, (wtY w).length ≤ s1.length := fun w hw => by
          rw [e2]
          obtain ⟨a, b, rfl⟩ := List.append_of_mem hw
          simp only [List.flatMap_append, List.flatMap_cons, List.length_append]
          omega
         have hs1 : s1.length ≤ s.length := by rw [e1, List.length_append]; omega
         have hq : q.length ≤ s1.length := by
          rw [e2]
          exact flatW_ge q
         refine ⟨by omega, fun k hk => ?_⟩
         have hm : q.getD k wtZ ∈ q := by rw [List.getD_eq_getElem?_getD, List.getElem?_eq_getElem hk]; exact List.getElem_mem _
         have h1 := hsub _ hm
         obtain ⟨g1, g2⟩ := e4 _ hm
         rw [List.length_append] at h1
         have l1 := insB_ge (q.getD k wtZ).1
         have l2 := insB_ge (q.getD k wtZ).2
         have el : ∀ l : List Int, (∀ v ∈ l, iOk v) → ∀ i, i < l.length → iOk (l.getD i 0) := fun l hl i hi => hl _ (by rw [List.getD_eq_getElem?_getD, List.getElem?_eq_getElem hi]; exact List.getElem_mem _)
         exact ⟨⟨by omega, el _ g1⟩, by omega, el _ g2⟩
theorem parV_no {s : List UInt8} {p : List Wt} (h : parV s = (p, false)) : p = [] := by
 unfold parV at h
 split at h
 ·split at h
  ·exact (Prod.mk.inj h).1.symm
  ·cases h
 ·exact (Prod.mk.inj h).1.symm
theorem by_drop {l : List UInt8} {k : Nat} (h : k < l.length) : ∃ b : UInt8, (⟨l.toArray⟩ : ByteArray)[k]? = some b ∧ l.drop k = b :: l.drop (k + 1) := by
 refine ⟨l[k], ?_, List.drop_eq_getElem_cons h⟩
 have h' : k < l.toArray.size := by simpa using h
 show (if h : k < l.toArray.size then some l.toArray[k] else none) = some l[k]
 rw [dif_pos h']
 simp
theorem shl_runY {P : Program} {t : TypeId} {k ky : IntKind} {x y : Int} {n : Nat} {c : Int} (hy : y = (n : Int)) (hn : n ≤ k.bits) (h : k.wrap (x * 2 ^ n) = c) (w : World) : (Go.binOp .shl t (.int k x) (.int ky y)).run P w = .ok (.int k c) w := by
 subst hy
 exact shl_run hn h w
theorem or_hi {c q i : Nat} (h : c < 2 ^ i) : c ||| (q * 2 ^ i) = c + q * 2 ^ i := by
 rw [Nat.or_comm, Nat.mul_comm q, ← Nat.two_pow_add_eq_or_of_lt h, Nat.add_comm]
theorem p27 (k : Nat) : 2 ^ (7 * k) = 128 ^ k := by rw [Nat.pow_mul]
theorem decF_10 {k code : Nat} (hk : 10 ≤ k) (s : List UInt8) : decF k code s = (0, 0) := by
 cases s with
 | nil => rfl
 | cons b s => show (if 10 ≤ k then _ else _) = _; rw [if_pos hk]
theorem dec_step {k code x : Nat} (hk : k ≤ 9) (hc : code < 128 ^ k) (hx : x < 128) : ∃ q, IntKind.u64.wrap ((x : Int) * 2 ^ (7 * k)) = ((q * 128 ^ k : Nat) : Int) ∧ q * 128 ^ k < 18446744073709551616 ∧ code < 18446744073709551616 ∧ (code ||| (q * 128 ^ k)) = code + q * 128 ^ k ∧ code + q * 128 ^ k < 18446744073709551616 ∧ (k ≤ 8 ∨ x ≤ 1 → q = x) ∧ (k ≤ 8 → code + q * 128 ^ k < 128 ^ (k + 1)) := by
 have hcode : code < 18446744073709551616 := by
  have : 128 ^ k ≤ 128 ^ 9 := Nat.pow_le_pow_right (by decide) hk
  have e9 : 128 ^ 9 = 9223372036854775808 := by decide
  omega
 have e64 : 18446744073709551616 = 2 ^ (64 - 7 * k) * 2 ^ (7 * k) := by rw [← Nat.pow_add, show 64 - 7 * k + 7 * k = 64 by omega]
 have hm : x * 2 ^ (7 * k) % 18446744073709551616 = x % 2 ^ (64 - 7 * k) * 2 ^ (7 * k) := by rw [e64, Nat.mul_mod_mul_right]
 have hlt : x % 2 ^ (64 - 7 * k) * 128 ^ k < 18446744073709551616 := by rw [← p27, ← hm]; exact Nat.mod_lt _ (by decide)
 have hor : (code ||| (x % 2 ^ (64 - 7 * k) * 128 ^ k)) = code + x % 2 ^ (64 - 7 * k) * 128 ^ k := by rw [← p27]; exact or_hi (by rw [p27]; exact hc)
 refine ⟨x % 2 ^ (64 - 7 * k), ?_, hlt, hcode, hor, ?_, ?_, ?_⟩
 ·have e1 : ((x : Int) * 2 ^ (7 * k)) = ((x * 2 ^ (7 * k) : Nat) : Int) := by rw [Int.natCast_mul, Int.natCast_pow]; rfl
  rw [e1, IntKind.wrap_u64, ← p27, ← hm]
  omega
 ·rw [← hor]
  have := Nat.or_lt_two_pow (n := 64) (by simpa using hcode) (by simpa using hlt)
  simpa using this
 ·rintro (h | h)
  ·refine Nat.mod_eq_of_lt (Nat.lt_of_lt_of_le hx ?_)
   have : 2 ^ 7 ≤ 2 ^ (64 - 7 * k) := Nat.pow_le_pow_right (by decide) (by omega)
   omega
  ·refine Nat.mod_eq_of_lt (Nat.lt_of_le_of_lt h ?_)
   have : 2 ^ 1 ≤ 2 ^ (64 - 7 * k) := Nat.pow_le_pow_right (by decide) (by omega)
   omega
 ·intro h
  have hq : x % 2 ^ (64 - 7 * k) + 1 ≤ 128 := by have := Nat.mod_le x (2 ^ (64 - 7 * k)); omega
  have h2 := Nat.mul_le_mul_right (128 ^ k) hq
  rw [Nat.add_mul, Nat.one_mul] at h2
  rw [p128, Nat.mul_comm (128 ^ k)]
  omega
set_option maxHeartbeats 4000000 in
set_option maxRecDepth 100000 in
theorem decode_A (s : List UInt8) (hs : s.length ≤ 4611686018427387904) : ACalls Try.prog 120 [.c (byV s)] (.tu [.c (iC (decV s).1), .c (iC ((decV s).2 : Nat))]) := by
 have hmin : min (s.length : Int) 10 = ((min s.length 10 : Nat) : Int) := by omega
 refine acalls_at Try.func120 rfl rfl Try.ntmps120 rfl ?_
 repeat (first
  | refine uA ?_
  | refine uB ?_
  | refine uC ?_
  | (refine rG 0 ?_
     (iterate 2 refine kC ?_)
     refine aB ?_)
  | (refine rG 1 ?_
     refine kC ?_
     refine aB ?_)
  | (refine rG 2 ?_
     refine kA ?_
     refine AList.lenStr (s.length) (by first | rfl | assumption) Try.underlying9 rfl rfl rfl ?_
     refine qr4 AList.minI ?_
     refine kA ?_
     refine aB ?_))
 refine AWp.round (fun i : Nat × Nat =>
  mkSt 59 [(0, .c (byV s)), (4, .c (wC i.2)), (8, .c (iC ((min s.length 10 : Nat) : Int))), (9, .c (iC (i.1 : Nat)))] [] []
  ) (fun i => i.1 ≤ s.length ∧ i.1 ≤ 10 ∧ decF i.1 i.2 (s.drop i.1) = decV s ∧ (i.1 ≤ 9 → i.2 < 128 ^ i.1) ∧ i.2 < 18446744073709551616) (fun i => s.length - i.1) (0, 0) ⟨Nat.zero_le _, Nat.zero_le _, rfl, fun _ => by decide, by decide⟩ ?_ (fun ⟨k, code⟩ hi => ?_)
 ·refine Wk.mk [] rfl rfl rfl ?_ trivial
  rw [← hmin]
  exact allT
 obtain ⟨hk, hk10, hd, hc, hc64⟩ := hi
 dsimp only at hk hk10 hd hc hc64 ⊢
 by_cases hkm : k < min s.length 10
 rotate_left
 ·have hkm' : ¬ (k : Int) < ((min s.length 10 : Nat) : Int) := by omega
  have hz : decV s = (0, 0) := by
   rw [← hd]
   rcases Nat.lt_or_ge k 10 with h | h
   ·rw [List.drop_eq_nil_of_le (by omega)]
    rfl
   ·exact decF_10 h _
  rw [hz]
  repeat (first
   | refine uA ?_
   | refine uB ?_
   | refine uH ?_
   | refine AWp.ret ?_
   | refine kU ?_
   | (refine rG 3 ?_
      refine qr5f aJ ?_
      refine aB ?_)
   | (refine rG 12 ?_
      (iterate 2 refine kC ?_)
      refine aB ?_))
  refine ⟨mkSt 59 [(2, .c (iC (0))), (3, .c (iC (0)))] [] [], [], Wk.mk [] rfl rfl rfl ?_ trivial, rfl, rfl, ARets.two (x := .c _) (y := .c _) (ARes.tmp rfl rfl) (ARes.tmp rfl rfl)⟩
  exact allT
 have hkm' : (k : Int) < ((min s.length 10 : Nat) : Int) := by omega
 have hks : k < s.length := by omega
 obtain ⟨b, hb, hdr⟩ := by_drop hks
 rw [hdr] at hd
 have hb256 := u8_lt b
 obtain ⟨x, hx⟩ : ∃ x, b.toNat = x := ⟨_, rfl⟩
 have hbx : ((b.toNat : Nat) : Int) = ((x : Nat) : Int) := by rw [hx]
 have hd' : (if 10 ≤ k then ((0 : Int), 0) else if 128 ≤ x then decF (k + 1) (code + x % 128 * 128 ^ k) (s.drop (k + 1)) else if (0 < k ∧ x = 0) ∨ (k = 9 ∧ 1 < x) then (0, 0) else (unz (code + x * 128 ^ k), k + 1)) = decV s := by rw [← hx]; exact hd
 rw [if_neg (by omega)] at hd'
 rw [hx] at hb256
 obtain ⟨q, g1, g2, g3, g4, g5, g6, g7⟩ := dec_step (k := k) (code := code) (x := x % 128) (by omega) (hc (by omega)) (by omega)
 have hand := and_run8 (P := Try.prog) (t := 5) (a := x) (b := 127) hb256 (by omega) (and127 x)
 have hcv : IntKind.u64.wrap ((x % 128 : Nat) : Int) = ((x % 128 : Nat) : Int) := by rw [IntKind.wrap_u64]; omega
 have hshl := shl_runY (P := Try.prog) (t := 171) (k := .u64) (ky := .i64) (x := ((x % 128 : Nat) : Int)) (y := 7 * (k : Int)) (n := 7 * k) (by omega) (by show 7 * k ≤ 64; omega) g1
 have hor := or_run64 (P := Try.prog) (t := 171) g3 g2 g4
 obtain ⟨c2, hc2⟩ : ∃ c2, code + q * 128 ^ k = c2 := ⟨_, rfl⟩
 obtain ⟨qk, hqk⟩ : ∃ qk, q * 128 ^ k = qk := ⟨_, rfl⟩
 rw [hqk] at g1 g2 g4 hshl hor
 by_cases h128 : 128 ≤ x
 ·rw [if_pos h128] at hd'
  have h128' : (128 : Int) ≤ (x : Nat) := by omega
  rw [← hqk, hc2] at hor
  rw [hqk] at hor
  repeat (first
   | refine uA ?_
   | refine uB ?_
   | refine uC ?_
   | refine uG ?_
   | refine uH ?_
   | refine thenA_e ?_
   | refine uF ?_
   | refine kT ?_
   | (refine rG 3 ?_
      refine qr5t aK ?_
      refine aB ?_)
   | (refine rG 4 ?_
      refine kA ?_
      refine kC ?_
      refine aB ?_)
   | (refine rG 5 ?_
      (iterate 3 refine kA ?_)
      refine AList.idxStr (k) _ ((x : Nat)) (hb) (hbx) Try.underlying9 rfl rfl rfl rfl ?_
      refine AList.bin rfl rfl rfl rfl rfl (hand) rfl ?_
      refine AList.convI (hcv) (by kernel_rfl) Try.underlying171 rfl rfl rfl ?_
      refine kA ?_
      refine qr4w2 AList.mul ?_
      refine AList.bin rfl rfl rfl rfl rfl (hshl) rfl ?_
      refine AList.bin rfl rfl rfl rfl rfl (hor) rfl ?_
      refine kC ?_
      refine aB ?_)
   | (refine rG 6 ?_
      (iterate 2 refine kA ?_)
      refine AList.idxStr (k) _ ((x : Nat)) (hb) (hbx) Try.underlying9 rfl rfl rfl rfl ?_
      refine qr5t aK ?_
      refine aB ?_)
   | (refine rG 11 ?_
      refine qr4w2 aL ?_
      refine kA ?_
      refine aB ?_))
  refine ⟨(k + 1, c2), ⟨hks, by dsimp only; omega, ?_, fun h => ?_, by dsimp only; omega⟩, Wk.mk [] rfl rfl rfl ?_ trivial, by dsimp only; omega⟩
  ·dsimp only at *
   rcases Nat.lt_or_ge k 9 with h9 | h9
   ·rw [← hd', ← hc2, g6 (.inl (by omega))]
   ·rw [decF_10 (by omega), ← hd', decF_10 (by omega)]
  ·dsimp only at h ⊢
   have := g7 (by omega)
   omega
  ·exact allT
 rw [if_neg h128] at hd'
 have h128' : ¬ (128 : Int) ≤ (x : Nat) := by omega
 rw [← hqk, hc2] at hor
 rw [hqk] at hor
 by_cases hbad : (0 < k ∧ x = 0) ∨ (k = 9 ∧ 1 < x)
 ·rw [if_pos hbad] at hd'
  rw [← hd']
  rcases hbad with ⟨b1, rfl⟩ | ⟨rfl, b2⟩
  ·have b1' : (k : Int) > 0 := by omega
   repeat (first
    | refine uA ?_
    | refine uB ?_
    | refine uC ?_
    | refine uG ?_
    | refine uH ?_
    | refine AWp.ret ?_
    | refine kT ?_
    | refine kU ?_
    | (refine rG 3 ?_
       refine qr5t aK ?_
       refine aB ?_)
    | (refine rG 4 ?_
       refine kA ?_
       refine kC ?_
       refine aB ?_)
    | (refine rG 5 ?_
       (iterate 3 refine kA ?_)
       refine AList.idxStr (k) _ (((0 : Nat) : Int)) (hb) (hbx) Try.underlying9 rfl rfl rfl rfl ?_
       refine AList.bin rfl rfl rfl rfl rfl (hand) rfl ?_
       refine AList.convI (hcv) (by kernel_rfl) Try.underlying171 rfl rfl rfl ?_
       refine kA ?_
       refine qr4w2 AList.mul ?_
       refine AList.bin rfl rfl rfl rfl rfl (hshl) rfl ?_
       refine AList.bin rfl rfl rfl rfl rfl (hor) rfl ?_
       refine kC ?_
       refine aB ?_)
    | (refine rG 6 ?_
       (iterate 2 refine kA ?_)
       refine AList.idxStr (k) _ (((0 : Nat) : Int)) (hb) (hbx) Try.underlying9 rfl rfl rfl rfl ?_
       refine qr5f aJ ?_
       refine aB ?_)
    | (refine rG 7 ?_
       refine kA ?_
       refine qr5t aK ?_
       (iterate 3 refine kA ?_)
       refine AList.idxStr (k) _ (((0 : Nat) : Int)) (hb) (hbx) Try.underlying9 rfl rfl rfl rfl ?_
       refine qr5t aK ?_
       refine qr4 aS ?_
       refine kA ?_
       (iterate 8 refine qr2 aG ?_)
       refine qr4 aS ?_
       refine aB ?_)
    | (refine rG 12 ?_
       (iterate 2 refine kC ?_)
       refine aB ?_))
   refine ⟨mkSt 59 [(2, .c (iC (0))), (3, .c (iC (0)))] [] [], [], Wk.mk [] rfl rfl rfl ?_ trivial, rfl, rfl, ARets.two (x := .c _) (y := .c _) (ARes.tmp rfl rfl) (ARes.tmp rfl rfl)⟩
   exact allT
  ·have b1' : ((9 : Nat) : Int) > 0 := by omega
   have b3 : ¬ (x : Int) = 0 := by omega
   repeat (first
    | refine uA ?_
    | refine uB ?_
    | refine uC ?_
    | refine uG ?_
    | refine uH ?_
    | refine AWp.ret ?_
    | refine kT ?_
    | refine kU ?_
    | (refine rG 3 ?_
       refine qr5t aK ?_
       refine aB ?_)
    | (refine rG 4 ?_
       refine kA ?_
       refine kC ?_
       refine aB ?_)
    | (refine rG 5 ?_
       (iterate 3 refine kA ?_)
       refine AList.idxStr (9) _ ((x : Nat)) (hb) (hbx) Try.underlying9 rfl rfl rfl rfl ?_
       refine AList.bin rfl rfl rfl rfl rfl (hand) rfl ?_
       refine AList.convI (hcv) (by kernel_rfl) Try.underlying171 rfl rfl rfl ?_
       refine kA ?_
       refine qr4w2 AList.mul ?_
       refine AList.bin rfl rfl rfl rfl rfl (hshl) rfl ?_
       refine AList.bin rfl rfl rfl rfl rfl (hor) rfl ?_
       refine kC ?_
       refine aB ?_)
    | (refine rG 6 ?_
       (iterate 2 refine kA ?_)
       refine AList.idxStr (9) _ ((x : Nat)) (hb) (hbx) Try.underlying9 rfl rfl rfl rfl ?_
       refine qr5f aJ ?_
       refine aB ?_)
    | (refine rG 7 ?_
       refine kA ?_
       refine qr5t aK ?_
       (iterate 3 refine kA ?_)
       refine AList.idxStr (9) _ ((x : Nat)) (hb) (hbx) Try.underlying9 rfl rfl rfl rfl ?_
       refine qr5f aJ ?_
       refine qr4 aS ?_
       (iterate 2 refine kA ?_)
       refine qr5t aK ?_
       (iterate 3 refine kA ?_)
       refine AList.idxStr (9) _ ((x : Nat)) (hb) (hbx) Try.underlying9 rfl rfl rfl rfl ?_
       refine qr5t aK ?_
       refine qr4 aS ?_
       refine qr4 aR ?_
       refine aB ?_)
    | (refine rG 12 ?_
       (iterate 2 refine kC ?_)
       refine aB ?_))
   refine ⟨mkSt 59 [(2, .c (iC (0))), (3, .c (iC (0)))] [] [], [], Wk.mk [] rfl rfl rfl ?_ trivial, rfl, rfl, ARets.two (x := .c _) (y := .c _) (ARes.tmp rfl rfl) (ARes.tmp rfl rfl)⟩
   exact allT
 rw [if_neg hbad] at hd'
 have hq : q = x := by
  rw [g6 (by rcases Nat.lt_or_ge k 9 with h | h
             ·exact .inl (by omega)
             ·exact .inr (by omega))]
  omega
 have hc2' : code + x * 128 ^ k = c2 := by rw [← hc2, hq]
 rw [hc2'] at hd'
 rw [← hd']
 rw [hc2] at g5
 have hand1 := and_run64 (P := Try.prog) (t := 171) (a := c2) (b := 1) (c := c2 % 2) g5 (by decide) (Nat.and_one_is_mod c2)
 have hcv2 : IntKind.i64.wrap ((c2 : Int) / 2) = ((c2 / 2 : Nat) : Int) := by rw [IntKind.wrap_i64]; omega
 have hnot := not_runI (P := Try.prog) (x := ((c2 / 2 : Nat) : Int)) (by omega)
 repeat (first
  | refine uA ?_
  | refine uB ?_
  | refine uC ?_
  | refine uG ?_
  | refine kT ?_
  | refine kU ?_
  | (refine rG 3 ?_
     refine qr5t aK ?_
     refine aB ?_)
  | (refine rG 4 ?_
     refine kA ?_
     refine kC ?_
     refine aB ?_)
  | (refine rG 5 ?_
     (iterate 3 refine kA ?_)
     refine AList.idxStr (k) _ ((x : Nat)) (hb) (hbx) Try.underlying9 rfl rfl rfl rfl ?_
     refine AList.bin rfl rfl rfl rfl rfl (hand) rfl ?_
     refine AList.convI (hcv) (by kernel_rfl) Try.underlying171 rfl rfl rfl ?_
     refine kA ?_
     refine qr4w2 AList.mul ?_
     refine AList.bin rfl rfl rfl rfl rfl (hshl) rfl ?_
     refine AList.bin rfl rfl rfl rfl rfl (hor) rfl ?_
     refine kC ?_
     refine aB ?_)
  | (refine rG 6 ?_
     (iterate 2 refine kA ?_)
     refine AList.idxStr (k) _ ((x : Nat)) (hb) (hbx) Try.underlying9 rfl rfl rfl rfl ?_
     refine qr5f aJ ?_
     refine aB ?_))
 refine AWp.cut (mkSt 59 [(4, .c (wC c2)), (5, .c (iC (k : Nat))), (43, .c (bC false))] [] []) ?_ (fun S2 hw2 => AWp.weak hw2 ?_)
 ·by_cases k0 : k = 0
  ·subst k0
   repeat (first
    | (refine rG 7 ?_
       refine kA ?_
       refine qr5f aJ ?_
       refine kA ?_
       (iterate 4 refine qr2 aG ?_)
       refine qr4 aR ?_
       (iterate 2 refine kA ?_)
       refine qr5f aJ ?_
       refine kA ?_
       (iterate 4 refine qr2 aG ?_)
       (iterate 2 refine qr4 aR ?_)
       refine aB ?_))
   refine ⟨rfl, Wk.mk [] rfl rfl rfl ?_ trivial⟩
   exact allT
  have k0' : (k : Int) > 0 := by omega
  have hx0 : ¬ (x : Int) = 0 := by omega
  by_cases k9 : k = 9
  ·subst k9
   have hx1 : ¬ (x : Int) > 1 := by omega
   repeat (first
    | (refine rG 7 ?_
       refine kA ?_
       refine qr5t aK ?_
       (iterate 3 refine kA ?_)
       refine AList.idxStr (9) _ ((x : Nat)) (hb) (hbx) Try.underlying9 rfl rfl rfl rfl ?_
       refine qr5f aJ ?_
       refine qr4 aS ?_
       (iterate 2 refine kA ?_)
       refine qr5t aK ?_
       (iterate 3 refine kA ?_)
       refine AList.idxStr (9) _ ((x : Nat)) (hb) (hbx) Try.underlying9 rfl rfl rfl rfl ?_
       refine qr5f aJ ?_
       refine qr4 aS ?_
       refine qr4 aR ?_
       refine aB ?_))
   refine ⟨rfl, Wk.mk [] rfl rfl rfl ?_ trivial⟩
   exact allT
  ·have k9' : ¬ (k : Int) = 9 := by omega
   repeat (first
    | (refine rG 7 ?_
       refine kA ?_
       refine qr5t aK ?_
       (iterate 3 refine kA ?_)
       refine AList.idxStr (k) _ ((x : Nat)) (hb) (hbx) Try.underlying9 rfl rfl rfl rfl ?_
       refine qr5f aJ ?_
       refine qr4 aS ?_
       (iterate 2 refine kA ?_)
       refine qr5f aJ ?_
       refine kA ?_
       (iterate 4 refine qr2 aG ?_)
       (iterate 2 refine qr4 aR ?_)
       refine aB ?_))
   refine ⟨rfl, Wk.mk [] rfl rfl rfl ?_ trivial⟩
   exact allT
 clear hw2 S2
 by_cases hodd : c2 % 2 = 1
 ·have hodd' : ((c2 % 2 : Nat) : Int) = 1 := by omega
  rw [show unz c2 = -((c2 / 2 : Nat) : Int) - 1 from if_pos hodd]
  repeat (first
   | refine uA ?_
   | refine uB ?_
   | refine uG ?_
   | refine AWp.ret ?_
   | refine thenA_r ?_
   | refine uE ?_
   | refine kT ?_
   | refine kU ?_
   | (refine rG 8 ?_
      refine kA ?_
      refine AList.bin rfl rfl rfl rfl rfl (hand1) rfl ?_
      refine qr5t aK ?_
      refine aB ?_)
   | (refine rG 9 ?_
      refine kA ?_
      refine qr4 AList.shr1 ?_
      refine AList.convI (hcv2) (by kernel_rfl) Try.underlying3 rfl rfl rfl ?_
      refine AList.un rfl rfl rfl (hnot) rfl ?_
      refine kA ?_
      refine qr4w2 aL ?_
      (iterate 2 refine kC ?_)
      refine aB ?_))
  refine ⟨mkSt 59 [(2, .c (iC (-((c2 / 2 : Nat) : Int) - 1))), (3, .c (iC (((k + 1 : Nat) : Int))))] [] [], [], Wk.mk [] rfl rfl rfl ?_ trivial, rfl, rfl, ARets.two (x := .c _) (y := .c _) (ARes.tmp rfl rfl) (ARes.tmp rfl rfl)⟩
  exact allT
 ·have hodd' : ¬ ((c2 % 2 : Nat) : Int) = 1 := by omega
  rw [show unz c2 = ((c2 / 2 : Nat) : Int) from if_neg hodd]
  repeat (first
   | refine uA ?_
   | refine uB ?_
   | refine uG ?_
   | refine AWp.ret ?_
   | refine thenA_r ?_
   | refine uE ?_
   | refine kU ?_
   | (refine rG 8 ?_
      refine kA ?_
      refine AList.bin rfl rfl rfl rfl rfl (hand1) rfl ?_
      refine qr5f aJ ?_
      refine aB ?_)
   | (refine rG 10 ?_
      refine kA ?_
      refine qr4 AList.shr1 ?_
      refine AList.convI (hcv2) (by kernel_rfl) Try.underlying3 rfl rfl rfl ?_
      refine kA ?_
      refine qr4w2 aL ?_
      (iterate 2 refine kC ?_)
      refine aB ?_))
  refine ⟨mkSt 59 [(2, .c (iC (((c2 / 2 : Nat) : Int)))), (3, .c (iC (((k + 1 : Nat) : Int))))] [] [], [], Wk.mk [] rfl rfl rfl ?_ trivial, rfl, rfl, ARets.two (x := .c _) (y := .c _) (ARes.tmp rfl rfl) (ARes.tmp rfl rfl)⟩
  exact allT
end Go.Proofs.Ytekkldgmjdllbaa
end
