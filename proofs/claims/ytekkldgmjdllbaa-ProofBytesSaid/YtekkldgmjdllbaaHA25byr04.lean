/- Parts of the proof: A25be. -/
import Derived.Test.YtekkldgmjdllbaaHA25byr03
import Derived.Test.YtekkldgmjdllbaaG37
import Derived.Test.YtekkldgmjdllbaaG36
import Derived.Test.YtekkldgmjdllbaaG35
import Derived.Test.YtekkldgmjdllbaaG08
import Derived.Test.YtekkldgmjdllbaaHA25byr01
import Derived.Test.YtekkldgmjdllbaaG33
import Derived.Laws.StructEq
import Derived.Test.YtekkldgmjdllbaaG31
import Derived.Test.YtekkldgmjdllbaaG23
import Derived.Lib.Builder
import Derived.Lib.UnsafeStr
import Derived.Laws.Externs
import Derived.Lib.BufferRead
import Derived.Test.YtekkldgmjdllbaaG07
import Derived.Test.YtekkldgmjdllbaaG32
import Derived.Test.YtekkldgmjdllbaaG34
import Derived.Test.YtekkldgmjdllbaaG30
import Derived.Test.YtekkldgmjdllbaaG20
import Derived.Test.YtekkldgmjdllbaaG22
import Derived.Laws.Pointers
import Derived.Test.YtekkldgmjdllbaaG06
import Derived.Test.YtekkldgmjdllbaaG09
import Derived.Test.YtekkldgmjdllbaaG21
import Derived.Test.YtekkldgmjdllbaaG17
import Derived.Test.YtekkldgmjdllbaaG29
import Derived.Test.YtekkldgmjdllbaaG28
import Derived.WideKeyMaps
import Derived.MapKept
import Derived.Carry
import Derived.Shelf.Abstract
import Derived.Test.YtekkldgmjdllbaaG27
import Derived.Test.YtekkldgmjdllbaaG04
import Derived.Scope
import Derived.Test.YtekkldgmjdllbaaG05
import Derived.Great.BuildSlice
import Derived.Laws.Cover3
import Derived.Test.YtekkldgmjdllbaaG03
import Derived.RangeFuncLeaves
import Derived.RangeFuncRecord
import Derived.RangeFuncNested
import Derived.Test.YtekkldgmjdllbaaG02
import Derived.Test.YtekkldgmjdllbaaG01
import Derived.Test.YtekkldgmjdllbaaG19
import Derived.Deep.AppendLies
import Derived.OrdersIn
import Derived.TacticsIn
import Derived.RangeFuncCalls
import Derived.Test.YtekkldgmjdllbaaG16
import Derived.Maps.AppendAt
import Derived.OwnWalk
import Derived.Test.YtekkldgmjdllbaaG18
import Derived.Test.YtekkldgmjdllbaaProg
import Derived.Test.YtekkldgmjdllbaaG11
import Derived.StillTail
import Derived.Below
import Derived.Deep.Draws
import Derived.WalkKit
import Derived.KernelRfl
import Derived.Test.YtekkldgmjdllbaaG13
import Derived.Test.YtekkldgmjdllbaaG15
import Derived.Lib.Hide
import Derived.Deep.QuietTactic
import Derived.BigQuiet
import Derived.Deep.DrawnRows
import Derived.Test.YtekkldgmjdllbaaG12
import Derived.Test.YtekkldgmjdllbaaG10
import Derived.Test.YtekkldgmjdllbaaG14
set_option linter.unusedSimpArgs false
set_option linter.unusedVariables false
section
namespace Go.Proofs.Ytekkldgmjdllbaa
open Go.RowKit Go.Flow Go.AV Go.Plain
def nuV (s : List UInt8) (p : Nat) : AV := if (decV (s.drop p)).2 = 0 then .tu [.c (iC 0), .c (iC (p : Nat)), .c (bC false)] else .tu [.c (iC (decV (s.drop p)).1), .c (iC ((p + (decV (s.drop p)).2 : Nat) : Int)), .c (bC true)]
set_option maxHeartbeats 4000000 in
set_option maxRecDepth 100000 in
theorem number_A (s : List UInt8) (p : Nat) (hs : s.length ≤ 1000000000) (hp : p ≤ s.length) : ACalls Try.prog 123 [.c (byV s), .c (iC (p : Nat))] (nuV s p) := by
 have h10 : (10 : Int) = ((10 : Nat) : Int) := rfl
 unfold nuV
 obtain ⟨D, hD⟩ : ∃ D, decV (s.drop p) = D := ⟨_, rfl⟩
 rw [hD]
 refine acalls_at Try.func123 rfl rfl Try.ntmps123 rfl ?_
 repeat (first
  | refine uA ?_
  | refine uB ?_
  | refine uC ?_
  | (refine rG 0 ?_
     (iterate 3 refine kC ?_)
     refine aB ?_)
  | (refine rG 1 ?_
     refine kC ?_
     refine aB ?_)
  | (refine rG 2 ?_
     refine kC ?_
     refine aB ?_))
 refine AWp.round (fun i : Nat × Nat =>
  mkSt 69 [(0, .c (byV s)), (1, .c (iC (p : Nat))), (7, .c (wC i.2)), (8, .c (iC (i.1 : Nat)))] [] []
  ) (fun i => p + i.1 ≤ s.length ∧ i.1 ≤ 10 ∧ decF i.1 i.2 (s.drop (p + i.1)) = D ∧ (i.1 ≤ 9 → i.2 < 128 ^ i.1) ∧ i.2 < 18446744073709551616) (fun i => s.length - i.1) (0, 0) ⟨by dsimp only; omega, Nat.zero_le _, hD, fun _ => by decide, by decide⟩ ?_ (fun ⟨k, code⟩ hi => ?_)
 ·refine Wk.mk [] rfl rfl rfl ?_ trivial
  exact allT
 obtain ⟨hk, hk10, hd, hc, hc64⟩ := hi
 dsimp only at hk hk10 hd hc hc64 ⊢
 by_cases hk9 : k < 10
 rotate_left
 ·have hkm' : ¬ (k : Int) < 10 := by omega
  obtain rfl : D = (0, 0) := by rw [← hd]; exact decF_10 (by omega) _
  rw [if_pos rfl]
  repeat (first
   | refine uA ?_
   | refine uB ?_
   | refine uH ?_
   | refine AWp.ret ?_
   | refine kU ?_
   | (refine rG 3 ?_
      refine kA ?_
      refine qr5f aJ ?_
      refine kA ?_
      (iterate 6 refine qr2 aG ?_)
      refine qr4 aR ?_
      refine aB ?_)
   | (refine rG 14 ?_
      refine kA ?_
      (iterate 3 refine kC ?_)
      refine aB ?_))
  refine ⟨mkSt 69 [(4, .c (iC (0))), (5, .c (iC ((p : Nat)))), (6, .c (bC false))] [] [], [], Wk.mk [] rfl rfl rfl ?_ trivial, rfl, rfl, ARets.three (x := .c _) (y := .c _) (z := .c _) (ARes.tmp rfl rfl) (ARes.tmp rfl rfl) (ARes.tmp rfl rfl)⟩
  exact allT
 have hk9' : (k : Int) < 10 := by omega
 by_cases hkm : p + k < s.length
 rotate_left
 ·have hkm' : ¬ (p : Int) + k < s.length := by omega
  obtain rfl : D = (0, 0) := by rw [← hd, List.drop_eq_nil_of_le (by omega)]; rfl
  rw [if_pos rfl]
  repeat (first
   | refine uA ?_
   | refine uB ?_
   | refine uH ?_
   | refine AWp.ret ?_
   | refine kU ?_
   | (refine rG 3 ?_
      refine kA ?_
      refine qr5t aK ?_
      (iterate 3 refine kA ?_)
      refine qr4w2 aL ?_
      refine kA ?_
      refine AList.lenStr (s.length) (by first | rfl | assumption) Try.underlying9 rfl rfl rfl ?_
      refine qr5f aJ ?_
      refine qr4 aS ?_
      refine aB ?_)
   | (refine rG 14 ?_
      refine kA ?_
      (iterate 3 refine kC ?_)
      refine aB ?_))
  refine ⟨mkSt 69 [(4, .c (iC (0))), (5, .c (iC ((p : Nat)))), (6, .c (bC false))] [] [], [], Wk.mk [] rfl rfl rfl ?_ trivial, rfl, rfl, ARets.three (x := .c _) (y := .c _) (z := .c _) (ARes.tmp rfl rfl) (ARes.tmp rfl rfl) (ARes.tmp rfl rfl)⟩
  exact allT
 have hkm' : (p : Int) + k < s.length := by omega
 obtain ⟨b, hb, hdr⟩ := by_drop hkm
 rw [hdr] at hd
 have hb256 := u8_lt b
 obtain ⟨x, hx⟩ : ∃ x, b.toNat = x := ⟨_, rfl⟩
 have hbx : ((b.toNat : Nat) : Int) = ((x : Nat) : Int) := by rw [hx]
 have hd' : (if 10 ≤ k then ((0 : Int), 0) else if 128 ≤ x then decF (k + 1) (code + x % 128 * 128 ^ k) (s.drop (p + k + 1)) else if (0 < k ∧ x = 0) ∨ (k = 9 ∧ 1 < x) then (0, 0) else (unz (code + x * 128 ^ k), k + 1)) = D := by rw [← hx]; exact hd
 rw [if_neg (by omega)] at hd'
 rw [hx] at hb256
 obtain ⟨q, g1, g2, g3, g4, g5, g6, g7⟩ := dec_step (k := k) (code := code) (x := x % 128) (by omega) (hc (by omega)) (by omega)
 have hand := and_run8 (P := Try.prog) (t := 5) (a := x) (b := 127) hb256 (by omega) (and127 x)
 have hcv : IntKind.u64.wrap ((x % 128 : Nat) : Int) = ((x % 128 : Nat) : Int) := by rw [IntKind.wrap_u64]; omega
 have hcu : IntKind.u64.wrap (7 * (k : Int)) = 7 * (k : Int) := by rw [IntKind.wrap_u64]; omega
 have hshl := shl_runY (P := Try.prog) (t := 171) (k := .u64) (ky := .u64) (x := ((x % 128 : Nat) : Int)) (y := 7 * (k : Int)) (n := 7 * k) (by omega) (by show 7 * k ≤ 64; omega) g1
 have hor := or_run64 (P := Try.prog) (t := 171) g3 g2 g4
 obtain ⟨c2, hc2⟩ : ∃ c2, code + q * 128 ^ k = c2 := ⟨_, rfl⟩
 obtain ⟨qk, hqk⟩ : ∃ qk, q * 128 ^ k = qk := ⟨_, rfl⟩
 rw [hqk] at g1 g2 g4 hshl hor
 rw [← hqk, hc2] at hor
 rw [hqk] at hor
 by_cases h128 : 128 ≤ x
 ·rw [if_pos h128] at hd'
  have h128' : ¬ (x : Int) < 128 := by omega
  repeat (first
   | refine uA ?_
   | refine uB ?_
   | refine uC ?_
   | refine uG ?_
   | refine uD ?_
   | refine kT ?_
   | refine kU ?_
   | (refine rG 3 ?_
      refine kA ?_
      refine qr5t aK ?_
      (iterate 3 refine kA ?_)
      refine qr4w2 aL ?_
      refine kA ?_
      refine AList.lenStr (s.length) (by first | rfl | assumption) Try.underlying9 rfl rfl rfl ?_
      refine qr5t aK ?_
      refine qr4 aS ?_
      refine aB ?_)
   | (refine rG 4 ?_
      refine kA ?_
      refine qr4w2 aL ?_
      refine kC ?_
      refine aB ?_)
   | (refine rG 5 ?_
      (iterate 3 refine kA ?_)
      refine qr4w2 aL ?_
      refine AList.idxStr (p + k) _ ((x : Nat)) (hb) (hbx) Try.underlying9 rfl rfl rfl rfl ?_
      refine kC ?_
      refine aB ?_)
   | (refine rG 6 ?_
      (iterate 2 refine kA ?_)
      refine AList.bin rfl rfl rfl rfl rfl (hand) rfl ?_
      refine AList.convI (hcv) (by kernel_rfl) Try.underlying171 rfl rfl rfl ?_
      refine kA ?_
      refine qr4w2 AList.mul ?_
      refine AList.convI (hcu) (by kernel_rfl) Try.underlying172 rfl rfl rfl ?_
      refine AList.bin rfl rfl rfl rfl rfl (hshl) rfl ?_
      refine AList.bin rfl rfl rfl rfl rfl (hor) rfl ?_
      refine kC ?_
      refine aB ?_)
   | (refine rG 7 ?_
      refine kA ?_
      refine qr5f aJ ?_
      refine aB ?_))
  refine ⟨(k + 1, c2), ⟨by dsimp only; omega, by dsimp only; omega, ?_, fun h => ?_, by dsimp only; omega⟩, Wk.mk [] rfl rfl rfl ?_ trivial, by dsimp only; omega⟩
  ·dsimp only at *
   rcases Nat.lt_or_ge k 9 with h9 | h9
   ·rw [← hd', ← hc2, g6 (.inl (by omega)), Nat.add_assoc]
   ·rw [decF_10 (by omega), ← hd', decF_10 (by omega)]
  ·dsimp only at h ⊢
   have := g7 (by omega)
   omega
  ·exact allT
 rw [if_neg h128] at hd'
 have h128' : (x : Int) < 128 := by omega
 repeat (first
  | refine uA ?_
  | refine uB ?_
  | refine uC ?_
  | refine uG ?_
  | refine kT ?_
  | (refine rG 3 ?_
     refine kA ?_
     refine qr5t aK ?_
     (iterate 3 refine kA ?_)
     refine qr4w2 aL ?_
     refine kA ?_
     refine AList.lenStr (s.length) (by first | rfl | assumption) Try.underlying9 rfl rfl rfl ?_
     refine qr5t aK ?_
     refine qr4 aS ?_
     refine aB ?_)
  | (refine rG 5 ?_
     (iterate 3 refine kA ?_)
     refine qr4w2 aL ?_
     refine AList.idxStr (p + k) _ ((x : Nat)) (hb) (hbx) Try.underlying9 rfl rfl rfl rfl ?_
     refine kC ?_
     refine aB ?_)
  | (refine rG 6 ?_
     (iterate 2 refine kA ?_)
     refine AList.bin rfl rfl rfl rfl rfl (hand) rfl ?_
     refine AList.convI (hcv) (by kernel_rfl) Try.underlying171 rfl rfl rfl ?_
     refine kA ?_
     refine qr4w2 AList.mul ?_
     refine AList.convI (hcu) (by kernel_rfl) Try.underlying172 rfl rfl rfl ?_
     refine AList.bin rfl rfl rfl rfl rfl (hshl) rfl ?_
     refine AList.bin rfl rfl rfl rfl rfl (hor) rfl ?_
     refine kC ?_
     refine aB ?_)
  | (refine rG 7 ?_
     refine kA ?_
     refine qr5t aK ?_
     refine aB ?_))
 by_cases hbad : (0 < k ∧ x = 0) ∨ (k = 9 ∧ 1 < x)
 ·rw [if_pos hbad] at hd'
  obtain rfl : D = (0, 0) := hd'.symm
  rw [if_pos rfl]
  rcases hbad with ⟨b1, rfl⟩ | ⟨rfl, b2⟩
  ·have b1' : (k : Int) > 0 := by omega
   repeat (first
    | refine uA ?_
    | refine uB ?_
    | refine AWp.ret ?_
    | refine thenA_r ?_
    | refine uE ?_
    | refine kT ?_
    | (refine rG 8 ?_
       refine kA ?_
       refine qr5t aK ?_
       (iterate 2 refine kA ?_)
       refine qr5t aK ?_
       refine qr4 aS ?_
       refine kA ?_
       (iterate 6 refine qr2 aG ?_)
       refine qr4 aS ?_
       refine aB ?_)
    | (refine rG 9 ?_
       refine kA ?_
       (iterate 3 refine kC ?_)
       refine aB ?_))
   refine ⟨mkSt 69 [(4, .c (iC (0))), (5, .c (iC ((p : Nat)))), (6, .c (bC false))] [] [], [], Wk.mk [] rfl rfl rfl ?_ trivial, rfl, rfl, ARets.three (x := .c _) (y := .c _) (z := .c _) (ARes.tmp rfl rfl) (ARes.tmp rfl rfl) (ARes.tmp rfl rfl)⟩
   exact allT
  ·have b1' : ((9 : Nat) : Int) > 0 := by omega
   have b3 : ¬ (x : Int) = 0 := by omega
   repeat (first
    | refine uA ?_
    | refine uB ?_
    | refine AWp.ret ?_
    | refine thenA_r ?_
    | refine uE ?_
    | refine kT ?_
    | (refine rG 8 ?_
       refine kA ?_
       refine qr5t aK ?_
       (iterate 2 refine kA ?_)
       refine qr5f aJ ?_
       refine qr4 aS ?_
       (iterate 2 refine kA ?_)
       refine qr5t aK ?_
       (iterate 2 refine kA ?_)
       refine qr5t aK ?_
       refine qr4 aS ?_
       refine qr4 aR ?_
       refine aB ?_)
    | (refine rG 9 ?_
       refine kA ?_
       (iterate 3 refine kC ?_)
       refine aB ?_))
   refine ⟨mkSt 69 [(4, .c (iC (0))), (5, .c (iC ((p : Nat)))), (6, .c (bC false))] [] [], [], Wk.mk [] rfl rfl rfl ?_ trivial, rfl, rfl, ARets.three (x := .c _) (y := .c _) (z := .c _) (ARes.tmp rfl rfl) (ARes.tmp rfl rfl) (ARes.tmp rfl rfl)⟩
   exact allT
 rw [if_neg hbad] at hd'
 have hq : q = x := by
  rw [g6 (by rcases Nat.lt_or_ge k 9 with h | h
             ·exact .inl (by omega)
             ·exact .inr (by omega))]
  omega
 have hc2' : code + x * 128 ^ k = c2 := by rw [← hc2, hq]
 rw [hc2'] at hd'
 rw [← hd', if_neg (by dsimp only; omega)]
 rw [hc2] at g5
 have hand1 := and_run64 (P := Try.prog) (t := 171) (a := c2) (b := 1) (c := c2 % 2) g5 (by decide) (Nat.and_one_is_mod c2)
 have hcv2 : IntKind.i64.wrap ((c2 : Int) / 2) = ((c2 / 2 : Nat) : Int) := by rw [IntKind.wrap_i64]; omega
 refine AWp.cut (mkSt 69 [(1, .c (iC (p : Nat))), (7, .c (wC c2)), (8, .c (iC (k : Nat))), (52, .c (bC false))] [] []) ?_ (fun S2 hw2 => AWp.weak hw2 ?_)
 ·by_cases k0 : k = 0
  ·subst k0
   repeat (first
    | (refine rG 8 ?_
       refine kA ?_
       refine qr5f aJ ?_
       refine kA ?_
       (iterate 2 refine qr2 aG ?_)
       refine qr4 aR ?_
       (iterate 2 refine kA ?_)
       refine qr5f aJ ?_
       refine kA ?_
       (iterate 2 refine qr2 aG ?_)
       (iterate 2 refine qr4 aR ?_)
       refine aB ?_))
   refine ⟨rfl, Wk.mk [] rfl rfl rfl ?_ trivial⟩
   exact allT
  have k0' : (k : Int) > 0 := by omega
  have hx0 : ¬ (x : Int) = 0 := by omega
  by_cases k9 : k = 9
  ·subst k9
   have hx1 : ¬ (x : Int) > 1 := by omega
   repeat (first
    | (refine rG 8 ?_
       refine kA ?_
       refine qr5t aK ?_
       (iterate 2 refine kA ?_)
       refine qr5f aJ ?_
       refine qr4 aS ?_
       (iterate 2 refine kA ?_)
       refine qr5t aK ?_
       (iterate 2 refine kA ?_)
       refine qr5f aJ ?_
       refine qr4 aS ?_
       refine qr4 aR ?_
       refine aB ?_))
   refine ⟨rfl, Wk.mk [] rfl rfl rfl ?_ trivial⟩
   exact allT
  ·have k9' : ¬ (k : Int) = 9 := by omega
   repeat (first
    | (refine rG 8 ?_
       refine kA ?_
       refine qr5t aK ?_
       (iterate 2 refine kA ?_)
       refine qr5f aJ ?_
       refine qr4 aS ?_
       (iterate 2 refine kA ?_)
       refine qr5f aJ ?_
       refine kA ?_
       (iterate 2 refine qr2 aG ?_)
       (iterate 2 refine qr4 aR ?_)
       refine aB ?_))
   refine ⟨rfl, Wk.mk [] rfl rfl rfl ?_ trivial⟩
   exact allT
 clear hw2 S2
 dsimp only
 have hpk : ((p + (k + 1) : Nat) : Int) = (p : Int) + k + 1 := by omega
 rw [hpk]
 by_cases hodd : c2 % 2 = 1
 ·have hodd' : ((c2 % 2 : Nat) : Int) = 1 := by omega
  rw [show unz c2 = -((c2 / 2 : Nat) : Int) - 1 from if_pos hodd]
  repeat (first
   | refine uA ?_
   | refine uB ?_
   | refine uG ?_
   | refine AWp.ret ?_
   | refine thenA_r ?_
   | refine uE ?_
   | refine kT ?_
   | refine kU ?_
   | (refine rG 10 ?_
      refine kA ?_
      refine qr4 AList.shr1 ?_
      refine AList.convI (hcv2) (by kernel_rfl) Try.underlying3 rfl rfl rfl ?_
      refine kC ?_
      refine aB ?_)
   | (refine rG 11 ?_
      refine kA ?_
      refine AList.bin rfl rfl rfl rfl rfl (hand1) rfl ?_
      refine qr5t aK ?_
      refine aB ?_)
   | (refine rG 12 ?_
      refine kA ?_
      refine qr3w2 AList.neg ?_
      refine qr4w2 AList.sub ?_
      refine kC ?_
      refine aB ?_)
   | (refine rG 13 ?_
      (iterate 3 refine kA ?_)
      (iterate 2 refine qr4w2 aL ?_)
      (iterate 3 refine kC ?_)
      refine aB ?_))
  refine ⟨mkSt 69 [(4, .c (iC (-((c2 / 2 : Nat) : Int) - 1))), (5, .c (iC ((p : Int) + k + 1))), (6, .c (bC true))] [] [], [], Wk.mk [] rfl rfl rfl ?_ trivial, rfl, rfl, ARets.three (x := .c _) (y := .c _) (z := .c _) (ARes.tmp rfl rfl) (ARes.tmp rfl rfl) (ARes.tmp rfl rfl)⟩
  exact allT
 ·have hodd' : ¬ ((c2 % 2 : Nat) : Int) = 1 := by omega
  rw [show unz c2 = ((c2 / 2 : Nat) : Int) from if_neg hodd]
  repeat (first
   | refine uA ?_
   | refine uB ?_
   | refine uG ?_
   | refine AWp.ret ?_
   | refine thenA_r ?_
   | refine uE ?_
   | refine kU ?_
   | (refine rG 10 ?_
      refine kA ?_
      refine qr4 AList.shr1 ?_
      refine AList.convI (hcv2) (by kernel_rfl) Try.underlying3 rfl rfl rfl ?_
      refine kC ?_
      refine aB ?_)
   | (refine rG 11 ?_
      refine kA ?_
      refine AList.bin rfl rfl rfl rfl rfl (hand1) rfl ?_
      refine qr5f aJ ?_
      refine aB ?_)
   | (refine rG 13 ?_
      (iterate 3 refine kA ?_)
      (iterate 2 refine qr4w2 aL ?_)
      (iterate 3 refine kC ?_)
      refine aB ?_))
  refine ⟨mkSt 69 [(4, .c (iC (((c2 / 2 : Nat) : Int)))), (5, .c (iC ((p : Int) + k + 1))), (6, .c (bC true))] [] [], [], Wk.mk [] rfl rfl rfl ?_ trivial, rfl, rfl, ARets.three (x := .c _) (y := .c _) (z := .c _) (ARes.tmp rfl rfl) (ARes.tmp rfl rfl) (ARes.tmp rfl rfl)⟩
  exact allT
end Go.Proofs.Ytekkldgmjdllbaa
end
