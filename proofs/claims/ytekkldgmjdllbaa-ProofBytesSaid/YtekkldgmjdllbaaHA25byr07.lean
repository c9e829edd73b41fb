/- Parts of the proof: A25bi, A25bj, A25bk, A25by. -/
import Derived.Test.YtekkldgmjdllbaaHA25byr04
import Derived.Test.YtekkldgmjdllbaaHA25byr06
import Derived.Test.YtekkldgmjdllbaaHA25byr03
import Derived.Test.YtekkldgmjdllbaaG31
import Derived.Test.YtekkldgmjdllbaaHA25byr05
import Derived.Test.YtekkldgmjdllbaaG37
import Derived.Test.YtekkldgmjdllbaaG36
import Derived.Test.YtekkldgmjdllbaaG22
import Derived.Test.YtekkldgmjdllbaaG27
import Derived.Laws.Pointers
import Derived.Test.YtekkldgmjdllbaaG04
import Derived.Scope
import Derived.Test.YtekkldgmjdllbaaG30
import Derived.Test.YtekkldgmjdllbaaG23
import Derived.Lib.Builder
import Derived.Lib.UnsafeStr
import Derived.Laws.Externs
import Derived.Lib.BufferRead
import Derived.Test.YtekkldgmjdllbaaG28
import Derived.WideKeyMaps
import Derived.MapKept
import Derived.Carry
import Derived.Test.YtekkldgmjdllbaaG03
import Derived.RangeFuncLeaves
import Derived.RangeFuncRecord
import Derived.Test.YtekkldgmjdllbaaG21
import Derived.Test.YtekkldgmjdllbaaG35
import Derived.Test.YtekkldgmjdllbaaG08
import Derived.Test.YtekkldgmjdllbaaHA25byr01
import Derived.Test.YtekkldgmjdllbaaG07
import Derived.Test.YtekkldgmjdllbaaG20
import Derived.Test.YtekkldgmjdllbaaG02
import Derived.Test.YtekkldgmjdllbaaG29
import Derived.Test.YtekkldgmjdllbaaG09
import Derived.Test.YtekkldgmjdllbaaG33
import Derived.Laws.StructEq
import Derived.Test.YtekkldgmjdllbaaG06
import Derived.Test.YtekkldgmjdllbaaG01
import Derived.Test.YtekkldgmjdllbaaG17
import Derived.Shelf.Abstract
import Derived.Deep.AppendLies
import Derived.OrdersIn
import Derived.TacticsIn
import Derived.RangeFuncCalls
import Derived.Test.YtekkldgmjdllbaaG32
import Derived.Test.YtekkldgmjdllbaaG34
import Derived.Test.YtekkldgmjdllbaaG05
import Derived.Great.BuildSlice
import Derived.Laws.Cover3
import Derived.Maps.AppendAt
import Derived.OwnWalk
import Derived.RangeFuncNested
import Derived.StillTail
import Derived.Below
import Derived.Deep.Draws
import Derived.WalkKit
import Derived.KernelRfl
import Derived.Test.YtekkldgmjdllbaaG19
import Derived.Test.YtekkldgmjdllbaaG18
import Derived.Test.YtekkldgmjdllbaaG16
import Derived.Test.YtekkldgmjdllbaaG13
import Derived.Test.YtekkldgmjdllbaaProg
import Derived.Test.YtekkldgmjdllbaaG11
import Derived.Test.YtekkldgmjdllbaaG12
import Derived.Test.YtekkldgmjdllbaaG15
import Derived.Lib.Hide
import Derived.Deep.QuietTactic
import Derived.BigQuiet
import Derived.Deep.DrawnRows
import Derived.Test.YtekkldgmjdllbaaG10
import Derived.Test.YtekkldgmjdllbaaG14
import Derived.Test.YtekkldgmjdllbaaG39
import Derived.Test.YtekkldgmjdllbaaG25
import Derived.Test.YtekkldgmjdllbaaG38
import Derived.Test.YtekkldgmjdllbaaG24
set_option linter.unusedSimpArgs false
set_option linter.unusedVariables false
section
namespace Go.Proofs.Ytekkldgmjdllbaa
open Go.RowKit Go.Flow Go.AV Go.Plain
def qR (s : List UInt8) : Nat × Bool → Rst
 | (_, true) => none
 | (k, false) => some (s.drop k)
abbrev rrC (s : List UInt8) (y : Nat × Bool) : List CV := [byV s, iC (y.1 : Nat), bC y.2]
abbrev rrB (s : List UInt8) (y : Nat × Bool) : AB := ⟨false, 1, 3, 182, lF (rrC s y)⟩
theorem rr_imm (s : List UInt8) (y : Nat × Bool) : ∀ j, j < 3 → immC (lF (rrC s y) 0 j) = true := fun j hj => by
 match j, hj with
 | 0, _ => rfl
 | 1, _ => rfl
 | 2, _ => rfl
theorem rr_lend {S : St} {ids mids : List Nat} {p : Nat} {s : List UInt8} {y : Nat × Bool} (hp : S.h p = some (rrB s y)) : LendOkM S ids mids [p] [rrB s y] :=
 ⟨⟨_, hp, (fun h => by cases h), fun k hk j hj => by
   obtain rfl : k = 0 := Nat.lt_one_iff.mp hk
   exact .b (.imm _ (rr_imm s y j hj))⟩, trivial⟩
theorem rr_back {ids ni : List Nat} {s : List UInt8} {y : Nat × Bool} : BackBM ids ni [rrB s y] [rrB s y] :=
 ⟨⟨_, rfl, fun k hk j hj => by
   obtain rfl : k = 0 := Nat.lt_one_iff.mp hk
   exact .b (.imm _ (rr_imm s y j hj))⟩, trivial⟩
theorem rr_new {ids ni : List Nat} {s : List UInt8} {y : Nat × Bool} : BackB ids ni [rrB s y] [rrB s y] :=
 ⟨⟨_, rfl, fun k hk j hj => by
   obtain rfl : k = 0 := Nat.lt_one_iff.mp hk
   exact .imm _ (rr_imm s y j hj)⟩, trivial⟩
theorem rr_arg {ids mids : List Nat} {p : Nat} (h : posOf ids p = some 0 := by rfl) : LentV ids mids (.c (.pt p 3 0 0)) (.c (.pt 1000 3 0 0)) := .c (.b (.pt p 0 3 0 0 h))
theorem rr_heap {S : St} {ren : List (Nat × Option Nat)} {F : Nat → Nat → CV} {s : List UInt8} {y : Nat × Bool} (hh : S.h 1000 = some ⟨false, 1, 3, 182, F⟩) (hc : cellsFrom (F 0) 0 3 = rrC s y) : HeapOk S ren 1000 (rrB s y) :=
 HeapOk.lent rfl hh hc rfl
set_option maxRecDepth 100000 in
theorem rNew_M (s : List UInt8) : GMCalls Try.prog 77 [.c (byV s)] [] [] (.c (.pt 900 3 0 0)) [] [rrB s (0, false)] := by
 refine gm_at Try.func77 rfl rfl Try.ntmps77 rfl ?_
 repeat (first
  | refine uA ?_
  | refine uB ?_
  | refine AWp.ret ?_
  | (refine rG 0 ?_
     refine kC ?_
     refine aB ?_)
  | (refine rG 1 ?_
     refine kA ?_
     refine qr8 (aX tyOk) ?_
     refine qr5 aQ ?_
     refine kC ?_
     refine aB ?_))
 refine ⟨mkSt 6 [(2, .c (.pt 900 3 0 0))] [(900, rrB s (0, false))] [900], [], _, [], [rrB s (0, false)], ⟨rfl, rfl, rfl⟩, rfl, Wk.mk [(900, some 5)] rfl rfl rfl ?_ ?_, rfl, rfl, GRets.one (x := .c _) (GRes.tmp rfl)⟩
 ·exact allT
 ·exact allH
set_option maxRecDepth 100000 in
theorem rBad_M (s : List UInt8) (k : Nat) (b : Bool) : GMCalls Try.prog 79 [.c (.pt 1000 3 0 0)] [rrB s (k, b)] [] (.c (bC b)) [rrB s (k, b)] [] := by
 cases b with
 | true =>
   refine gm_at Try.func79 rfl rfl Try.ntmps79 rfl ?_
   repeat (first
    | refine uA ?_
    | refine uB ?_
    | refine AWp.ret ?_
    | (refine rG 0 ?_
       refine kC ?_
       refine aB ?_)
    | (refine rG 1 ?_
       refine kA ?_
       refine AList.ptNilF rfl rfl rfl rfl (ptr_under Try.underlying138) ?_
       (iterate 2 refine kA ?_)
       refine AList.nilPt rfl rfl rfl rfl ?_
       refine kD ?_
       refine kE ?_
       refine qr4 aR ?_
       refine kC ?_
       refine aB ?_))
   refine ⟨mkL 11 1 [(2, .c (bC true))] [(1000, rrB s ((k, true)))] [], [], _, [rrB s ((k, true))], [], ⟨rfl, rfl, rfl⟩, rfl, Wk.mkL [] rfl rfl rfl rfl rfl ?_ ⟨rr_heap rfl rfl, trivial⟩, rfl, rfl, GRets.one (x := .c _) (GRes.tmp rfl)⟩
   exact allT
 | false =>
   refine gm_at Try.func79 rfl rfl Try.ntmps79 rfl ?_
   repeat (first
    | refine uA ?_
    | refine uB ?_
    | refine AWp.ret ?_
    | (refine rG 0 ?_
       refine kC ?_
       refine aB ?_)
    | (refine rG 1 ?_
       refine kA ?_
       refine AList.ptNilF rfl rfl rfl rfl (ptr_under Try.underlying138) ?_
       (iterate 2 refine kA ?_)
       refine AList.nilPt rfl rfl rfl rfl ?_
       refine kD ?_
       refine kE ?_
       refine qr4 aR ?_
       refine kC ?_
       refine aB ?_))
   refine ⟨mkL 11 1 [(2, .c (bC false))] [(1000, rrB s ((k, false)))] [], [], _, [rrB s ((k, false))], [], ⟨rfl, rfl, rfl⟩, rfl, Wk.mkL [] rfl rfl rfl rfl rfl ?_ ⟨rr_heap rfl rfl, trivial⟩, rfl, rfl, GRets.one (x := .c _) (GRes.tmp rfl)⟩
   exact allT
set_option maxRecDepth 100000 in
theorem rfail_M (s : List UInt8) (k : Nat) (b : Bool) : GMCalls Try.prog 124 [.c (.pt 1000 3 0 0)] [rrB s (k, b)] [] (.tu []) [rrB s (k, true)] [] := by
 refine gm_at Try.func124 rfl rfl Try.ntmps124 rfl ?_
 repeat (first
  | refine uA ?_
  | refine uB ?_
  | refine kT ?_
  | (refine rG 0 ?_
     refine kA ?_
     refine AList.ptNeNil (ptr_under Try.underlying138) rfl rfl rfl ?_
     refine aB ?_)
  | (refine rG 1 ?_
     refine kA ?_
     refine AList.nilPt rfl rfl rfl rfl ?_
     refine kD ?_
     refine kI ?_
     refine aB ?_))
 refine ⟨mkL 7 1 [] [(1000, rrB s ((k, true)))] [], [], _, [rrB s ((k, true))], [], ⟨rfl, rfl, rfl⟩, rfl, Wk.mkL [] rfl rfl rfl rfl rfl ?_ ⟨rr_heap rfl rfl, trivial⟩, rfl, rfl, GRets.no⟩
 exact allT
set_option maxRecDepth 100000 in
theorem rLeft_M (s : List UInt8) (k : Nat) (b : Bool) (hs : s.length ≤ 1000000000) (hk : k ≤ s.length) : GMCalls Try.prog 81 [.c (.pt 1000 3 0 0)] [rrB s (k, b)] [] (.c (iC (((qR s (k, b)).getD []).length : Nat))) [rrB s (k, b)] [] := by
 cases b with
 | true =>
   rw [show ((((qR s (k, true)).getD []).length : Nat) : Int) = 0 from rfl]
   refine gm_at Try.func81 rfl rfl Try.ntmps81 rfl ?_
   repeat (first
    | refine uA ?_
    | refine uB ?_
    | refine AWp.ret ?_
    | refine thenA_r ?_
    | refine kT ?_
    | (refine rG 0 ?_
       refine kC ?_
       refine aB ?_)
    | (refine rG 1 ?_
       refine kA ?_
       refine AList.ptNilF rfl rfl rfl rfl (ptr_under Try.underlying138) ?_
       (iterate 2 refine kA ?_)
       refine AList.nilPt rfl rfl rfl rfl ?_
       refine kD ?_
       refine kE ?_
       refine qr4 aR ?_
       refine aB ?_)
    | (refine rG 2 ?_
       refine kC ?_
       refine aB ?_))
   refine ⟨mkL 21 1 [(2, .c (iC 0))] [(1000, rrB s ((k, true)))] [], [], _, [rrB s ((k, true))], [], ⟨rfl, rfl, rfl⟩, rfl, Wk.mkL [] rfl rfl rfl rfl rfl ?_ ⟨rr_heap rfl rfl, trivial⟩, rfl, rfl, GRets.one (x := .c _) (GRes.tmp rfl)⟩
   exact allT
 | false =>
   rw [show ((((qR s (k, false)).getD []).length : Nat) : Int) = (s.length : Int) - (k : Int) by show (((s.drop k).length : Nat) : Int) = _; rw [List.length_drop]; omega]
   refine gm_at Try.func81 rfl rfl Try.ntmps81 rfl ?_
   repeat (first
    | refine uA ?_
    | refine uB ?_
    | refine uG ?_
    | refine AWp.ret ?_
    | refine kU ?_
    | (refine rG 0 ?_
       refine kC ?_
       refine aB ?_)
    | (refine rG 1 ?_
       refine kA ?_
       refine AList.ptNilF rfl rfl rfl rfl (ptr_under Try.underlying138) ?_
       (iterate 2 refine kA ?_)
       refine AList.nilPt rfl rfl rfl rfl ?_
       refine kD ?_
       refine kE ?_
       refine qr4 aR ?_
       refine aB ?_)
    | (refine AWp.draw (id := 3) mixed ?_; refine kA ?_; refine AList.nilPt rfl rfl rfl rfl ?_; refine kD ?_; refine kE ?_; refine AList.lenStr (s.length) (by first | rfl | assumption) Try.underlying9 rfl rfl rfl ?_; refine kA ?_; refine AList.nilPt rfl rfl rfl rfl ?_; refine kD ?_; refine kE ?_; refine qr4w2 AList.sub ?_; refine kC ?_; refine aB ⟨by kernel_rfl, ?_⟩))
   refine ⟨mkL 21 1 [(2, .c (iC ((s.length : Int) - (k : Int))))] [(1000, rrB s ((k, false)))] [], [], _, [rrB s ((k, false))], [], ⟨rfl, rfl, rfl⟩, rfl, Wk.mkL [] rfl rfl rfl rfl rfl ?_ ⟨rr_heap rfl rfl, trivial⟩, rfl, rfl, GRets.one (x := .c _) (GRes.tmp rfl)⟩
   exact allT
def qS (s : List UInt8) : Nat × Bool → Nat × Bool
 | (k, true) => (k, true)
 | (k, false) => if (decV (s.drop k)).2 = 0 then (k, true) else (k + (decV (s.drop k)).2, false)
set_option maxHeartbeats 1000000 in
set_option maxRecDepth 100000 in
theorem rInt_M (s : List UInt8) (hs : s.length ≤ 1000000000) (y : Nat × Bool) (hy : y.1 ≤ s.length) : (qS s y).1 ≤ s.length ∧ qR s (qS s y) = (rI (qR s y)).2 ∧ GMCalls Try.prog 78 [.c (.pt 1000 3 0 0)] [rrB s y] [] (.c (iC (rI (qR s y)).1)) [rrB s (qS s y)] [] := by
 obtain ⟨k, b⟩ := y
 dsimp only at hy
 have hb := rBad_M s k b
 cases b with
 | true =>
   rw [show qS s (k, true) = (k, true) from rfl]
   refine ⟨hy, rfl, ?_⟩
   rw [show rI (qR s (k, true)) = (0, none) from rfl]
   have hf := rfail_M s k true
   have hn := number_A s k hs hy
   refine gm_at Try.func78 rfl rfl Try.ntmps78 rfl ?_
   repeat (first
    | refine uA ?_
    | refine uB ?_
    | refine AWp.ret ?_
    | refine thenA_r ?_
    | refine kT ?_
    | (refine rG 0 ?_
       refine kC ?_
       refine aB ?_)
    | (refine rG 1 ?_
       refine kA ?_
       refine AList.callM [1000] [] [] [rrB s ((k, true))] [] [rrB s ((k, true))] [] [rrB s ((k, true))] [] rfl rfl FnV.func rfl Try.func79 rfl (by kernel_rfl) (rr_lend rfl) (trivial) rfl (by exact ⟨rr_arg, trivial⟩) (.c (.imm _ rfl)) (rr_back) (trivial) (hb) ?_
       refine aB ?_)
    | (refine rG 2 ?_
       refine kC ?_
       refine aB ?_))
   refine ⟨mkL 30 1 [(2, .c (iC 0))] [(1000, rrB s ((k, true)))] [], [], _, [rrB s ((k, true))], [], ⟨rfl, rfl, rfl⟩, rfl, Wk.mkL [] rfl rfl rfl rfl rfl ?_ ⟨rr_heap rfl rfl, trivial⟩, rfl, rfl, GRets.one (x := .c _) (GRes.tmp rfl)⟩
   exact allT
 | false =>
   have hf := rfail_M s k false
   have hn := number_A s k hs hy
   unfold nuV at hn
   by_cases h0 : (decV (s.drop k)).2 = 0
   ·rw [if_pos h0] at hn
    have e : rI (qR s (k, false)) = (0, none) := if_pos h0
    rw [show qS s (k, false) = (k, true) from if_pos h0]
    refine ⟨hy, by rw [e]; rfl, ?_⟩
    rw [e]
    refine gm_at Try.func78 rfl rfl Try.ntmps78 rfl ?_
    repeat (first
     | refine uA ?_
     | refine uB ?_
     | refine uG ?_
     | refine AWp.ret ?_
     | refine thenA_r ?_
     | refine kT ?_
     | refine kU ?_
     | (refine rG 0 ?_
        refine kC ?_
        refine aB ?_)
     | (refine rG 1 ?_
        refine kA ?_
        refine AList.callM [1000] [] [] [rrB s ((k, false))] [] [rrB s ((k, false))] [] [rrB s ((k, false))] [] rfl rfl FnV.func rfl Try.func79 rfl (by kernel_rfl) (rr_lend rfl) (trivial) rfl (by exact ⟨rr_arg, trivial⟩) (.c (.imm _ rfl)) (rr_back) (trivial) (hb) ?_
        refine aB ?_)
     | (refine AWp.draw (id := 3) mixed ?_; refine kA ?_; refine AList.nilPt rfl rfl rfl rfl ?_; refine kD ?_; refine kE ?_; refine kA ?_; refine AList.nilPt rfl rfl rfl rfl ?_; refine kD ?_; refine kE ?_; refine aH rfl rfl rfl rfl Try.func123 rfl (by kernel_rfl) (hn) ?_; refine kA ?_; (iterate 3 refine qr4 aN ?_); (iterate 3 refine kC ?_); refine aB ⟨by kernel_rfl, ?_⟩)
     | (refine rG 4 ?_
        refine kA ?_
        refine qr3 AList.notB ?_
        refine aB ?_)
     | (refine rG 5 ?_
        refine kA ?_
        refine AList.callM [1000] [] [] [rrB s ((k, false))] [] [rrB s ((k, true))] [] [rrB s ((k, true))] [] rfl rfl FnV.func rfl Try.func124 rfl (by kernel_rfl) (rr_lend rfl) (trivial) rfl (by exact ⟨rr_arg, trivial⟩) (.tu (l := []) (m := []) trivial) (rr_back) (trivial) (hf) ?_
        refine aB ?_)
     | (refine rG 6 ?_
        refine kC ?_
        refine aB ?_))
    refine ⟨mkL 30 1 [(2, .c (iC 0))] [(1000, rrB s ((k, true)))] [], [], _, [rrB s ((k, true))], [], ⟨rfl, rfl, rfl⟩, rfl, Wk.mkL [] rfl rfl rfl rfl rfl ?_ ⟨rr_heap rfl rfl, trivial⟩, rfl, rfl, GRets.one (x := .c _) (GRes.tmp rfl)⟩
    exact allT
   ·rw [if_neg h0] at hn
    obtain ⟨-, -, -, hle⟩ := decV_can (s := s.drop k) (n := (decV (s.drop k)).1) (u := (decV (s.drop k)).2) rfl (by omega)
    rw [List.length_drop] at hle
    have e : rI (qR s (k, false)) = ((decV (s.drop k)).1, some ((s.drop k).drop (decV (s.drop k)).2)) := if_neg h0
    rw [show qS s (k, false) = (k + (decV (s.drop k)).2, false) from if_neg h0]
    refine ⟨by show _ + _ ≤ _; omega, by rw [e]; show some (s.drop _) = some _; rw [List.drop_drop], ?_⟩
    rw [e]
    dsimp only
    generalize (decV (s.drop k)).1 = n at hn ⊢
    generalize (decV (s.drop k)).2 = u at hn ⊢
    refine gm_at Try.func78 rfl rfl Try.ntmps78 rfl ?_
    repeat (first
     | refine uA ?_
     | refine uB ?_
     | refine uG ?_
     | refine AWp.ret ?_
     | refine kU ?_
     | (refine rG 0 ?_
        refine kC ?_
        refine aB ?_)
     | (refine rG 1 ?_
        refine kA ?_
        refine AList.callM [1000] [] [] [rrB s ((k, false))] [] [rrB s ((k, false))] [] [rrB s ((k, false))] [] rfl rfl FnV.func rfl Try.func79 rfl (by kernel_rfl) (rr_lend rfl) (trivial) rfl (by exact ⟨rr_arg, trivial⟩) (.c (.imm _ rfl)) (rr_back) (trivial) (hb) ?_
        refine aB ?_)
     | (refine AWp.draw (id := 3) mixed ?_; refine kA ?_; refine AList.nilPt rfl rfl rfl rfl ?_; refine kD ?_; refine kE ?_; refine kA ?_; refine AList.nilPt rfl rfl rfl rfl ?_; refine kD ?_; refine kE ?_; refine aH rfl rfl rfl rfl Try.func123 rfl (by kernel_rfl) (hn) ?_; refine kA ?_; (iterate 3 refine qr4 aN ?_); (iterate 3 refine kC ?_); refine aB ⟨by kernel_rfl, ?_⟩)
     | (refine rG 4 ?_
        refine kA ?_
        refine qr3 AList.notB ?_
        refine aB ?_)
     | (refine rG 7 ?_
        (iterate 2 refine kA ?_)
        refine AList.nilPt rfl rfl rfl rfl ?_
        refine kD ?_
        refine kI ?_
        refine aB ?_)
     | (refine rG 8 ?_
        refine kA ?_
        refine kC ?_
        refine aB ?_))
    refine ⟨mkL 30 1 [(2, .c (iC n))] [(1000, rrB s ((k + u, false)))] [], [], _, [rrB s ((k + u, false))], [], ⟨rfl, rfl, rfl⟩, rfl, Wk.mkL [] rfl rfl rfl rfl rfl ?_ ⟨rr_heap rfl rfl, trivial⟩, rfl, rfl, GRets.one (x := .c _) (GRes.tmp rfl)⟩
    exact allT
def qN (s : List UInt8) (y : Nat × Bool) : Nat → Nat × Bool
 | 0 => y
 | k + 1 => qS s (qN s y k)
def qL (s : List UInt8) (y : Nat × Bool) : Nat × Bool := match (rI (qR s y)).2 with
 | none => ((qS s y).1, true)
 | some t => if (rI (qR s y)).1 < 0 ∨ (t.length : Int) < (rI (qR s y)).1 then ((qS s y).1, true) else qN s (qS s y) (rI (qR s y)).1.toNat
theorem qN_rel {s : List UInt8} (hs : s.length ≤ 1000000000) {y : Nat × Bool} (hy : y.1 ≤ s.length) : ∀ k, (qN s y k).1 ≤ s.length ∧ qR s (qN s y k) = (rN k (qR s y)).2
 | 0 => ⟨hy, rfl⟩
 | k + 1 => by
   obtain ⟨h1, h2⟩ := qN_rel hs hy k
   obtain ⟨g1, g2, -⟩ := rInt_M s hs (qN s y k) h1
   exact ⟨g1, by rw [rN_snoc]; show qR s (qS s (qN s y k)) = _; rw [g2, h2]⟩
set_option maxHeartbeats 2000000 in
set_option maxRecDepth 100000 in
theorem rInts_M (s : List UInt8) (hs : s.length ≤ 1000000000) (y : Nat × Bool) (hy : y.1 ≤ s.length) : (qL s y).1 ≤ s.length ∧ qR s (qL s y) = (rL (qR s y)).2 ∧ GMCalls Try.prog 80 [.c (.pt 1000 3 0 0)] [rrB s y] [] (.c (.ow 900)) [rrB s (qL s y)] [rwI (rL (qR s y)).1] := by
 obtain ⟨g1, g2, hi⟩ := rInt_M s hs y hy
 have eQ : qL s y = match (rI (qR s y)).2 with
  | none => ((qS s y).1, true)
  | some t => if (rI (qR s y)).1 < 0 ∨ (t.length : Int) < (rI (qR s y)).1 then ((qS s y).1, true) else qN s (qS s y) (rI (qR s y)).1.toNat := rfl
 have eL : rL (qR s y) = match (rI (qR s y)).2 with
  | none => ([], none)
  | some t => if (rI (qR s y)).1 < 0 ∨ (t.length : Int) < (rI (qR s y)).1 then ([], none) else rE (rN (rI (qR s y)).1.toNat (some t)) := rfl
 generalize qS s y = y1 at *
 generalize rI (qR s y) = x at *
 obtain ⟨n, q⟩ := x
 dsimp only at g2 hi eQ eL
 subst g2
 rw [eQ, eL]
 clear eQ eL
 obtain ⟨k1, b1⟩ := y1
 dsimp only at g1
 have hb := rBad_M s k1 b1
 have hf := rfail_M s k1 b1
 cases b1 with
 | true =>
   refine ⟨g1, rfl, ?_⟩
   dsimp only [qR]
   refine gm_at Try.func80 rfl rfl Try.ntmps80 rfl ?_
   repeat (first
    | refine uA ?_
    | refine uB ?_
    | refine AWp.ret ?_
    | refine thenA_r ?_
    | refine kT ?_
    | (refine rG 0 ?_
       refine kC ?_
       refine aB ?_)
    | (refine rG 1 ?_
       refine kA ?_
       refine AList.callM [1000] [] [] [rrB s (y)] [] [rrB s ((k1, true))] [] [rrB s ((k1, true))] [] rfl rfl FnV.func rfl Try.func78 rfl (by kernel_rfl) (rr_lend rfl) (trivial) rfl (by exact ⟨rr_arg, trivial⟩) (.c (.imm _ rfl)) (rr_back) (trivial) (hi) ?_
       refine kC ?_
       refine aB ?_)
    | (refine AWp.draw (id := 2) mixed ?_; refine kA ?_; refine AList.callM [1000] [] [] [rrB s ((k1, true))] [] [rrB s ((k1, true))] [] [rrB s ((k1, true))] [] rfl rfl FnV.func rfl Try.func79 rfl (by kernel_rfl) (rr_lend rfl) (trivial) rfl (by exact ⟨rr_arg, trivial⟩) (.c (.imm _ rfl)) (rr_back) (trivial) (hb) ?_; refine kA ?_; (iterate 2 refine qr2 aG ?_); refine qr4 aS ?_; refine kA ?_; (iterate 12 refine qr2 aG ?_); refine qr4 aS ?_; refine aB ⟨by kernel_rfl, ?_⟩)
    | (refine rG 3 ?_
       refine kA ?_
       refine AList.callM [1000] [] [] [rrB s ((k1, true))] [] [rrB s ((k1, true))] [] [rrB s ((k1, true))] [] rfl rfl FnV.func rfl Try.func124 rfl (by kernel_rfl) (rr_lend rfl) (trivial) rfl (by exact ⟨rr_arg, trivial⟩) (.tu (l := []) (m := []) trivial) (rr_back) (trivial) (hf) ?_
       refine aB ?_)
    | (refine rG 4 ?_
       refine kC ?_
       refine aB ?_))
   refine ⟨mkL 43 1 [(2, .c (.ow 900))] [(900, rwI []), (1000, rrB s ((k1, true)))] [900], [], _, [rrB s ((k1, true))], [rwI []], ⟨rfl, rfl, rfl⟩, rfl, Wk.mkL [(900, none)] rfl rfl rfl rfl rfl ?_ ⟨HeapOk.nil rfl rfl, rr_heap rfl rfl, trivial⟩, rfl, rfl, GRets.one (x := .c _) (GRes.tmp rfl)⟩
   exact allT
 | false =>
   have hdl : (((s.drop k1).length : Nat) : Int) = (s.length : Int) - (k1 : Int) := by rw [List.length_drop]; omega
   have eq : qR s (k1, false) = some (s.drop k1) := rfl
   rw [eq]
   dsimp only
   by_cases h1 : n < 0
   ·rw [if_pos (.inl h1), if_pos (.inl h1)]
    refine ⟨g1, rfl, ?_⟩
    refine gm_at Try.func80 rfl rfl Try.ntmps80 rfl ?_
    repeat (first
     | refine uA ?_
     | refine uB ?_
     | refine AWp.ret ?_
     | refine thenA_r ?_
     | refine kT ?_
     | (refine rG 0 ?_
        refine kC ?_
        refine aB ?_)
     | (refine rG 1 ?_
        refine kA ?_
        refine AList.callM [1000] [] [] [rrB s (y)] [] [rrB s ((k1, false))] [] [rrB s ((k1, false))] [] rfl rfl FnV.func rfl Try.func78 rfl (by kernel_rfl) (rr_lend rfl) (trivial) rfl (by exact ⟨rr_arg, trivial⟩) (.c (.imm _ rfl)) (rr_back) (trivial) (hi) ?_
        refine kC ?_
        refine aB ?_)
     | (refine AWp.draw (id := 2) mixed ?_; refine kA ?_; refine AList.callM [1000] [] [] [rrB s ((k1, false))] [] [rrB s ((k1, false))] [] [rrB s ((k1, false))] [] rfl rfl FnV.func rfl Try.func79 rfl (by kernel_rfl) (rr_lend rfl) (trivial) rfl (by exact ⟨rr_arg, trivial⟩) (.c (.imm _ rfl)) (rr_back) (trivial) (hb) ?_; (iterate 2 refine kA ?_); refine qr5t aK ?_; refine qr4 aR ?_; refine kA ?_; (iterate 12 refine qr2 aG ?_); refine qr4 aS ?_; refine aB ⟨by kernel_rfl, ?_⟩)
     | (refine rG 3 ?_
        refine kA ?_
        refine AList.callM [1000] [] [] [rrB s ((k1, false))] [] [rrB s ((k1, true))] [] [rrB s ((k1, true))] [] rfl rfl FnV.func rfl Try.func124 rfl (by kernel_rfl) (rr_lend rfl) (trivial) rfl (by exact ⟨rr_arg, trivial⟩) (.tu (l := []) (m := []) trivial) (rr_back) (trivial) (hf) ?_
        refine aB ?_)
     | (refine rG 4 ?_
        refine kC ?_
        refine aB ?_))
    refine ⟨mkL 43 1 [(2, .c (.ow 900))] [(900, rwI []), (1000, rrB s ((k1, true)))] [900], [], _, [rrB s ((k1, true))], [rwI []], ⟨rfl, rfl, rfl⟩, rfl, Wk.mkL [(900, none)] rfl rfl rfl rfl rfl ?_ ⟨HeapOk.nil rfl rfl, rr_heap rfl rfl, trivial⟩, rfl, rfl, GRets.one (x := .c _) (GRes.tmp rfl)⟩
    exact allT
   ·by_cases h2 : (((s.drop k1).length : Nat) : Int) < n
    ·have h2' : n > (s.length : Int) - (k1 : Int) := by omega
     rw [if_pos (.inr h2), if_pos (.inr h2)]
     refine ⟨g1, rfl, ?_⟩
     refine gm_at Try.func80 rfl rfl Try.ntmps80 rfl ?_
     repeat (first
      | refine uA ?_
      | refine uB ?_
      | refine AWp.ret ?_
      | refine thenA_r ?_
      | refine kT ?_
      | (refine rG 0 ?_
         refine kC ?_
         refine aB ?_)
      | (refine rG 1 ?_
         refine kA ?_
         refine AList.callM [1000] [] [] [rrB s (y)] [] [rrB s ((k1, false))] [] [rrB s ((k1, false))] [] rfl rfl FnV.func rfl Try.func78 rfl (by kernel_rfl) (rr_lend rfl) (trivial) rfl (by exact ⟨rr_arg, trivial⟩) (.c (.imm _ rfl)) (rr_back) (trivial) (hi) ?_
         refine kC ?_
         refine aB ?_)
      | (refine AWp.draw (id := 2) mixed ?_; refine kA ?_; refine AList.callM [1000] [] [] [rrB s ((k1, false))] [] [rrB s ((k1, false))] [] [rrB s ((k1, false))] [] rfl rfl FnV.func rfl Try.func79 rfl (by kernel_rfl) (rr_lend rfl) (trivial) rfl (by exact ⟨rr_arg, trivial⟩) (.c (.imm _ rfl)) (rr_back) (trivial) (hb) ?_; (iterate 2 refine kA ?_); refine qr5f aJ ?_; refine qr4 aR ?_; (iterate 3 refine kA ?_); refine AList.nilPt rfl rfl rfl rfl ?_; refine kD ?_; refine kE ?_; refine AList.lenStr (s.length) (by first | rfl | assumption) Try.underlying9 rfl rfl rfl ?_; refine kA ?_; refine AList.nilPt rfl rfl rfl rfl ?_; refine kD ?_; refine kE ?_; refine qr4w2 AList.sub ?_; refine qr5t aK ?_; refine qr4 aR ?_; refine aB ⟨by kernel_rfl, ?_⟩)
      | (refine rG 3 ?_
         refine kA ?_
         refine AList.callM [1000] [] [] [rrB s ((k1, false))] [] [rrB s ((k1, true))] [] [rrB s ((k1, true))] [] rfl rfl FnV.func rfl Try.func124 rfl (by kernel_rfl) (rr_lend rfl) (trivial) rfl (by exact ⟨rr_arg, trivial⟩) (.tu (l := []) (m := []) trivial) (rr_back) (trivial) (hf) ?_
         refine aB ?_)
      | (refine rG 4 ?_
         refine kC ?_
         refine aB ?_))
     refine ⟨mkL 43 1 [(2, .c (.ow 900))] [(900, rwI []), (1000, rrB s ((k1, true)))] [900], [], _, [rrB s ((k1, true))], [rwI []], ⟨rfl, rfl, rfl⟩, rfl, Wk.mkL [(900, none)] rfl rfl rfl rfl rfl ?_ ⟨HeapOk.nil rfl rfl, rr_heap rfl rfl, trivial⟩, rfl, rfl, GRets.one (x := .c _) (GRes.tmp rfl)⟩
     exact allT
    ·have h2' : ¬ n > (s.length : Int) - (k1 : Int) := by omega
     have h3 : ¬ (n < 0 ∨ (((s.drop k1).length : Nat) : Int) < n) := fun h => h.elim h1 h2
     rw [if_neg h3, if_neg h3, ← eq]
     obtain ⟨N, rfl⟩ := Int.eq_ofNat_of_zero_le (show 0 ≤ n by omega)
     rw [show ((N : Nat) : Int).toNat = N from rfl]
     clear eq h3
     have hNl : N ≤ 1000000000 := by omega
     have hrel := qN_rel hs (y := (k1, false)) g1
     have hN := hrel N
     refine ⟨hN.1, by rw [hN.2]; cases rN N (qR s (k1, false)) with | mk l q => cases q <;> rfl, ?_⟩
     have hln := fun k => rN_len k (qR s (k1, false))
     refine gm_at Try.func80 rfl rfl Try.ntmps80 rfl ?_
     repeat (first
      | refine uA ?_
      | refine uB ?_
      | refine uC ?_
      | refine uG ?_
      | refine kU ?_
      | (refine rG 0 ?_
         refine kC ?_
         refine aB ?_)
      | (refine rG 1 ?_
         refine kA ?_
         refine AList.callM [1000] [] [] [rrB s (y)] [] [rrB s ((k1, false))] [] [rrB s ((k1, false))] [] rfl rfl FnV.func rfl Try.func78 rfl (by kernel_rfl) (rr_lend rfl) (trivial) rfl (by exact ⟨rr_arg, trivial⟩) (.c (.imm _ rfl)) (rr_back) (trivial) (hi) ?_
         refine kC ?_
         refine aB ?_)
      | (refine AWp.draw (id := 2) mixed ?_; refine kA ?_; refine AList.callM [1000] [] [] [rrB s ((k1, false))] [] [rrB s ((k1, false))] [] [rrB s ((k1, false))] [] rfl rfl FnV.func rfl Try.func79 rfl (by kernel_rfl) (rr_lend rfl) (trivial) rfl (by exact ⟨rr_arg, trivial⟩) (.c (.imm _ rfl)) (rr_back) (trivial) (hb) ?_; (iterate 2 refine kA ?_); refine qr5f aJ ?_; refine qr4 aR ?_; (iterate 3 refine kA ?_); refine AList.nilPt rfl rfl rfl rfl ?_; refine kD ?_; refine kE ?_; refine AList.lenStr (s.length) (by first | rfl | assumption) Try.underlying9 rfl rfl rfl ?_; refine kA ?_; refine AList.nilPt rfl rfl rfl rfl ?_; refine kD ?_; refine kE ?_; refine qr4w2 AList.sub ?_; refine qr5f aJ ?_; refine qr4 aR ?_; refine aB ⟨by kernel_rfl, ?_⟩)
      | (refine rG 5 ?_
         refine kC ?_
         refine aB ?_)
      | (refine rG 6 ?_
         refine kC ?_
         refine aB ?_))
     refine AWp.round (fun k : Nat =>
      mkL 43 1 [(0, .c (.pt 1000 3 0 0)), (3, .c (iC N)), (4, .c (.ow 30)), (5, .c (iC (k : Nat)))] [(1000, rrB s (qN s (k1, false) ((k : Nat)))), (30, rwI (rN ((k : Nat)) (qR s (k1, false))).1)] [30]
      ) (fun k => k ≤ N) (fun k => N - k) 0 (Nat.zero_le _) ?_ (fun k hk => ?_)
     ·refine Wk.mkL [(30, none)] rfl rfl rfl rfl rfl ?_ ⟨rr_heap rfl rfl, HeapOk.nil rfl rfl, trivial⟩
      repeat (first | exact trivial | refine ⟨⟨_, rfl, by first | exact LeA.c (LeC.ptB _ _ _ _ rfl) | exact leT⟩, ?_⟩)
     obtain ⟨r1, r2⟩ := hrel k
     have hl := hln k
     by_cases hkl : k < N
     ·have hkl' : (k : Int) < N := by omega
      have hct := (rInt_M s hs (qN s (k1, false) k) r1).2.2
      have e := rN_snoc k (qR s (k1, false))
      rw [← r2] at e
      rw [show qS s (qN s (k1, false) k) = qN s (k1, false) (k + 1) from rfl] at hct
      obtain ⟨yk1, hy2⟩ : ∃ z, qN s (k1, false) (k + 1) = z := ⟨_, rfl⟩
      rw [hy2] at hct
      generalize qN s (k1, false) k = yk at hct e ⊢
      generalize (rN k (qR s (k1, false))).1 = l at hl e ⊢
      generalize (rI (qR s yk)).1 = v at hct e
      repeat (first
       | refine uA ?_
       | refine uB ?_
       | refine uC ?_
       | refine uG ?_
       | refine uD ?_
       | refine kT ?_
       | (refine rG 7 ?_
          (iterate 2 refine kA ?_)
          refine qr5t aK ?_
          refine aB ?_)
       | (refine rG 8 ?_
          refine kA ?_
          refine qr4w2 aL ?_
          refine kC ?_
          refine aB ?_)
       | (refine rG 9 ?_
          (iterate 2 refine kA ?_)
          refine AList.callM [1000] [] [] [rrB s (yk)] [] [rrB s (yk1)] [] [rrB s (yk1)] [] rfl rfl FnV.func rfl Try.func78 rfl (by kernel_rfl) (rr_lend rfl) (trivial) rfl (by exact ⟨rr_arg, trivial⟩) (.c (.imm _ rfl)) (rr_back) (trivial) (hct) ?_
          refine qr11 (AList.litSl tyOk) ?_
          refine AList.appL tyOk rfl rfl rfl rfl rfl rfl rfl rfl rfl rfl oM oM ?_
          refine kC ?_
          refine aB ?_))
      refine ⟨k + 1, hkl, ?_, by omega⟩
      dsimp only
      rw [e, hy2]
      refine Wk.mkL [(30, some 39)] rfl rfl rfl rfl rfl ?_ ⟨rr_heap rfl rfl, HeapOk.row rfl rfl (by rw [List.length_append]; rfl) (rwI_snoc _ _), trivial⟩
      repeat (first | exact trivial | refine ⟨⟨_, rfl, by first | exact LeA.c (LeC.ptB _ _ _ _ rfl) | exact leT⟩, ?_⟩)
     have hkl' : ¬ (k : Int) < N := by omega
     obtain rfl : k = N := by omega
     have hE : (rE (rN k (qR s (k1, false)))).1 = if (qN s (k1, false) k).2 = true then [] else (rN k (qR s (k1, false))).1 := by
      generalize rN k (qR s (k1, false)) = x at r2
      obtain ⟨l, q⟩ := x
      dsimp only at r2
      subst r2
      generalize qN s (k1, false) k = yk
      obtain ⟨a, b⟩ := yk
      cases b <;> rfl
     rw [hE]
     generalize (rN k (qR s (k1, false))).1 = l at hl ⊢
     generalize qN s (k1, false) k = yk
     obtain ⟨a, b⟩ := yk
     have hb2 := rBad_M s a b
     cases b with
     | true =>
       rw [if_pos rfl]
       repeat (first
        | refine uA ?_
        | refine uB ?_
        | refine uH ?_
        | refine AWp.ret ?_
        | refine thenA_r ?_
        | refine kT ?_
        | refine kU ?_
        | (refine rG 7 ?_
           (iterate 2 refine kA ?_)
           refine qr5f aJ ?_
           refine aB ?_)
        | (refine rG 10 ?_
           refine kA ?_
           refine AList.callM [1000] [] [] [rrB s ((a, true))] [] [rrB s ((a, true))] [] [rrB s ((a, true))] [] rfl rfl FnV.func rfl Try.func79 rfl (by kernel_rfl) (rr_lend rfl) (trivial) rfl (by exact ⟨rr_arg, trivial⟩) (.c (.imm _ rfl)) (rr_back) (trivial) (hb2) ?_
           refine aB ?_)
        | (refine rG 11 ?_
           refine kC ?_
           refine aB ?_))
       refine ⟨mkL 43 1 [(2, .c (.ow 900))] [(900, rwI []), (1000, rrB s ((a, true)))] [900], [], _, [rrB s ((a, true))], [rwI []], ⟨rfl, rfl, rfl⟩, rfl, Wk.mkL [(900, none)] rfl rfl rfl rfl rfl ?_ ⟨HeapOk.nil rfl rfl, rr_heap rfl rfl, trivial⟩, rfl, rfl, GRets.one (x := .c _) (GRes.tmp rfl)⟩
       exact allT
     | false =>
       rw [if_neg (show ¬ (a, false).2 = true from fun h => by cases h)]
       repeat (first
        | refine uA ?_
        | refine uB ?_
        | refine uG ?_
        | refine uH ?_
        | refine AWp.ret ?_
        | refine kU ?_
        | (refine rG 7 ?_
           (iterate 2 refine kA ?_)
           refine qr5f aJ ?_
           refine aB ?_)
        | (refine rG 10 ?_
           refine kA ?_
           refine AList.callM [1000] [] [] [rrB s ((a, false))] [] [rrB s ((a, false))] [] [rrB s ((a, false))] [] rfl rfl FnV.func rfl Try.func79 rfl (by kernel_rfl) (rr_lend rfl) (trivial) rfl (by exact ⟨rr_arg, trivial⟩) (.c (.imm _ rfl)) (rr_back) (trivial) (hb2) ?_
           refine aB ?_)
        | (refine rG 12 ?_
           refine kA ?_
           refine kC ?_
           refine aB ?_))
       refine ⟨mkL 43 1 [(2, .c (.ow 900))] [(900, rwI l), (1000, rrB s (a, false))] [900], [], _, [rrB s (a, false)], [rwI l], ⟨rfl, rfl, rfl⟩, rfl, Wk.mkL [(900, some 30)] rfl rfl rfl rfl rfl ?_ ⟨HeapOk.row rfl rfl rfl (fun _ _ _ _ => ⟨rfl, rfl⟩), rr_heap rfl rfl, trivial⟩, rfl, rfl, GRets.one (x := .c _) (GRes.tmp rfl)⟩
       exact allT
set_option maxHeartbeats 2000000 in
set_option maxRecDepth 100000 in
theorem rParse_A (s : List UInt8) (hs : s.length ≤ 900000000) : ACalls Try.prog 30 [.c (byV s)] (.tu [.c (wpL (parV s).1), .c (bC (parV s).2)]) := by
 have hs' : s.length ≤ 1000000000 := by omega
 have hnw := rNew_M s
 obtain ⟨i1, i2, hi⟩ := rInt_M s hs' (0, false) (Nat.zero_le _)
 have e0 : qR s (0, false) = some s := rfl
 rw [e0] at i2 hi
 obtain ⟨x0, hx0⟩ : ∃ x, rI (some s) = x := ⟨_, rfl⟩
 obtain ⟨n, r0⟩ := x0
 rw [hx0] at hi i2
 dsimp only at hi i2
 generalize qS s (0, false) = y0 at hi i1 i2
 subst i2
 have hle : ∀ t, qR s y0 = some t → t.length ≤ s.length := fun t ht => by
  obtain ⟨k, b⟩ := y0
  cases b with
  | true => cases ht
  | false => rw [← Option.some.inj (show some (s.drop k) = some t from ht), List.length_drop]; omega
 refine acalls_at Try.func30 rfl rfl Try.ntmps30 rfl ?_
 repeat (first
  | refine uA ?_
  | refine uB ?_
  | refine uC ?_
  | (refine rG 0 ?_
     (iterate 2 refine kC ?_)
     refine aB ?_)
  | (refine rG 1 ?_
     refine kA ?_
     refine AList.callM [] [] [50] [] [] [] [rrB s (0, false)] [] [rrB s (0, false)] rfl rfl FnV.func rfl Try.func77 rfl (by kernel_rfl) (trivial) (trivial) rfl (by exact ⟨p_arg, trivial⟩) (.c (.ptN 0 50 3 0 0 rfl)) (trivial) (rr_new) (hnw) ?_
     refine kC ?_
     refine aB ?_)
  | (refine rG 2 ?_
     refine kA ?_
     refine AList.callM [50] [] [] [rrB s ((0, false))] [] [rrB s (y0)] [] [rrB s (y0)] [] rfl rfl FnV.func rfl Try.func78 rfl (by kernel_rfl) (rr_lend rfl) (trivial) rfl (by exact ⟨rr_arg, trivial⟩) (.c (.imm _ rfl)) (rr_back) (trivial) (hi) ?_
     refine kC ?_
     refine aB ?_)
  | (refine rG 3 ?_
     refine kC ?_
     refine aB ?_)
  | (refine rG 4 ?_
     refine kC ?_
     refine aB ?_))
 refine AWp.round (fun x : List Wt × (Nat × Bool) =>
  mkSt 42 [(4, .c (.pt 50 3 0 0)), (5, .c (iC n)), (6, .c (.ow 301)), (7, .c (iC ((x).1.length : Nat)))] [(50, rrB s (x).2), (301, wpB (x).1)] [50, 301]
  ) (fun x => x.2.1 ≤ s.length ∧ PaI n.toNat s.length (qR s y0) (x.1, qR s x.2)) (fun x => n.toNat - x.1.length) ([], y0) ⟨i1, PaI.start hle⟩ ?_ (fun x hx => ?_)
 ·refine Wk.mk [(50, some 50), (301, none)] rfl rfl rfl ?_ ?_
  ·exact allT
  ·exact ⟨hSm, HeapOk.nil rfl rfl, trivial⟩
 obtain ⟨hx1, hx⟩ := hx
 obtain ⟨p, k, b⟩ := x
 have hp3 := hx.2.2.1
 dsimp only at hp3 hx1 hx
 have hb := rBad_M s k b
 have hl := rLeft_M s k b hs' hx1
 cases b with
 | true =>
   rw [par_bad hx0 hx]
   by_cases hlt : (p.length : Int) < n
   ·by_cases hn : n < 0
    ·omega
    repeat (first
     | refine uA ?_
     | refine uB ?_
     | refine uH ?_
     | refine AWp.ret ?_
     | refine thenA_r ?_
     | refine kT ?_
     | refine kU ?_
     | (refine rG 5 ?_
        (iterate 2 refine kA ?_)
        refine qr5t aK ?_
        (iterate 2 refine kA ?_)
        refine AList.callM [50] [] [] [rrB s ((k, true))] [] [rrB s ((k, true))] [] [rrB s ((k, true))] [] rfl rfl FnV.func rfl Try.func79 rfl (by kernel_rfl) (rr_lend rfl) (trivial) rfl (by exact ⟨rr_arg, trivial⟩) (.c (.imm _ rfl)) (rr_back) (trivial) (hb) ?_
        refine qr3 AList.notB ?_
        refine qr4 aS ?_
        refine aB ?_)
     | (refine rG 8 ?_
        refine kA ?_
        refine qr5f aJ ?_
        (iterate 2 refine kA ?_)
        refine AList.callM [50] [] [] [rrB s ((k, true))] [] [rrB s ((k, true))] [] [rrB s ((k, true))] [] rfl rfl FnV.func rfl Try.func79 rfl (by kernel_rfl) (rr_lend rfl) (trivial) rfl (by exact ⟨rr_arg, trivial⟩) (.c (.imm _ rfl)) (rr_back) (trivial) (hb) ?_
        refine qr4 aR ?_
        refine kA ?_
        (iterate 3 refine qr2 aG ?_)
        refine qr4 aS ?_
        refine aB ?_)
     | (refine rG 9 ?_
        (iterate 2 refine kC ?_)
        refine aB ?_))
    exact ⟨mkSt 42 [(2, .c (wpL [])), (3, .c (bC false))] [] [], [], Wk.mk [] rfl rfl rfl ⟨⟨_, rfl, .c (LeC.nils _ _)⟩, ⟨_, rfl, .c (LeC.refl _ rfl)⟩, trivial⟩ trivial, rfl, rfl, ARets.two (x := .c _) (y := .c _) (ARes.tmp rfl rfl) (ARes.tmp rfl rfl)⟩
   ·by_cases hn : n < 0
    ·repeat (first
      | refine uA ?_
      | refine uB ?_
      | refine uH ?_
      | refine AWp.ret ?_
      | refine thenA_r ?_
      | refine kT ?_
      | refine kU ?_
      | (refine rG 5 ?_
         (iterate 2 refine kA ?_)
         refine qr5f aJ ?_
         refine kA ?_
         (iterate 3 refine qr2 aG ?_)
         refine qr4 aR ?_
         refine aB ?_)
      | (refine rG 8 ?_
         refine kA ?_
         refine qr5t aK ?_
         refine kA ?_
         (iterate 2 refine qr2 aG ?_)
         refine qr4 aS ?_
         refine kA ?_
         (iterate 3 refine qr2 aG ?_)
         refine qr4 aS ?_
         refine aB ?_)
      | (refine rG 9 ?_
         (iterate 2 refine kC ?_)
         refine aB ?_))
     exact ⟨mkSt 42 [(2, .c (wpL [])), (3, .c (bC false))] [] [], [], Wk.mk [] rfl rfl rfl ⟨⟨_, rfl, .c (LeC.nils _ _)⟩, ⟨_, rfl, .c (LeC.refl _ rfl)⟩, trivial⟩ trivial, rfl, rfl, ARets.two (x := .c _) (y := .c _) (ARes.tmp rfl rfl) (ARes.tmp rfl rfl)⟩
    ·repeat (first
      | refine uA ?_
      | refine uB ?_
      | refine uH ?_
      | refine AWp.ret ?_
      | refine thenA_r ?_
      | refine kT ?_
      | refine kU ?_
      | (refine rG 5 ?_
         (iterate 2 refine kA ?_)
         refine qr5f aJ ?_
         refine kA ?_
         (iterate 3 refine qr2 aG ?_)
         refine qr4 aR ?_
         refine aB ?_)
      | (refine rG 8 ?_
         refine kA ?_
         refine qr5f aJ ?_
         (iterate 2 refine kA ?_)
         refine AList.callM [50] [] [] [rrB s ((k, true))] [] [rrB s ((k, true))] [] [rrB s ((k, true))] [] rfl rfl FnV.func rfl Try.func79 rfl (by kernel_rfl) (rr_lend rfl) (trivial) rfl (by exact ⟨rr_arg, trivial⟩) (.c (.imm _ rfl)) (rr_back) (trivial) (hb) ?_
         refine qr4 aR ?_
         refine kA ?_
         (iterate 3 refine qr2 aG ?_)
         refine qr4 aS ?_
         refine aB ?_)
      | (refine rG 9 ?_
         (iterate 2 refine kC ?_)
         refine aB ?_))
     exact ⟨mkSt 42 [(2, .c (wpL [])), (3, .c (bC false))] [] [], [], Wk.mk [] rfl rfl rfl ⟨⟨_, rfl, .c (LeC.nils _ _)⟩, ⟨_, rfl, .c (LeC.refl _ rfl)⟩, trivial⟩ trivial, rfl, rfl, ARets.two (x := .c _) (y := .c _) (ARes.tmp rfl rfl) (ARes.tmp rfl rfl)⟩
 | false =>
   have eq : qR s (k, false) = some (s.drop k) := rfl
   rw [eq] at hx hl
   simp only [Option.getD_some] at hl
   have hp4 := hx.2.2.2 _ rfl
   dsimp only at hp4
   by_cases hlt : (p.length : Int) < n
   ·have st := PaI.step hx (by omega)
    obtain ⟨a1, a2, c1⟩ := rInts_M s hs' (k, false) hx1
    obtain ⟨b1, b2, c2⟩ := rInts_M s hs' (qL s (k, false)) a1
    rw [eq] at a2 c1
    rw [a2] at b2 c2
    rw [← b2] at st
    generalize qL s (qL s (k, false)) = y2 at b1 c2 st
    generalize qL s (k, false) = y1 at c1 c2
    generalize (rL (rL (some (s.drop k))).2).1 = l2 at c2 st
    generalize (rL (some (s.drop k))).1 = l1 at c1 st
    repeat (first
     | refine uA ?_
     | refine uB ?_
     | refine uC ?_
     | refine uG ?_
     | refine kT ?_
     | (refine rG 5 ?_
        (iterate 2 refine kA ?_)
        refine qr5t aK ?_
        (iterate 2 refine kA ?_)
        refine AList.callM [50] [] [] [rrB s ((k, false))] [] [rrB s ((k, false))] [] [rrB s ((k, false))] [] rfl rfl FnV.func rfl Try.func79 rfl (by kernel_rfl) (rr_lend rfl) (trivial) rfl (by exact ⟨rr_arg, trivial⟩) (.c (.imm _ rfl)) (rr_back) (trivial) (hb) ?_
        refine qr3 AList.notB ?_
        refine qr4 aS ?_
        refine aB ?_))
    refine aY ?_
    (iterate 2 refine kA ?_)
    refine AList.callM [50] [] [51] [rrB s (k, false)] [] [rrB s y1] [rwI l1] [rrB s y1] [rwI l1] rfl rfl FnV.func rfl Try.func80 rfl (by kernel_rfl) (rr_lend rfl) (trivial) rfl (by exact ⟨rr_arg, trivial⟩) (.c (.owN 0 51 rfl)) (rr_back) (rwI_new) (c1) ?_
    refine kA ?_
    refine AList.callM [50] [] [52] [rrB s y1] [] [rrB s y2] [rwI l2] [rrB s y2] [rwI l2] rfl rfl FnV.func rfl Try.func80 rfl (by kernel_rfl) (rr_lend rfl) (trivial) rfl (by exact ⟨rr_arg, trivial⟩) (.c (.owN 0 52 rfl)) (rr_back) (rwI_new) (c2) ?_
    refine qr8 (aX tyOk) ?_
    refine qr11 (AList.litOw tyOk) ?_
    refine AList.appO tyOk rfl rfl rfl rfl rfl rfl rfl rfl rfl rfl rfl oM oM ?_
    refine kC ?_
    refine aB ?_
    have hp5 : ((p, k, false) : List Wt × (Nat × Bool)).1.length = p.length := rfl
    repeat (first
     | refine uB ?_
     | refine uD ?_
     | (refine rG 6 ?_
        refine kA ?_
        refine qr4w2 aL ?_
        refine kC ?_
        refine aB ?_))
    have hln : (p ++ [(l1, l2)]).length = p.length + 1 := by rw [List.length_append]; rfl
    refine ⟨(p ++ [(l1, l2)], y2), ⟨b1, st⟩, Wk.mk [(50, some 50), (301, some 29)] rfl rfl rfl ?_ ?_, ?_⟩
    ·dsimp only
     rw [hln]
     exact allT
    ·refine ⟨hSm, .inr ⟨29, p.length + 1, _, .inl rfl, hln, rfl, fun k hk j hj => ?_⟩, trivial⟩
     show LeC _ _ (appF (rowF wtC wtZ p) p.length (sF [.ow 51, .ow 52] 2) k j) (rowF wtC wtZ (p ++ [(l1, l2)]) k j)
     by_cases hki : k < p.length
     ·rw [show appF (rowF wtC wtZ p) p.length (sF [.ow 51, .ow 52] 2) k j = rowF wtC wtZ p k j by unfold appF; rw [Nat.blt_eq.mpr hki]; rfl, wrow_old hki]
      exact LeC.refl _ (rowF_imm wtC_imm _ k j)
     ·obtain rfl : k = p.length := by omega
      rw [show appF (rowF wtC wtZ p) p.length (sF [.ow 51, .ow 52] 2) p.length j = sF [.ow 51, .ow 52] 2 0 j by unfold appF; rw [show Nat.blt p.length p.length = false from Bool.eq_false_iff.2 fun e => Nat.lt_irrefl _ (Nat.blt_eq.mp e), Nat.sub_self]; rfl, wrow_last]
      match j, hj with
      | 0, _ => exact LeC.fz rfl rfl rfl (fun _ _ _ _ => ⟨rfl, rfl⟩)
      | 1, _ => exact LeC.fz rfl rfl rfl (fun _ _ _ _ => ⟨rfl, rfl⟩)
    ·show n.toNat - (p ++ [(l1, l2)]).length < n.toNat - p.length
     rw [hln]
     omega
   ·by_cases hn : n < 0
    ·rw [par_neg hx0 hn]
     repeat (first
      | refine uA ?_
      | refine uB ?_
      | refine uH ?_
      | refine AWp.ret ?_
      | refine thenA_r ?_
      | refine kT ?_
      | refine kU ?_
      | (refine rG 5 ?_
         (iterate 2 refine kA ?_)
         refine qr5f aJ ?_
         refine kA ?_
         (iterate 3 refine qr2 aG ?_)
         refine qr4 aR ?_
         refine aB ?_)
      | (refine rG 8 ?_
         refine kA ?_
         refine qr5t aK ?_
         refine kA ?_
         (iterate 2 refine qr2 aG ?_)
         refine qr4 aS ?_
         refine kA ?_
         (iterate 3 refine qr2 aG ?_)
         refine qr4 aS ?_
         refine aB ?_)
      | (refine rG 9 ?_
         (iterate 2 refine kC ?_)
         refine aB ?_))
     exact ⟨mkSt 42 [(2, .c (wpL [])), (3, .c (bC false))] [] [], [], Wk.mk [] rfl rfl rfl ⟨⟨_, rfl, .c (LeC.nils _ _)⟩, ⟨_, rfl, .c (LeC.refl _ rfl)⟩, trivial⟩ trivial, rfl, rfl, ARets.two (x := .c _) (y := .c _) (ARes.tmp rfl rfl) (ARes.tmp rfl rfl)⟩
    rw [par_end hx0 hn hx hlt]
    obtain ⟨t, ht0⟩ : ∃ t, s.drop k = t := ⟨_, rfl⟩
    rw [ht0] at hl ⊢
    by_cases ht : t = []
    ·subst ht
     rw [if_pos rfl]
     have hz : ¬ ((0 : Nat) : Int) > 0 := by omega
     repeat (first
      | refine uA ?_
      | refine uB ?_
      | refine uG ?_
      | refine uH ?_
      | refine AWp.ret ?_
      | refine kU ?_
      | (refine rG 5 ?_
         (iterate 2 refine kA ?_)
         refine qr5f aJ ?_
         refine kA ?_
         (iterate 3 refine qr2 aG ?_)
         refine qr4 aR ?_
         refine aB ?_)
      | (refine rG 8 ?_
         refine kA ?_
         refine qr5f aJ ?_
         (iterate 2 refine kA ?_)
         refine AList.callM [50] [] [] [rrB s ((k, false))] [] [rrB s ((k, false))] [] [rrB s ((k, false))] [] rfl rfl FnV.func rfl Try.func79 rfl (by kernel_rfl) (rr_lend rfl) (trivial) rfl (by exact ⟨rr_arg, trivial⟩) (.c (.imm _ rfl)) (rr_back) (trivial) (hb) ?_
         refine qr4 aR ?_
         (iterate 2 refine kA ?_)
         refine AList.callM [50] [] [] [rrB s ((k, false))] [] [rrB s ((k, false))] [] [rrB s ((k, false))] [] rfl rfl FnV.func rfl Try.func81 rfl (by kernel_rfl) (rr_lend rfl) (trivial) rfl (by exact ⟨rr_arg, trivial⟩) (.c (.imm _ rfl)) (rr_back) (trivial) (hl) ?_
         refine qr5f aJ ?_
         refine qr4 aR ?_
         refine aB ?_)
      | (refine rG 10 ?_
         refine kA ?_
         (iterate 2 refine kC ?_)
         refine aB ?_))
     exact ⟨mkSt 42 [(2, .c (wpL p)), (3, .c (bC true))] [] [], [], Wk.mk [] rfl rfl rfl ⟨⟨_, rfl, .c (LeC.fz rfl rfl rfl (fun i _ j _ => ⟨rfl, rowF_imm wtC_imm _ i j⟩))⟩, ⟨_, rfl, .c (LeC.refl _ rfl)⟩, trivial⟩ trivial, rfl, rfl, ARets.two (x := .c _) (y := .c _) (ARes.tmp rfl rfl) (ARes.tmp rfl rfl)⟩
    ·rw [if_neg ht]
     have htl : 0 < t.length := List.length_pos_iff.2 ht
     have hz : (t.length : Int) > 0 := by omega
     repeat (first
      | refine uA ?_
      | refine uB ?_
      | refine uH ?_
      | refine AWp.ret ?_
      | refine thenA_r ?_
      | refine kT ?_
      | refine kU ?_
      | (refine rG 5 ?_
         (iterate 2 refine kA ?_)
         refine qr5f aJ ?_
         refine kA ?_
         (iterate 3 refine qr2 aG ?_)
         refine qr4 aR ?_
         refine aB ?_)
      | (refine rG 8 ?_
         refine kA ?_
         refine qr5f aJ ?_
         (iterate 2 refine kA ?_)
         refine AList.callM [50] [] [] [rrB s ((k, false))] [] [rrB s ((k, false))] [] [rrB s ((k, false))] [] rfl rfl FnV.func rfl Try.func79 rfl (by kernel_rfl) (rr_lend rfl) (trivial) rfl (by exact ⟨rr_arg, trivial⟩) (.c (.imm _ rfl)) (rr_back) (trivial) (hb) ?_
         refine qr4 aR ?_
         (iterate 2 refine kA ?_)
         refine AList.callM [50] [] [] [rrB s ((k, false))] [] [rrB s ((k, false))] [] [rrB s ((k, false))] [] rfl rfl FnV.func rfl Try.func81 rfl (by kernel_rfl) (rr_lend rfl) (trivial) rfl (by exact ⟨rr_arg, trivial⟩) (.c (.imm _ rfl)) (rr_back) (trivial) (hl) ?_
         refine qr5t aK ?_
         refine qr4 aR ?_
         refine aB ?_)
      | (refine rG 9 ?_
         (iterate 2 refine kC ?_)
         refine aB ?_))
     exact ⟨mkSt 42 [(2, .c (wpL [])), (3, .c (bC false))] [] [], [], Wk.mk [] rfl rfl rfl ⟨⟨_, rfl, .c (LeC.nils _ _)⟩, ⟨_, rfl, .c (LeC.refl _ rfl)⟩, trivial⟩ trivial, rfl, rfl, ARets.two (x := .c _) (y := .c _) (ARes.tmp rfl rfl) (ARes.tmp rfl rfl)⟩
theorem few_60 {p : List Wt} : ∀ w ∈ fewV p, w.1.length ≤ 60 ∧ w.2.length ≤ 60 := fun w hw => by
 obtain ⟨v, -, rfl⟩ := List.mem_map.1 hw
 exact ⟨by show (v.1.take 60).length ≤ 60; rw [List.length_take]; omega, by show (v.2.take 60).length ≤ 60; rw [List.length_take]; omega⟩
theorem flat_60 : ∀ q : List Wt, (∀ w ∈ q, w.1.length ≤ 60 ∧ w.2.length ≤ 60) → (q.flatMap wtY).length ≤ q.length * 2000
 | [], _ => Nat.zero_le _
 | w :: q, h => by
   have h1 := flat_60 q fun v hv => h v (by simp [hv])
   obtain ⟨h2, h3⟩ := h w (by simp)
   have h5 := insB_le w.1
   have h6 := insB_le w.2
   have e : (wtY w).length = (insB w.1).length + (insB w.2).length := List.length_append
   rw [List.flatMap_cons, List.length_append, List.length_cons, e]
   omega
theorem few_Y {p : List Wt} (h : (fewV p).length ≤ 90) : (prY (fewV p)).length ≤ 200000 := by
 have h1 := flat_60 (fewV p) few_60
 have h2 := inB_le ((fewV p).length : Int)
 unfold prY
 rw [List.length_append]
 omega
def pbU (s t : List UInt8) (k : Nat) : List (List UInt8) := [s, t.take k, (t.take k ++ s) ++ t.drop k, t ++ s, t.drop k]
theorem par_ok (u : List UInt8) (hu : u.length ≤ 1000000) : PrR (parV u).1 ∧ (if (parV u).2 = true then prY (parV u).1 = u else (parV u).1 = []) := by
 cases h : parV u with
 | mk p b =>
   cases b with
   | true =>
     obtain ⟨h1, h2⟩ := parV_can h hu
     exact ⟨h2, h1.symm⟩
   | false =>
     obtain rfl := parV_no h
     exact ⟨⟨Nat.zero_le _, fun k hk => absurd hk (Nat.not_lt_zero _)⟩, rfl⟩
theorem strNe_run {P : Program} {t : TypeId} {a : List UInt8} (w : World) : (Go.binOp .neq t (.string ⟨a.toArray⟩) (.string ⟨a.toArray⟩)).run P w = .ok (.bool false) w := by
 show Sem.run P (Op.stringOp .neq _ _) w = _
 simp [Op.stringOp]
theorem by_sz (l : List UInt8) : (⟨l.toArray⟩ : ByteArray).size = l.length := List.size_toArray
theorem pbU_le {s t : List UInt8} {k : Nat} (h1 : s.length ≤ 300) (h2 : t.length ≤ 200000) : ∀ i, ((pbU s t k).getD i []).length ≤ 1000000 := fun i => by
 have h3 : (t.take k).length ≤ 200000 := by rw [List.length_take]; omega
 have h4 : (t.drop k).length ≤ 200000 := by rw [List.length_drop]; omega
 match i with
 | 0 => show s.length ≤ _; omega
 | 1 => show (t.take k).length ≤ _; omega
 | 2 => show ((t.take k ++ s) ++ t.drop k).length ≤ _; rw [List.length_append, List.length_append]; omega
 | 3 => show (t ++ s).length ≤ _; rw [List.length_append]; omega
 | 4 => show (t.drop k).length ≤ _; omega
 | _ + 5 => exact Nat.zero_le _
abbrev pbF (s t : List UInt8) (k : Nat) : Nat → Nat → CV := fun i _ => byV ((pbU s t k).getD i [])
set_option maxHeartbeats 4000000 in
set_option maxRecDepth 100000 in
theorem ProofBytes_A (p : List Wt) (hp : p.length ≤ 4611686018427387904) (hl : ∀ k, k < p.length → (p.getD k wtZ).1.length ≤ 4611686018427387904 ∧ (p.getD k wtZ).2.length ≤ 4611686018427387904) (hr : ∀ k, k < p.length → (∀ i, i < (p.getD k wtZ).1.length → iOk ((p.getD k wtZ).1.getD i 0)) ∧ ∀ i, i < (p.getD k wtZ).2.length → iOk ((p.getD k wtZ).2.getD i 0))
 (s : List UInt8) (hs : s.length ≤ 9223372036854775807) (q : Int) : ACalls Try.prog 7 [.c (wpC p), .c (byV s), .c (iC q)] (.c (bC true)) := by
 have hsan := sanity25_A
 have hfew := few_A p hp hl
 obtain ⟨hR, h90⟩ := few_ok p hr
 have hY := few_Y h90
 have hB := pBytes_A _ hR
 have hB2 := rBytes_A _ hR
 have hS := Same25_A _ _ hR hR
 have hP := pParse_A (prY (fewV p)) (by omega)
 rw [parV_enc hR] at hP
 rw [show decide (prY (fewV p) = prY (fewV p)) = true from decide_eq_true rfl] at hS
 dsimp only at hP
 generalize fewV p = r at *
 obtain ⟨t, ht⟩ : ∃ t, prY r = t := ⟨_, rfl⟩
 rw [ht] at hB hB2 hP hY
 obtain ⟨m, hm, hm3, hms⟩ : ∃ m, min s.length 300 = m ∧ m ≤ 300 ∧ m ≤ s.length := ⟨_, rfl, by omega, by omega⟩
 have hq0 := Int.emod_nonneg q (show (((t.length : Nat) : Int) + 1) ≠ 0 by omega)
 have hq1 := Int.emod_lt_of_pos q (show (0 : Int) < ((t.length : Nat) : Int) + 1 by omega)
 have hMk := Mod_A q (((t.length : Nat) : Int) + 1) (by omega) (by omega)
 obtain ⟨k, hk⟩ := Int.eq_ofNat_of_zero_le hq0
 rw [hk] at hq1 hMk
 have hkt : k ≤ t.length := by omega
 have htt : (byV t : CV) = byV t := rfl
 refine acalls_at Try.func7 rfl rfl Try.ntmps7 rfl ?_
 repeat (first
  | refine uA ?_
  | refine uB ?_
  | refine uG ?_
  | refine kU ?_
  | (refine rG 0 ?_
     refine kC ?_
     refine aB ?_)
  | (refine rG 1 ?_
     refine aH rfl rfl rfl rfl Try.func9 rfl (by kernel_rfl) (hsan) ?_
     refine kC ?_
     refine aB ?_)
  | (refine rG 2 ?_
     refine kA ?_
     refine aH rfl rfl rfl rfl Try.func11 rfl (by kernel_rfl) (hfew) ?_
     refine kC ?_
     refine aB ?_)
  | (refine rG 3 ?_
     (iterate 2 refine kA ?_)
     refine AList.lenStr (s.length) (by first | rfl | assumption) Try.underlying9 rfl rfl rfl ?_
     refine qr4 AList.minI ?_
     refine AList.cutStr (l := 0) (h := m) Try.underlying9 rfl rfl rfl rfl ⟨_, _, rfl, by first | rfl | omega⟩ (by omega) (by omega) ?_
     refine kC ?_
     refine aB ?_)
  | (refine rG 4 ?_
     refine kA ?_
     refine aH rfl rfl rfl rfl Try.func27 rfl (by kernel_rfl) (hB) ?_
     refine kC ?_
     refine aB ?_)
  | (refine rG 5 ?_
     refine kA ?_
     refine aH rfl rfl rfl rfl Try.func28 rfl (by kernel_rfl) (hP) ?_
     refine kA ?_
     (iterate 2 refine qr4 aN ?_)
     (iterate 2 refine kC ?_)
     refine aB ?_)
  | (refine rG 6 ?_
     (iterate 2 refine kA ?_)
     refine aH rfl rfl rfl rfl Try.func29 rfl (by kernel_rfl) (hB2) ?_
     refine AList.bin rfl rfl rfl rfl rfl (strNe_run) rfl ?_
     (iterate 2 refine kA ?_)
     refine qr3 AList.notB ?_
     refine qr4 aR ?_
     (iterate 3 refine kA ?_)
     refine aH rfl rfl rfl rfl Try.func18 rfl (by kernel_rfl) (hS) ?_
     refine qr3 AList.notB ?_
     refine qr4 aR ?_
     refine aB ?_)
  | (refine rG 8 ?_
     (iterate 2 refine kA ?_)
     refine AList.lenStr (t.length) (by first | rfl | assumption) Try.underlying9 rfl rfl rfl ?_
     refine qr4w2 aL ?_
     refine aH rfl rfl rfl rfl Try.func25 rfl (by kernel_rfl) (hMk) ?_
     refine kC ?_
     refine aB ?_))
 repeat (first
  | refine uB ?_
  | refine uC ?_
  | (refine AWp.draw (id := 9) mixed ?_; (iterate 3 refine kA ?_); refine AList.cutStr (l := 0) (h := k) Try.underlying9 rfl rfl rfl rfl ⟨_, _, rfl, by first | rfl | omega⟩ (by omega) (by omega) ?_; (iterate 2 refine kA ?_); refine AList.cutStr (l := 0) (h := k) Try.underlying9 rfl rfl rfl rfl ⟨_, _, rfl, by first | rfl | omega⟩ (by omega) (by omega) ?_; refine kA ?_; refine AList.catStr _ ((by simp only [by_sz, List.length_append, List.length_drop, List.length_take]; omega)) (by_cat _ _) rfl rfl rfl rfl ?_; (iterate 2 refine kA ?_); refine AList.cutStr (l := k) (h := t.length) Try.underlying9 rfl rfl rfl ⟨_, _, rfl, by first | rfl | omega⟩ rfl (by omega) (by omega) ?_; refine AList.catStr _ ((by simp only [by_sz, List.length_append, List.length_drop, List.length_take]; omega)) (by_cat _ _) rfl rfl rfl rfl ?_; (iterate 2 refine kA ?_); refine AList.catStr _ ((by simp only [by_sz, List.length_append, List.length_drop, List.length_take]; omega)) (by_cat _ _) rfl rfl rfl rfl ?_; (iterate 2 refine kA ?_); refine AList.cutStr (l := k) (h := t.length) Try.underlying9 rfl rfl rfl ⟨_, _, rfl, by first | rfl | omega⟩ rfl (by omega) (by omega) ?_; refine qr11 (AList.litSl tyOk) ?_; refine qr5 (aO tyOk) ?_; refine kA ?_; refine aB ⟨by kernel_rfl, ?_⟩))
 refine AWp.round (fun i : Nat => mkSt 116 [(7, .c (bC true)), (71, .c (.ls 5 1 (pbF (s.take m) t k))), (72, .c (iC 5)), (73, .c (iC (i : Nat)))] [] []) (fun i => i ≤ 5) (fun i => 5 - i) 0 (Nat.zero_le _) ?_ (fun i hi => ?_)
 ·refine Wk.mk [] rfl rfl rfl ⟨⟨_, rfl, .c (LeC.refl _ rfl)⟩, ⟨_, rfl, .c (LeC.lz rfl (fun i hi j hj => ?_))⟩, ⟨_, rfl, .c (LeC.refl _ rfl)⟩, ⟨_, rfl, .c (LeC.refl _ rfl)⟩, trivial⟩ trivial
  obtain rfl : j = 0 := Nat.lt_one_iff.mp hj
  have e0 : (s.take m).drop 0 = s.take m := rfl
  have ek : (t.take t.length).drop k = t.drop k := by rw [List.take_length]
  match i, hi with
  | 0, _ => rfl
  | 1, _ => rfl
  | 2, _ => show (byV (((t.take k).drop 0 ++ (s.take m).drop 0) ++ (t.take t.length).drop k) : CV) = byV ((t.take k ++ s.take m) ++ t.drop k); rw [ek]; rfl
  | 3, _ => rfl
  | 4, _ => show (byV ((t.take t.length).drop k) : CV) = byV (t.drop k); rw [ek]
 by_cases hi5 : i < 5
 ·have hi' : (i : Int) < 5 := by omega
  have hul := pbU_le (s := s.take m) (t := t) (k := k) (by rw [List.length_take]; omega) hY i
  have eu : pbF (s.take m) t k i 0 = byV ((pbU (s.take m) t k).getD i []) := rfl
  generalize (pbU (s.take m) t k).getD i [] = u at hul eu
  have c1 := pParse_A u (by omega)
  have c2 := rParse_A u (by omega)
  obtain ⟨pr, po⟩ := par_ok u hul
  generalize (parV u).1 = l at c1 c2 pr po
  have c3 := Same25_A l l pr pr
  rw [show decide (prY l = prY l) = true from decide_eq_true rfl] at c3
  have c4 := pBytes_A l pr
  cases hb : (parV u).2 with
  | true =>
    rw [hb] at c1 c2 po
    rw [if_pos rfl] at po
    rw [po] at c4
    repeat (first
     | refine uA ?_
     | refine uB ?_
     | refine uC ?_
     | refine uG ?_
     | refine uD ?_
     | refine kT ?_
     | refine kU ?_
     | (refine rG 10 ?_
        refine qr5t aK ?_
        refine aB ?_)
     | (refine rG 11 ?_
        refine qr8eo2 (aP (k := i) tyOk) ?_
        refine AList.load1lE tyOk (eu) rfl rfl rfl rfl rfl oM ?_
        refine kC ?_
        refine aB ?_)
     | (refine rG 12 ?_
        refine kA ?_
        refine aH rfl rfl rfl rfl Try.func28 rfl (by kernel_rfl) (c1) ?_
        refine kA ?_
        (iterate 2 refine qr4 aN ?_)
        (iterate 2 refine kC ?_)
        refine aB ?_)
     | (refine rG 13 ?_
        refine kA ?_
        refine aH rfl rfl rfl rfl Try.func30 rfl (by kernel_rfl) (c2) ?_
        refine kA ?_
        (iterate 2 refine qr4 aN ?_)
        (iterate 2 refine kC ?_)
        refine aB ?_)
     | (refine rG 14 ?_
        (iterate 2 refine kA ?_)
        refine qr4k AList.neB ?_
        (iterate 3 refine kA ?_)
        refine aH rfl rfl rfl rfl Try.func18 rfl (by kernel_rfl) (c3) ?_
        refine qr3 AList.notB ?_
        refine qr4 aR ?_
        (iterate 4 refine kA ?_)
        refine aH rfl rfl rfl rfl Try.func27 rfl (by kernel_rfl) (c4) ?_
        refine kA ?_
        refine AList.bin rfl rfl rfl rfl rfl (strNe_run) rfl ?_
        refine qr4 aS ?_
        refine qr4 aR ?_
        (iterate 2 refine kA ?_)
        refine qr3 AList.notB ?_
        refine kA ?_
        (iterate 3 refine qr2 aG ?_)
        (iterate 2 refine qr4 aR ?_)
        refine aB ?_)
     | (refine rG 16 ?_
        refine qr4w2 aL ?_
        refine kA ?_
        refine aB ?_))
    refine ⟨i + 1, hi5, Wk.mk [] rfl rfl rfl ?_ trivial, by omega⟩
    exact allT
  | false =>
    rw [hb] at c1 c2 po
    rw [if_neg (by decide)] at po
    subst po
    repeat (first
     | refine uA ?_
     | refine uB ?_
     | refine uC ?_
     | refine uG ?_
     | refine uD ?_
     | refine kT ?_
     | refine kU ?_
     | (refine rG 10 ?_
        refine qr5t aK ?_
        refine aB ?_)
     | (refine rG 11 ?_
        refine qr8eo2 (aP (k := i) tyOk) ?_
        refine AList.load1lE tyOk (eu) rfl rfl rfl rfl rfl oM ?_
        refine kC ?_
        refine aB ?_)
     | (refine rG 12 ?_
        refine kA ?_
        refine aH rfl rfl rfl rfl Try.func28 rfl (by kernel_rfl) (c1) ?_
        refine kA ?_
        (iterate 2 refine qr4 aN ?_)
        (iterate 2 refine kC ?_)
        refine aB ?_)
     | (refine rG 13 ?_
        refine kA ?_
        refine aH rfl rfl rfl rfl Try.func30 rfl (by kernel_rfl) (c2) ?_
        refine kA ?_
        (iterate 2 refine qr4 aN ?_)
        (iterate 2 refine kC ?_)
        refine aB ?_)
     | (refine rG 14 ?_
        (iterate 2 refine kA ?_)
        refine qr4k AList.neB ?_
        (iterate 3 refine kA ?_)
        refine aH rfl rfl rfl rfl Try.func18 rfl (by kernel_rfl) (c3) ?_
        refine qr3 AList.notB ?_
        refine qr4 aR ?_
        (iterate 3 refine kA ?_)
        (iterate 4 refine qr2 aG ?_)
        (iterate 2 refine qr4 aR ?_)
        (iterate 2 refine kA ?_)
        refine qr3 AList.notB ?_
        (iterate 2 refine kA ?_)
        refine qr5 (aO tyOk) ?_
        refine qr5 aW ?_
        refine qr4 aS ?_
        refine qr4 aR ?_
        refine aB ?_)
     | (refine rG 16 ?_
        refine qr4w2 aL ?_
        refine kA ?_
        refine aB ?_))
    refine ⟨i + 1, hi5, Wk.mk [] rfl rfl rfl ?_ trivial, by omega⟩
    exact allT
 have hi' : ¬ (i : Int) < 5 := by omega
 repeat (first
  | refine uA ?_
  | refine uB ?_
  | refine uH ?_
  | refine AWp.ret ?_
  | refine kU ?_
  | (refine rG 10 ?_
     refine qr5f aJ ?_
     refine aB ?_)
  | (refine rG 17 ?_
     refine kA ?_
     refine kC ?_
     refine aB ?_))
 refine ⟨mkSt 116 [(6, .c (bC true))] [] [], [], Wk.mk [] rfl rfl rfl ?_ trivial, rfl, rfl, aR1⟩
 exact allT
end Go.Proofs.Ytekkldgmjdllbaa
end
