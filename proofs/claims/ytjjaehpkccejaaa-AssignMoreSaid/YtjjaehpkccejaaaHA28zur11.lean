/- AssignMore: the statement. No condition. -/
import Derived.Test.YtjjaehpkccejaaaHA28zur09
import Derived.Test.YtjjaehpkccejaaaHA28zur10
import Derived.Test.YtjjaehpkccejaaaHA28zur08
import Derived.Test.YtjjaehpkccejaaaG35
import Derived.Test.YtjjaehpkccejaaaG17
import Derived.Test.YtjjaehpkccejaaaHA28zur01
import Derived.Test.YtjjaehpkccejaaaG08
import Derived.Test.YtjjaehpkccejaaaHA28zur07
import Derived.Test.YtjjaehpkccejaaaG36
import Derived.Test.YtjjaehpkccejaaaG34
import Derived.Test.YtjjaehpkccejaaaG07
import Derived.Shelf.Abstract
import Derived.Test.YtjjaehpkccejaaaG32
import Derived.Test.YtjjaehpkccejaaaHA28zur06
import Derived.Test.YtjjaehpkccejaaaG33
import Derived.Test.YtjjaehpkccejaaaG31
import Derived.Laws.Cover3
import Derived.Test.YtjjaehpkccejaaaG27
import Derived.Test.YtjjaehpkccejaaaG19
import Derived.Test.YtjjaehpkccejaaaHA28zur03
import Derived.Test.YtjjaehpkccejaaaG20
import Derived.Test.YtjjaehpkccejaaaG29
import Derived.Test.YtjjaehpkccejaaaG15
import Derived.Test.YtjjaehpkccejaaaG25
import Derived.RangeFuncNested
import Derived.Test.YtjjaehpkccejaaaG26
import Derived.Laws.Pointers
import Derived.Test.YtjjaehpkccejaaaG06
import Derived.Test.YtjjaehpkccejaaaG30
import Derived.Test.YtjjaehpkccejaaaG10
import Derived.Laws.StructEq
import Derived.Test.YtjjaehpkccejaaaG21
import Derived.Test.YtjjaehpkccejaaaG22
import Derived.Test.YtjjaehpkccejaaaHA28zur04
import Derived.WideKeyMaps
import Derived.MapKept
import Derived.Carry
import Derived.Test.YtjjaehpkccejaaaG05
import Derived.Test.YtjjaehpkccejaaaG28
import Derived.Test.YtjjaehpkccejaaaG09
import Derived.Test.YtjjaehpkccejaaaG14
import Derived.Test.YtjjaehpkccejaaaG18
import Derived.Test.YtjjaehpkccejaaaProg
import Derived.Test.YtjjaehpkccejaaaG01
import Derived.Test.YtjjaehpkccejaaaG13
import Derived.Test.YtjjaehpkccejaaaHA28zur02
import Derived.Test.YtjjaehpkccejaaaG04
import Derived.Great.BuildSlice
import Derived.Test.YtjjaehpkccejaaaG03
import Derived.Scope
import Derived.Lib.Hide
import Derived.Deep.QuietTactic
import Derived.BigQuiet
import Derived.Deep.DrawnRows
import Derived.Deep.AppendLies
import Derived.WalkKit
import Derived.DeepKeys4
import Derived.Test.YtjjaehpkccejaaaG02
import Derived.RangeFuncLeaves
import Derived.RangeFuncRecord
import Derived.Maps.AppendAt
import Derived.OwnWalk
import Derived.Test.YtjjaehpkccejaaaG24
import Derived.StillTail
import Derived.Below
import Derived.Deep.Draws
import Derived.KernelRfl
import Derived.Test.YtjjaehpkccejaaaG16
import Derived.OrdersIn
import Derived.TacticsIn
import Derived.RangeFuncCalls
import Derived.Test.YtjjaehpkccejaaaG12
import Derived.Test.YtjjaehpkccejaaaG11
import Derived.Test.YtjjaehpkccejaaaRows
import Derived.Test.YtjjaehpkccejaaaG23
import Derived.Test.YtjjaehpkccejaaaHA28zur05
import Derived.ProofKit
import Derived.OpenShut
import Derived.Deep.DeepHandedRow
import Derived.SizedLaws
import Derived.ChangeSlices
import Derived.ChangeSame
set_option linter.unusedSimpArgs false
set_option linter.unusedVariables false
section
namespace Go.Proofs.Ytjjaehpkccejaaa
open Go.RowKit Go.Flow Go.AV Go.Plain
abbrev pB5 (l : List CV) : AB := ⟨false, 1, 5, 32, lF l⟩
/-- The list of choices that is written to, frozen. -/
theorem mzC_fz {h : Nat → Option AB} {ren : List (Nat × Option Nat)} {p : Pb} {m : Nat} {L : List Bp} {b : Bp} {F : Nat → Nat → CV} (hm : m < p.C.length) (hL : p.C.getD m [] = L) (hh : h 205 = some ⟨true, L.length + 1, 3, 47, appF (rowF bpC bpZ L) L.length (sF (bpC b) 3)⟩) (hr : renNo ren 205 = true) (hF : F = setF (cpF p.C m 265) m 0 1 [.ow 205]) :
 ∀ i, i < p.C.length → ∀ j, j < 1 → LeC h ren (F i j) (chF (p.C.set m (L ++ [b])) i j) := fun i hi j hj => by
 subst hF
 obtain rfl : j = 0 := Nat.lt_one_iff.mp hj
 show LeC _ _ _ (lsB ((p.C.set m (L ++ [b])).getD i []))
 unfold setF cpF
 by_cases e : i = m
 ·subst e
  rw [Nat.beq_refl, List.getD_eq_getElem?_getD (l := p.C.set i _), List.getElem?_set_self hm]
  exact LeC.fz hh hr List.length_append (row_snoc L b bpC_imm rfl)
 ·rw [show Nat.beq i m = false from Bool.eq_false_iff.2 fun h' => e (Nat.eq_of_beq_eq_true h'), if_neg e, List.getD_eq_getElem?_getD (l := p.C.set m _), List.getElem?_set_ne (Ne.symm e), ← List.getD_eq_getElem?_getD]
  exact LeC.refl _ rfl
set_option maxHeartbeats 8000000 in
set_option maxRecDepth 100000 in
theorem AssignMore_A (ll : List (List Int)) (hll : LlOk ll) (N : Nat) (f : Nat → Int) (hN : N ≤ 4611686018427387904) (q0 q1 q2 q3 : Int) : ACalls Try.prog 8 [.c (lsL ll), .c (.ls N 1 (iF f)), .ag [iC q0, iC q1, iC q2, iC q3]] (.c (bC true)) := by
 have hM := Made28_A ll hll
 obtain ⟨sm, hl3⟩ := made_sm ll
 have hBg := made_O ll
 have hSan := sanity28_A
 generalize made28 ll = p at *
 have hok := sm.ok
 have hchk := sm.chk
 have hO : p.O.length = p.C.length := sm.O
 have hT : p.T.length = p.F.length := sm.T
 have lC := sm.C
 have lF0 := sm.F
 have lR0 := sm.R
 have hCh := choice_A p hok N f hN
 generalize chK p N f = D at *
 obtain ⟨m, hm⟩ : ∃ m : Nat, (q0 % (p.C.length : Int)).toNat = m := ⟨_, rfl⟩
 have hH0 := Holds28_A p hok p.C.length D (by omega)
 have hx1 := Holds28_A (mz1 p q0) (mz1_ok sm q0) p.C.length D (by omega)
 have hx2 := Holds28_A (mz2 p q1 q2) (mz2_ok sm q1 q2) p.C.length D (by omega)
 have a1 := Int.emod_nonneg q1 (show (3 : Int) ≠ 0 by omega)
 have a2 := Int.emod_nonneg q2 (show (3 : Int) ≠ 0 by omega)
 have a3 := Int.emod_nonneg q3 (show (3 : Int) ≠ 0 by omega)
 have b1 := Int.emod_lt_of_pos q1 (show (0 : Int) < 3 by omega)
 have b2 := Int.emod_lt_of_pos q2 (show (0 : Int) < 3 by omega)
 have b3 := Int.emod_lt_of_pos q3 (show (0 : Int) < 3 by omega)
 have hx3 := Holds28_A (mz3 p (q1 % 3) (q2 % 3) (q3 % 3)) (mz3_ok hok _ _ _) p.C.length D (by omega)
 have l1 : holdsV (mz1 p q0) p.C.length D = true → holdsV p p.C.length D = true := fun h => holds_less mz1_less h (Nat.le_refl _) hchk rfl
 have l2 : holdsV (mz2 p q1 q2) p.C.length D = true → holdsV p p.C.length D = true := fun h => holds_less (mz2_less hT) h (Nat.le_refl _) hchk rfl
 have l3 : holdsV (mz3 p (q1 % 3) (q2 % 3) (q3 % 3)) p.C.length D = true → holdsV p p.C.length D = true := fun h => holds_less (mz3_less hO a1 a2 a3) h (Nat.le_refl _) hchk rfl
 have l4 : ∀ n, n ≤ p.C.length → holdsV p p.C.length D = true → holdsV (mz4 p n) n D = true := fun n hn h => holds_less mz4_less h hn (mz4_sm sm n).chk (by show n = (p.C.take n).length; rw [List.length_take]; omega)
 have l0 : p.C.length = 0 → holdsV p p.C.length D = true := fun h => holdsV_iff.2 ⟨⟨hchk, rfl⟩, fun k hk => by omega⟩
 have hMa := Mod_A q1 3 (by omega) (by omega)
 have hMb := Mod_A q2 3 (by omega) (by omega)
 have hMc := Mod_A q3 3 (by omega) (by omega)
 generalize q1 % 3 = ra at *
 generalize q2 % 3 = rb at *
 generalize q3 % 3 = rc at *
 generalize holdsV (mz1 p q0) p.C.length D = v1 at *
 generalize holdsV (mz2 p q1 q2) p.C.length D = v2 at *
 generalize holdsV (mz3 p ra rb rc) p.C.length D = v3 at *
 generalize holdsV p p.C.length D = h0 at *
 have cH := Copy_H p hok
 have cG := Copy_G p hok m
 refine acalls_at Try.func8 rfl rfl Try.ntmps8 rfl ?_
 repeat (first
  | refine AWp.seq ?_
  | (refine rG 0 ?_
     refine qr5 aQ ?_
     refine kC ?_
     refine aB ?_)
  | (refine rG 1 ?_
     refine aH rfl rfl rfl rfl Try.func9 rfl (by kernel_rfl) (hSan) ?_
     refine kC ?_
     refine aB ?_)
  | (refine rG 2 ?_
     refine kA ?_
     refine aH rfl rfl rfl rfl Try.func10 rfl (by kernel_rfl) (hM) ?_
     refine qr5 (aM tyOk) ?_
     refine kI ?_
     refine aB ?_)
  | (refine rG 3 ?_
     refine kF ?_
     refine kA ?_
     refine aH rfl rfl rfl rfl Try.func16 rfl (by kernel_rfl) (hCh) ?_
     refine kC ?_
     refine aB ?_)
  | (refine rG 4 ?_
     refine kF ?_
     refine kA ?_
     refine aH rfl rfl rfl rfl Try.func14 rfl (by kernel_rfl) (hH0) ?_
     refine kC ?_
     refine aB ?_))
 repeat (first
  | refine AWp.seq ?_
  | (refine AWp.draw (id := 5) mixed ?_; refine kF ?_; refine AList.callG [] [230, 231, 232, 233] [] [] (chNw p) [] (chNw p) rfl rfl FnV.func rfl Try.func27 rfl (by kernel_rfl) (trivial) rfl (chBackA rfl rfl rfl rfl) (trivial) (chBackB) (cH) ?_; refine kF ?_; refine AList.callG [] [240, 241, 242, 243] [] [] (chNw p) [] (chNw p) rfl rfl FnV.func rfl Try.func27 rfl (by kernel_rfl) (trivial) rfl (chBackA rfl rfl rfl rfl) (trivial) (chBackB) (cH) ?_; refine kF ?_; refine AList.callG [] [250, 251, 252, 253] [] [] (chNw p) [] (chNw p) rfl rfl FnV.func rfl Try.func27 rfl (by kernel_rfl) (trivial) rfl (chBackA rfl rfl rfl rfl) (trivial) (chBackB) (cH) ?_; refine kF ?_; refine AList.callG [] [270, 271, 272, 273] [] [] (chNw p) [] (chNw p) rfl rfl FnV.func rfl Try.func27 rfl (by kernel_rfl) (trivial) rfl (chBackA rfl rfl rfl rfl) (trivial) (chBackB) (cH) ?_; refine kF ?_; refine AList.callG [] [260, 261, 262, 263, 264, 265] [] [] (cpNw p m) [] (cpNx p m 265) rfl rfl FnV.func rfl Try.func27 rfl (by kernel_rfl) (trivial) rfl (cpBackA rfl rfl rfl rfl rfl) (trivial) (cpBackB rfl) (cG) ?_; (iterate 5 refine qr5 (aM tyOk) ?_); (iterate 5 refine kI ?_); refine aB ⟨by kernel_rfl, ?_⟩))
 refine AWp.weak (S' := mkSt 221 [
  (5, .c (.pt 5 4 0 0)), (7, .c (bC true)), (8, .c (.pt 8 5 0 0)), (9, .c (.ls p.C.length 1 (iF D))), (10, .c (bC h0)) , (11, .c (.pt 11 5 0 0)), (12, .c (.pt 12 5 0 0)), (13, .c (.pt 13 5 0 0)), (14, .c (.pt 14 5 0 0)), (15, .c (.pt 15 5 0 0))
  ] [
  (5, ⟨false, 1, 4, 71, lF [iC q0, iC q1, iC q2, iC q3]⟩), (8, pB5 (pbC p)) , (11, pB5 [.ow 230, lsC p.C, lsB p.F, lsG p.O, lsG p.T]), (12, pB5 [lsR p.R, lsC p.C, .ow 241, lsG p.O, .ow 243]), (13, pB5 [lsR p.R, lsC p.C, lsB p.F, .ow 252, lsG p.T]), (14, pB5 (pbC p)), (15, pB5 [lsR p.R, .ow 261, lsB p.F, lsG p.O, lsG p.T]), (230, rdB p.R), (241, bpB p.F), (243, bgB p.T), (252, bgB p.O), (261, chM p.C m 265 p.C.length), (265, bpB (cpL p.C m p.C.length))
  ] [5, 8, 11, 12, 13, 14, 15, 230, 241, 243, 252, 261, 265]) (Wk.mk [(5, some 5), (8, some 8), (11, some 11), (12, some 12), (13, some 13), (14, some 14), (15, some 15), (230, some 230), (241, some 241), (243, some 243), (252, some 252), (261, some 261), (265, some 265)] rfl rfl rfl ?_ ?_) ?_
 ·exact allT
 ·exact ⟨hSm, hSm, HeapOk.box rfl rfl ⟨LeC.ow _ _ rfl, LeC.refl _ rfl, fzB rfl rfl, fzG rfl rfl, fzG rfl rfl, trivial⟩ rfl, HeapOk.box rfl rfl ⟨fzR rfl rfl, LeC.refl _ rfl, LeC.ow _ _ rfl, fzG rfl rfl, LeC.ow _ _ rfl, trivial⟩ rfl, HeapOk.box rfl rfl ⟨fzR rfl rfl, LeC.refl _ rfl, fzB rfl rfl, LeC.ow _ _ rfl, fzG rfl rfl, trivial⟩ rfl, HeapOk.box rfl rfl ⟨fzR rfl rfl, LeC.refl _ rfl, fzB rfl rfl, fzG rfl rfl, fzG rfl rfl, trivial⟩ rfl, HeapOk.box rfl rfl ⟨fzR rfl rfl, LeC.ow _ _ rfl, fzB rfl rfl, fzG rfl rfl, fzG rfl rfl, trivial⟩ rfl,
  hrF rdC_imm
  ,
  hrF bpC_imm
  ,
  hrF bgC_imm28
  ,
  hrF bgC_imm28
  , .inr ⟨261, p.C.length, _, .inl rfl, rfl, rfl, cpKeep rfl⟩,
  hrF bpC_imm
  , trivial⟩
 clear cH cG
 repeat (first
  | refine thenA_n ?_
  | (refine rG 6 ?_
     refine kD ?_
     refine kE ?_
     refine qr5 (aO tyOk) ?_
     refine qr5 aW ?_
     refine aB ?_))
 refine AWp.cut (mkSt 221 [
  (5, .c (.pt 5 4 0 0)), (7, .c (bC true)), (8, .c (.pt 8 5 0 0)), (9, .c (.ls p.C.length 1 (iF D))), (10, .c (bC h0)) , (11, .c (.pt 11 5 0 0)), (12, .c (.pt 12 5 0 0)), (13, .c (.pt 13 5 0 0)), (14, .c (.pt 14 5 0 0)), (15, .c (.pt 15 5 0 0))
  ] [
  (5, ⟨false, 1, 4, 71, lF [iC q0, iC q1, iC q2, iC q3]⟩), (8, pB5 (pbC p)) , (11, pB5 (pbC (mz1 p q0))), (12, pB5 [lsR p.R, lsC p.C, .ow 241, lsG p.O, .ow 243]), (13, pB5 [lsR p.R, lsC p.C, lsB p.F, .ow 252, lsG p.T]), (14, pB5 (pbC p)), (15, pB5 [lsR p.R, .ow 261, lsB p.F, lsG p.O, lsG p.T]), (241, bpB p.F), (243, bgB p.T), (252, bgB p.O), (261, chM p.C m 265 p.C.length), (265, bpB (cpL p.C m p.C.length))
  ] [5, 8, 11, 12, 13, 14, 15, 241, 243, 252, 261, 265]) ?_ (fun S1 hw1 => AWp.weak hw1 ?_)
 ·have hM9 := Mod_A q0 9 (by omega) (by omega)
  have u1 := Int.emod_nonneg q0 (show (9 : Int) ≠ 0 by omega)
  have u2 := Int.emod_lt_of_pos q0 (show (0 : Int) < 9 by omega)
  unfold mz1 mzR
  generalize q0 % 9 = u at *
  by_cases h : 0 < p.R.length
  ·have h' : (p.R.length : Int) > 0 := by omega
   rw [if_pos h]
   repeat (first
    | refine AWp.condT rfl cnT ?_
    | (refine AWp.draw (id := 7) mixed ?_; refine kD ?_; refine kE ?_; refine qr7eo (aU (i := 0) tyOk) ?_; refine kE ?_; refine aH rfl rfl rfl rfl Try.func18 rfl (by kernel_rfl) (hM9) ?_; refine qr4w2 aL ?_; refine qr8 (aX tyOk) ?_; refine qr11 (AList.litSl tyOk) ?_; refine AList.appL tyOk rfl rfl rfl rfl rfl rfl rfl rfl rfl rfl oM oM ?_; refine kD ?_; refine kI ?_; refine aB ⟨by kernel_rfl, ?_⟩))
   refine ⟨rfl, Wk.mk [(5, some 5), (8, some 8), (11, some 11), (12, some 12), (13, some 13), (14, some 14), (15, some 15), (241, some 241), (243, some 243), (252, some 252), (261, some 261), (265, some 265)] rfl rfl rfl ?_ ?_⟩
   ·exact allT
   ·exact ⟨hSm, hSm, HeapOk.box rfl rfl ⟨LeC.fz rfl rfl List.length_append (row_snoc (c := rdC) (z := rdZ) p.R ⟨1, 1 + u⟩ rdC_imm rfl), LeC.refl _ rfl, LeC.refl _ rfl, LeC.refl _ rfl, LeC.refl _ rfl, trivial⟩ rfl, HeapOk.box rfl rfl ⟨LeC.refl _ rfl, LeC.refl _ rfl, LeC.ow _ _ rfl, LeC.refl _ rfl, LeC.ow _ _ rfl, trivial⟩ rfl, HeapOk.box rfl rfl ⟨LeC.refl _ rfl, LeC.refl _ rfl, LeC.refl _ rfl, LeC.ow _ _ rfl, LeC.refl _ rfl, trivial⟩ rfl, hSm, HeapOk.box rfl rfl ⟨LeC.refl _ rfl, LeC.ow _ _ rfl, LeC.refl _ rfl, LeC.refl _ rfl, LeC.refl _ rfl, trivial⟩ rfl,
    hrF bpC_imm
    ,
    hrF bgC_imm28
    ,
    hrF bgC_imm28
    , .inr ⟨261, p.C.length, _, .inl rfl, rfl, rfl, cpKeep rfl⟩,
    hrF bpC_imm
    , trivial⟩
  ·have h' : ¬ (p.R.length : Int) > 0 := by omega
   rw [if_neg h]
   repeat (first
    | refine AWp.skip ?_
    | refine AWp.condF rfl cnF ?_)
   refine ⟨rfl, Wk.mk [(5, some 5), (8, some 8), (11, some 11), (12, some 12), (13, some 13), (14, some 14), (15, some 15), (241, some 241), (243, some 243), (252, some 252), (261, some 261), (265, some 265)] rfl rfl rfl ?_ ?_⟩
   ·exact allT
   ·exact ⟨hSm, hSm, HeapOk.box rfl rfl ⟨fzR rfl rfl, LeC.refl _ rfl, LeC.refl _ rfl, LeC.refl _ rfl, LeC.refl _ rfl, trivial⟩ rfl, HeapOk.box rfl rfl ⟨LeC.refl _ rfl, LeC.refl _ rfl, LeC.ow _ _ rfl, LeC.refl _ rfl, LeC.ow _ _ rfl, trivial⟩ rfl, HeapOk.box rfl rfl ⟨LeC.refl _ rfl, LeC.refl _ rfl, LeC.refl _ rfl, LeC.ow _ _ rfl, LeC.refl _ rfl, trivial⟩ rfl, hSm, HeapOk.box rfl rfl ⟨LeC.refl _ rfl, LeC.ow _ _ rfl, LeC.refl _ rfl, LeC.refl _ rfl, LeC.refl _ rfl, trivial⟩ rfl,
    hrF bpC_imm
    ,
    hrF bgC_imm28
    ,
    hrF bgC_imm28
    , .inr ⟨261, p.C.length, _, .inl rfl, rfl, rfl, cpKeep rfl⟩,
    hrF bpC_imm
    , trivial⟩
 refine AWp.seq ?_
 repeat (first
  | refine AWp.seq ?_
  | refine thenA_n ?_
  | (refine rG 8 ?_
     refine kD ?_
     refine kE ?_
     refine qr5 (aO tyOk) ?_
     refine qr5 aW ?_
     refine aB ?_))
 refine AWp.cut (mkSt 221 [
  (5, .c (.pt 5 4 0 0)), (7, .c (bC true)), (8, .c (.pt 8 5 0 0)), (9, .c (.ls p.C.length 1 (iF D))), (10, .c (bC h0)) , (11, .c (.pt 11 5 0 0)), (12, .c (.pt 12 5 0 0)), (13, .c (.pt 13 5 0 0)), (14, .c (.pt 14 5 0 0)), (15, .c (.pt 15 5 0 0))
  ] [
  (5, ⟨false, 1, 4, 71, lF [iC q0, iC q1, iC q2, iC q3]⟩), (8, pB5 (pbC p)) , (11, pB5 (pbC (mz1 p q0))), (12, pB5 (pbC (mz2 p q1 q2))), (13, pB5 [lsR p.R, lsC p.C, lsB p.F, .ow 252, lsG p.T]), (14, pB5 (pbC p)), (15, pB5 [lsR p.R, .ow 261, lsB p.F, lsG p.O, lsG p.T]), (252, ⟨true, p.O.length, 4, 42, rowN bgC (gK p.O ra rb rc 0)⟩), (261, chM p.C m 265 p.C.length), (265, bpB (cpL p.C m p.C.length))
  ] [5, 8, 11, 12, 13, 14, 15, 252, 261, 265]) ?_ (fun S1 hw1 => AWp.weak hw1 ?_)
 ·have hM5 := Mod_A q1 5 (by omega) (by omega)
  have hM4 := Mod_A q2 4 (by omega) (by omega)
  have hg0 := gK_0 p.O ra rb rc
  generalize gK p.O ra rb rc 0 = g0 at *
  unfold mz2 mzF mzT
  by_cases h : 0 < p.F.length
  ·have h' : (p.F.length : Int) > 0 := by omega
   rw [if_pos h, if_pos h]
   generalize q1 % 5 = u at *
   generalize q2 % 4 = v at *
   repeat (first
    | refine AWp.seq ?_
    | refine thenA_n ?_
    | refine AWp.condT rfl cnT ?_
    | (refine AWp.draw (id := 9) mixed ?_; refine kD ?_; refine kE ?_; refine kD ?_; refine kE ?_; refine qr8eo2 (aP (k := 0) tyOk) ?_; refine qr5o (aT tyOk) ?_; refine qr11 (AList.litSl tyOk) ?_; refine AList.appL tyOk rfl rfl rfl rfl rfl rfl rfl rfl rfl rfl oM oM ?_; refine kD ?_; refine kI ?_; refine aB ⟨by kernel_rfl, ?_⟩)
    | (refine AWp.draw (id := 10) mixed ?_; refine kD ?_; refine kE ?_; refine qr7eo (aU (i := 1) tyOk) ?_; refine kE ?_; refine aH rfl rfl rfl rfl Try.func18 rfl (by kernel_rfl) (hM5) ?_; refine qr7eo (aU (i := 2) tyOk) ?_; refine kE ?_; refine aH rfl rfl rfl rfl Try.func18 rfl (by kernel_rfl) (hM4) ?_; refine qr8 (aX tyOk) ?_; refine qr11 (AList.litSl tyOk) ?_; refine AList.appL tyOk rfl rfl rfl rfl rfl rfl rfl rfl rfl rfl oM oM ?_; refine kD ?_; refine kI ?_; refine aB ⟨by kernel_rfl, ?_⟩))
   refine ⟨rfl, Wk.mk [(5, some 5), (8, some 8), (11, some 11), (12, some 12), (13, some 13), (14, some 14), (15, some 15), (252, some 252), (261, some 261), (265, some 265)] rfl rfl rfl ?_ ?_⟩
   ·exact allT
   ·exact ⟨hSm, hSm, hSm, HeapOk.box rfl rfl ⟨LeC.refl _ rfl, LeC.refl _ rfl, LeC.fz rfl rfl List.length_append (row_snoc (c := bpC) (z := bpZ) p.F (p.F.getD 0 bpZ) bpC_imm rfl), LeC.refl _ rfl, LeC.fz rfl rfl List.length_append (row_snoc (c := bgC) (z := bgZ) p.T ⟨u, 0, 0, v⟩ bgC_imm28 rfl), trivial⟩ rfl, HeapOk.box rfl rfl ⟨LeC.refl _ rfl, LeC.refl _ rfl, LeC.refl _ rfl, LeC.ow _ _ rfl, LeC.refl _ rfl, trivial⟩ rfl, hSm, HeapOk.box rfl rfl ⟨LeC.refl _ rfl, LeC.ow _ _ rfl, LeC.refl _ rfl, LeC.refl _ rfl, LeC.refl _ rfl, trivial⟩ rfl, HeapOk.row rfl rfl rfl (fun i _ j _ => ⟨hg0 i j, rowF_imm bgC_imm28 _ i j⟩), .inr ⟨261, p.C.length, _, .inl rfl, rfl, rfl, cpKeep rfl⟩,
    hrF bpC_imm
    , trivial⟩
  ·have h' : ¬ (p.F.length : Int) > 0 := by omega
   rw [if_neg h, if_neg h]
   repeat (first
    | refine AWp.skip ?_
    | refine AWp.condF rfl cnF ?_)
   refine ⟨rfl, Wk.mk [(5, some 5), (8, some 8), (11, some 11), (12, some 12), (13, some 13), (14, some 14), (15, some 15), (252, some 252), (261, some 261), (265, some 265)] rfl rfl rfl ?_ ?_⟩
   ·exact allT
   ·exact ⟨hSm, hSm, hSm, HeapOk.box rfl rfl ⟨LeC.refl _ rfl, LeC.refl _ rfl, fzB rfl rfl, LeC.refl _ rfl, fzG rfl rfl, trivial⟩ rfl, HeapOk.box rfl rfl ⟨LeC.refl _ rfl, LeC.refl _ rfl, LeC.refl _ rfl, LeC.ow _ _ rfl, LeC.refl _ rfl, trivial⟩ rfl, hSm, HeapOk.box rfl rfl ⟨LeC.refl _ rfl, LeC.ow _ _ rfl, LeC.refl _ rfl, LeC.refl _ rfl, LeC.refl _ rfl, trivial⟩ rfl, HeapOk.row rfl rfl rfl (fun i _ j _ => ⟨hg0 i j, rowF_imm bgC_imm28 _ i j⟩), .inr ⟨261, p.C.length, _, .inl rfl, rfl, rfl, cpKeep rfl⟩,
    hrF bpC_imm
    , trivial⟩
 refine AWp.seq ?_
 repeat (first
  | refine AWp.seq ?_
  | refine thenA_n ?_
  | refine AWp.block ?_
  | (refine rG 11 ?_
     refine kD ?_
     refine kE ?_
     refine qr7 (AList.lenOw tyOk) ?_
     refine kA ?_
     refine aB ?_))
 refine AWp.round (fun k : Nat => mkSt 221 [
  (5, .c (.pt 5 4 0 0)), (7, .c (bC true)), (8, .c (.pt 8 5 0 0)), (9, .c (.ls p.C.length 1 (iF D))), (10, .c (bC h0)) , (11, .c (.pt 11 5 0 0)), (12, .c (.pt 12 5 0 0)), (13, .c (.pt 13 5 0 0)), (14, .c (.pt 14 5 0 0)), (15, .c (.pt 15 5 0 0)), (85, .c (iC p.O.length)), (86, .c (iC (k : Nat)))
  ] [
  (5, ⟨false, 1, 4, 71, lF [iC q0, iC q1, iC q2, iC q3]⟩), (8, pB5 (pbC p)) , (11, pB5 (pbC (mz1 p q0))), (12, pB5 (pbC (mz2 p q1 q2))), (13, pB5 [lsR p.R, lsC p.C, lsB p.F, .ow 252, lsG p.T]), (14, pB5 (pbC p)), (15, pB5 [lsR p.R, .ow 261, lsB p.F, lsG p.O, lsG p.T]), (252, ⟨true, p.O.length, 4, 42, rowN bgC (gK p.O ra rb rc k)⟩), (261, chM p.C m 265 p.C.length), (265, bpB (cpL p.C m p.C.length))
  ] [5, 8, 11, 12, 13, 14, 15, 252, 261, 265]) (fun k => k ≤ p.O.length) (fun k => p.O.length - k) 0 (Nat.zero_le _) ?_ (fun k hk => ?_)
 ·refine Wk.mk [(5, some 5), (8, some 8), (11, some 11), (12, some 12), (13, some 13), (14, some 14), (15, some 15), (252, some 252), (261, some 261), (265, some 265)] rfl rfl rfl ?_ ?_
  ·exact allT
  ·exact ⟨hSm, hSm, hSm, hSm,
   HeapOk.box rfl rfl ⟨LeC.refl _ rfl, LeC.refl _ rfl, LeC.refl _ rfl, LeC.ow _ _ rfl, LeC.refl _ rfl, trivial⟩ rfl
   , hSm,
   HeapOk.box rfl rfl ⟨LeC.refl _ rfl, LeC.ow _ _ rfl, LeC.refl _ rfl, LeC.refl _ rfl, LeC.refl _ rfl, trivial⟩ rfl
   ,
   HeapOk.row rfl rfl rfl (fun i _ j _ => ⟨rfl, rowN_imm bgC_imm28 _ i j⟩)
   , .inr ⟨261, p.C.length, _, .inl rfl, rfl, rfl, cpKeep rfl⟩,
   hrF bpC_imm
   , trivial⟩
 by_cases hkl : k < p.O.length
 ·have hkl' : (k : Int) < p.O.length := by omega
  have hb := hBg k hkl
  have hgk := gK_at p.O ra rb rc k
  have hnx := gK_next p.O ra rb rc k
  generalize p.O.getD k bgZ = x at *
  obtain ⟨gn, hgn⟩ : ∃ gn, gK p.O ra rb rc (k + 1) = gn := ⟨_, rfl⟩
  rw [hgn] at hnx
  generalize gK p.O ra rb rc k = g0 at *
  obtain ⟨⟨c1, c2⟩, ⟨c3, c4⟩, c5, c6⟩ := hb
  have d1 : (g0 k).lo = x.lo := by rw [hgk]
  repeat (first
   | refine AWp.seq ?_
   | refine AWp.block ?_
   | refine AWp.skip ?_
   | refine AWp.condT rfl cnT ?_
   | (refine rG 12 ?_
      refine qr5t aK ?_
      refine aB ?_)
   | (refine rG 13 ?_
      refine kA ?_
      refine kC ?_
      refine aB ?_)
   | (refine AWp.draw (id := 14) mixed ?_; refine kD ?_; refine kE ?_; refine kA ?_; refine qr10eo (AList.idxOw (k := k) tyOk) ?_; refine kD ?_; refine kE ?_; refine qr7eo (aU (i := 1) tyOk) ?_; refine kE ?_; refine aH rfl rfl rfl rfl Try.func18 rfl (by kernel_rfl) (hMa) ?_; refine qr4w2 aL ?_; refine qr10eo (AList.idxOw (k := k) tyOk) ?_; refine kD ?_; refine kI ?_; refine aB ⟨by kernel_rfl, ?_⟩))
  refine AWp.weak (S' := mkSt 221 [
   (5, .c (.pt 5 4 0 0)), (7, .c (bC true)), (8, .c (.pt 8 5 0 0)), (9, .c (.ls p.C.length 1 (iF D))), (10, .c (bC h0)) , (11, .c (.pt 11 5 0 0)), (12, .c (.pt 12 5 0 0)), (13, .c (.pt 13 5 0 0)), (14, .c (.pt 14 5 0 0)), (15, .c (.pt 15 5 0 0)), (16, .c (iC (k : Nat))), (85, .c (iC p.O.length)), (86, .c (iC (k : Nat)))
   ] [
   (5, ⟨false, 1, 4, 71, lF [iC q0, iC q1, iC q2, iC q3]⟩), (8, pB5 (pbC p)) , (11, pB5 (pbC (mz1 p q0))), (12, pB5 (pbC (mz2 p q1 q2))), (13, pB5 [lsR p.R, lsC p.C, lsB p.F, .ow 252, lsG p.T]), (14, pB5 (pbC p)), (15, pB5 [lsR p.R, .ow 261, lsB p.F, lsG p.O, lsG p.T]), (252, ⟨true, p.O.length, 4, 42, rowN bgC (gS g0 k ⟨x.lo + ra, x.bl, x.sh, x.st⟩)⟩), (261, chM p.C m 265 p.C.length), (265, bpB (cpL p.C m p.C.length))
   ] [5, 8, 11, 12, 13, 14, 15, 252, 261, 265]) (Wk.mk [(5, some 5), (8, some 8), (11, some 11), (12, some 12), (13, some 13), (14, some 14), (15, some 15), (252, some 252), (261, some 261), (265, some 265)] rfl rfl rfl ?_ ?_) ?_
  ·exact allT
  ·exact ⟨hSm, hSm, hSm, hSm,
   HeapOk.box rfl rfl ⟨LeC.refl _ rfl, LeC.refl _ rfl, LeC.refl _ rfl, LeC.ow _ _ rfl, LeC.refl _ rfl, trivial⟩ rfl
   , hSm,
   HeapOk.box rfl rfl ⟨LeC.refl _ rfl, LeC.ow _ _ rfl, LeC.refl _ rfl, LeC.refl _ rfl, LeC.refl _ rfl, trivial⟩ rfl
   , HeapOk.row rfl rfl rfl (setc (by show iC (x.lo + ra) = iC ((g0 k).lo + ra); rw [d1]) (fun j hj hne => by rw [hgk]; rcases (show j = 1 ∨ j = 2 ∨ j = 3 by omega) with rfl | rfl | rfl <;> rfl)), .inr ⟨261, p.C.length, _, .inl rfl, rfl, rfl, cpKeep rfl⟩,
   hrF bpC_imm
   , trivial⟩
  have e1 := gS_at g0 k ⟨x.lo + ra, x.bl, x.sh, x.st⟩
  have hnx1 : gS (gS (gS g0 k ⟨x.lo + ra, x.bl, x.sh, x.st⟩) k ⟨x.lo + ra, x.bl + rb, x.sh, x.st⟩) k (bgInc ra rb rc x) = gn := by rw [gS_gS, gS_gS, hnx]
  generalize gS g0 k ⟨x.lo + ra, x.bl, x.sh, x.st⟩ = g1 at *
  have d2 : (g1 k).bl = x.bl := by rw [e1]
  repeat (first
   | refine thenA_n ?_
   | (refine AWp.draw (id := 15) mixed ?_; refine kD ?_; refine kE ?_; refine kA ?_; refine qr10eo (AList.idxOw (k := k) tyOk) ?_; refine kD ?_; refine kE ?_; refine qr7eo (aU (i := 2) tyOk) ?_; refine kE ?_; refine aH rfl rfl rfl rfl Try.func18 rfl (by kernel_rfl) (hMb) ?_; refine qr4w2 aL ?_; refine qr10eo (AList.idxOw (k := k) tyOk) ?_; refine kD ?_; refine kI ?_; refine aB ⟨by kernel_rfl, ?_⟩))
  refine AWp.weak (S' := mkSt 221 [
   (5, .c (.pt 5 4 0 0)), (7, .c (bC true)), (8, .c (.pt 8 5 0 0)), (9, .c (.ls p.C.length 1 (iF D))), (10, .c (bC h0)) , (11, .c (.pt 11 5 0 0)), (12, .c (.pt 12 5 0 0)), (13, .c (.pt 13 5 0 0)), (14, .c (.pt 14 5 0 0)), (15, .c (.pt 15 5 0 0)), (16, .c (iC (k : Nat))), (85, .c (iC p.O.length)), (86, .c (iC (k : Nat)))
   ] [
   (5, ⟨false, 1, 4, 71, lF [iC q0, iC q1, iC q2, iC q3]⟩), (8, pB5 (pbC p)) , (11, pB5 (pbC (mz1 p q0))), (12, pB5 (pbC (mz2 p q1 q2))), (13, pB5 [lsR p.R, lsC p.C, lsB p.F, .ow 252, lsG p.T]), (14, pB5 (pbC p)), (15, pB5 [lsR p.R, .ow 261, lsB p.F, lsG p.O, lsG p.T]), (252, ⟨true, p.O.length, 4, 42, rowN bgC (gS g1 k ⟨x.lo + ra, x.bl + rb, x.sh, x.st⟩)⟩), (261, chM p.C m 265 p.C.length), (265, bpB (cpL p.C m p.C.length))
   ] [5, 8, 11, 12, 13, 14, 15, 252, 261, 265]) (Wk.mk [(5, some 5), (8, some 8), (11, some 11), (12, some 12), (13, some 13), (14, some 14), (15, some 15), (252, some 252), (261, some 261), (265, some 265)] rfl rfl rfl ?_ ?_) ?_
  ·exact allT
  ·exact ⟨hSm, hSm, hSm, hSm,
   HeapOk.box rfl rfl ⟨LeC.refl _ rfl, LeC.refl _ rfl, LeC.refl _ rfl, LeC.ow _ _ rfl, LeC.refl _ rfl, trivial⟩ rfl
   , hSm,
   HeapOk.box rfl rfl ⟨LeC.refl _ rfl, LeC.ow _ _ rfl, LeC.refl _ rfl, LeC.refl _ rfl, LeC.refl _ rfl, trivial⟩ rfl
   , HeapOk.row rfl rfl rfl (setc (by show iC (x.bl + rb) = iC ((g1 k).bl + rb); rw [d2]) (fun j hj hne => by rw [e1]; rcases (show j = 0 ∨ j = 2 ∨ j = 3 by omega) with rfl | rfl | rfl <;> rfl)), .inr ⟨261, p.C.length, _, .inl rfl, rfl, rfl, cpKeep rfl⟩,
   hrF bpC_imm
   , trivial⟩
  have e2 := gS_at g1 k ⟨x.lo + ra, x.bl + rb, x.sh, x.st⟩
  generalize gS g1 k ⟨x.lo + ra, x.bl + rb, x.sh, x.st⟩ = g2 at *
  have d3 : (g2 k).st = x.st := by rw [e2]
  repeat (first
   | refine thenA_n ?_
   | refine inBlk_n ?_
   | (refine AWp.draw (id := 16) mixed ?_; refine kD ?_; refine kE ?_; refine kA ?_; refine qr10eo (AList.idxOw (k := k) tyOk) ?_; refine kD ?_; refine kE ?_; refine qr7eo (aU (i := 3) tyOk) ?_; refine kE ?_; refine aH rfl rfl rfl rfl Try.func18 rfl (by kernel_rfl) (hMc) ?_; refine qr4w2 aL ?_; refine qr10eo (AList.idxOw (k := k) tyOk) ?_; refine kD ?_; refine kI ?_; refine aB ⟨by kernel_rfl, ?_⟩)
   | (refine rG 17 ?_
      refine qr4w2 aL ?_
      refine kA ?_
      refine aB ?_))
  refine ⟨k + 1, hkl, ?_, by omega⟩
  rw [hgn, ← hnx1]
  refine Wk.mk [(5, some 5), (8, some 8), (11, some 11), (12, some 12), (13, some 13), (14, some 14), (15, some 15), (252, some 252), (261, some 261), (265, some 265)] rfl rfl rfl ?_ ?_
  ·exact allT
  ·exact ⟨hSm, hSm, hSm, hSm,
   HeapOk.box rfl rfl ⟨LeC.refl _ rfl, LeC.refl _ rfl, LeC.refl _ rfl, LeC.ow _ _ rfl, LeC.refl _ rfl, trivial⟩ rfl
   , hSm,
   HeapOk.box rfl rfl ⟨LeC.refl _ rfl, LeC.ow _ _ rfl, LeC.refl _ rfl, LeC.refl _ rfl, LeC.refl _ rfl, trivial⟩ rfl
   , HeapOk.row rfl rfl rfl (setc (by show iC (x.st + rc) = iC ((g2 k).st + rc); rw [d3]) (fun j hj hne => by rw [e2]; rcases (show j = 0 ∨ j = 1 ∨ j = 2 by omega) with rfl | rfl | rfl <;> rfl)), .inr ⟨261, p.C.length, _, .inl rfl, rfl, rfl, cpKeep rfl⟩,
   hrF bpC_imm
   , trivial⟩
 have hkl' : ¬ (k : Int) < p.O.length := by omega
 obtain rfl : k = p.O.length := by omega
 have hga := gK_all p.O ra rb rc
 generalize gK p.O ra rb rc p.O.length = gz at *
 repeat (first
  | refine AWp.seq ?_
  | refine AWp.exit ?_
  | refine AWp.condF rfl cnF ?_
  | (refine rG 12 ?_
     refine qr5f aJ ?_
     refine aB ?_))
 refine AWp.weak (S' := mkSt 221 [
  (5, .c (.pt 5 4 0 0)), (7, .c (bC true)), (8, .c (.pt 8 5 0 0)), (9, .c (.ls p.C.length 1 (iF D))), (10, .c (bC h0)) , (11, .c (.pt 11 5 0 0)), (12, .c (.pt 12 5 0 0)), (13, .c (.pt 13 5 0 0)), (14, .c (.pt 14 5 0 0)), (15, .c (.pt 15 5 0 0))
  ] [
  (5, ⟨false, 1, 4, 71, lF [iC q0, iC q1, iC q2, iC q3]⟩), (8, pB5 (pbC p)) , (11, pB5 (pbC (mz1 p q0))), (12, pB5 (pbC (mz2 p q1 q2))), (13, pB5 (pbC (mz3 p ra rb rc))), (14, pB5 (pbC p)), (15, pB5 [lsR p.R, .ow 261, lsB p.F, lsG p.O, lsG p.T]), (261, chM p.C m 265 p.C.length), (265, bpB (cpL p.C m p.C.length))
  ] [5, 8, 11, 12, 13, 14, 15, 261, 265]) (Wk.mk [(5, some 5), (8, some 8), (11, some 11), (12, some 12), (13, some 13), (14, some 14), (15, some 15), (261, some 261), (265, some 265)] rfl rfl rfl ?_ ?_) ?_
 ·exact allT
 ·exact ⟨hSm, hSm, hSm, hSm, HeapOk.box rfl rfl ⟨LeC.refl _ rfl, LeC.refl _ rfl, LeC.refl _ rfl, LeC.fz rfl rfl (List.length_map _) hga, LeC.refl _ rfl, trivial⟩ rfl, hSm,
  HeapOk.box rfl rfl ⟨LeC.refl _ rfl, LeC.ow _ _ rfl, LeC.refl _ rfl, LeC.refl _ rfl, LeC.refl _ rfl, trivial⟩ rfl
  , .inr ⟨261, p.C.length, _, .inl rfl, rfl, rfl, cpKeep rfl⟩,
  hrF bpC_imm
  , trivial⟩
 clear hga hBg
 repeat (first
  | refine thenA_n ?_
  | refine AWp.block ?_
  | (refine rG 18 ?_
     (iterate 3 refine kF ?_)
     refine qr11 (AList.litSl tyOk) ?_
     refine qr5 (aO tyOk) ?_
     refine kA ?_
     refine aB ?_))
 refine AWp.round (fun k : Nat => mkSt 221 [
  (5, .c (.pt 5 4 0 0)), (7, .c (bC true)), (8, .c (.pt 8 5 0 0)), (9, .c (.ls p.C.length 1 (iF D))), (10, .c (bC h0)) , (14, .c (.pt 14 5 0 0)), (15, .c (.pt 15 5 0 0)), (129, .c (.ls 3 5 (sF (pbC (mz1 p q0) ++ pbC (mz2 p q1 q2) ++ pbC (mz3 p ra rb rc)) 5))), (130, .c (iC 3)), (131, .c (iC (k : Nat)))
  ] [
  (5, ⟨false, 1, 4, 71, lF [iC q0, iC q1, iC q2, iC q3]⟩), (8, pB5 (pbC p)) , (14, pB5 (pbC p)), (15, pB5 [lsR p.R, .ow 261, lsB p.F, lsG p.O, lsG p.T]), (261, chM p.C m 265 p.C.length), (265, bpB (cpL p.C m p.C.length))
  ] [5, 8, 14, 15, 261, 265]) (fun k => k ≤ 3) (fun k => 3 - k) 0 (Nat.zero_le _) ?_ (fun k hk => ?_)
 ·refine Wk.mk [(5, some 5), (8, some 8), (14, some 14), (15, some 15), (261, some 261), (265, some 265)] rfl rfl rfl ?_ ?_
  ·exact allT
  ·exact ⟨hSm, hSm, hSm,
   HeapOk.box rfl rfl ⟨LeC.refl _ rfl, LeC.ow _ _ rfl, LeC.refl _ rfl, LeC.refl _ rfl, LeC.refl _ rfl, trivial⟩ rfl
   , .inr ⟨261, p.C.length, _, .inl rfl, rfl, rfl, cpKeep rfl⟩,
   hrF bpC_imm
   , trivial⟩
 have hk3 : k = 0 ∨ k = 1 ∨ k = 2 ∨ k = 3 := by omega
 rcases hk3 with rfl | rfl | rfl | rfl
 ·cases v1 with
  | true =>
    obtain rfl : h0 = true := l1 rfl
    repeat (first
     | refine AWp.seq ?_
     | refine thenA_n ?_
     | refine AWp.block ?_
     | refine AWp.skip ?_
     | refine inBlk_n ?_
     | refine AWp.condT rfl cnT ?_
     | refine AWp.condF rfl cnF ?_
     | (refine rG 19 ?_
        refine qr5t aK ?_
        refine aB ?_)
     | (refine rG 20 ?_
        refine qr8eo2 (aP (k := 0) tyOk) ?_
        refine qr5o (aT tyOk) ?_
        refine qr5 (aM tyOk) ?_
        refine kI ?_
        refine aB ?_)
     | (refine rG 21 ?_
        refine kF ?_
        refine kA ?_
        refine aH rfl rfl rfl rfl Try.func14 rfl (by kernel_rfl) (hx1) ?_
        (iterate 2 refine kA ?_)
        refine qr3 AList.notB ?_
        refine qr4 aS ?_
        refine aB ?_)
     | (refine rG 23 ?_
        refine qr4w2 aL ?_
        refine kA ?_
        refine aB ?_))
    refine ⟨0 + 1, by omega, Wk.mk [(5, some 5), (8, some 8), (14, some 14), (15, some 15), (261, some 261), (265, some 265)] rfl rfl rfl ?_ ?_, by omega⟩
    ·exact allT
    ·exact ⟨hSm, hSm, hSm,
     HeapOk.box rfl rfl ⟨LeC.refl _ rfl, LeC.ow _ _ rfl, LeC.refl _ rfl, LeC.refl _ rfl, LeC.refl _ rfl, trivial⟩ rfl
     , .inr ⟨261, p.C.length, _, .inl rfl, rfl, rfl, cpKeep rfl⟩,
     hrF bpC_imm
     , trivial⟩
  | false =>
    repeat (first
     | refine AWp.seq ?_
     | refine thenA_n ?_
     | refine AWp.block ?_
     | refine AWp.skip ?_
     | refine inBlk_n ?_
     | refine AWp.condT rfl cnT ?_
     | refine AWp.condF rfl cnF ?_
     | (refine rG 19 ?_
        refine qr5t aK ?_
        refine aB ?_)
     | (refine rG 20 ?_
        refine qr8eo2 (aP (k := 0) tyOk) ?_
        refine qr5o (aT tyOk) ?_
        refine qr5 (aM tyOk) ?_
        refine kI ?_
        refine aB ?_)
     | (refine rG 21 ?_
        refine kF ?_
        refine kA ?_
        refine aH rfl rfl rfl rfl Try.func14 rfl (by kernel_rfl) (hx1) ?_
        refine kA ?_
        (iterate 2 refine qr2 aG ?_)
        refine qr4 aR ?_
        refine aB ?_)
     | (refine rG 23 ?_
        refine qr4w2 aL ?_
        refine kA ?_
        refine aB ?_))
    refine ⟨0 + 1, by omega, Wk.mk [(5, some 5), (8, some 8), (14, some 14), (15, some 15), (261, some 261), (265, some 265)] rfl rfl rfl ?_ ?_, by omega⟩
    ·exact allT
    ·exact ⟨hSm, hSm, hSm,
     HeapOk.box rfl rfl ⟨LeC.refl _ rfl, LeC.ow _ _ rfl, LeC.refl _ rfl, LeC.refl _ rfl, LeC.refl _ rfl, trivial⟩ rfl
     , .inr ⟨261, p.C.length, _, .inl rfl, rfl, rfl, cpKeep rfl⟩,
     hrF bpC_imm
     , trivial⟩
 ·cases v2 with
  | true =>
    obtain rfl : h0 = true := l2 rfl
    repeat (first
     | refine AWp.seq ?_
     | refine thenA_n ?_
     | refine AWp.block ?_
     | refine AWp.skip ?_
     | refine inBlk_n ?_
     | refine AWp.condT rfl cnT ?_
     | refine AWp.condF rfl cnF ?_
     | (refine rG 19 ?_
        refine qr5t aK ?_
        refine aB ?_)
     | (refine rG 20 ?_
        refine qr8eo2 (aP (k := 1) tyOk) ?_
        refine qr5o (aT tyOk) ?_
        refine qr5 (aM tyOk) ?_
        refine kI ?_
        refine aB ?_)
     | (refine rG 21 ?_
        refine kF ?_
        refine kA ?_
        refine aH rfl rfl rfl rfl Try.func14 rfl (by kernel_rfl) (hx2) ?_
        (iterate 2 refine kA ?_)
        refine qr3 AList.notB ?_
        refine qr4 aS ?_
        refine aB ?_)
     | (refine rG 23 ?_
        refine qr4w2 aL ?_
        refine kA ?_
        refine aB ?_))
    refine ⟨1 + 1, by omega, Wk.mk [(5, some 5), (8, some 8), (14, some 14), (15, some 15), (261, some 261), (265, some 265)] rfl rfl rfl ?_ ?_, by omega⟩
    ·exact allT
    ·exact ⟨hSm, hSm, hSm,
     HeapOk.box rfl rfl ⟨LeC.refl _ rfl, LeC.ow _ _ rfl, LeC.refl _ rfl, LeC.refl _ rfl, LeC.refl _ rfl, trivial⟩ rfl
     , .inr ⟨261, p.C.length, _, .inl rfl, rfl, rfl, cpKeep rfl⟩,
     hrF bpC_imm
     , trivial⟩
  | false =>
    repeat (first
     | refine AWp.seq ?_
     | refine thenA_n ?_
     | refine AWp.block ?_
     | refine AWp.skip ?_
     | refine inBlk_n ?_
     | refine AWp.condT rfl cnT ?_
     | refine AWp.condF rfl cnF ?_
     | (refine rG 19 ?_
        refine qr5t aK ?_
        refine aB ?_)
     | (refine rG 20 ?_
        refine qr8eo2 (aP (k := 1) tyOk) ?_
        refine qr5o (aT tyOk) ?_
        refine qr5 (aM tyOk) ?_
        refine kI ?_
        refine aB ?_)
     | (refine rG 21 ?_
        refine kF ?_
        refine kA ?_
        refine aH rfl rfl rfl rfl Try.func14 rfl (by kernel_rfl) (hx2) ?_
        refine kA ?_
        (iterate 2 refine qr2 aG ?_)
        refine qr4 aR ?_
        refine aB ?_)
     | (refine rG 23 ?_
        refine qr4w2 aL ?_
        refine kA ?_
        refine aB ?_))
    refine ⟨1 + 1, by omega, Wk.mk [(5, some 5), (8, some 8), (14, some 14), (15, some 15), (261, some 261), (265, some 265)] rfl rfl rfl ?_ ?_, by omega⟩
    ·exact allT
    ·exact ⟨hSm, hSm, hSm,
     HeapOk.box rfl rfl ⟨LeC.refl _ rfl, LeC.ow _ _ rfl, LeC.refl _ rfl, LeC.refl _ rfl, LeC.refl _ rfl, trivial⟩ rfl
     , .inr ⟨261, p.C.length, _, .inl rfl, rfl, rfl, cpKeep rfl⟩,
     hrF bpC_imm
     , trivial⟩
 ·cases v3 with
  | true =>
    obtain rfl : h0 = true := l3 rfl
    repeat (first
     | refine AWp.seq ?_
     | refine thenA_n ?_
     | refine AWp.block ?_
     | refine AWp.skip ?_
     | refine inBlk_n ?_
     | refine AWp.condT rfl cnT ?_
     | refine AWp.condF rfl cnF ?_
     | (refine rG 19 ?_
        refine qr5t aK ?_
        refine aB ?_)
     | (refine rG 20 ?_
        refine qr8eo2 (aP (k := 2) tyOk) ?_
        refine qr5o (aT tyOk) ?_
        refine qr5 (aM tyOk) ?_
        refine kI ?_
        refine aB ?_)
     | (refine rG 21 ?_
        refine kF ?_
        refine kA ?_
        refine aH rfl rfl rfl rfl Try.func14 rfl (by kernel_rfl) (hx3) ?_
        (iterate 2 refine kA ?_)
        refine qr3 AList.notB ?_
        refine qr4 aS ?_
        refine aB ?_)
     | (refine rG 23 ?_
        refine qr4w2 aL ?_
        refine kA ?_
        refine aB ?_))
    refine ⟨2 + 1, by omega, Wk.mk [(5, some 5), (8, some 8), (14, some 14), (15, some 15), (261, some 261), (265, some 265)] rfl rfl rfl ?_ ?_, by omega⟩
    ·exact allT
    ·exact ⟨hSm, hSm, hSm,
     HeapOk.box rfl rfl ⟨LeC.refl _ rfl, LeC.ow _ _ rfl, LeC.refl _ rfl, LeC.refl _ rfl, LeC.refl _ rfl, trivial⟩ rfl
     , .inr ⟨261, p.C.length, _, .inl rfl, rfl, rfl, cpKeep rfl⟩,
     hrF bpC_imm
     , trivial⟩
  | false =>
    repeat (first
     | refine AWp.seq ?_
     | refine thenA_n ?_
     | refine AWp.block ?_
     | refine AWp.skip ?_
     | refine inBlk_n ?_
     | refine AWp.condT rfl cnT ?_
     | refine AWp.condF rfl cnF ?_
     | (refine rG 19 ?_
        refine qr5t aK ?_
        refine aB ?_)
     | (refine rG 20 ?_
        refine qr8eo2 (aP (k := 2) tyOk) ?_
        refine qr5o (aT tyOk) ?_
        refine qr5 (aM tyOk) ?_
        refine kI ?_
        refine aB ?_)
     | (refine rG 21 ?_
        refine kF ?_
        refine kA ?_
        refine aH rfl rfl rfl rfl Try.func14 rfl (by kernel_rfl) (hx3) ?_
        refine kA ?_
        (iterate 2 refine qr2 aG ?_)
        refine qr4 aR ?_
        refine aB ?_)
     | (refine rG 23 ?_
        refine qr4w2 aL ?_
        refine kA ?_
        refine aB ?_))
    refine ⟨2 + 1, by omega, Wk.mk [(5, some 5), (8, some 8), (14, some 14), (15, some 15), (261, some 261), (265, some 265)] rfl rfl rfl ?_ ?_, by omega⟩
    ·exact allT
    ·exact ⟨hSm, hSm, hSm,
     HeapOk.box rfl rfl ⟨LeC.refl _ rfl, LeC.ow _ _ rfl, LeC.refl _ rfl, LeC.refl _ rfl, LeC.refl _ rfl, trivial⟩ rfl
     , .inr ⟨261, p.C.length, _, .inl rfl, rfl, rfl, cpKeep rfl⟩,
     hrF bpC_imm
     , trivial⟩
 clear hx1 hx2 hx3 l1 l2 l3
 by_cases hC0 : p.C.length = 0
 ·have hC0' : (p.C.length : Int) = 0 := by omega
  obtain rfl : h0 = true := l0 hC0
  repeat (first
   | refine AWp.seq ?_
   | refine thenA_n ?_
   | refine AWp.exit ?_
   | refine AWp.ret ?_
   | refine thenA_r ?_
   | refine AWp.condT rfl cnT ?_
   | refine AWp.condF rfl cnF ?_
   | (refine rG 19 ?_
      refine qr5f aJ ?_
      refine aB ?_)
   | (refine rG 24 ?_
      refine kD ?_
      refine kE ?_
      refine qr5 (aO tyOk) ?_
      refine qr5t aK ?_
      refine aB ?_)
   | (refine rG 25 ?_
      (iterate 3 refine kA ?_)
      refine qr4 aS ?_
      refine kC ?_
      refine aB ?_))
  refine ⟨mkSt 221 [(6, .c (bC true))] [] [], [], Wk.mk [] rfl rfl rfl ?_ trivial, rfl, rfl, ARets.one (x := .c _) (ARes.tmp rfl rfl)⟩
  exact allT
 have hC0' : ¬ (p.C.length : Int) = 0 := by omega
 obtain ⟨n, hn⟩ : ∃ n, p.C.length = n + 1 := ⟨p.C.length - 1, by omega⟩
 have hmq0 := Int.emod_nonneg q0 (show (p.C.length : Int) ≠ 0 by omega)
 have hmq1 := Int.emod_lt_of_pos q0 (show (0 : Int) < p.C.length by omega)
 have hmC : m < p.C.length := by omega
 have hmq : q0 % ((n : Int) + 1) = (m : Int) := by rw [show ((n : Int) + 1) = (p.C.length : Int) by omega]; omega
 have hMm := Mod_A q0 ((n : Int) + 1) (by omega) (by omega)
 rw [hmq] at hMm
 have hH4 := Holds28_A (mz4 p n) (mz4_sm sm n).ok n (fun i => D (0 + i)) (by omega)
 have hD0 : (fun i => D (0 + i)) = D := funext fun i => by rw [Nat.zero_add]
 have l4' : h0 = true → holdsV (mz4 p n) n (fun i => D (0 + i)) = true := fun h => by rw [hD0]; exact l4 n (by omega) h
 have hcl : (p.C.take n).length = n := by rw [List.length_take]; omega
 have hol : (p.O.take n).length = n := by rw [List.length_take]; omega
 have hS1 := Solve28_A p hok
 have hS2 := Solve28_A (mz5 p m) (mz5_sm sm hl3 hmC).ok
 have hSl := solve_less sm (mz5_sm sm hl3 hmC) (mzC_len p m) (fun f => mz5_less hmC)
 generalize solveV p = o1 at *
 generalize solveV (mz5 p m) = o2 at *
 obtain ⟨s1, z1⟩ := o1
 obtain ⟨s2, z2⟩ := o2
 dsimp only at hS1 hS2 hSl
 clear l4 l0 hH0
 repeat (first
  | refine AWp.seq ?_
  | refine thenA_n ?_
  | refine AWp.skip ?_
  | refine AWp.exit ?_
  | refine AWp.condF rfl cnF ?_
  | (refine rG 19 ?_
     refine qr5f aJ ?_
     refine aB ?_)
  | (refine rG 24 ?_
     refine kD ?_
     refine kE ?_
     refine qr5 (aO tyOk) ?_
     refine qr5f aJ ?_
     refine aB ?_)
  | (refine rG 26 ?_
     refine kD ?_
     refine kE ?_
     refine qr5 (aO tyOk) ?_
     refine qr4w2 AList.sub ?_
     refine kC ?_
     refine aB ?_))
 refine AWp.weak (S' := mkSt 221 [
  (5, .c (.pt 5 4 0 0)), (7, .c (bC true)), (8, .c (.pt 8 5 0 0)), (9, .c (.ls p.C.length 1 (iF D))), (10, .c (bC h0)) , (14, .c (.pt 14 5 0 0)), (15, .c (.pt 15 5 0 0)), (19, .c (iC n))
  ] [
  (5, ⟨false, 1, 4, 71, lF [iC q0, iC q1, iC q2, iC q3]⟩), (8, pB5 (pbC p)) , (14, pB5 (pbC p)), (15, pB5 [lsR p.R, .ow 261, lsB p.F, lsG p.O, lsG p.T]), (261, chM p.C m 265 p.C.length), (265, bpB (cpL p.C m p.C.length))
  ] [5, 8, 14, 15, 261, 265]) (Wk.mk [(5, some 5), (8, some 8), (14, some 14), (15, some 15), (261, some 261), (265, some 265)] rfl rfl rfl ?_ ?_) ?_
 ·exact allT
 ·exact ⟨hSm, hSm, hSm,
  HeapOk.box rfl rfl ⟨LeC.refl _ rfl, LeC.ow _ _ rfl, LeC.refl _ rfl, LeC.refl _ rfl, LeC.refl _ rfl, trivial⟩ rfl
  , .inr ⟨261, p.C.length, _, .inl rfl, rfl, rfl, cpKeep rfl⟩,
  hrF bpC_imm
  , trivial⟩
 repeat (first
  | refine AWp.seq ?_
  | (refine rG 27 ?_
     refine kD ?_
     refine kE ?_
     refine kA ?_
     refine AList.cut (l := 0) (h := n) tyOk rfl rfl rfl rfl rfl rfl rfl rfl ⟨_, _, rfl, by first | rfl | omega⟩ (by omega) (by omega) ?_
     refine kD ?_
     refine kI ?_
     refine aB ?_)
  | (refine rG 28 ?_
     refine kD ?_
     refine kE ?_
     refine kA ?_
     refine AList.cut (l := 0) (h := n) tyOk rfl rfl rfl rfl rfl rfl rfl rfl ⟨_, _, rfl, by first | rfl | omega⟩ (by omega) (by omega) ?_
     refine kD ?_
     refine kI ?_
     refine aB ?_))
 refine AWp.weak (S' := mkSt 221 [
  (5, .c (.pt 5 4 0 0)), (7, .c (bC true)), (8, .c (.pt 8 5 0 0)), (9, .c (.ls p.C.length 1 (iF D))), (10, .c (bC h0)) , (14, .c (.pt 14 5 0 0)), (15, .c (.pt 15 5 0 0)), (19, .c (iC n))
  ] [
  (5, ⟨false, 1, 4, 71, lF [iC q0, iC q1, iC q2, iC q3]⟩), (8, pB5 (pbC p)) , (14, pB5 (pbC (mz4 p n))), (15, pB5 [lsR p.R, .ow 261, lsB p.F, lsG p.O, lsG p.T]), (261, chM p.C m 265 p.C.length), (265, bpB (cpL p.C m p.C.length))
  ] [5, 8, 14, 15, 261, 265]) (Wk.mk [(5, some 5), (8, some 8), (14, some 14), (15, some 15), (261, some 261), (265, some 265)] rfl rfl rfl ?_ ?_) ?_
 ·exact allT
 ·exact ⟨hSm, hSm, HeapOk.box rfl rfl ⟨LeC.refl _ rfl, LeC.lz hcl (fun k hk j hj => by
   show lsB (p.C.getD (0 + k) []) = lsB ((p.C.take n).getD k [])
   rw [Nat.zero_add, getD_take28 (show k < n from hk)]), LeC.refl _ rfl, LeC.lz hol (fun k hk j hj => by rw [Nat.zero_add]; exact row_take (sz := 4) p.O _ k hk j hj), LeC.refl _ rfl, trivial⟩ rfl,
  HeapOk.box rfl rfl ⟨LeC.refl _ rfl, LeC.ow _ _ rfl, LeC.refl _ rfl, LeC.refl _ rfl, LeC.refl _ rfl, trivial⟩ rfl
  , .inr ⟨261, p.C.length, _, .inl rfl, rfl, rfl, cpKeep rfl⟩,
  hrF bpC_imm
  , trivial⟩
 have hcK : cpL p.C m p.C.length = p.C.getD m [] := by unfold cpL; rw [if_pos hmC]
 have hcKl : (cpL p.C m p.C.length).length ≤ 4 := by rw [hcK]; exact (sm.Cc _ (getD_mem28 hmC)).1
 obtain ⟨L, hL⟩ : ∃ L, p.C.getD 0 [] = L := ⟨_, rfl⟩
 have hcF : chF p.C 0 0 = lsB L := by rw [← hL]
 have hcm : cpF p.C m 265 m 0 = .ow 265 := if_pos rfl
 have hgo : h0 = false ∨ (h0 = true ∧ holdsV (mz4 p n) n (fun i => D (0 + i)) = true) := by
  cases h0
  ·exact .inl rfl
  ·exact .inr ⟨rfl, l4' rfl⟩
 clear l4'
 generalize holdsV (mz4 p n) n (fun i => D (0 + i)) = v4 at *
 rcases hgo with rfl | ⟨rfl, rfl⟩
 all_goals
  repeat (first
   | refine AWp.seq ?_
   | refine thenA_n ?_
   | refine AWp.skip ?_
   | refine AWp.condF rfl cnF ?_
   | (refine AWp.draw (id := 29) mixed ?_; (iterate 2 refine kA ?_); (first | refine qr2 aG ?_ | refine kF ?_); (first | refine qr2 aG ?_ | refine kA ?_); (first | refine qr2 aG ?_ | refine kA ?_); (first | refine qr2 aG ?_ | refine AList.cut (l := 0) (h := n) tyOk rfl rfl rfl rfl rfl rfl rfl rfl ⟨_, _, rfl, by first | rfl | omega⟩ (by omega) (by omega) ?_); (first | refine qr2 aG ?_ | refine aH rfl rfl rfl rfl Try.func14 rfl (by kernel_rfl) (hH4) ?_); (first | refine qr2 aG ?_ | refine qr3 AList.notB ?_); (first | refine qr4 aS ?_ | refine qr4 aR ?_); refine aB ⟨by kernel_rfl, ?_⟩)
   | (refine rG 31 ?_
      refine kF ?_
      refine aH rfl rfl rfl rfl Try.func21 rfl (by kernel_rfl) (hS1) ?_
      refine kA ?_
      (iterate 2 refine qr4 aN ?_)
      (iterate 2 refine kC ?_)
      refine aB ?_)
   | (refine rG 32 ?_
      refine qr7eo (aU (i := 0) tyOk) ?_
      refine kE ?_
      refine kA ?_
      refine qr4w2 aL ?_
      refine aH rfl rfl rfl rfl Try.func18 rfl (by kernel_rfl) (hMm) ?_
      refine kC ?_
      refine aB ?_)
   | (refine rG 33 ?_
      refine kD ?_
      refine kE ?_
      refine qr8eo2 (aP (k := 0) tyOk) ?_
      refine AList.load1lE tyOk (hcF) rfl rfl rfl rfl rfl oM ?_
      refine qr5 (aO tyOk) ?_
      refine qr5 aW ?_
      refine aB ?_))
  refine AWp.cut (mkSt 221 [(7, .c (bC true)), (15, .c (.pt 15 5 0 0)), (21, .c (iC z1))] [(15, pB5 (pbC (mz5 p m)))] [15]) ?_ (fun S1 hw1 => AWp.weak hw1 ?_)
  ·unfold mz5 mzC
   rw [hL]
   by_cases h : 0 < L.length
   ·have h' : (L.length : Int) > 0 := by omega
    rw [if_pos h]
    repeat (first
     | refine AWp.condT rfl cnT ?_
     | (refine AWp.draw (id := 34) mixed ?_; refine kD ?_; refine kE ?_; refine kA ?_; refine kD ?_; refine kE ?_; refine kA ?_; refine qr10eo (AList.idxOw (k := m) tyOk) ?_; refine AList.load1F tyOk rfl rfl rfl rfl rfl rfl rfl oM oM (hcm) ?_; refine kD ?_; refine kE ?_; refine qr8eo2 (aP (k := 0) tyOk) ?_; refine AList.load1lE tyOk (hcF) rfl rfl rfl rfl rfl oM ?_; refine qr8eo2 (aP (k := 0) tyOk) ?_; refine qr5o (aT tyOk) ?_; refine qr11 (AList.litSl tyOk) ?_; refine AList.appL tyOk rfl rfl rfl rfl rfl rfl rfl rfl rfl rfl oM oM ?_; refine qr10eo (AList.idxOw (k := m) tyOk) ?_; refine kI ?_; refine aB ⟨by kernel_rfl, ?_⟩))
    refine ⟨rfl, Wk.trans (B := mkSt 221 [(7, .c (bC true)), (15, .c (.pt 15 5 0 0)), (21, .c (iC z1))] [(15, pB5 [lsR p.R, .ow 261, lsB p.F, lsG p.O, lsG p.T]), (261, chB (p.C.set m (p.C.getD m [] ++ [L.getD 0 bpZ])))] [15, 261]) (Wk.mk [(15, some 15), (261, some 261)] rfl rfl rfl ?_ ?_) (Wk.mk [(15, some 15)] rfl rfl rfl ?_ ?_)⟩
    ·exact allT
    ·exact ⟨
     HeapOk.box rfl rfl ⟨LeC.refl _ rfl, LeC.ow _ _ rfl, LeC.refl _ rfl, LeC.refl _ rfl, LeC.refl _ rfl, trivial⟩ rfl
     , .inr ⟨261, p.C.length, _, .inl rfl, List.length_set, rfl, mzC_fz hmC rfl (by rw [← hcK]; rfl) rfl rfl⟩, trivial⟩
    ·exact allT
    ·exact ⟨HeapOk.box rfl rfl ⟨LeC.refl _ rfl, fzC rfl rfl, LeC.refl _ rfl, LeC.refl _ rfl, LeC.refl _ rfl, trivial⟩ rfl, trivial⟩
   ·have h' : ¬ (L.length : Int) > 0 := by omega
    rw [if_neg h]
    repeat (first
     | refine AWp.skip ?_
     | refine AWp.condF rfl cnF ?_)
    refine ⟨rfl, Wk.trans (B := mkSt 221 [(7, .c (bC true)), (15, .c (.pt 15 5 0 0)), (21, .c (iC z1))] [(15, pB5 [lsR p.R, .ow 261, lsB p.F, lsG p.O, lsG p.T]), (261, chB p.C)] [15, 261]) (Wk.mk [(15, some 15), (261, some 261)] rfl rfl rfl ?_ ?_) (Wk.mk [(15, some 15)] rfl rfl rfl ?_ ?_)⟩
    ·exact allT
    ·exact ⟨
     HeapOk.box rfl rfl ⟨LeC.refl _ rfl, LeC.ow _ _ rfl, LeC.refl _ rfl, LeC.refl _ rfl, LeC.refl _ rfl, trivial⟩ rfl
     , .inr ⟨261, p.C.length, _, .inl rfl, rfl, rfl, cpFz rfl rfl⟩, trivial⟩
    ·exact allT
    ·exact ⟨HeapOk.box rfl rfl ⟨LeC.refl _ rfl, fzC rfl rfl, LeC.refl _ rfl, LeC.refl _ rfl, LeC.refl _ rfl, trivial⟩ rfl, trivial⟩
  refine AWp.seq ?_
  by_cases hz : z1 = 0
  ·have hz2 : z2 = 0 := hSl hz
   repeat (first
    | refine AWp.seq ?_
    | refine thenA_n ?_
    | refine AWp.ret ?_
    | (refine rG 35 ?_
       refine kF ?_
       refine aH rfl rfl rfl rfl Try.func21 rfl (by kernel_rfl) (hS2) ?_
       refine kA ?_
       (iterate 2 refine qr4 aN ?_)
       (iterate 2 refine kC ?_)
       refine aB ?_)
    | (refine rG 36 ?_
       (iterate 3 refine kA ?_)
       refine qr5f aJ ?_
       (iterate 2 refine kA ?_)
       refine qr5t aK ?_
       refine qr4 aR ?_
       refine qr4 aS ?_
       refine kC ?_
       refine aB ?_))
   refine ⟨mkSt 221 [(6, .c (bC true))] [] [], [], Wk.mk [] rfl rfl rfl ?_ trivial, rfl, rfl, ARets.one (x := .c _) (ARes.tmp rfl rfl)⟩
   exact allT
  ·repeat (first
    | refine AWp.seq ?_
    | refine thenA_n ?_
    | refine AWp.ret ?_
    | (refine rG 35 ?_
       refine kF ?_
       refine aH rfl rfl rfl rfl Try.func21 rfl (by kernel_rfl) (hS2) ?_
       refine kA ?_
       (iterate 2 refine qr4 aN ?_)
       (iterate 2 refine kC ?_)
       refine aB ?_)
    | (refine rG 36 ?_
       (iterate 3 refine kA ?_)
       refine qr5t aK ?_
       refine kA ?_
       (iterate 2 refine qr2 aG ?_)
       (iterate 2 refine qr4 aS ?_)
       refine kC ?_
       refine aB ?_))
   refine ⟨mkSt 221 [(6, .c (bC true))] [] [], [], Wk.mk [] rfl rfl rfl ?_ trivial, rfl, rfl, ARets.one (x := .c _) (ARes.tmp rfl rfl)⟩
   exact allT
end Go.Proofs.Ytjjaehpkccejaaa
end

section
namespace Go.Proofs.Ytjjaehpkccejaaa.assignMore
open Go.ChangeShapes Go.WideShapes Go.ChangeAt Go.RowKit Go.Flow Go.AV
set_option maxRecDepth 100000 in
theorem contract (H : Type) (enc : TypeId × Value → H) (W : World) (base : Nat) (args : Array Value) (ds gs : List (DataW H)) (before : List MemPlace)
 (hval : ∀ (j : Nat) t v, Try.f8.params[j]? = some t → args[j]? = some v → Value.okWide Try.prog W .any base t v)
 (hW : DataW.Whole enc Try.prog Try.f8.params.toList Rows.assignMoreSpec.vars false W args.toList ds gs before)
 (hsz : (DataW.weightsEach Try.prog (Try.f8.params.toList ++ (OpenSpec.ofChange Rows.assignMoreSpec).bare.plain.varTypes Try.prog) (ds ++ gs)).all (· ≤ reachBytes) = true) :
 Calls Try.prog 8 args W fun e W' => ∃ v, e = .returned v ∧ Rows.assignMoreSpec.post enc Try.prog Try.f8 false true false false W args v W' := by
 have hW' := hW
 obtain ⟨p, q, hA0, hV, rfl, hfz, hnd⟩ := hW
 have hA : DataW.TrodAll enc Try.prog W 0 (fun _ => true) true Try.f8.params.toList args.toList ds p := hA0
 have hAk := hA0
 rw [Try.params8] at hA hval hsz
 obtain ⟨rfl, rfl⟩ := trodVars_none hV
 obtain ⟨v0, vs0, d0, ds0, p0, q0, hargs, rfl, rfl, h0, t0⟩ := trodAll_cons hA
 obtain ⟨v1, vs1, d1, ds1, p1, q1, rfl, rfl, rfl, h1, t1⟩ := trodAll_cons t0
 obtain ⟨v2, vs2, d2, ds2, p2, q2, rfl, rfl, rfl, h2, t2⟩ := trodAll_cons t1
 obtain ⟨rfl, rfl, rfl⟩ := trodAll_nil t2
 obtain rfl : args = #[v0, v1, v2] := by rw [← Array.toList_inj]; exact hargs
 have hlt := fun x hx => hW'.lt x hx
 simp only [List.append_nil] at hW'
 rw [List.append_nil] at hsz
 obtain ⟨a0, ok0, r0⟩ := opn_ll.argC (cells_slice Try.underlying22 (hval 0 22 v0 rfl rfl)) h0 (weigh hsz 0 (t := 22) (d := d0) rfl rfl)
 obtain ⟨a1, ok1, r1⟩ := opn_ints.argC (cells_slice Try.underlying25 (hval 1 25 v1 rfl rfl)) h1 (weigh hsz 1 (t := 25) (d := d1) rfl rfl)
 obtain ⟨a2, ok2, r2⟩ := opn_q4.argA Try.underlying71 (hval 2 71 v2 rfl rfl) h2 (weigh hsz 2 (t := 71) (d := d2) rfl rfl)
 refine ((ECalls.of (AssignMore_A a0 ok0 a1.length (fun k => a1.getD k 0) ok1.1 a2.1 a2.2.1 a2.2.2.1 a2.2.2.2)) O0 W [_, _, _] (fun b h => h.elim) ⟨r0, r1, r2, trivial⟩).mono fun e W' ⟨v, r, he, hr, hv, hE⟩ => ?_
 subst hr
 obtain rfl : v = .bool true := hv.2
 subst he
 exact ⟨_, rfl, post_below (pv := []) hW' (fun _ _ _ => trodAll_cons_mk (shut_bool Try.underlying4 _) trodAll_mk0)
  (fun sp hsp => trodAll_below laidOut hE (by rw [Try.params8]; intro t ht; simp only [List.mem_cons, List.not_mem_nil, or_false] at ht; rcases ht with rfl | rfl | rfl <;> exact ⟨by kernel_rfl, of_decide_eq_true (by kernel_rfl)⟩) hAk (fun x hx => hlt x (by rw [List.append_nil]; exact hx)) sp (fun x hx => hsp x (by simpa only [List.append_nil] using hx)))
  (fun _ _ => rfl) (by simp) hE (ok_one (by kernel_rfl) rfl (okWide_bool_mk Try.underlying4 _))⟩
theorem own : ownKnob Try.prog.godebug = none := by kernel_rfl
set_option maxRecDepth 100000 in
theorem lifted (os : Os) (started : os.Started) (H : Type) (enc : TypeId × Value → H) :
 ReturnsInHanded {} Try.checked os 8 .any (Rows.assignMoreSpec.pre6 enc Try.prog Try.f8 Rows.assignMoreRow.domain false) (Rows.assignMoreSpec.post enc Try.prog Try.f8 false true false false) := by
 refine returnsInHanded_of_change_sized (C := Try.checked) own started (by kernel_rfl) Try.func8
  (ChangeSpec.witness6 (enc := enc) (C := Try.checked) false ⟨#[], #[.slice none 0 0, .slice none 0 0, .agg #[.int .i64 0, .int .i64 0, .int .i64 0, .int .i64 0]], []⟩ 8 (by kernel_rfl) (by kernel_rfl) (by kernel_rfl) (by kernel_rfl)) ?_
 intro W base args ds gs before hval hW _ hsz _
 exact contract H enc W base args ds gs before hval hW hsz
theorem said : Rows.AssignMoreSaid :=
 OpenClaim.holds_of_wide 8 Try.f8 rfl rfl rfl rfl rfl rfl rfl ⟨rfl, rfl, rfl, rfl, rfl⟩ rfl rfl rfl rfl rfl (by kernel_rfl) Try.func8 (by kernel_rfl)
  (of_decide_eq_true (by kernel_rfl)) (by unfold Func.isWrapper; first | (rw [if_pos (by decide +kernel)]; kernel_rfl) | (rw [if_neg (by decide +kernel)]; exact ⟨rfl, rfl⟩))
  (fun os started H enc _ => lifted os started H enc)
end Go.Proofs.Ytjjaehpkccejaaa.assignMore
end
